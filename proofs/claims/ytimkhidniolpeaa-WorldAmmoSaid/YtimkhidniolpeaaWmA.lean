/- WorldAmmo: the law's loops and call. -/
import Derived.Test.YtimkhidniolpeaaWrA
import Derived.Test.YtimkhidniolpeaaWmO
import Derived.Test.YtimkhidniolpeaaVmNq
namespace Go.Proofs.Ytimkhidniolpeaa
set_option linter.unusedSimpArgs false
set_option linter.unusedVariables false
set_option maxRecDepth 100000
set_option maxHeartbeats 0
open Go.RowKit

theorem RowAt.cut {ρ : Rho} {id : Nat} {ro : Bool} {k : Knd} {xs : List k.T} {w : World} (n : Nat) (h : RowAt ρ id (.vec ro k xs) w) : RowAt ρ id (.vec ro k (xs.take n)) w := by
 rcases h with ⟨h1, h2⟩ | ⟨p, hp, hro, hown, hc⟩
 · exact .inl ⟨h1, by subst h2; simp⟩
 · refine .inr ⟨p, hp, hro, fun hr => ?_, fun i x hx => hc i x ?_⟩
   · obtain ⟨a, b, vs, ty, h1, h2, h3⟩ := hown hr
     exact ⟨a, b, vs, ty, h1, Nat.le_trans (Nat.mul_le_mul_right _ (by rw [List.length_take]; omega)) h2, h3⟩
   · rw [List.getElem?_take] at hx
     split at hx
     · exact hx
     · cases hx
def oSameT (args : List SV) (rows : List Row) : Option Eff := match args with
 | [.slice ia 11 0 la none, .slice ib 11 0 lb none] => match rows[ia]?, rows[ib]? with
  | some (.vec _ .sh xs), some (.vec _ .sh ys) => some { ok := (decide (la ≤ xs.length) && decide (lb = ys.length)) && (decide (la ≤ 1000) && (sameS (xs.take la) ys && !Nat.beq ia ib)), val := .bool true, rd := [ia, ib] }
  | _, _ => none
 | _ => none
theorem same_cut {ia ib la n : Nat} {ra rb ok : Bool} {xs ys : List Sh} {rows : List Row} (hxr : rows[ia]? = some (.vec ra .sh xs)) (hyr : rows[ib]? = some (.vec rb .sh ys)) (h1 : la ≤ xs.length) (h3 : la ≤ 1000) (h4 : sameS (xs.take la) ys = true) (hne : ia ≠ ib) :
    FnOk Try.prog 17 [.slice ia 11 0 la none, .slice ib 11 0 ys.length none] (rows[·]?) n { ok := ok, val := .bool true, rd := [ia, ib] } := by
 obtain ⟨zs, hz⟩ : ∃ zs : List Sh, zs = xs.take la := ⟨_, rfl⟩
 have hl : zs.length = la := by rw [hz, List.length_take]; omega
 rw [← hz] at h4
 have hx0 : (rows.set ia (.vec ra .sh zs))[ia]? = some (.vec ra .sh zs) := List.getElem?_set_self (List.getElem?_eq_some_iff.1 hxr).1
 have hy0 : (rows.set ia (.vec ra .sh zs))[ib]? = some (.vec rb .sh ys) := by rw [List.getElem?_set_ne hne]; exact hyr
 have key := same_mainS (n := n) (ok := ok) (xs := zs) hx0 hy0 (by omega) h4
 rw [hl] at key
 intro ρ pres vargs w g1 g2 g3 g4 g5
 refine key ρ pres vargs w g1 g2 g3 (fun id hid row hrow => ?_) g5
 simp only [List.mem_cons, List.not_mem_nil, or_false] at hid
 rcases hid with rfl | rfl
 · have hrow2 : some (Row.vec ra .sh zs) = some row := hx0.symm.trans hrow
   cases hrow2
   obtain ⟨q1, q2⟩ := g4 _ (by simp) _ hxr
   refine ⟨by rw [hz]; exact q1.cut la, fun hlive => q2 ?_⟩
   simp only [Row.live] at hlive ⊢
   cases ra with
   | false => rfl
   | true =>
    cases xs with
    | nil => subst hz; simp at hlive; cases hlive
    | cons x xs => rfl
 · have hrow2 : some (Row.vec rb .sh ys) = some row := hy0.symm.trans hrow
   cases hrow2
   exact g4 _ (by simp) _ hyr
theorem oSameT_ok {args : List SV} {rows : List Row} {n : Nat} {e : Eff} (h : oSameT args rows = some e) (hok : e.ok = true) : FnOk Try.prog 17 args (rows[·]?) n e := by
 unfold oSameT at h
 split at h
 · rename_i ia la ib lb
   split at h
   · rename_i ra xs rb ys hxr hyr
     cases h
     simp only [Bool.and_eq_true, decide_eq_true_eq, Bool.not_eq_true'] at hok
     obtain ⟨⟨h1, h2⟩, h3, h4, h5⟩ := hok
     have e2 : lb = List.length (α := Sh) ys := h2
     subst e2
     exact same_cut (xs := xs) (ys := ys) hxr hyr h1 h3 h4 (Nat.ne_of_beq_eq_false h5)
   · cases h
 · cases h
noncomputable def orcSameT : Orc := ⟨17, oSameT, fun _ _ _ h hok => oSameT_ok h hok, bodied Try.func17 (by kernel_rfl)⟩
noncomputable def oPlayersA (args : List SV) (rows : List Row) : Option Eff := bif Nat.beq rows.length 6 then oPlayersV args rows else oPlayersW args rows
theorem oPlayersA_ok {args : List SV} {rows : List Row} {e : Eff} (h : oPlayersA args rows = some e) (hok : e.ok = true) : FnOkO Try.prog 16 args (rows[·]?) rows.length e := by
 unfold oPlayersA at h
 cases hb : Nat.beq rows.length 6 with
 | true => rw [hb] at h; exact oPlayersV_ok h hok
 | false => rw [hb] at h; exact oPlayersW_ok h hok
noncomputable def orcPlayersA : OrcO := ⟨16, oPlayersA, fun _ _ _ h hok => oPlayersA_ok h hok, bodied Try.func16 (by kernel_rfl)⟩

noncomputable def x16m : Ctx := ctxOfO [11] [orcShown16, orcRight, orcSameP, orcSameT] [orcNewG, orcFireW, orcPlayersA, orcShotsW, orcDoes]
theorem x16m_ok : COk Try.prog x16m := ctxOfO_ok (by kernel_rfl)

def valM (ll : Nat) (i : Int) : List SV := [.slice 2 12 0 ll none, .ptr 3 0 0 0, .ptr 4 0 0 0, .bool false, .bool true, .ptr 5 0 0 0, .int .i64 i]
def rowM (w d h : Int) (len ls : Nat) (xs : List Bool) (sp : List V3) (cs : List WOp) (o : WOp) (s : WS) : List Row := [.vec true .bool xs, .vec true .vec sp, .vec true .wop cs, .own [.int .i64 w, .int .i64 d, .int .i64 h, .slice 0 1 0 len none, .slice 1 3 0 ls none], .own o.sv, .obj s]
noncomputable def rdM : List SV → List Row → Option Res2 := roundS x16m (fun _ _ => none) 100 6 [0, 1, 0, 1, 1, 1, 1, 1] (bodyAt Try.f6 [0, 1, 0, 1, 1, 1, 1, 1]) 201 6 [1, 3, 5, 6, 7, 8, 10]
theorem wm_round (w d h : Int) (len ls ll : Nat) (xs : List Bool) (sp : List V3) (cs : List WOp) (o : WOp) (s : WS) (i : Int) : rdM (valM ll i) (rowM w d h len ls xs sp cs o s) =
 bif bif decide (i < (ll : Int)) == true then (bif true then decide (i < 40) else false) else false then
 bif decide (0 ≤ i) && decide (i < (ll : Int)) then
 bif decide (0 + i.toNat < cs.length) then
 bif opOk s (opN cs i) then some (.tuple [.nilp, .tuple (valM ll (IntKind.i64.wrap (i + 1)))], rowM w d h len ls xs sp cs o (opS s (opN cs i)).1)
 else none else none else none
 else some (.tuple [.ptr 0 0 0 0, .tuple (valM ll i)], rowM w d h len ls xs sp cs o s) := by kernel_rfl

def valM2 (np nq : Nat) (i : Int) : List SV := [.ptr 4 0 0 0, .bool false, .bool true, .slice 6 15 0 np none, .slice 8 15 0 nq none, .int .i64 i]
def rowM2 (w d h : Int) (len ls : Nat) (xs : List Bool) (sp : List V3) (cs : List WOp) (o : WOp) (s : WS) (ps qs : List Pl) (ss ts : List Sh) : List Row := [.vec true .bool xs, .vec true .vec sp, .vec true .wop cs, .own [.int .i64 w, .int .i64 d, .int .i64 h, .slice 0 1 0 len none, .slice 1 3 0 ls none], .own o.sv, .obj s, .vec false .pl ps, .vec true .sh ss, .vec true .pl qs, .vec true .sh ts]
noncomputable def rdM2 : List SV → List Row → Option Res2 := roundQ x16m (fun _ _ => none) 100 6 [0, 1, 0, 1, 1, 1, 1, 1, 1, 1, 1, 1, 1, 1, 1, 1] (bodyAt Try.f6 [0, 1, 0, 1, 1, 1, 1, 1, 1, 1, 1, 1, 1, 1, 1, 1]) 201 10 [5, 6, 7, 11, 15, 17]

def w10 (ps : List Pl) (i : Int) : List Pl := ps.set (0 + i.toNat) { plN ps i with wait := 10 }
def nextM (w d h : Int) (len ls np nq : Nat) (xs : List Bool) (sp : List V3) (cs : List WOp) (o : WOp) (s : WS) (ps qs : List Pl) (ss ts : List Sh) (i : Int) : Option Res2 := some (.tuple [.nilp, .tuple (valM2 np nq (IntKind.i64.wrap (i + 1)))], rowM2 w d h len ls xs sp cs o s ps qs ss ts)
theorem wm_round20 (w d h : Int) (len ls np nq : Nat) (xs : List Bool) (sp : List V3) (cs : List WOp) (o : WOp) (s : WS) (ps qs : List Pl) (ss ts : List Sh) (i : Int) : rdM2 (valM2 np nq i) (rowM2 w d h len ls xs sp cs { o with shot := 0 } s ps qs ss ts) =
 bif decide (i < (np : Int)) then inL np ps.length i (bif (plN ps i).id == o.player then inL nq qs.length i (orR ((plN qs i).wait != 10) retR (inL nq qs.length i (inL np ps.length i (orR ((plN qs i).a0 != IntKind.i64.wrap ((plN ps i).a0 - 1)) retR
  (inL np ps.length i (inL np (w10 ps i).length i (inL np (w10 ps i).length i (nextM w d h len ls np nq xs sp cs { o with shot := 0 } s ((w10 ps i).set (0 + i.toNat) { plN (w10 ps i) i with a0 := IntKind.i64.wrap ((plN (w10 ps i) i).a0 - 1) }) qs ss ts i)))))))) 
  else nextM w d h len ls np nq xs sp cs { o with shot := 0 } s ps qs ss ts i)
 else some (.tuple [.ptr 2 0 0 0, .tuple (valM2 np nq i)], rowM2 w d h len ls xs sp cs { o with shot := 0 } s ps qs ss ts) := by kernel_rfl
theorem wm_round21 (w d h : Int) (len ls np nq : Nat) (xs : List Bool) (sp : List V3) (cs : List WOp) (o : WOp) (s : WS) (ps qs : List Pl) (ss ts : List Sh) (i : Int) : rdM2 (valM2 np nq i) (rowM2 w d h len ls xs sp cs { o with shot := 1 } s ps qs ss ts) =
 bif decide (i < (np : Int)) then inL np ps.length i (bif (plN ps i).id == o.player then inL nq qs.length i (orR ((plN qs i).wait != 10) retR (inL nq qs.length i (inL np ps.length i (orR ((plN qs i).a1 != IntKind.i64.wrap ((plN ps i).a1 - 1)) retR
  (inL np ps.length i (inL np (w10 ps i).length i (inL np (w10 ps i).length i (nextM w d h len ls np nq xs sp cs { o with shot := 1 } s ((w10 ps i).set (0 + i.toNat) { plN (w10 ps i) i with a1 := IntKind.i64.wrap ((plN (w10 ps i) i).a1 - 1) }) qs ss ts i)))))))) 
  else nextM w d h len ls np nq xs sp cs { o with shot := 1 } s ps qs ss ts i)
 else some (.tuple [.ptr 2 0 0 0, .tuple (valM2 np nq i)], rowM2 w d h len ls xs sp cs { o with shot := 1 } s ps qs ss ts) := by kernel_rfl

theorem opsM_loop {w d h : Int} {len ls ll : Nat} {xs : List Bool} {sp : List V3} {cs : List WOp} {o : WOp} (hc : ll ≤ cs.length) : ∀ (k i : Nat) (s : WS), s.Inv i → i + k = min ll 40 →
    LoopTo rdM (valM ll i) (rowM w d h len ls xs sp cs o s) (.exit 0) (valM ll ((min ll 40 : Nat) : Int)) (rowM w d h len ls xs sp cs o (opsS cs k i s))
 | 0, i, s, hs, hi => by
  obtain rfl : i = min ll 40 := by omega
  refine .done ?_ (by simp)
  rw [wm_round, and_form, show (decide ((((min ll 40 : Nat)) : Int) < (ll : Int)) && (bif true then decide ((((min ll 40 : Nat)) : Int) < 40) else false)) = false by simp; omega, cond_false]
  rfl
 | k + 1, i, s, hs, hi => by
  have hro := wm_round w d h len ls ll xs sp cs o s i
  obtain ⟨h1, h2⟩ := hs.op (by omega) (opN cs i)
  have e1 : ((i : Int)).toNat = i := by omega
  rw [e1, and_form, decide_eq_true (show (i : Int) < (ll : Int) by omega), decide_eq_true (show (i : Int) < 40 by omega), decide_eq_true (show (0 : Int) ≤ (i : Int) by omega), decide_eq_true (show 0 + i < cs.length by omega), h1, IntWalk.i64_in ((i : Int) + 1) (by omega)] at hro
  simp only [Bool.and_true, cond_true, cond_false] at hro
  exact .more hro (opsM_loop hc k (i + 1) _ h2 (by omega))

def ammoF (o : WOp) (p : Pl) : Pl := bif p.id == o.player then (bif o.shot == 0 then { p with wait := 10, a0 := IntKind.i64.wrap (p.a0 - 1) } else { p with wait := 10, a1 := IntKind.i64.wrap (p.a1 - 1) }) else p
theorem plN_mid (A B : List Pl) (p : Pl) : plN (A ++ p :: B) (A.length : Int) = p := by
 have key : ∀ d : Pl, (A ++ p :: B).getD (0 + ((A.length : Int)).toNat) d = p := by
  intro d
  rw [show 0 + ((A.length : Int)).toNat = A.length by omega, List.getD_eq_getElem?_getD, List.getElem?_append_right (Nat.le_refl _)]
  simp
 exact key _
theorem set_mid (A B : List Pl) (p q : Pl) : (A ++ p :: B).set (0 + ((A.length : Int)).toNat) q = A ++ q :: B := by
 rw [show 0 + ((A.length : Int)).toNat = A.length by omega, List.set_append_right _ _ (Nat.le_refl _)]
 simp
theorem wm_loop2 {w d h : Int} {len ls : Nat} {xs : List Bool} {sp : List V3} {cs : List WOp} {o : WOp} {s : WS} {ss ts : List Sh} (hk : o.shot = 0 ∨ o.shot = 1) : ∀ (B A : List Pl), (A ++ B).length ≤ 1000 →
    LoopTo rdM2 (valM2 (A ++ B).length (A ++ B).length (A.length : Int)) (rowM2 w d h len ls xs sp cs o s (A.map (ammoF o) ++ B) ((A ++ B).map (ammoF o)) ss ts) (.exit 2) (valM2 (A ++ B).length (A ++ B).length ((A ++ B).length : Int)) (rowM2 w d h len ls xs sp cs o s ((A ++ B).map (ammoF o)) ((A ++ B).map (ammoF o)) ss ts)
 | [], A, hl => by
  rw [List.append_nil]
  refine .done ?_ (by simp)
  rcases hk with hk | hk
  · have ho : o = { o with shot := 0 } := by cases o; simp only at hk; subst hk; rfl
    have hro := wm_round20 w d h len ls A.length A.length xs sp cs o s (A.map (ammoF o) ++ []) (A.map (ammoF o)) ss ts (A.length : Int)
    rw [← ho] at hro
    rw [hro, decide_eq_false (show ¬ (A.length : Int) < (A.length : Int) by omega)]
    simp only [cond_false, List.append_nil]
    rfl
  · have ho : o = { o with shot := 1 } := by cases o; simp only at hk; subst hk; rfl
    have hro := wm_round21 w d h len ls A.length A.length xs sp cs o s (A.map (ammoF o) ++ []) (A.map (ammoF o)) ss ts (A.length : Int)
    rw [← ho] at hro
    rw [hro, decide_eq_false (show ¬ (A.length : Int) < (A.length : Int) by omega)]
    simp only [cond_false, List.append_nil]
    rfl
 | p :: B, A, hl => by
  have ih := wm_loop2 (w := w) (d := d) (h := h) (len := len) (ls := ls) (xs := xs) (sp := sp) (cs := cs) (s := s) (ss := ss) (ts := ts) hk B (A ++ [p]) (by simpa using hl)
  rw [List.append_assoc, List.singleton_append] at ih
  refine .more ?_ ih
  have hlen : A.length < (A ++ p :: B).length := by simp
  have hl2 : (A.map (ammoF o) ++ p :: B).length = (A ++ p :: B).length := by simp
  have hl3 : ((A ++ p :: B).map (ammoF o)).length = (A ++ p :: B).length := by simp
  have eA : (A.map (ammoF o)).length = A.length := by simp
  have p1 : plN (A.map (ammoF o) ++ p :: B) (A.length : Int) = p := by rw [← eA]; exact plN_mid _ _ _
  have p2 : plN ((A ++ p :: B).map (ammoF o)) (A.length : Int) = ammoF o p := by rw [List.map_append, List.map_cons, ← eA]; exact plN_mid _ _ _
  have p3 : w10 (A.map (ammoF o) ++ p :: B) (A.length : Int) = A.map (ammoF o) ++ { p with wait := 10 } :: B := by unfold w10; rw [p1, ← eA]; exact set_mid _ _ _ _
  have hl4 : (w10 (A.map (ammoF o) ++ p :: B) (A.length : Int)).length = (A ++ p :: B).length := by rw [p3]; simp
  have p4 : plN (w10 (A.map (ammoF o) ++ p :: B) (A.length : Int)) (A.length : Int) = { p with wait := 10 } := by rw [p3, ← eA]; exact plN_mid _ _ _
  have p5 : ∀ q, (w10 (A.map (ammoF o) ++ p :: B) (A.length : Int)).set (0 + ((A.length : Int)).toNat) q = A.map (ammoF o) ++ q :: B := fun q => by rw [p3, ← eA]; exact set_mid _ _ _ _
  have i1 : ∀ K, inL (A ++ p :: B).length (A ++ p :: B).length (A.length : Int) K = K := fun K => inL_true hlen hlen
  have hend : ∀ q, ammoF o p = q → nextM w d h len ls (A ++ p :: B).length (A ++ p :: B).length xs sp cs o s (A.map (ammoF o) ++ q :: B) ((A ++ p :: B).map (ammoF o)) ss ts (A.length : Int) = some (.tuple [.nilp, .tuple (valM2 (A ++ p :: B).length (A ++ p :: B).length ((A ++ [p]).length : Int))], rowM2 w d h len ls xs sp cs o s ((A ++ [p]).map (ammoF o) ++ B) ((A ++ p :: B).map (ammoF o)) ss ts) := by
   rintro q rfl
   unfold nextM
   rw [IntWalk.i64_in _ (by omega)]
   simp
  rcases hk with hk | hk
  · have ho : o = { o with shot := 0 } := by cases o; simp only at hk; subst hk; rfl
    have hro := wm_round20 w d h len ls (A ++ p :: B).length (A ++ p :: B).length xs sp cs o s (A.map (ammoF o) ++ p :: B) ((A ++ p :: B).map (ammoF o)) ss ts (A.length : Int)
    rw [← ho] at hro
    rw [hro, decide_eq_true (show (A.length : Int) < ((A ++ p :: B).length : Int) by omega), hl2, hl3, hl4]
    simp only [i1, p1, p2, p4, p5, cond_true]
    cases hb : p.id == o.player with
    | false => exact hend p (by unfold ammoF; rw [hb]; rfl)
    | true =>
     have ha : ammoF o p = { p with wait := 10, a0 := IntKind.i64.wrap (p.a0 - 1) } := by unfold ammoF; rw [hb, hk]; rfl
     rw [ha, orR_no (by simp), orR_no (by simp)]
     exact hend _ ha
  · have ho : o = { o with shot := 1 } := by cases o; simp only at hk; subst hk; rfl
    have hro := wm_round21 w d h len ls (A ++ p :: B).length (A ++ p :: B).length xs sp cs o s (A.map (ammoF o) ++ p :: B) ((A ++ p :: B).map (ammoF o)) ss ts (A.length : Int)
    rw [← ho] at hro
    rw [hro, decide_eq_true (show (A.length : Int) < ((A ++ p :: B).length : Int) by omega), hl2, hl3, hl4]
    simp only [i1, p1, p2, p4, p5, cond_true]
    cases hb : p.id == o.player with
    | false => exact hend p (by unfold ammoF; rw [hb]; rfl)
    | true =>
     have ha : ammoF o p = { p with wait := 10, a1 := IntKind.i64.wrap (p.a1 - 1) } := by unfold ammoF; rw [hb, hk]; rfl
     rw [ha, orR_no (by simp), orR_no (by simp)]
     exact hend _ ha

theorem wm_loop20 {w d h : Int} {len ls : Nat} {xs : List Bool} {sp : List V3} {cs : List WOp} {o : WOp} {s : WS} {ss ts : List Sh} (hk : o.shot = 0 ∨ o.shot = 1) (ps : List Pl) (n : Nat) (hn : n = ps.length) (hl : n ≤ 1000) :
    LoopTo rdM2 (valM2 n n 0) (rowM2 w d h len ls xs sp cs o s ps (ps.map (ammoF o)) ss ts) (.exit 2) (valM2 n n (n : Int)) (rowM2 w d h len ls xs sp cs o s (ps.map (ammoF o)) (ps.map (ammoF o)) ss ts) := by
 subst hn
 exact wm_loop2 hk ps [] hl
def nilG (z : WS) : WS := { z with ps := [] }
def consG (z : WS) : WS := { z with ps := z.ps.headD plD :: z.ps.tail }
def nilB (z : WS) : Bool := z.ps.isEmpty
def consB (z : WS) : Bool := !z.ps.isEmpty
theorem nilG_eq {z : WS} (h : nilB z = true) : nilG z = z := by
 obtain ⟨_, _, _, _, _, _, ps, _, _, _⟩ := z
 cases ps with
 | nil => rfl
 | cons p ps => cases h
theorem consG_eq {z : WS} (h : consB z = true) : consG z = z := by
 obtain ⟨_, _, _, _, _, _, ps, _, _, _⟩ := z
 cases ps with
 | nil => cases h
 | cons p ps => rfl
noncomputable def outM0 (v : List SV) (R : List Row) (k : Ex → List SV → List Row → Option Res2) : Option Res2 := match v, R with
 | [.slice 2 12 0 ll none, .ptr 3 0 0 0, .ptr 4 0 0 0, .bool false, .bool true, .ptr 5 0 0 0, .int .i64 i],
  [.vec true .bool xs, .vec true .vec sp, .vec true .wop cs, .own [.int .i64 w, .int .i64 d, .int .i64 h, .slice 0 1 0 len none, .slice 1 3 0 ls none], .own co, .obj s] => match dWOp co with
   | some o => bif decide (i = 0) && (decide (ll ≤ cs.length) && (invB s && nilB (opsS cs (min ll 40) 0 s))) then
    k (.exit 0) (valM ll ((min ll 40 : Nat) : Int)) (rowM w d h len ls xs sp cs o (nilG (opsS cs (min ll 40) 0 s))) else none
   | none => none
 | _, _ => none
theorem lpoM0_ok : LpOk 6 [0, 1, 0, 1, 1, 1, 1, 1] (loopF 201 [1, 3, 5, 6, 7, 8, 10] outM0) := by
 intro b hat s K r h
 refine loopF_ok (fuel := 100) x16m_ok lok_none hat (fun v R k r hr => ?_) h
 have hbody := at_body Try.func6 hat
 subst hbody
 unfold outM0 at hr
 split at hr
 · split at hr
   · rename_i o ho
     obtain ⟨hb, hr2⟩ := cond_some hr
     simp only [Bool.and_eq_true, decide_eq_true_eq, invB_iff] at hb
     obtain ⟨h1, h2, h3, h4⟩ := hb
     subst h1
     rw [dWOp_sv ho]
     refine ⟨_, _, _, hr2, ?_⟩
     rw [nilG_eq h4]
     exact opsM_loop h2 _ 0 _ h3 (by omega)
   · cases hr
 · cases hr
noncomputable def lpoM0 : Lpo := ⟨_, _, _, lpoM0_ok⟩
noncomputable def outM1 (v : List SV) (R : List Row) (k : Ex → List SV → List Row → Option Res2) : Option Res2 := match v, R with
 | [.slice 2 12 0 ll none, .ptr 3 0 0 0, .ptr 4 0 0 0, .bool false, .bool true, .ptr 5 0 0 0, .int .i64 i],
  [.vec true .bool xs, .vec true .vec sp, .vec true .wop cs, .own [.int .i64 w, .int .i64 d, .int .i64 h, .slice 0 1 0 len none, .slice 1 3 0 ls none], .own co, .obj s] => match dWOp co with
   | some o => bif decide (i = 0) && (decide (ll ≤ cs.length) && (invB s && consB (opsS cs (min ll 40) 0 s))) then
    k (.exit 0) (valM ll ((min ll 40 : Nat) : Int)) (rowM w d h len ls xs sp cs o (consG (opsS cs (min ll 40) 0 s))) else none
   | none => none
 | _, _ => none
theorem lpoM1_ok : LpOk 6 [0, 1, 0, 1, 1, 1, 1, 1] (loopF 201 [1, 3, 5, 6, 7, 8, 10] outM1) := by
 intro b hat s K r h
 refine loopF_ok (fuel := 100) x16m_ok lok_none hat (fun v R k r hr => ?_) h
 have hbody := at_body Try.func6 hat
 subst hbody
 unfold outM1 at hr
 split at hr
 · split at hr
   · rename_i o ho
     obtain ⟨hb, hr2⟩ := cond_some hr
     simp only [Bool.and_eq_true, decide_eq_true_eq, invB_iff] at hb
     obtain ⟨h1, h2, h3, h4⟩ := hb
     subst h1
     rw [dWOp_sv ho]
     refine ⟨_, _, _, hr2, ?_⟩
     rw [consG_eq h4]
     exact opsM_loop h2 _ 0 _ h3 (by omega)
   · cases hr
 · cases hr
noncomputable def lpoM1 : Lpo := ⟨_, _, _, lpoM1_ok⟩
open Classical in
noncomputable def goodMB (o : WOp) (np nq : Nat) (ps qs : List Pl) : Bool := decide ((o.shot = 0 ∨ o.shot = 1) ∧ np = ps.length ∧ nq = np ∧ np ≤ 1000 ∧ qs = ps.map (ammoF o))
open Classical in
theorem goodMB_iff {o : WOp} {np nq : Nat} {ps qs : List Pl} : goodMB o np nq ps qs = true ↔ (o.shot = 0 ∨ o.shot = 1) ∧ np = ps.length ∧ nq = np ∧ np ≤ 1000 ∧ qs = ps.map (ammoF o) := by unfold goodMB; exact decide_eq_true_iff
noncomputable def outM2 (v : List SV) (R : List Row) (k : Ex → List SV → List Row → Option Res2) : Option Res2 := match v, R with
 | [.ptr 4 0 0 0, .bool false, .bool true, .slice 6 15 0 np none, .slice 8 15 0 nq none, .int .i64 i],
  [.vec true .bool xs, .vec true .vec sp, .vec true .wop cs, .own [.int .i64 w, .int .i64 d, .int .i64 h, .slice 0 1 0 len none, .slice 1 3 0 ls none], .own co, .obj s, .vec false .pl ps, .vec true .sh ss, .vec true .pl qs, .vec true .sh ts] => match dWOp co with
   | some o => bif decide (i = 0) && goodMB o np nq ps qs then k (.exit 2) (valM2 np nq (np : Int)) (rowM2 w d h len ls xs sp cs o s qs qs ss ts) else none
   | none => none
 | _, _ => none
theorem lpoM2_ok : LpOk 6 [0, 1, 0, 1, 1, 1, 1, 1, 1, 1, 1, 1, 1, 1, 1, 1] (loopF 201 [5, 6, 7, 11, 15, 17] outM2) := by
 intro b hat s K r h
 refine loopFQ_ok (fuel := 100) x16m_ok lok_none hat (fun v R k r hr => ?_) h
 have hbody := at_body Try.func6 hat
 subst hbody
 unfold outM2 at hr
 split at hr
 · rename_i np nq i xs sp cs w d h len ls co s ps ss qs ts
   split at hr
   · rename_i o ho
     obtain ⟨hb, hr2⟩ := cond_some hr
     rw [Bool.and_eq_true, decide_eq_true_eq] at hb
     obtain ⟨h1, hb⟩ := hb
     obtain ⟨h2, h3, h4, h5, h6⟩ := goodMB_iff.1 hb
     subst h1
     rw [dWOp_sv ho]
     refine ⟨_, _, _, hr2, ?_⟩
     subst h4 h6
     exact wm_loop20 h2 ps _ h3 h5
   · cases hr
 · cases hr
noncomputable def lpoM2 : Lpo := ⟨_, _, _, lpoM2_ok⟩

def mgM (X A : Bool) : Bool := (((true && (true && (X && true))) && true || (A != true)) && (!!true || (A == true))) && true
noncomputable def endM (C : WS) (o : WOp) (Y : WS × Int × Int) (tail : Option Res2) : Option Res2 :=
 let lp : List Pl := C.ps.map PL.p
 let ly : List Pl := Y.1.ps.map PL.p
 let A1 := bif true == true then (bif true then Y.2.1 == 0 else false) else false
 let A2 := bif A1 == true then (bif true then true else false) else false
 let ff : Option Res2 := some (.bool false, [])
 let n : Int := (C.shots.length : Int)
 let sh : Sh := Y.1.shots.getD (0 + n.toNat) Knd.sh.dflt
 let inS : Option Res2 → Option Res2 := fun K => bif decide (0 ≤ n) && decide (n < (Y.1.shots.length : Int)) then (bif decide (0 + n.toNat < Y.1.shots.length) then K else none) else none
 bif decide (C.shots.length ≤ 1000) then bif okFire C o.player o.shot o.dir 0 then bif decide (Y.1.shots.length ≤ 1000) then
 bif Y.2.2 != 0 then (bif mgM ((decide (lp.length = lp.length) && decide (ly.length = ly.length)) && (decide (lp.length ≤ 1000) && sameL lp ly)) A1 then
  bif mgM ((decide (C.shots.length ≤ C.shots.length) && decide (Y.1.shots.length = Y.1.shots.length)) && (decide (C.shots.length ≤ 1000) && (sameS (C.shots.take C.shots.length) Y.1.shots && !Nat.beq 7 9))) A2 then
  some (.bool (bif A2 == true then (bif true then true else false) else false), []) else none else none) else
 bif (Y.1.shots.length : Int) != IntKind.i64.wrap (n + 1) then ff else
 bif decide (0 ≤ n) && decide (n ≤ ((capOr none Y.1.shots.length : Nat) : Int)) then
 bif (decide (n.toNat ≤ Y.1.shots.length) && decide (C.shots.length = C.shots.length)) && (decide (n.toNat ≤ 1000) && (sameS (Y.1.shots.take n.toNat) C.shots && !Nat.beq 9 7)) then
 inS (bif (bif false then true else sh.id != Y.2.1) then ff else inS (bif (bif false then true else sh.owner != o.player) then ff else
  bif (bif false then true else (lp.length : Int) != (ly.length : Int)) then ff else tail)) else none else none else none else none else none
noncomputable def tailM (C : WS) (o : WOp) (Y : WS × Int × Int) : Option Res2 :=
 let lp : List Pl := C.ps.map PL.p
 let ly : List Pl := Y.1.ps.map PL.p
 bif decide ((0 : Int) = 0) && goodMB o lp.length ly.length lp ly then (bif mgM ((decide (lp.length = ly.length) && decide (ly.length = ly.length)) && (decide (lp.length ≤ 1000) && sameL ly ly)) true then
  some (.bool (bif true == true then (bif true then true else false) else false), []) else none) else none
theorem wm_tree1 (w d h : Int) (len ls ll : Nat) (xs : List Bool) (sp : List V3) (cs : List WOp) (o : WOp) : runK x16m (loopOf [lpoM1, lpoM2]) 300 6 Try.f6 0 [mapS w d h (.slice 0 1 0 len none) (.slice 1 3 0 ls none), .slice 2 12 0 ll none, .agg o.sv] [.vec true .bool xs, .vec true .vec sp, .vec true .wop cs] =
 bif sm1 w d h len ls xs sp then bif sm2 w d h len ls xs sp then some (.bool true, []) else
 bif newC w d h len 0 xs ls 0 sp && newV w d h len 0 xs ls 0 sp then
 bif decide ((0 : Int) = 0) && (decide (ll ≤ cs.length) && (invB (newG w d h len 0 xs ls 0 sp) && consB (opsS cs (min ll 40) 0 (newG w d h len 0 xs ls 0 sp)))) then
  endM (consG (opsS cs (min ll 40) 0 (newG w d h len 0 xs ls 0 sp))) o (fireS (consG (opsS cs (min ll 40) 0 (newG w d h len 0 xs ls 0 sp))) o.player o.shot o.dir 0) (tailM (consG (opsS cs (min ll 40) 0 (newG w d h len 0 xs ls 0 sp))) o (fireS (consG (opsS cs (min ll 40) 0 (newG w d h len 0 xs ls 0 sp))) o.player o.shot o.dir 0)) else none else none else none := by kernel_rfl
theorem wm_tree0 (w d h : Int) (len ls ll : Nat) (xs : List Bool) (sp : List V3) (cs : List WOp) (o : WOp) : runK x16m (loopOf [lpoM0, lpoM2]) 300 6 Try.f6 0 [mapS w d h (.slice 0 1 0 len none) (.slice 1 3 0 ls none), .slice 2 12 0 ll none, .agg o.sv] [.vec true .bool xs, .vec true .vec sp, .vec true .wop cs] =
 bif sm1 w d h len ls xs sp then bif sm2 w d h len ls xs sp then some (.bool true, []) else
 bif newC w d h len 0 xs ls 0 sp && newV w d h len 0 xs ls 0 sp then
 bif decide ((0 : Int) = 0) && (decide (ll ≤ cs.length) && (invB (newG w d h len 0 xs ls 0 sp) && nilB (opsS cs (min ll 40) 0 (newG w d h len 0 xs ls 0 sp)))) then
  endM (nilG (opsS cs (min ll 40) 0 (newG w d h len 0 xs ls 0 sp))) o (fireS (nilG (opsS cs (min ll 40) 0 (newG w d h len 0 xs ls 0 sp))) o.player o.shot o.dir 0) none else none else none else none := by kernel_rfl

theorem fireL_done {s : WS} {id k : Int} {d : V3} : ∀ (ps pre : List PL), s.ps = pre ++ ps → (fireL s id k d 0 pre ps).2.2 = 0 →
    ∃ pre2 p ps2, s.ps = pre2 ++ p :: ps2 ∧ p.p.id = id ∧ newE k d = 0 ∧ (fireP p.p k).2 = 0 ∧ fireL s id k d 0 pre ps = ({ firedS s pre2 p ps2 k with shots := s.shots ++ [fireSh s p id k d] }, (firedS s pre2 p ps2 k).fired, 0)
 | [], _, _, h => by cases h
 | p :: ps, pre, hs, h => by
  rw [fireL] at h ⊢
  cases hid : p.p.id == id with
  | false =>
   rw [hid] at h
   exact fireL_done ps (pre ++ [p]) (by simp [hs]) h
  | true =>
   rw [hid] at h
   simp only [cond_true] at h ⊢
   unfold fire1 at h ⊢
   cases hn : newE k d != 0 with
   | true => rw [hn] at h; rw [bne_iff_ne] at hn; exact absurd h hn
   | false =>
   cases hf : (fireP p.p k).2 != 0 with
   | true => rw [hn, hf] at h; rw [bne_iff_ne] at hf; exact absurd h hf
   | false =>
   cases h64 : (s.shots.length : Int) == 64 with
   | true => rw [hn, hf, h64] at h; cases h
   | false =>
    refine ⟨pre, p, ps, hs, by simpa using hid, by simpa using hn, by simpa using hf, ?_⟩
    simp only [cond_false]
    unfold fire2 zF
    rw [show (fireB 0).toNat = 0 from rfl]
    rfl
theorem newE_shot {k : Int} {d : V3} (h : newE k d = 0) : (k = 0 ∨ k = 1) ∧ newBad k d = false := by
 unfold newE at h
 cases hb : newBad k d with
 | true => rw [hb] at h; cases h
 | false =>
  refine ⟨?_, rfl⟩
  unfold newBad at hb
  simp only [Bool.or_eq_false_iff, Bool.not_eq_false', Bool.or_eq_true, beq_iff_eq] at hb
  exact hb.1
theorem fireP_done {p : Pl} {o : WOp} (hk : o.shot = 0 ∨ o.shot = 1) (hid : p.id = o.player) (h : (fireP p o.shot).2 = 0) : (fireP p o.shot).1 = ammoF o p := by
 unfold ammoF
 rw [show (p.id == o.player) = true by rw [hid, beq_self_eq_true]]
 simp only [cond_true]
 unfold fireP fireG at h ⊢
 rcases hk with hk | hk
 · rw [hk] at h ⊢
   simp only [beq_self_eq_true, cond_true] at h ⊢
   cases hd : decide (p.dead > 0) with
   | true => rw [hd] at h; cases h
   | false =>
   cases hw : decide (p.wait > 0) with
   | true => rw [hd, hw] at h; cases h
   | false =>
   cases hz : decide (p.a0 ≤ 0) with
   | true => rw [hd, hw, hz] at h; cases h
   | false => rfl
 · rw [hk] at h ⊢
   simp only [show ((1 : Int) == 0) = false from rfl, cond_false] at h ⊢
   cases hd : decide (p.dead > 0) with
   | true => rw [hd] at h; cases h
   | false =>
   cases hw : decide (p.wait > 0) with
   | true => rw [hd, hw] at h; cases h
   | false =>
   cases hz : decide (p.a1 ≤ 0) with
   | true => rw [hd, hw, hz] at h; cases h
   | false => rfl
theorem map_other {o : WOp} {l : List PL} (h : ∀ q ∈ l, q.p.id ≠ o.player) : l.map (fun q => ammoF o q.p) = l.map PL.p := by
 refine List.map_congr_left fun q hq => ?_
 unfold ammoF
 rw [show (q.p.id == o.player) = false by rw [beq_eq_false_iff_ne]; exact h q hq]
 rfl
theorem mgM_true {X A : Bool} (h : X = true) : mgM X A = true := by subst h; cases A <;> rfl
theorem endM_refused {C : WS} {o : WOp} {k : Nat} {tail : Option Res2} (hi : C.Inv k) (hk : k ≤ 900) (h : (fireS C o.player o.shot o.dir 0).2.2 ≠ 0) : endM C o (fireS C o.player o.shot o.dir 0) tail = some (.bool true, []) := by
 obtain ⟨e1, e2⟩ := fireL_refused (ps := C.ps) (pre := []) h
 have e1 : (fireS C o.player o.shot o.dir 0).1 = C := e1
 have e2 : (fireS C o.player o.shot o.dir 0).2.1 = 0 := e2
 have hs := hi.shots
 have hf := hi.few
 have hl : (C.ps.map PL.p).length ≤ 1000 := by simp; omega
 unfold endM
 simp only [e1, e2, (hi.fire (by omega) o.player o.shot o.dir 0).1, decide_eq_true (show C.shots.length ≤ 1000 by omega), cond_true, show ((fireS C o.player o.shot o.dir 0).2.2 != 0) = true by simpa using h]
 rw [mgM_true (by rw [sameL_refl, decide_eq_true hl]; simp), mgM_true (by rw [List.take_length, sameS_refl]; simp; rfl)]
 rfl
theorem endM_done {C : WS} {o : WOp} {k : Nat} (hi : C.Inv k) (hr : C.Rgt) (hk : k ≤ 900) (h : (fireS C o.player o.shot o.dir 0).2.2 = 0) : endM C o (fireS C o.player o.shot o.dir 0) (tailM C o (fireS C o.player o.shot o.dir 0)) = some (.bool true, []) := by
 obtain ⟨pre, p, ps, hps, hid, hne, hfp, heq⟩ := fireL_done (s := C) C.ps [] rfl h
 obtain ⟨hsh, hnb⟩ := newE_shot hne
 have hs := hi.shots
 have hf := hi.few
 have hinv := (hi.fire (by omega) o.player o.shot o.dir 0)
 have hy : (fireS C o.player o.shot o.dir 0).1.ps.map PL.p = (C.ps.map PL.p).map (ammoF o) := by
  have e1 : (fireS C o.player o.shot o.dir 0).1.ps = pre ++ ⟨(fireP p.p o.shot).1, p.left⟩ :: ps := by unfold fireS; rw [heq]; rfl
  have hids := hr.pls.ids
  unfold idsW at hids
  rw [hps] at hids
  simp only [List.map_append, List.map_cons, List.pairwise_append, List.pairwise_cons, List.mem_map, List.mem_cons] at hids
  obtain ⟨_, ⟨h2, _⟩, h3⟩ := hids
  have o1 : ∀ q ∈ pre, q.p.id ≠ o.player := fun q hq => by have := h3 q.p.id ⟨q, hq, rfl⟩ p.p.id (.inl rfl); omega
  have o2 : ∀ q ∈ ps, q.p.id ≠ o.player := fun q hq => by have := h2 q.p.id ⟨q, hq, rfl⟩; omega
  rw [e1, hps, fireP_done hsh hid hfp, List.map_map]
  simp only [List.map_append, List.map_cons, Function.comp_def]
  rw [map_other o1, map_other o2]
 have hlp : (C.ps.map PL.p).length ≤ 1000 := by simp; omega
 have hsh2 : (fireS C o.player o.shot o.dir 0).1.shots = C.shots ++ [fireSh C p o.player o.shot o.dir] := by unfold fireS; rw [heq]
 have hrep : (fireS C o.player o.shot o.dir 0).2.1 = IntKind.i64.wrap (C.fired + 1) := by unfold fireS; rw [heq]; rfl
 have ht : fireSh C p o.player o.shot o.dir = ⟨IntKind.i64.wrap (C.fired + 1), o.player, o.shot, p.p.pos, velN (spN o.shot) o.dir, fuN o.shot, false⟩ := by unfold fireSh newS; rw [hnb]; rfl
 have hlen : (fireS C o.player o.shot o.dir 0).1.shots.length = C.shots.length + 1 := by rw [hsh2]; simp
 have hget : ∀ dd : Sh, (fireS C o.player o.shot o.dir 0).1.shots.getD (0 + ((C.shots.length : Int)).toNat) dd = fireSh C p o.player o.shot o.dir := by
  intro dd
  rw [hsh2, show 0 + ((C.shots.length : Int)).toNat = C.shots.length by omega, List.getD_eq_getElem?_getD, List.getElem?_append_right (Nat.le_refl _)]
  simp
 have htk : (fireS C o.player o.shot o.dir 0).1.shots.take ((C.shots.length : Int)).toNat = C.shots := by
  rw [hsh2, show ((C.shots.length : Int)).toNat = C.shots.length by omega]
  simp
 have hlm : ((fireS C o.player o.shot o.dir 0).1.ps.map PL.p).length = (C.ps.map PL.p).length := by rw [hy, List.length_map]
 have hgM : goodMB o (C.ps.map PL.p).length ((fireS C o.player o.shot o.dir 0).1.ps.map PL.p).length (C.ps.map PL.p) ((fireS C o.player o.shot o.dir 0).1.ps.map PL.p) = true := goodMB_iff.2 ⟨hsh, rfl, hlm, hlp, hy⟩
 have htail : tailM C o (fireS C o.player o.shot o.dir 0) = some (.bool true, []) := by
  unfold tailM
  simp only [hgM]
  rw [mgM_true (by rw [sameL_refl, hlm, decide_eq_true hlp]; simp)]
  rfl
 unfold endM
 simp only [htail, h, hget, htk, hrep, hlm, hlen, hinv.1, ht, sameS_refl]
 rw [decide_eq_true (show C.shots.length ≤ 1000 by omega), decide_eq_true (show C.shots.length + 1 ≤ 1000 by omega), IntWalk.i64_in ((C.shots.length : Int) + 1) (by omega), show (((C.shots.length + 1 : Nat) : Int) != (C.shots.length : Int) + 1) = false by simp,
  decide_eq_true (show (0 : Int) ≤ (C.shots.length : Int) by omega), decide_eq_true (show (C.shots.length : Int) ≤ ((capOr none (C.shots.length + 1) : Nat) : Int) by unfold capOr; simp; omega), decide_eq_true (show ((C.shots.length : Int)).toNat ≤ C.shots.length + 1 by omega),
  decide_eq_true (show ((C.shots.length : Int)).toNat ≤ 1000 by omega), decide_eq_true (show (C.shots.length : Int) < ((C.shots.length + 1 : Nat) : Int) by omega), decide_eq_true (show 0 + ((C.shots.length : Int)).toNat < C.shots.length + 1 by omega), show Nat.beq 9 7 = false from rfl]
 simp
 generalize hsd : List.getD (fireS C o.player o.shot o.dir 0).1.shots C.shots.length Knd.sh.dflt = sd
 have hsd2 : sd = fireSh C p o.player o.shot o.dir := by
  rw [← hsd]
  have := hget Knd.sh.dflt
  rwa [show 0 + ((C.shots.length : Int)).toNat = C.shots.length by omega] at this
 rw [hsd2, ht]
 simp
theorem wm_law {w d h : Int} {len ls ll : Nat} {xs : List Bool} {sp : List V3} {cs : List WOp} {o : WOp} (m : MapA w d h len ls xs sp) (hc : cs.length = ll) : ∃ L, LOk Try.prog L ∧
    runK x16m L 300 6 Try.f6 0 [mapS w d h (.slice 0 1 0 len none) (.slice 1 3 0 ls none), .slice 2 12 0 ll none, .agg o.sv] [.vec true .bool xs, .vec true .vec sp, .vec true .wop cs] = some (.bool true, []) := by
 cases hb : (opsS cs (min ll 40) 0 (newG w d h len 0 xs ls 0 sp)).ps.isEmpty with
 | true =>
  refine ⟨loopOf [lpoM0, lpoM2], loopOf_ok, ?_⟩
  rw [wm_tree0, m.sm1, cond_true]
  refine bif_law (fun _ => rfl) (fun hr => ?_)
  have hv := sm2_false hr
  have hi := m.inv hv
  have hn := opsS_inv cs (min ll 40) 0 0 _ hi (by omega)
  have hnb : nilB (opsS cs (min ll 40) 0 (newG w d h len 0 xs ls 0 sp)) = true := hb
  rw [m.newC, hv, invB_iff.2 hi, hnb, decide_eq_true (show ll ≤ cs.length by omega), nilG_eq hnb]
  simp only [decide_true, Bool.and_true, cond_true]
  refine endM_refused hn (by omega) ?_
  unfold fireS
  have : (opsS cs (min ll 40) 0 (newG w d h len 0 xs ls 0 sp)).ps = [] := by simpa using hb
  rw [this]
  exact (by decide : (6 : Int) ≠ 0)
 | false =>
  refine ⟨loopOf [lpoM1, lpoM2], loopOf_ok, ?_⟩
  rw [wm_tree1, m.sm1, cond_true]
  refine bif_law (fun _ => rfl) (fun hr => ?_)
  have hv := sm2_false hr
  have hi := m.inv hv
  have hn := opsS_inv cs (min ll 40) 0 0 _ hi (by omega)
  have hg := opsS_rgt cs (min ll 40) 0 0 _ hi (rgt_new m.ix m.isp hv) (by omega)
  have hnb : consB (opsS cs (min ll 40) 0 (newG w d h len 0 xs ls 0 sp)) = true := by unfold consB; rw [hb]; rfl
  rw [m.newC, hv, invB_iff.2 hi, hnb, decide_eq_true (show ll ≤ cs.length by omega), consG_eq hnb]
  simp only [decide_true, Bool.and_true, cond_true]
  by_cases hz : (fireS (opsS cs (min ll 40) 0 (newG w d h len 0 xs ls 0 sp)) o.player o.shot o.dir 0).2.2 = 0
  · exact endM_done hn hg (by omega) hz
  · exact endM_refused hn (by omega) hz

end Go.Proofs.Ytimkhidniolpeaa
