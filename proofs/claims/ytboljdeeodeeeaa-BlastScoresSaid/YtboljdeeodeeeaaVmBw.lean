/- BlastScores: the law, plain. -/
import Derived.Test.YtboljdeeodeeeaaVmBs
namespace Go.Proofs.Ytboljdeeodeeeaa
set_option linter.unusedSimpArgs false
set_option linter.unusedVariables false
set_option maxRecDepth 100000
open Go.RowKit

def Keeps (F : Pl → Pl) : Prop := ∀ p, (F p).id = p.id ∧ (F p).pos = p.pos ∧ (F p).vel = p.vel ∧ (F p).score = p.score ∧ (F p).a0 = p.a0 ∧ (F p).a1 = p.a1 ∧ (F p).wait = p.wait
theorem takeP_keeps (p : Pl) (n : Int) : (takeP p n).id = p.id ∧ (takeP p n).pos = p.pos ∧ (takeP p n).vel = p.vel ∧ (takeP p n).score = p.score ∧ (takeP p n).a0 = p.a0 ∧ (takeP p n).a1 = p.a1 ∧ (takeP p n).wait = p.wait := by
  unfold takeP
  cases (decide (p.dead > 0) || decide (n < 1))
  · cases decide (takeH p n ≤ 0) <;> exact ⟨rfl, rfl, rfl, rfl, rfl, rfl, rfl⟩
  · exact ⟨rfl, rfl, rfl, rfl, rfl, rfl, rfl⟩
theorem bump_keeps (ow S : Int) (q : Pl) : (bumpP ow S q).id = q.id ∧ (bumpP ow S q).pos = q.pos ∧ (bumpP ow S q).vel = q.vel ∧ (bumpP ow S q).a0 = q.a0 ∧ (bumpP ow S q).a1 = q.a1 ∧ (bumpP ow S q).wait = q.wait ∧ (bumpP ow S q).dead = q.dead ∧ ((q.id == ow) = false → (bumpP ow S q).score = q.score) := by
  unfold bumpP
  cases h : q.id == ow
  · exact ⟨rfl, rfl, rfl, rfl, rfl, rfl, rfl, fun _ => rfl⟩
  · exact ⟨rfl, rfl, rfl, rfl, rfl, rfl, rfl, fun h => (by cases h)⟩
theorem good_any {F : Pl → Pl} (hF : Keeps F) {ow S i : Int} (hi : 0 ≤ i) (hj : i < 1000) (p : Pl) : goodB ow i (p.numbered (i + 1)) (bumpP ow S (F (p.numbered (i + 1)))) = true := by
  obtain ⟨k1, k2, k3, k4, k5, k6, k7⟩ := hF (p.numbered (i + 1))
  obtain ⟨b1, b2, b3, b4, b5, b6, b7, b8⟩ := bump_keeps ow S (F (p.numbered (i + 1)))
  unfold goodB
  rw [b1, b2, b3, b4, b5, b6, k1, k2, k3, k5, k6, k7, IntWalk.i64_in (i + 1) (by omega)]
  simp only [beq_self_eq_true, Bool.and_self, Bool.true_and]
  cases h : (i + 1) == ow with
  | true => rfl
  | false =>
    rw [b8 (by rw [k1]; exact h), k4, Bool.false_or, beq_self_eq_true]
theorem all_any {F : Pl → Pl} (hF : Keeps F) {ow S : Int} : ∀ (l : List Pl) (i : Int), 0 ≤ i → i + l.length ≤ 1000 → bbAll ow i (numL i l) (((numL i l).map F).map (bumpP ow S)) = true
  | [], _, _, _ => rfl
  | p :: l, i, h0, h1 => by
    rw [List.length_cons] at h1
    rw [numL, List.map_cons, List.map_cons, bbAll, good_any hF h0 (by omega) p, all_any hF l (i + 1) (by omega) (by omega)]
    rfl
theorem brS_bound {ow s : Int} {p q : Pl} (hs : -1000000 ≤ s ∧ s ≤ 1000000) : s - 1 ≤ brS ow p q s ∧ brS ow p q s ≤ s + 1 := by
  unfold brS
  cases diedB p q with
  | false => simp only [cond_false]; omega
  | true =>
    cases p.id == ow with
    | false =>
      simp only [cond_true, cond_false]
      rw [IntWalk.i64_in (s + 1) (by omega)]
      omega
    | true =>
      simp only [cond_true]
      rw [IntWalk.i64_in (s - 2) (by omega), IntWalk.i64_in (s - 2 + 1) (by omega)]
      omega
theorem bbS_eq {F : Pl → Pl} (hF : Keeps F) {ow S i s : Int} (hi : 0 ≤ i) (hj : i < 1000) (hs : -1000000 ≤ s ∧ s ≤ 1000000) (p : Pl) : bbS ow i (p.numbered (i + 1)) (bumpP ow S (F (p.numbered (i + 1)))) s = brS ow (p.numbered (i + 1)) (F (p.numbered (i + 1))) s := by
  obtain ⟨b1, b2, b3, b4, b5, b6, b7, b8⟩ := bump_keeps ow S (F (p.numbered (i + 1)))
  unfold bbS brS diedB
  rw [b7, IntWalk.i64_in (i + 1) (by omega), show (p.numbered (i + 1)).id = i + 1 from rfl, IntWalk.i64_in (s - 2) (by omega), IntWalk.i64_in (s - 2 + 1) (by omega), IntWalk.i64_in (s - 1) (by omega), show s - 2 + 1 = s - 1 by omega]
theorem sum_any {F : Pl → Pl} (hF : Keeps F) {ow S : Int} : ∀ (l : List Pl) (i s : Int), 0 ≤ i → i + l.length ≤ 1000 → -i ≤ s → s ≤ i → bbSum ow i (numL i l) (((numL i l).map F).map (bumpP ow S)) s = brSc F ow (numL i l) s
  | [], _, _, _, _, _, _ => rfl
  | p :: l, i, s, h0, h1, h2, h3 => by
    rw [List.length_cons] at h1
    have hb := brS_bound (ow := ow) (p := p.numbered (i + 1)) (q := F (p.numbered (i + 1))) (s := s) (by omega)
    rw [numL, List.map_cons, List.map_cons, bbSum, bbS_eq hF h0 (by omega) (by omega) p, sum_any hF l (i + 1) _ (by omega) (by omega) (by omega) (by omega), brSc]
theorem num_get : ∀ (l : List Pl) (i : Int) (j : Nat), j < l.length → ∃ p, (numL i l)[j]? = some (Pl.numbered p (i + j + 1))
  | [], _, _, h => by cases h
  | p :: l, i, 0, h => ⟨p, by rw [numL]; simp⟩
  | p :: l, i, j + 1, h => by
    rw [List.length_cons] at h
    obtain ⟨q, hq⟩ := num_get l (i + 1) j (by omega)
    refine ⟨q, ?_⟩
    rw [numL, List.getElem?_cons_succ, hq]
    congr 2
    omega
/-- The owner's score. -/
theorem score_any {F : Pl → Pl} (hF : Keeps F) {ow : Int} {zs : List Pl} (h1 : 1 ≤ ow) (h2 : ow ≤ zs.length) (h3 : zs.length ≤ 1000) (z : Pl) :
    (((burstL F ow (numL 0 zs)).getD (0 + (IntKind.i64.wrap (ow - 1)).toNat) z).score == IntKind.i64.wrap (((numL 0 zs).getD (0 + (IntKind.i64.wrap (ow - 1)).toNat) z).score + bbSum ow 0 (numL 0 zs) (burstL F ow (numL 0 zs)) 0)) = true := by
  unfold burstL
  rw [sum_any hF zs 0 0 (by omega) (by omega) (by omega) (by omega), IntWalk.i64_in (ow - 1) (by omega), Nat.zero_add]
  obtain ⟨p, hp⟩ := num_get zs 0 (ow - 1).toNat (by omega)
  rw [show (0 : Int) + (((ow - 1).toNat : Nat) : Int) + 1 = ow by omega] at hp
  rw [List.getD_eq_getElem?_getD, List.getD_eq_getElem?_getD, List.getElem?_map, List.getElem?_map, hp]
  simp only [Option.map_some, Option.getD_some]
  obtain ⟨k1, k2, k3, k4, k5, k6, k7⟩ := hF (p.numbered ow)
  rw [show bumpP ow (brSc F ow (numL 0 zs) 0) (F (p.numbered ow)) = (F (p.numbered ow)).scored (brSc F ow (numL 0 zs) 0) by unfold bumpP; rw [k1, show (p.numbered ow).id = ow from rfl, beq_self_eq_true]; rfl]
  rw [show ((F (p.numbered ow)).scored (brSc F ow (numL 0 zs) 0)).score = IntKind.i64.wrap ((F (p.numbered ow)).score + brSc F ow (numL 0 zs) 0) from rfl, k4, beq_self_eq_true]

set_option maxHeartbeats 0 in
theorem scores_core {w d h : Int} {len ls k : Nat} {xs : List Bool} {sp : List V3} {zs : List Pl} {m : Mp} {F : Pl → Pl} {a : V3} {ow : Int} (c1 : (mapOk w d h len && (decide (0 + len ≤ xs.length) && (decide (0 + ls ≤ sp.length) && (decide (ls ≤ 9223372036854775807) && sp.all fitsB)))) = true)
    (hz : zs.length = k) (hk : k ≤ 1000) (hF : Keeps F) (ho : 1 ≤ k → 1 ≤ ow ∧ ow ≤ k) (hb : buOk w d h 0 len xs a (numL 0 zs) k = true) :
    ((bif decide (k = zs.length) && decide (k ≤ 1000) then bif zs.all tameB then bif (mapOk w d h len && (decide (0 + len ≤ xs.length) && (decide (0 + ls ≤ sp.length) && (decide (ls ≤ 9223372036854775807) && sp.all fitsB))) && true && true || (bif (bif decide (w ≤ 10) == true then decide (d ≤ 10) else false) == true then decide (h ≤ 10) else false) != true) && (true || (bif (bif decide (w ≤ 10) == true then decide (d ≤ 10) else false) == true then decide (h ≤ 10) else false) == true) && true then bif bif (bif (bif (!bif (bif (bif decide (w ≤ 10) == true then decide (d ≤ 10) else false) == true then decide (h ≤ 10) else false) == true then rightE (m.right (spAt sp 0) ls) == 0 else false) == false then !a.nearB else true) == false then false else true) == false then (k : Int) == 0 else true then some (SV.bool true, []) else bif decide (k = zs.length) && decide (k ≤ 1000) then bif !decide ((k : Int) = 0) then bif buOk w d h 0 len xs a (numL 0 zs) (k) then bif (↑(burstL F ow (numL 0 zs)).length : Int) != (k : Int) then some (SV.bool false, []) else bif decide (k = (numL 0 zs).length) && decide ((burstL F ow (numL 0 zs)).length = (burstL F ow (numL 0 zs)).length) && (decide ((burstL F ow (numL 0 zs)).length = k) && (decide (k ≤ 1000) && bbAll ow 0 (numL 0 zs) (burstL F ow (numL 0 zs)))) then bif decide (0 ≤ IntKind.i64.wrap (ow - 1)) && decide (IntKind.i64.wrap (ow - 1) < (↑(burstL F ow (numL 0 zs)).length : Int)) then bif decide (0 + (IntKind.i64.wrap (ow - 1)).toNat < (burstL F ow (numL 0 zs)).length) then bif decide (0 ≤ IntKind.i64.wrap (ow - 1)) && decide (IntKind.i64.wrap (ow - 1) < (k : Int)) then bif decide (0 + (IntKind.i64.wrap (ow - 1)).toNat < (numL 0 zs).length) then some (SV.bool (((burstL F ow (numL 0 zs)).getD (0 + (IntKind.i64.wrap (ow - 1)).toNat) Knd.pl.dflt).score == IntKind.i64.wrap (((numL 0 zs).getD (0 + (IntKind.i64.wrap (ow - 1)).toNat) Knd.pl.dflt).score + bbSum ow 0 (numL 0 zs) (burstL F ow (numL 0 zs)) 0)), []) else none else none else none else none else none else none else none else none else none else bif (mapOk w d h len && (decide (0 + len ≤ xs.length) && (decide (0 + ls ≤ sp.length) && (decide (ls ≤ 9223372036854775807) && sp.all fitsB))) && true && true || (bif (bif decide (w ≤ 10) == true then decide (d ≤ 10) else false) == true then decide (h ≤ 10) else false) != true) && (true || (bif (bif decide (w ≤ 10) == true then decide (d ≤ 10) else false) == true then decide (h ≤ 10) else false) == true) && true then bif bif (bif (bif (!bif (bif (bif decide (w ≤ 10) == true then decide (d ≤ 10) else false) == true then decide (h ≤ 10) else false) == true then rightE (m.right (spAt sp 0) ls) == 0 else false) == false then !a.nearB else true) == false then true else true) == false then 0 == 0 else true then some (SV.bool true, []) else none else none else none : Option Res2)) = some (SV.bool true, []) := by
  subst hz
  rw [c1, hb]
  simp only [Bool.and_true, Bool.true_or, Bool.true_and, Bool.false_or, cond_true, and_form, or_form, decide_true, decide_eq_true hk, decide_eq_true (rfl : zs.length = zs.length), decide_eq_true (numL_len zs 0).symm, decide_eq_true (show (burstL F ow (numL 0 zs)).length = (burstL F ow (numL 0 zs)).length from rfl), decide_eq_true (show (burstL F ow (numL 0 zs)).length = zs.length by rw [burst_len, numL_len])]
  refine bif_law (fun _ => ?_) (fun _ => ?_)
  · refine bif_law (fun _ => rfl) (fun h1 => ?_)
    have h0 : ¬ (zs.length : Int) = 0 := by
      intro h0
      rw [h0] at h1
      simp at h1
    obtain ⟨o1, o2⟩ := ho (by omega)
    have hl : (burstL F ow (numL 0 zs)).length = zs.length := by rw [burst_len, numL_len]
    have hal : bbAll ow 0 (numL 0 zs) (burstL F ow (numL 0 zs)) = true := all_any hF zs 0 (by omega) (by omega)
    rw [hal, decide_eq_false h0, hl, numL_len, IntWalk.i64_in (ow - 1) (by omega), decide_eq_true (show (0 : Int) ≤ ow - 1 by omega), decide_eq_true (show ow - 1 < (zs.length : Int) by omega), decide_eq_true (show 0 + (ow - 1).toNat < zs.length by omega)]
    have hsc := score_any hF o1 o2 hk Knd.pl.dflt
    rw [IntWalk.i64_in (ow - 1) (by omega)] at hsc
    simp only [bne_self_eq_false, Bool.not_false, Bool.and_self, cond_true, cond_false]
    exact congrArg (fun b => some (SV.bool b, ([] : List Row))) hsc
  · refine bif_law (fun _ => rfl) (fun h1 => ?_)
    simp at h1

theorem ow_in {owner : Int} {k : Nat} (hk : 1 ≤ k) (hk2 : k ≤ 1000) : 1 ≤ IntKind.i64.wrap (1 + (IntKind.i64.wrap ((BitVec.ofInt IntKind.i64.bits owner &&& BitVec.ofInt IntKind.i64.bits 255).toNat : Int)).tmod (k : Int)) ∧ IntKind.i64.wrap (1 + (IntKind.i64.wrap ((BitVec.ofInt IntKind.i64.bits owner &&& BitVec.ofInt IntKind.i64.bits 255).toNat : Int)).tmod (k : Int)) ≤ k := by
  have hN := mask_in (a := owner) (c := 255) 255 rfl (by omega)
  generalize IntKind.i64.wrap ((BitVec.ofInt IntKind.i64.bits owner &&& BitVec.ofInt IntKind.i64.bits 255).toNat : Int) = N at hN ⊢
  have h1 := Int.tmod_nonneg (k : Int) hN.1
  have h2 := Int.tmod_lt_of_pos N (show (0 : Int) < (k : Int) by omega)
  rw [IntWalk.i64_in (1 + N.tmod (k : Int)) (by omega)]
  omega
theorem num_fits : ∀ (l : List Pl) (i : Int), (∀ x ∈ l, x.pos.fits) → (numL i l).all (fun p => fitsB p.pos) = true
  | [], _, _ => rfl
  | p :: l, i, h => by
    rw [numL, List.all_cons, num_fits l (i + 1) fun x hx => h x (List.mem_cons_of_mem _ hx), show fitsB (p.numbered (i + 1)).pos = true from fitsB_iff.2 (h p List.mem_cons_self)]
    rfl
set_option maxHeartbeats 0 in
theorem scores_law {w d h : Int} {len ls ll : Nat} {xs : List Bool} {sp : List V3} {ps : List Pl} {a : V3} {owner : Int} (hw : In64 w) (hd : In64 d) (hh : In64 h) (hl : len ≤ 9223372036854775807) (hx : xs.length = len) (hs : ls ≤ 9223372036854775807) (hy : sp.length = ls) (hf : ∀ p ∈ sp, p.fits) (ha : a.fits) (hn : ps.length = ll) (hp : ∀ p ∈ ps, p.pos.fits) :
    runK xBs (loopOf [lpoTa, lpoBa, lpoBb]) 400 6 Try.f6 0 [mapS w d h (.slice 0 1 0 len none) (.slice 1 3 0 ls none), .agg a.sv, .int .i64 owner, .slice 2 15 0 ll none] [.vec true .bool xs, .vec true .vec sp, .vec true .pl ps] = some (.bool true, []) := by
  obtain ⟨c1, c2, c3⟩ := right_facts hw hd hh hl hx hs hy hf
  have hzl : (ps.take (min (ll : Int) 20).toNat).length = 0 + (min (ll : Int) 20).toNat := by
    rw [List.length_take]
    omega
  have hz : ∀ x ∈ ps.take (min (ll : Int) 20).toNat, x.pos.fits := fun x hx => hp x (List.mem_of_mem_take hx)
  have hb : buOk w d h 0 len xs a (numL 0 (ps.take (min (ll : Int) 20).toNat)) (0 + (min (ll : Int) 20).toNat) = true := by
    unfold buOk
    rw [c2, c3, fitsB_iff.2 ha, num_fits _ 0 hz, numL_len, hzl, decide_eq_true rfl, decide_eq_true (by omega)]
    rfl
  have key := scores_core (m := mpOf w d h len fun j => xs.getD (0 + j) false) (F := (mpOf w d h len fun j => xs.getD (0 + j) false).brQ a) (a := a) (ow := IntKind.i64.wrap (1 + (IntKind.i64.wrap ((BitVec.ofInt IntKind.i64.bits owner &&& BitVec.ofInt IntKind.i64.bits 255).toNat : Int)).tmod ((0 + (min (ll : Int) 20).toNat : Nat) : Int))) c1 hzl (by omega) (fun p => takeP_keeps _ _) (fun h1 => ow_in h1 (by omega)) hb
  refine (scores_tree ..).trans ?_
  refine bif_true ?_ (bif_true ?_ key)
  · rw [decide_eq_true (show 0 ≤ min (ll : Int) 20 by omega), decide_eq_true (show min (ll : Int) 20 ≤ ((capOr none ll : Nat) : Int) by unfold capOr; simp only [Option.getD_none]; omega)]
    rfl
  · rw [decide_eq_true (show 0 + (min (ll : Int) 20).toNat ≤ ps.length by omega), decide_eq_true (show 0 + (min (ll : Int) 20).toNat ≤ 9223372036854775807 by omega), decide_eq_true (show (0 + (min (ll : Int) 20).toNat) * 120 ≤ 140737488355328 by omega)]
    rfl

end Go.Proofs.Ytboljdeeodeeeaa
