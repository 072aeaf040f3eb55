/- A game's Leave as a contract. grid's Right, as a contract. A new game. What an op does to a game, as a contract. What an op does to a game, walked. -/
import Derived.Test.YtimkhidniolpeaaWoD
import Derived.Test.YtimkhidniolpeaaWoN
import Derived.Test.YtimkhidniolpeaaVmOra
import Derived.Test.YtimkhidniolpeaaVmR
namespace Go.Proofs.Ytimkhidniolpeaa
set_option linter.unusedSimpArgs false
set_option linter.unusedVariables false
set_option maxRecDepth 100000
set_option maxHeartbeats 0
open Go.RowKit

theorem leave_tree (id : Int) : ∀ (s : WS) (l : WLay), LayOk l s → runG xWo (fun _ _ => none) 400 39 Try.f39 foldK [.ptr 0 0 0 0, .int .i64 id] (s.rows l) = leaveT l s id 0 [] s.ps :=
 game_cases fun w d h cells spawns now given fired cc sc => by
  refine ⟨fun shots hc => lv_n0b .., lv_n0a .., fun c shots hc => ?_, fun c => ?_⟩
  · exact ⟨lv_c0b .., fun p1 => ⟨lv_c1b .., fun p2 => ⟨lv_c2b .., fun p3 => ⟨lv_c3b .., fun p4 => ⟨lv_c4b .., fun p5 => ⟨lv_c5b .., fun p6 => ⟨lv_c6b .., fun p7 => ⟨lv_c7b .., fun p8 => lv_c8b ..⟩⟩⟩⟩⟩⟩⟩⟩
  · exact ⟨lv_c0a .., fun p1 => ⟨lv_c1a .., fun p2 => ⟨lv_c2a .., fun p3 => ⟨lv_c3a .., fun p4 => ⟨lv_c4a .., fun p5 => ⟨lv_c5a .., fun p6 => ⟨lv_c6a .., fun p7 => ⟨lv_c7a .., fun p8 => lv_c8a ..⟩⟩⟩⟩⟩⟩⟩⟩

def thereB (id : Int) (ps : List PL) : Bool := ps.any fun p => p.p.id == id
def leaveW (s : WS) (id : Int) : WS := { s with ps := s.ps.filter fun p => !(p.p.id == id) }
theorem delT_ends {l : WLay} {s : WS} (ok : LayOk l s) {id : Int} (hne : s.ps ≠ []) : ∀ (ps acc : List PL) (i : Nat), acc.length = i → i + ps.length ≤ s.ps.length →
    Ends (delT l s id i acc ps) (.int .i64 0) { s with ps := acc ++ ps.filter fun p => !(p.p.id == id) } []
 | [], acc, i, hi, hl => by
  rw [delT]
  obtain ⟨c, hc⟩ : ∃ c, l.pc = some c := by
   cases hp : l.pc with
   | none => exact absurd (ok.pn hp) hne
   | some c => exact ⟨c, rfl⟩
  have h1 := ok.pc c hc
  have h8 := ok.few
  simp only [List.length_nil, Nat.add_zero] at hl
  have : (decide (0 ≤ (i : Int)) && decide ((i : Int) ≤ ((capOr l.pc s.ps.length : Nat) : Int))) = true := by
   rw [hc]
   rw [Bool.and_eq_true]
   have hic : i ≤ c := by omega
   exact ⟨decide_eq_true (by omega), decide_eq_true (show (i : Int) ≤ (c : Int) by omega)⟩
  rw [this, cond_true, List.filter_nil, List.append_nil]
  refine endX_ends ?_ (hS_firm ok rfl) ?_
  · show (pS l i).firm acc.length
    unfold pS
    rw [hc]
    exact ⟨hi.symm, .inr rfl⟩
  · show acc.length ≤ 8
    omega
 | p :: ps, acc, i, hi, hl => by
  rw [delT]
  simp only [List.length_cons] at hl
  cases hp : p.p.id == id with
  | true =>
   simp only [Bool.not_true, cond_false]
   have := delT_ends (id := id) ok hne ps acc i hi (by omega)
   rw [List.filter_cons, hp]
   exact this
  | false =>
   simp only [Bool.not_false, cond_true]
   have := delT_ends (id := id) ok hne ps (acc ++ [p]) (i + 1) (by simp [hi]) (by omega)
   rw [List.filter_cons, hp]
   simpa using this
theorem leaveT_ends {l : WLay} {s : WS} (ok : LayOk l s) {id : Int} : ∀ (ps acc : List PL) (i : Nat), s.ps = acc ++ ps → acc.length = i →
    Ends (leaveT l s id i acc ps) (.int .i64 (bif thereB id ps then 0 else 6)) { s with ps := acc ++ ps.filter fun p => !(p.p.id == id) } []
 | [], acc, i, hs, hi => by
  rw [leaveT]
  have : ({ s with ps := acc ++ [].filter fun p => !(p.p.id == id) } : WS) = s := by
   rw [List.filter_nil, ← hs]
  rw [this]
  exact endX_ends (pS_firm ok rfl) (hS_firm ok rfl) ok.few
 | p :: ps, acc, i, hs, hi => by
  rw [leaveT]
  have hlen : acc.length + (ps.length + 1) = s.ps.length := by rw [hs]; simp
  cases hp : p.p.id == id with
  | true =>
   simp only [cond_true]
   have := delT_ends (l := l) ok (id := id) (by rw [hs]; simp) ps acc i hi (by omega)
   rw [List.filter_cons, hp]
   unfold thereB
   rw [List.any_cons, hp]
   exact this
  | false =>
   simp only [cond_false]
   have := leaveT_ends ok (id := id) ps (acc ++ [p]) (i + 1) (by simp [hs]) (by simp [hi])
   rw [List.filter_cons, hp]
   unfold thereB at this ⊢
   rw [List.any_cons, hp]
   simpa using this
noncomputable def oLeaveW (args : List SV) (rows : List Row) : Option Eff := match args with
 | [.ptr g 0 0 0, .int .i64 id] => match rows[g]? with
  | some (.obj s) => some { val := .int .i64 (bif thereB id s.ps then 0 else 6), rd := [g], wr := [(g, .obj (leaveW s id))] }
  | _ => none
 | _ => none
theorem oLeaveW_ok {args : List SV} {rows : List Row} {e : Eff} (h : oLeaveW args rows = some e) (hok : e.ok = true) : FnOkO Try.prog 39 args (rows[·]?) rows.length e := by
 unfold oLeaveW at h
 split at h
 · rename_i g id
   split at h
   · rename_i s hs
     cases h
     refine fnOkO_game (fuel := 400) xWo_ok lok_none Try.func39 (ds := [.int .i64 id]) rfl rfl (fun l ok => ?_) hs
     rw [leave_tree id s l ok]
     exact leaveT_ends ok s.ps [] 0 rfl rfl
   · cases h
 · cases h
noncomputable def orcLeaveW : OrcO := ⟨39, oLeaveW, fun _ _ _ h hok => oLeaveW_ok h hok, bodied Try.func39 (by kernel_rfl)⟩

end Go.Proofs.Ytimkhidniolpeaa

namespace Go.Proofs.Ytimkhidniolpeaa
set_option linter.unusedSimpArgs false
set_option linter.unusedVariables false
set_option maxRecDepth 100000
set_option maxHeartbeats 0
open Go.RowKit

mutual
theorem rel_unmine {ρ ρ0 : Rho} : ∀ {s : SV} {u : Value}, Rel ρ s u → (∀ i ∈ s.ids, ρ0 i = (ρ i).map (fun p => { p with mine := false })) → Rel ρ0 s u
 | .top, _, _, _ => by simp [Rel]
 | .unk, _, r, _ => by simpa only [Rel] using r
 | .int .., _, r, _ => by simpa [Rel] using r
 | .bool _, _, r, _ => by simpa [Rel] using r
 | .nilp, _, r, _ => by simpa [Rel] using r
 | .nils, _, r, _ => by simpa [Rel] using r
 | .ptr id _ _ _, _, r, h => by
  simp only [Rel] at r ⊢
  obtain ⟨p, hp, hv⟩ := r
  exact ⟨{ p with mine := false }, by rw [h id (by simp [SV.ids]), hp]; rfl, hv⟩
 | .slice id _ _ _ _, _, r, h => by
  simp only [Rel] at r ⊢
  rcases r with ⟨p, o, c, hp, hv, h1, h2, h3, _⟩ | r
  · exact .inl ⟨{ p with mine := false }, o, c, by rw [h id (by simp [SV.ids]), hp]; rfl, hv, h1, h2, h3, fun h => by cases h⟩
  · exact .inr r
 | .agg xs, _, r, h => by
  simp only [Rel] at r ⊢
  obtain ⟨vs, hv, hr⟩ := r
  exact ⟨vs, hv, relL_unmine hr fun i hi => h i (by simpa [SV.ids] using hi)⟩
 | .tuple xs, _, r, h => by
  simp only [Rel] at r ⊢
  obtain ⟨vs, hv, hr⟩ := r
  exact ⟨vs, hv, relL_unmine hr fun i hi => h i (by simpa [SV.ids] using hi)⟩
 | .fn _ xs, _, r, h => by
  simp only [Rel] at r ⊢
  obtain ⟨vs, hv, hr⟩ := r
  exact ⟨vs, hv, relL_unmine hr fun i hi => h i (by simpa [SV.ids] using hi)⟩
theorem relL_unmine {ρ ρ0 : Rho} : ∀ {s : List SV} {us : List Value}, RelL ρ s us → (∀ i ∈ SV.idsL s, ρ0 i = (ρ i).map (fun p => { p with mine := false })) → RelL ρ0 s us
 | [], _, r, _ => by simpa [RelL] using r
 | x :: xs, _, r, h => by
  simp only [RelL] at r ⊢
  obtain ⟨v, vs, hv, h1, h2⟩ := r
  exact ⟨v, vs, hv, rel_unmine h1 fun i hi => h i (by simp [SV.idsL, hi]), relL_unmine h2 fun i hi => h i (by simp [SV.idsL, hi])⟩
end

theorem fnOk_quiet2 {P : Program} {f : Nat} {ok : Bool} {args0 : List SV} {k1 k2 : Knd} {xs : List k1.T} {ys : List k2.T} {v : SV} {rows' : List Row} (hc : CallOk P f args0 [.vec true k1 xs, .vec true k2 ys] v rows') {rows : List Row} {i1 i2 : Nat} (l1 : i1 < rows.length) (l2 : i2 < rows.length) (hne : i1 ≠ i2)
    (h1 : rows[i1]? = some (.vec true k1 xs)) (h2 : rows[i2]? = some (.vec true k2 ys)) (hv : v.ids = []) (ha : ∀ i ∈ SV.idsL args0, i < 2) : FnOk P f (renFL (atR [i1, i2] rows.length) args0) (rows[·]?) rows.length { ok := ok, val := v, rd := [i1, i2] } := by
 intro ρ pres vargs w hargs hg hap hrd hfree
 let ρ0 : Rho := fun i => if i = 0 then (ρ i1).map (fun p => { p with mine := false }) else if i = 1 then (ρ i2).map (fun p => { p with mine := false }) else none
 have frz : ∀ (j : Nat) (k : Knd) (zs : List k.T) (i : Nat), RowAt ρ j (.vec true k zs) w → ρ0 i = (ρ j).map (fun p => { p with mine := false }) → RowAt ρ0 i (.vec true k zs) w := by
  intro j k zs i hr he
  rcases hr with ⟨_, h0⟩ | ⟨p, hp, hm, _, hcell⟩
  · exact .inl ⟨rfl, h0⟩
  · exact .inr ⟨{ p with mine := false }, by rw [he, hp]; rfl, fun _ => rfl, fun h => (by cases h), hcell⟩
 have r1 := (hrd i1 (by simp) _ h1).1
 have r2 := (hrd i2 (by simp) _ h2).1
 have m1 : ∀ p, ρ i1 = some p → ∃ q, ρ0 0 = some q ∧ q.b = p.b ∧ q.base = p.base ∧ q.size = p.size ∧ q.mine = false := fun p hp => ⟨{ p with mine := false }, by simp [ρ0, hp], rfl, rfl, rfl, rfl⟩
 have hargs0 : RelL ρ0 args0 vargs := by
  rw [relL_renF] at hargs
  refine relL_unmine hargs fun i hi => ?_
  have := ha i hi
  match i, this with
  | 0, _ => simp [ρ0, atR]
  | 1, _ => simp [ρ0, atR]
 have hmine : ∀ i p, ρ0 i = some p → p.mine = false ∧ p.b < w.heap.size := by
  intro i p h
  simp only [ρ0] at h
  split at h
  · cases hq : ρ i1 with
    | none => simp [hq] at h
    | some q => simp [hq] at h; subst h; exact ⟨rfl, hg i1 q hq⟩
  · split at h
    · cases hq : ρ i2 with
      | none => simp [hq] at h
      | some q => simp [hq] at h; subst h; exact ⟨rfl, hg i2 q hq⟩
    · cases h
 have hcall := hc ρ0 vargs w hargs0 (fun i p h => (hmine i p h).2) (fun i row h => by
     match i, h with
     | 0, h => simp at h; subst h; exact frz i1 k1 xs 0 r1 (by simp [ρ0])
     | 1, h => simp at h; subst h; exact frz i2 k2 ys 1 r2 (by simp [ρ0])
     | i + 2, h => simp at h)
  (fun i j p q _ _ hij hp hq hm => by rw [(hmine i p hp).1, (hmine j q hq).1] at hm; cases hm)
  (fun i hi => by simp at hi; simp only [ρ0]; rw [if_neg (by omega), if_neg (by omega)])
 refine hcall.mono ?_
 rintro e w' ⟨v', ρ', rfl, hr, _, _, _, _, hp⟩
 refine ⟨v', ρ, rfl, ⟨Rho.le.refl ρ, fun i p h => Nat.lt_of_lt_of_le (hg i p h) hp.frm.size, fun _ _ h => .inl h, fun i p h1 h2 => by simp at h2; omega, ?_, Rel.only _ _ (fun i hmem => by rw [hv] at hmem; cases hmem) hr, by simp, by simp, ?_⟩⟩
 · intro i j p q hi hj
   refine hap i j p q ?_ ?_
   · rcases hi with h | h
     · exact h.1
     · simp at h; omega
   · rcases hj with h | h
     · exact h.1
     · simp at h; omega
 · refine hp.frm.weaken fun b _ hb => ?_
   obtain ⟨i, p, _, h3, h4, _⟩ := hb
   rw [(hmine i p h3).1] at h4
   cases h4

noncomputable def xRt : Ctx := ctxOf [43, 48, 67] [orcSized, orcClear, orcPlus, orcMinus]
theorem xRt_ok : COk Try.prog xRt := ctxOf_ok (by kernel_rfl)

noncomputable def valRt (ls : Nat) (off2 : Nat) (s i : Int) : List SV := [.slice 1 3 off2 ls none, .fn 43 [.ptr 2 0 0 0, .ptr 3 0 0 0], .int .i64 s, .int .i64 (ls : Int), .int .i64 i]
def rowRt (w d h : Int) (len off : Nat) (xs : List Bool) (ls off2 : Nat) (sp : List V3) : List Row := [.vec true .bool xs, .vec true .vec sp, .own [.int .i64 w, .int .i64 d, .int .i64 h, .slice 0 1 off len none, .slice 1 3 off2 ls none], .own [.int .i64 26214, .int .i64 26214, .int .i64 58982]]
noncomputable def rdRt : List SV → List Row → Option Res2 := roundS xRt (fun _ _ => none) 100 67 [0, 1, 0, 1] (bodyAt Try.f67 [0, 1, 0, 1]) 19 4 [0, 1, 4, 7, 8]

theorem rt_round (w d h : Int) (len off : Nat) (xs : List Bool) (ls off2 : Nat) (sp : List V3) (i : Int) : rdRt (valRt ls off2 0 i) (rowRt w d h len off xs ls off2 sp) =
 bif decide (i < (↑ls : Int)) then
 bif decide (0 ≤ i) && decide (i < (↑ls : Int)) then
 bif decide (off2 + i.toNat < sp.length) then
 bif fitsB (sp.getD (off2 + i.toNat) Knd.vec.dflt) && fitsB (V3.mk 26214 26214 58982) then
 bif fitsB (sp.getD (off2 + i.toNat) Knd.vec.dflt) && fitsB (V3.mk 26214 26214 58982) then
 bif
 mapOk w d h len &&
 (fitsB (V3.minus (sp.getD (off2 + i.toNat) Knd.vec.dflt) (V3.mk 26214 26214 58982)) &&
 (fitsB (V3.plus (sp.getD (off2 + i.toNat) Knd.vec.dflt) (V3.mk 26214 26214 58982)) && decide (off + len ≤ xs.length))) then
 bif
 !(mpOf w d h len fun j => xs.getD (off + j) false).clear (V3.minus (sp.getD (off2 + i.toNat) Knd.vec.dflt) (V3.mk 26214 26214 58982))
 (V3.plus (sp.getD (off2 + i.toNat) Knd.vec.dflt) (V3.mk 26214 26214 58982)) then
 some
 (SV.tuple [SV.nils, SV.tuple [SV.slice 1 3 off2 ls none, SV.fn 43 [SV.ptr 2 0 0 0, SV.ptr 3 0 0 0], .int .i64 i, .int .i64 (↑ls : Int), .int .i64 i]],
 [Row.vec true Knd.bool xs, Row.vec true Knd.vec sp, Row.own [.int .i64 w, .int .i64 d, .int .i64 h, SV.slice 0 1 off len none, SV.slice 1 3 off2 ls none],
 Row.own [.int .i64 26214, .int .i64 26214, .int .i64 58982]])
 else
 some
 (SV.tuple
 [SV.nilp,
 SV.tuple
 [SV.slice 1 3 off2 ls none, SV.fn 43 [SV.ptr 2 0 0 0, SV.ptr 3 0 0 0], .int .i64 0, .int .i64 (↑ls : Int), .int .i64 (IntKind.i64.wrap (i + 1))]],
 [Row.vec true Knd.bool xs, Row.vec true Knd.vec sp, Row.own [.int .i64 w, .int .i64 d, .int .i64 h, SV.slice 0 1 off len none, SV.slice 1 3 off2 ls none],
 Row.own [.int .i64 26214, .int .i64 26214, .int .i64 58982]])
 else none
 else none
 else none
 else none
 else none
 else
 some
 (SV.tuple [SV.ptr 0 0 0 0, SV.tuple [SV.slice 1 3 off2 ls none, SV.fn 43 [SV.ptr 2 0 0 0, SV.ptr 3 0 0 0], .int .i64 0, .int .i64 (↑ls : Int), .int .i64 i]],
 [Row.vec true Knd.bool xs, Row.vec true Knd.vec sp, Row.own [.int .i64 w, .int .i64 d, .int .i64 h, SV.slice 0 1 off len none, SV.slice 1 3 off2 ls none],
 Row.own [.int .i64 26214, .int .i64 26214, .int .i64 58982]]) := by kernel_rfl

noncomputable def allFree (f : V3 → Bool) (sp : Nat → V3) : Nat → Nat → Bool
 | 0, _ => true
 | n + 1, i => f (sp i) && allFree f sp n (i + 1)
noncomputable def firstBad (f : V3 → Bool) (sp : Nat → V3) : Nat → Nat → Nat
 | 0, i => i
 | n + 1, i => bif f (sp i) then firstBad f sp n (i + 1) else i
def spAt (sp : List V3) (off : Nat) (i : Nat) : V3 := sp.getD (off + i) ⟨0, 0, 0⟩

section
variable {w d h : Int} {len off : Nat} {xs : List Bool} {ls off2 : Nat} {sp : List V3}
theorem rt_loop (hm : mapOk w d h len = true) (hl : decide (off + len ≤ xs.length) = true) (h2 : off2 + ls ≤ sp.length) (h3 : ls ≤ 9223372036854775807) (hf : sp.all fitsB = true) : ∀ (n i : Nat), i + n = ls →
    (allFree (mpOf w d h len fun j => xs.getD (off + j) false).free (spAt sp off2) n i = true → LoopTo rdRt (valRt ls off2 0 i) (rowRt w d h len off xs ls off2 sp) (.exit 0) (valRt ls off2 0 ls) (rowRt w d h len off xs ls off2 sp)) ∧
    (allFree (mpOf w d h len fun j => xs.getD (off + j) false).free (spAt sp off2) n i = false → LoopTo rdRt (valRt ls off2 0 i) (rowRt w d h len off xs ls off2 sp) .ret (valRt ls off2 (firstBad (mpOf w d h len fun j => xs.getD (off + j) false).free (spAt sp off2) n i) (firstBad (mpOf w d h len fun j => xs.getD (off + j) false).free (spAt sp off2) n i)) (rowRt w d h len off xs ls off2 sp))
 | 0, i, hi => by
  obtain rfl : i = ls := by omega
  refine ⟨fun _ => .done ?_ (by simp), fun h => by simp [allFree] at h⟩
  rw [rt_round, decide_eq_false (by omega), cond_false]
  rfl
 | n + 1, i, hi => by
  have hr := rt_round w d h len off xs ls off2 sp i
  have hfi : fitsB (sp.getD (off2 + i) Knd.vec.dflt) = true := by
   show fitsB (sp.getD (off2 + i) ⟨0, 0, 0⟩) = true
   rw [List.getD_eq_getElem?_getD, List.getElem?_eq_getElem (by omega)]
   exact List.all_eq_true.1 hf _ (List.getElem_mem _)
  have e1 : ((i : Int)).toNat = i := by omega
  have hb : fitsB (V3.mk 26214 26214 58982) = true := fitsB_iff.2 boxV_fits
  have hc1 : fitsB ((sp.getD (off2 + i) Knd.vec.dflt).minus (V3.mk 26214 26214 58982)) = true := fitsB_iff.2 (minus_fits _ _)
  have hc2 : fitsB ((sp.getD (off2 + i) Knd.vec.dflt).plus (V3.mk 26214 26214 58982)) = true := fitsB_iff.2 (plus_fits _ _)
  rw [e1, decide_eq_true (show (i : Int) < (ls : Int) by omega), decide_eq_true (show (0 : Int) ≤ (i : Int) by omega), decide_eq_true (show off2 + i < sp.length by omega), hfi, hb, hm, hl, hc1, hc2, IntWalk.i64_in ((i : Int) + 1) (by omega)] at hr
  simp only [Bool.and_true, cond_true] at hr
  rw [show (mpOf w d h len fun j => xs.getD (off + j) false).clear ((sp.getD (off2 + i) Knd.vec.dflt).minus (V3.mk 26214 26214 58982)) ((sp.getD (off2 + i) Knd.vec.dflt).plus (V3.mk 26214 26214 58982)) = (mpOf w d h len fun j => xs.getD (off + j) false).free (spAt sp off2 i) from rfl] at hr
  have ih := rt_loop hm hl h2 h3 hf n (i + 1) (by omega)
  unfold allFree firstBad
  cases hq : (mpOf w d h len fun j => xs.getD (off + j) false).free (spAt sp off2 i) with
  | true =>
   rw [hq, Bool.not_true, cond_false] at hr
   simp only [Bool.true_and, cond_true]
   rw [show (i : Int) + 1 = ((i + 1 : Nat) : Int) by omega] at hr
   exact ⟨fun h => .more hr (ih.1 h), fun h => .more hr (ih.2 h)⟩
  | false =>
   rw [hq, Bool.not_false, cond_true] at hr
   simp only [Bool.false_and, cond_false]
   exact ⟨fun h => (by cases h), fun _ => .done hr (by simp)⟩
end

noncomputable def outRt (v : List SV) (R : List Row) (k : Ex → List SV → List Row → Option Res2) : Option Res2 := match v, R with
 | [.slice 1 3 off2 ls none, .fn fid [.ptr 2 0 0 0, .ptr 3 0 0 0], .int .i64 s, .int .i64 l, .int .i64 i],
  [.vec true .bool xs, .vec true .vec sp, .own [.int .i64 w, .int .i64 d, .int .i64 h, .slice 0 1 off len none, .slice 1 3 off2' ls' none], .own [.int .i64 b0, .int .i64 b1, .int .i64 b2]] =>
   bif (Nat.beq fid 43 && (decide (s = 0) && (decide (l = (ls : Int)) && (decide (i = 0) && (decide (off2' = off2) && (decide (ls' = ls) && (decide (b0 = 26214) && (decide (b1 = 26214) && decide (b2 = 58982))))))))) && (mapOk w d h len && (decide (off + len ≤ xs.length) && (decide (off2 + ls ≤ sp.length) && (decide (ls ≤ 9223372036854775807) && sp.all fitsB)))) then
    (bif allFree (mpOf w d h len fun j => xs.getD (off + j) false).free (spAt sp off2) ls 0 then k (.exit 0) (valRt ls off2 0 ls) (rowRt w d h len off xs ls off2 sp)
    else k .ret (valRt ls off2 (firstBad (mpOf w d h len fun j => xs.getD (off + j) false).free (spAt sp off2) ls 0) (firstBad (mpOf w d h len fun j => xs.getD (off + j) false).free (spAt sp off2) ls 0)) (rowRt w d h len off xs ls off2 sp)) else none
 | _, _ => none
theorem lpoRt_ok : LpOk 67 [0, 1, 0, 1] (loopF 19 [0, 1, 4, 7, 8] outRt) := by
 intro b hat s K r h
 refine loopF_ok (fuel := 100) xRt_ok lok_none hat (fun v R k r hr => ?_) h
 have hbody := at_body Try.func67 hat
 subst hbody
 unfold outRt at hr
 split at hr
 · rename_i off2 ls fid s l i xs sp w d h off len off2' ls' b0 b1 b2
   obtain ⟨hb, hr2⟩ := cond_some hr
   simp only [Bool.and_eq_true, decide_eq_true_eq] at hb
   obtain ⟨⟨h1, h2, h3, h4, h5, h6, h7, h8, h9⟩, k1, k2, k3, k4, k5⟩ := hb
   obtain rfl := Nat.eq_of_beq_eq_true h1
   subst h2 h3 h4 h5 h6 h7 h8 h9
   have hl := rt_loop k1 (decide_eq_true k2) k3 k4 k5 ls' 0 (by omega)
   cases hq : allFree (mpOf w d h len fun j => xs.getD (off + j) false).free (spAt sp off2') ls' 0 with
   | true =>
    rw [hq, cond_true] at hr2
    exact ⟨_, _, _, hr2, hl.1 hq⟩
   | false =>
    rw [hq, cond_false] at hr2
    exact ⟨_, _, _, hr2, hl.2 hq⟩
 · cases hr
noncomputable def lpoRt : Lpo := ⟨_, _, _, lpoRt_ok⟩

theorem right_tree (w d h : Int) (len off : Nat) (xs : List Bool) (ls off2 : Nat) (sp : List V3) : runK xRt (loopOf [lpoRt]) 300 27 Try.f27 0 [mapS w d h (.slice 0 1 off len none) (.slice 1 3 off2 ls none)] [.vec true .bool xs, .vec true .vec sp] =
 bif mapOk w d h len && decide (off + len ≤ xs.length) then
 bif bif (bif (!(mpOf w d h len fun j => xs.getD (off + j) false).sized) == false then (↑ls : Int) == 0 else true) == false then decide ((↑ls : Int) > 64) else true then
 some (.int .i64 1, [])
 else
 bif
 decide ((↑ls : Int) = (↑ls : Int)) && (decide (off2 = off2) && (decide (ls = ls) && true)) &&
 (mapOk w d h len && (decide (off + len ≤ xs.length) && (decide (off2 + ls ≤ sp.length) && (decide (ls ≤ 9223372036854775807) && sp.all fitsB)))) then
 bif allFree (mpOf w d h len fun j => xs.getD (off + j) false).free (spAt sp off2) ls 0 then some (.int .i64 0, []) else some (.int .i64 1, [])
 else none
 else none := by kernel_rfl

def rightE (b : Bool) : Int := bif b then 0 else 1
noncomputable def Mp.right (m : Mp) (sp : Nat → V3) (ls : Nat) : Bool := (m.sized && (!((ls : Int) == 0) && !decide ((ls : Int) > 64))) && allFree m.free sp ls 0
theorem allFree_iff {f : V3 → Bool} {sp : Nat → V3} : ∀ {n i : Nat}, allFree f sp n i = true ↔ ∀ j, i ≤ j → j < i + n → f (sp j) = true
 | 0, i => by simp [allFree]; intro j h1 h2; omega
 | n + 1, i => by
  rw [allFree, Bool.and_eq_true, allFree_iff]
  constructor
  · rintro ⟨h1, h2⟩ j h3 h4
    by_cases hj : j = i
    · subst hj; exact h1
    · exact h2 j (by omega) (by omega)
  · intro h
    exact ⟨h i (by omega) (by omega), fun j h3 h4 => h j (by omega) (by omega)⟩

theorem right_val {w d h : Int} {len off : Nat} {xs : List Bool} {ls off2 : Nat} {sp : List V3} (hm : mapOk w d h len = true) (hl : decide (off + len ≤ xs.length) = true) (h2 : off2 + ls ≤ sp.length) (h3 : ls ≤ 9223372036854775807) (hf : sp.all fitsB = true) :
    runK xRt (loopOf [lpoRt]) 300 27 Try.f27 0 [mapS w d h (.slice 0 1 off len none) (.slice 1 3 off2 ls none)] [.vec true .bool xs, .vec true .vec sp] =
     some (.int .i64 (rightE ((mpOf w d h len fun j => xs.getD (off + j) false).right (spAt sp off2) ls)), []) := by
 rw [right_tree]
 have c1 : (decide ((ls : Int) = (ls : Int)) && (decide (off2 = off2) && (decide (ls = ls) && true))) = true := by simp
 rw [c1, hm, hl, decide_eq_true h2, decide_eq_true h3, hf]
 unfold Mp.right
 simp only [Bool.and_true, cond_true, or_form]
 cases (mpOf w d h len fun j => xs.getD (off + j) false).sized <;> cases ((ls : Int) == 0) <;> cases decide ((ls : Int) > 64) <;> cases allFree (mpOf w d h len fun j => xs.getD (off + j) false).free (spAt sp off2) ls 0 <;> rfl

noncomputable def oRight (args : List SV) (rows : List Row) : Option Eff :=
 match args with
 | [.agg [.int .i64 w, .int .i64 d, .int .i64 h, .slice id 1 off len none, .slice id2 3 off2 ls none]] => match rows[id]?, rows[id2]? with
  | some (.vec true .bool xs), some (.vec true .vec sp) => some { ok := mapOk w d h len && (decide (off + len ≤ xs.length) && (decide (off2 + ls ≤ sp.length) && (decide (ls ≤ 9223372036854775807) && sp.all fitsB))), val := .int .i64 (rightE ((mpOf w d h len fun j => xs.getD (off + j) false).right (spAt sp off2) ls)), rd := [id, id2] }
  | _, _ => none
 | _ => none
theorem oRight_ok {args : List SV} {rows : List Row} {e : Eff} (h : oRight args rows = some e) (hok : e.ok = true) : FnOk Try.prog 27 args (rows[·]?) rows.length e := by
 unfold oRight at h
 split at h
 · rename_i wd dd hd id off len id2 off2 ls
   split at h
   · rename_i xs sp h1 h2
     cases h
     simp only [Bool.and_eq_true, decide_eq_true_eq] at hok
     obtain ⟨k1, k2, k3, k4, k5⟩ := hok
     obtain ⟨rows', hc, _⟩ := runK_ok xRt_ok loopOf_ok Try.func27 (right_val (xs := xs) (sp := sp) k1 (decide_eq_true k2) k3 k4 k5)
     have l1 := (List.getElem?_eq_some_iff.1 h1).1
     have l2 := (List.getElem?_eq_some_iff.1 h2).1
     have hne : id ≠ id2 := by intro he; subst he; rw [h1] at h2; cases h2
     refine fnOk_quiet2 hc l1 l2 hne h1 h2 rfl ?_
     intro i hi
     simp [SV.idsL, SV.ids, mapS] at hi
     omega
   · cases h
 · cases h
noncomputable def orcRight : Orc := ⟨27, oRight, fun _ _ _ h hok => oRight_ok h hok, bodied Try.func27 (by kernel_rfl)⟩

theorem mask_in {a c : Int} (n : Nat) (hc : c = n) (hn : n < 9223372036854775808) : 0 ≤ IntKind.i64.wrap ((BitVec.ofInt IntKind.i64.bits a &&& BitVec.ofInt IntKind.i64.bits c).toNat : Int) ∧ IntKind.i64.wrap ((BitVec.ofInt IntKind.i64.bits a &&& BitVec.ofInt IntKind.i64.bits c).toNat : Int) ≤ c := by
 subst hc
 have h : (BitVec.ofInt IntKind.i64.bits a &&& BitVec.ofInt IntKind.i64.bits (n : Int)).toNat ≤ n := by
  rw [BitVec.toNat_and]
  refine Nat.le_trans Nat.and_le_right ?_
  rw [BitVec.toNat_ofInt]
  show ((n : Int) % ((2 ^ 64 : Nat) : Int)).toNat ≤ n
  omega
 generalize (BitVec.ofInt IntKind.i64.bits a &&& BitVec.ofInt IntKind.i64.bits (n : Int)).toNat = k at h
 rw [IntWalk.i64_in (k : Int) (by omega)]
 omega
theorem right_facts {w d h : Int} {len ls : Nat} {xs : List Bool} {sp : List V3} (hw : In64 w) (hd : In64 d) (hh : In64 h) (hl : len ≤ 9223372036854775807) (hx : xs.length = len) (hs : ls ≤ 9223372036854775807) (hy : sp.length = ls) (hf : ∀ p ∈ sp, p.fits) :
    (mapOk w d h len && (decide (0 + len ≤ xs.length) && (decide (0 + ls ≤ sp.length) && (decide (ls ≤ 9223372036854775807) && sp.all fitsB)))) = true ∧ mapOk w d h len = true ∧ decide (0 + len ≤ xs.length) = true := by
 have h1 : mapOk w d h len = true := by
  unfold mapOk
  simp only [Bool.and_eq_true, in64B_iff, decide_eq_true_eq]
  exact ⟨hw, hd, hh, by omega⟩
 have h2 : decide (0 + len ≤ xs.length) = true := by rw [decide_eq_true_eq]; omega
 refine ⟨?_, h1, h2⟩
 rw [h1, h2]
 simp only [Bool.true_and, Bool.and_eq_true, decide_eq_true_eq]
 exact ⟨by omega, hs, List.all_eq_true.2 fun p hp => fitsB_iff.2 (hf p hp)⟩

end Go.Proofs.Ytimkhidniolpeaa

namespace Go.Proofs.Ytimkhidniolpeaa
set_option linter.unusedSimpArgs false
set_option linter.unusedVariables false
set_option maxRecDepth 100000
set_option maxHeartbeats 0
open Go.RowKit

noncomputable def xWn : Ctx := ctxOf [28] [orcRight] roW
theorem xWn_ok : COk Try.prog xWn := ctxOf_ok (by kernel_rfl)
def newC (w d h : Int) (len off : Nat) (xs : List Bool) (ls off2 : Nat) (sp : List V3) : Bool := mapOk w d h len && (decide (off + len ≤ xs.length) && (decide (off2 + ls ≤ sp.length) && (decide (ls ≤ 9223372036854775807) && sp.all fitsB)))
noncomputable def newV (w d h : Int) (len off : Nat) (xs : List Bool) (ls off2 : Nat) (sp : List V3) : Bool := (mpOf w d h len fun j => xs.getD (off + j) false).right (spAt sp off2) ls
def bigA (off len n b : Nat) : Bool := decide (off + len ≤ n) && (decide (0 + len ≤ 9223372036854775807) && decide ((0 + len) * b ≤ 140737488355328))
def newG (w d h : Int) (len off : Nat) (xs : List Bool) (ls off2 : Nat) (sp : List V3) : WS := ⟨w, d, h, (xs.drop off).take len, (sp.drop off2).take ls, 0, [], [], 0, 0⟩
noncomputable def newT (w d h : Int) (len off : Nat) (xs : List Bool) (ls off2 : Nat) (sp : List V3) : Option Res2 :=
 bif newC w d h len off xs ls off2 sp then (bif rightE (newV w d h len off xs ls off2 sp) != 0 then some (.tuple [.nilp, .int .i64 (rightE (newV w d h len off xs ls off2 sp))], []) else
  bif (none : Option Nat).isSome || Nat.blt 0 len then (bif bigA off len xs.length 1 then (bif (none : Option Nat).isSome || Nat.blt 0 ls then (bif bigA off2 ls sp.length 24 then
   some (.tuple [.int .i64 0, .slice 0 0 0 (0 + len) none, .slice 0 0 0 (0 + ls) none], [.obj (newG w d h len off xs ls off2 sp)]) else none) else none) else none) else none) else none
theorem new_tree' (w d h : Int) (len off : Nat) (xs : List Bool) (ls off2 : Nat) (sp : List V3) : runG xWn (fun _ _ => none) 300 12 Try.f12 foldN [.agg [.int .i64 w, .int .i64 d, .int .i64 h, .slice 0 1 off len none, .slice 1 3 off2 ls none]] [.vec true .bool xs, .vec true .vec sp] = newT w d h len off xs ls off2 sp := by kernel_rfl

theorem sized_len {m : Mp} (h : m.sized = true) : 1 ≤ m.len ∧ m.len ≤ 32768 := by
 obtain ⟨⟨⟨a1, a2⟩, ⟨b1, b2⟩, ⟨c1, c2⟩⟩, hl⟩ := sized_iff.1 h
 have h1 : 1 ≤ m.w * m.d := by
  have := Int.mul_le_mul a1 b1 (by omega) (by omega)
  simpa using this
 have h2 : m.w * m.d ≤ 32 * 32 := Int.mul_le_mul a2 b2 (by omega) (by omega)
 have h3 : 1 ≤ m.w * m.d * m.h := by
  have := Int.mul_le_mul h1 c1 (by omega) (by omega)
  simpa using this
 have h4 : m.w * m.d * m.h ≤ 32 * 32 * 32 := Int.mul_le_mul h2 c2 (by omega) (by omega)
 omega

theorem new_ends {w d h : Int} {len off : Nat} {xs : List Bool} {ls off2 : Nat} {sp : List V3} (hc : newC w d h len off xs ls off2 sp = true) (hv : newV w d h len off xs ls off2 sp = true) :
    NewEnds (newT w d h len off xs ls off2 sp) (newG w d h len off xs ls off2 sp) := by
 have hv' := hv
 unfold newV Mp.right at hv'
 simp only [Bool.and_eq_true, Bool.not_eq_true', beq_eq_false_iff_ne, decide_eq_false_iff_not] at hv'
 obtain ⟨⟨hs, h1, h2⟩, _⟩ := hv'
 have hl := sized_len hs
 have hl1 : 1 ≤ len := hl.1
 have hl2 : len ≤ 32768 := hl.2
 have hc' := hc
 unfold newC at hc'
 simp only [Bool.and_eq_true, decide_eq_true_eq] at hc'
 obtain ⟨_, g1, g2, g3, _⟩ := hc'
 have b1 : Nat.blt 0 len = true := by rw [Nat.blt_eq]; omega
 have b2 : Nat.blt 0 ls = true := by rw [Nat.blt_eq]; omega
 have a1 : bigA off len xs.length 1 = true := by simp only [bigA, Bool.and_eq_true, decide_eq_true_eq]; omega
 have a2 : bigA off2 ls sp.length 24 = true := by simp only [bigA, Bool.and_eq_true, decide_eq_true_eq]; omega
 unfold newT
 rw [hc, hv, b1, b2, a1, a2]
 refine ⟨_, _, _, _, rfl, ?_, .inl (by omega), ?_, .inl (by omega)⟩
 · simp only [newG, List.length_take, List.length_drop]; omega
 · simp only [newG, List.length_take, List.length_drop]; omega

theorem FnOkO.weak {P : Program} {f : Nat} {args args' : List SV} {m : Rws} {n : Nat} {e : Eff} (h : FnOkO P f args m n e) (ha : ∀ ρ vs, RelL ρ args' vs → RelL ρ args vs) : FnOkO P f args' m n e :=
 fun ρ m1 vargs w h1 h2 h3 h4 h5 => h ρ m1 vargs w h1 h2 h3 (ha ρ vargs h4) h5

noncomputable def oNewG (args : List SV) (rows : List Row) : Option Eff := match args with
 | [.agg [.int .i64 w, .int .i64 d, .int .i64 h, .slice id 1 off len _, .slice id2 3 off2 ls _]] => match rows[id]?, rows[id2]? with
  | some (.vec _ .bool xs), some (.vec _ .vec sp) => some { ok := newC w d h len off xs ls off2 sp && newV w d h len off xs ls off2 sp, val := .tuple [.ptr rows.length 0 0 0, .int .i64 0], rd := [id, id2], nw := [.obj (newG w d h len off xs ls off2 sp)] }
  | _, _ => none
 | _ => none
theorem oNewG_ok {args : List SV} {rows : List Row} {e : Eff} (h : oNewG args rows = some e) (hok : e.ok = true) : FnOkO Try.prog 12 args (rows[·]?) rows.length e := by
 unfold oNewG at h
 split at h
 · rename_i w d hh id off len c1 id2 off2 ls c2
   split at h
   · rename_i r1 xs r2 sp h1 h2
     cases h
     rw [Bool.and_eq_true] at hok
     have hn : NewEnds (runG xWn (fun _ _ => none) 300 12 Try.f12 foldN [.agg [.int .i64 w, .int .i64 d, .int .i64 hh, .slice 0 1 off len none, .slice 1 3 off2 ls none]] [.vec true .bool xs, .vec true .vec sp]) (newG w d hh len off xs ls off2 sp) :=
      (new_tree' w d hh len off xs ls off2 sp) ▸ new_ends hok.1 hok.2
     have := fnOkO_new (n := rows.length) (ok := newC w d hh len off xs ls off2 sp && newV w d hh len off xs ls off2 sp) xWn_ok lok_none Try.func12 hn (by simp [SV.idsL, SV.ids]) h1 h2
     refine this.weak fun ρ vs hr => ?_
     match vs, hr with
     | [v], hr =>
      simp only [renFL, renF, relL_cons, relL_nil, and_true] at hr ⊢
      simp only [Rel] at hr ⊢
      obtain ⟨us, rfl, hr⟩ := hr
      refine ⟨us, rfl, ?_⟩
      match us, hr with
      | [u0, u1, u2, u3, u4], hr =>
       simp only [relL_cons, relL_nil, and_true] at hr ⊢
       obtain ⟨a0, a1, a2, a3, a4⟩ := hr
       exact ⟨a0, a1, a2, rel_nocap a3, rel_nocap a4⟩
      | [], hr => exact absurd hr.length (by simp)
      | [_], hr => exact absurd hr.length (by simp)
      | [_, _], hr => exact absurd hr.length (by simp)
      | [_, _, _], hr => exact absurd hr.length (by simp)
      | [_, _, _, _], hr => exact absurd hr.length (by simp)
      | _ :: _ :: _ :: _ :: _ :: _ :: _, hr => exact absurd hr.length (by simp)
     | [], hr => exact absurd hr.length (by simp)
     | _ :: _ :: _, hr => exact absurd hr.length (by simp)
   · cases h
 · cases h
noncomputable def orcNewG : OrcO := ⟨12, oNewG, fun _ _ _ h hok => oNewG_ok h hok, bodied Try.func12 (by kernel_rfl)⟩

end Go.Proofs.Ytimkhidniolpeaa

namespace Go.Proofs.Ytimkhidniolpeaa
set_option linter.unusedSimpArgs false
set_option linter.unusedVariables false
set_option maxRecDepth 100000
set_option maxHeartbeats 0
open Go.RowKit

theorem fnOkO_obj {P : Program} {f : Nat} {ds : List SV} {s s' : WS} {v : SV} {rows' : List Row} {ok : Bool} (hds : SV.idsL ds = []) (hc : CallOkO P f (.ptr 0 0 0 0 :: ds) [.obj s] v rows') (h0 : rows'[0]? = some (.obj s')) (hv : v.ids = [])
    {m : Rws} {n g : Nat} (hm : m g = some (.obj s)) : FnOkO P f (.ptr g 0 0 0 :: ds) m n { ok := ok, val := v, rd := [g], wr := [(g, .obj s')] } := by
 intro ρ m1 vargs w hrd _ hfree hargs hW
 have hm1 : m1 g = some (.obj s) := by rw [hrd g (by simp), hm]
 obtain ⟨p, hp, hb0, hmi, his⟩ := hW.obj.is g s hm1
 let ρ0 : Rho := fun i => if i = 0 then ρ g else none
 have h00 : ρ0 0 = some p := by simp only [ρ0, if_pos]; exact hp
 have hz : ∀ i q, ρ0 i = some q → i = 0 ∧ q = p := by
  intro i q h
  simp only [ρ0] at h
  split at h
  · rw [hp] at h; cases h; exact ⟨by assumption, rfl⟩
  · cases h
 have hone : ∀ i (row : Row), ([.obj s] : List Row)[i]? = some row → i = 0 ∧ row = .obj s := by
  intro i row hi
  match i, hi with
  | 0, hi => simp at hi; exact ⟨rfl, hi.symm⟩
  | i + 1, hi => simp at hi
 have hnl : ∀ i, ¬ liveAt (fun i => ([.obj s] : List Row)[i]?) i := by
  rintro i ⟨row, h1, h2⟩
  obtain ⟨_, rfl⟩ := hone i row h1
  simp [Row.live] at h2
 have hW0 : WRel ρ0 (fun i => ([.obj s] : List Row)[i]?) w := by
  refine ⟨fun i q h => ?_, fun i row hi => ?_, fun i j _ _ hi => absurd hi (hnl i), fun i hi => ?_, ⟨fun i t hi => ?_, fun i t q _ _ x _ j _ hj => absurd hj (hnl j), fun i j t u _ _ hi hj hij => ?_⟩⟩
  · obtain ⟨_, rfl⟩ := hz i q h; exact hW.good g q hp
  · obtain ⟨_, rfl⟩ := hone i row hi; trivial
  · simp only [ρ0]
    rw [if_neg (fun h => by subst h; simp at hi)]
  · obtain ⟨rfl, he⟩ := hone i _ hi
    cases he
    exact ⟨p, h00, hb0, hmi, his⟩
  · obtain ⟨rfl, _⟩ := hone i _ hi
    obtain ⟨rfl, _⟩ := hone j _ hj
    exact absurd rfl hij
 have hargs0 : RelL ρ0 (.ptr 0 0 0 0 :: ds) vargs := by
  match vargs, hargs with
  | v0 :: vs, hargs =>
   rw [relL_cons] at hargs ⊢
   refine ⟨?_, RelL.only _ _ (fun i hi => by rw [hds] at hi; cases hi) hargs.2⟩
   have := hargs.1
   simp only [Rel] at this ⊢
   obtain ⟨q, hq, hv⟩ := this
   rw [hp] at hq; cases hq
   exact ⟨p, h00, hv⟩
  | [], hargs => simp [RelL] at hargs
 refine (hc ρ0 vargs w hargs0 hW0).mono ?_
 rintro en w' ⟨u, ρ1, rfl, hu, hW1, hp1⟩
 have h10 := hp1.le 0 p h00
 obtain ⟨p1, hp1', _, _, his'⟩ := hW1.obj.is 0 s' h0
 rw [h10] at hp1'; cases hp1'
 have hmay : ∀ b, mayO ρ0 (fun i => ([.obj s] : List Row)[i]?) w b → WFoot w p.b b := by
  rintro b (⟨i, q, hl, _⟩ | ⟨i, t, q, hi, hq, hx⟩)
  · exact absurd hl (hnl i)
  · obtain ⟨_, rfl⟩ := hz i q hq; exact hx
 obtain ⟨g1, g2⟩ := game_close (n := n) (nw := []) (ρn := fun _ => none) hW hm1 hp (hp1.frm.weaken fun b _ hb => hmay b hb) his' (fun x hx => (hp1.foot 0 s' p h0 h10 x hx).symm.imp (hmay x) id) hfree (by simp) (by simp) (fun _ _ h => by cases h) (fun _ _ _ _ _ h => by cases h)
 exact ⟨u, _, rfl, Rel.only _ _ (fun i hi => by rw [hv] at hi; cases hi) hu, g1, g2⟩

noncomputable def xDo : Ctx := ctxOfO [] [] [orcDoW, orcFireW, orcTickW, orcJoinW, orcLeaveW]
theorem xDo_ok : COk Try.prog xDo := ctxOfO_ok (by kernel_rfl)

end Go.Proofs.Ytimkhidniolpeaa

namespace Go.Proofs.Ytimkhidniolpeaa
set_option linter.unusedSimpArgs false
set_option linter.unusedVariables false
set_option maxRecDepth 100000
set_option maxHeartbeats 0
open Go.RowKit

theorem does_tree (s : WS) (o : WOp) : runG xDo (fun _ _ => none) 300 22 Try.f22 (fun v rows => some (v, rows.take 1)) [.ptr 0 0 0 0, .agg o.sv] [.obj s] =
 bif o.kind == 0 then
 bif o.kind == 0 then
 bif mapB s then some (SV.agg [.int .i64 0, .int .i64 (doL s o.player o.cmd s.ps).fst], [Row.obj (doS s o.player (Cm.mk o.cmd.seq o.cmd.buttons o.cmd.dx o.cmd.dy o.cmd.ticks))])
 else none
 else
 bif o.kind == 2 then
 bif o.kind == 2 then
 bif okFire s o.player o.shot o.dir o.ahead then
 some
 (SV.agg [.int .i64 (fireS s o.player o.shot o.dir o.ahead).snd.fst, .int .i64 (fireS s o.player o.shot o.dir o.ahead).snd.snd],
 [Row.obj (fireS s o.player o.shot (V3.mk o.dir.x o.dir.y o.dir.z) o.ahead).fst])
 else none
 else
 bif o.kind == 4 then
 bif o.kind == 4 then bif okTick s then some (SV.agg [.int .i64 0, .int .i64 0], [Row.obj (tickW s)]) else none
 else
 bif o.kind == 7 then
 bif okJ s then some (SV.agg [.int .i64 (bif fullB s then 0 else IntKind.i64.wrap (s.given + 1)), .int .i64 (bif fullB s then 5 else 0)], [Row.obj (joinW s)]) else none
 else
 bif o.kind == 8 then some (SV.agg [.int .i64 0, .int .i64 (bif thereB o.player s.ps then 0 else 6)], [Row.obj (leaveW s o.player)])
 else some (SV.agg [.int .i64 0, .int .i64 0], [Row.obj s])
 else
 bif o.kind == 5 then
 bif o.kind == 5 then bif okTick s then some (SV.agg [.int .i64 0, .int .i64 0], [Row.obj (tickW s)]) else none
 else
 bif o.kind == 7 then
 bif okJ s then some (SV.agg [.int .i64 (bif fullB s then 0 else IntKind.i64.wrap (s.given + 1)), .int .i64 (bif fullB s then 5 else 0)], [Row.obj (joinW s)])
 else none
 else
 bif o.kind == 8 then some (SV.agg [.int .i64 0, .int .i64 (bif thereB o.player s.ps then 0 else 6)], [Row.obj (leaveW s o.player)])
 else some (SV.agg [.int .i64 0, .int .i64 0], [Row.obj s])
 else
 bif o.kind == 6 then bif okTick s then some (SV.agg [.int .i64 0, .int .i64 0], [Row.obj (tickW s)]) else none
 else
 bif o.kind == 7 then
 bif okJ s then some (SV.agg [.int .i64 (bif fullB s then 0 else IntKind.i64.wrap (s.given + 1)), .int .i64 (bif fullB s then 5 else 0)], [Row.obj (joinW s)])
 else none
 else
 bif o.kind == 8 then some (SV.agg [.int .i64 0, .int .i64 (bif thereB o.player s.ps then 0 else 6)], [Row.obj (leaveW s o.player)])
 else some (SV.agg [.int .i64 0, .int .i64 0], [Row.obj s])
 else
 bif o.kind == 3 then
 bif okFire s o.player o.shot o.dir o.ahead then
 some
 (SV.agg [.int .i64 (fireS s o.player o.shot o.dir o.ahead).snd.fst, .int .i64 (fireS s o.player o.shot o.dir o.ahead).snd.snd],
 [Row.obj (fireS s o.player o.shot (V3.mk o.dir.x o.dir.y o.dir.z) o.ahead).fst])
 else none
 else
 bif o.kind == 4 then
 bif o.kind == 4 then bif okTick s then some (SV.agg [.int .i64 0, .int .i64 0], [Row.obj (tickW s)]) else none
 else
 bif o.kind == 7 then
 bif okJ s then some (SV.agg [.int .i64 (bif fullB s then 0 else IntKind.i64.wrap (s.given + 1)), .int .i64 (bif fullB s then 5 else 0)], [Row.obj (joinW s)]) else none
 else
 bif o.kind == 8 then some (SV.agg [.int .i64 0, .int .i64 (bif thereB o.player s.ps then 0 else 6)], [Row.obj (leaveW s o.player)])
 else some (SV.agg [.int .i64 0, .int .i64 0], [Row.obj s])
 else
 bif o.kind == 5 then
 bif o.kind == 5 then bif okTick s then some (SV.agg [.int .i64 0, .int .i64 0], [Row.obj (tickW s)]) else none
 else
 bif o.kind == 7 then
 bif okJ s then some (SV.agg [.int .i64 (bif fullB s then 0 else IntKind.i64.wrap (s.given + 1)), .int .i64 (bif fullB s then 5 else 0)], [Row.obj (joinW s)])
 else none
 else
 bif o.kind == 8 then some (SV.agg [.int .i64 0, .int .i64 (bif thereB o.player s.ps then 0 else 6)], [Row.obj (leaveW s o.player)])
 else some (SV.agg [.int .i64 0, .int .i64 0], [Row.obj s])
 else
 bif o.kind == 6 then bif okTick s then some (SV.agg [.int .i64 0, .int .i64 0], [Row.obj (tickW s)]) else none
 else
 bif o.kind == 7 then
 bif okJ s then some (SV.agg [.int .i64 (bif fullB s then 0 else IntKind.i64.wrap (s.given + 1)), .int .i64 (bif fullB s then 5 else 0)], [Row.obj (joinW s)])
 else none
 else
 bif o.kind == 8 then some (SV.agg [.int .i64 0, .int .i64 (bif thereB o.player s.ps then 0 else 6)], [Row.obj (leaveW s o.player)])
 else some (SV.agg [.int .i64 0, .int .i64 0], [Row.obj s])
 else
 bif o.kind == 1 then
 bif mapB s then some (SV.agg [.int .i64 0, .int .i64 (doL s o.player o.cmd s.ps).fst], [Row.obj (doS s o.player (Cm.mk o.cmd.seq o.cmd.buttons o.cmd.dx o.cmd.dy o.cmd.ticks))])
 else none
 else
 bif o.kind == 2 then
 bif o.kind == 2 then
 bif okFire s o.player o.shot o.dir o.ahead then
 some
 (SV.agg [.int .i64 (fireS s o.player o.shot o.dir o.ahead).snd.fst, .int .i64 (fireS s o.player o.shot o.dir o.ahead).snd.snd],
 [Row.obj (fireS s o.player o.shot (V3.mk o.dir.x o.dir.y o.dir.z) o.ahead).fst])
 else none
 else
 bif o.kind == 4 then
 bif o.kind == 4 then bif okTick s then some (SV.agg [.int .i64 0, .int .i64 0], [Row.obj (tickW s)]) else none
 else
 bif o.kind == 7 then
 bif okJ s then some (SV.agg [.int .i64 (bif fullB s then 0 else IntKind.i64.wrap (s.given + 1)), .int .i64 (bif fullB s then 5 else 0)], [Row.obj (joinW s)]) else none
 else
 bif o.kind == 8 then some (SV.agg [.int .i64 0, .int .i64 (bif thereB o.player s.ps then 0 else 6)], [Row.obj (leaveW s o.player)])
 else some (SV.agg [.int .i64 0, .int .i64 0], [Row.obj s])
 else
 bif o.kind == 5 then
 bif o.kind == 5 then bif okTick s then some (SV.agg [.int .i64 0, .int .i64 0], [Row.obj (tickW s)]) else none
 else
 bif o.kind == 7 then
 bif okJ s then some (SV.agg [.int .i64 (bif fullB s then 0 else IntKind.i64.wrap (s.given + 1)), .int .i64 (bif fullB s then 5 else 0)], [Row.obj (joinW s)])
 else none
 else
 bif o.kind == 8 then some (SV.agg [.int .i64 0, .int .i64 (bif thereB o.player s.ps then 0 else 6)], [Row.obj (leaveW s o.player)])
 else some (SV.agg [.int .i64 0, .int .i64 0], [Row.obj s])
 else
 bif o.kind == 6 then bif okTick s then some (SV.agg [.int .i64 0, .int .i64 0], [Row.obj (tickW s)]) else none
 else
 bif o.kind == 7 then
 bif okJ s then some (SV.agg [.int .i64 (bif fullB s then 0 else IntKind.i64.wrap (s.given + 1)), .int .i64 (bif fullB s then 5 else 0)], [Row.obj (joinW s)])
 else none
 else
 bif o.kind == 8 then some (SV.agg [.int .i64 0, .int .i64 (bif thereB o.player s.ps then 0 else 6)], [Row.obj (leaveW s o.player)])
 else some (SV.agg [.int .i64 0, .int .i64 0], [Row.obj s])
 else
 bif o.kind == 3 then
 bif okFire s o.player o.shot o.dir o.ahead then
 some
 (SV.agg [.int .i64 (fireS s o.player o.shot o.dir o.ahead).snd.fst, .int .i64 (fireS s o.player o.shot o.dir o.ahead).snd.snd],
 [Row.obj (fireS s o.player o.shot (V3.mk o.dir.x o.dir.y o.dir.z) o.ahead).fst])
 else none
 else
 bif o.kind == 4 then
 bif o.kind == 4 then bif okTick s then some (SV.agg [.int .i64 0, .int .i64 0], [Row.obj (tickW s)]) else none
 else
 bif o.kind == 7 then
 bif okJ s then some (SV.agg [.int .i64 (bif fullB s then 0 else IntKind.i64.wrap (s.given + 1)), .int .i64 (bif fullB s then 5 else 0)], [Row.obj (joinW s)]) else none
 else
 bif o.kind == 8 then some (SV.agg [.int .i64 0, .int .i64 (bif thereB o.player s.ps then 0 else 6)], [Row.obj (leaveW s o.player)])
 else some (SV.agg [.int .i64 0, .int .i64 0], [Row.obj s])
 else
 bif o.kind == 5 then
 bif o.kind == 5 then bif okTick s then some (SV.agg [.int .i64 0, .int .i64 0], [Row.obj (tickW s)]) else none
 else
 bif o.kind == 7 then
 bif okJ s then some (SV.agg [.int .i64 (bif fullB s then 0 else IntKind.i64.wrap (s.given + 1)), .int .i64 (bif fullB s then 5 else 0)], [Row.obj (joinW s)])
 else none
 else
 bif o.kind == 8 then some (SV.agg [.int .i64 0, .int .i64 (bif thereB o.player s.ps then 0 else 6)], [Row.obj (leaveW s o.player)])
 else some (SV.agg [.int .i64 0, .int .i64 0], [Row.obj s])
 else
 bif o.kind == 6 then bif okTick s then some (SV.agg [.int .i64 0, .int .i64 0], [Row.obj (tickW s)]) else none
 else
 bif o.kind == 7 then
 bif okJ s then some (SV.agg [.int .i64 (bif fullB s then 0 else IntKind.i64.wrap (s.given + 1)), .int .i64 (bif fullB s then 5 else 0)], [Row.obj (joinW s)])
 else none
 else
 bif o.kind == 8 then some (SV.agg [.int .i64 0, .int .i64 (bif thereB o.player s.ps then 0 else 6)], [Row.obj (leaveW s o.player)])
 else some (SV.agg [.int .i64 0, .int .i64 0], [Row.obj s]) := by kernel_rfl

noncomputable def opS (s : WS) (o : WOp) : WS × Int × Int :=
 bif o.kind == 0 || o.kind == 1 then (doS s o.player o.cmd, 0, (doL s o.player o.cmd s.ps).1) else
 bif o.kind == 2 || o.kind == 3 then fireS s o.player o.shot o.dir o.ahead else
 bif o.kind == 4 || (o.kind == 5 || o.kind == 6) then (tickW s, 0, 0) else
 bif o.kind == 7 then (joinW s, (bif fullB s then 0 else IntKind.i64.wrap (s.given + 1)), bif fullB s then 5 else 0) else
 bif o.kind == 8 then (leaveW s o.player, 0, bif thereB o.player s.ps then 0 else 6) else (s, 0, 0)
noncomputable def opOk (s : WS) (o : WOp) : Bool :=
 bif o.kind == 0 || o.kind == 1 then mapB s else
 bif o.kind == 2 || o.kind == 3 then okFire s o.player o.shot o.dir o.ahead else
 bif o.kind == 4 || (o.kind == 5 || o.kind == 6) then okTick s else
 bif o.kind == 7 then okJ s else true
theorem does_val {s : WS} {o : WOp} (h : opOk s o = true) : runG xDo (fun _ _ => none) 300 22 Try.f22 (fun v rows => some (v, rows.take 1)) [.ptr 0 0 0 0, .agg o.sv] [.obj s] =
    some (.agg [.int .i64 (opS s o).2.1, .int .i64 (opS s o).2.2], [.obj (opS s o).1]) := by
 rw [does_tree]
 unfold opOk at h
 unfold opS
 cases h0 : o.kind == 0 with
 | true => rw [h0] at h; simp only [Bool.true_or, cond_true] at h ⊢; rw [h]; rfl
 | false =>
 cases h1 : o.kind == 1 with
 | true => rw [h0, h1] at h; simp only [Bool.or_true, cond_true, cond_false] at h ⊢; rw [h]; rfl
 | false =>
 cases h2 : o.kind == 2 with
 | true => rw [h0, h1, h2] at h; simp only [Bool.true_or, Bool.or_self, cond_true, cond_false] at h ⊢; rw [h]; rfl
 | false =>
 cases h3 : o.kind == 3 with
 | true => rw [h0, h1, h2, h3] at h; simp only [Bool.or_true, Bool.or_self, cond_true, cond_false] at h ⊢; rw [h]; rfl
 | false =>
 cases h4 : o.kind == 4 with
 | true => rw [h0, h1, h2, h3, h4] at h; simp only [Bool.true_or, Bool.or_self, cond_true, cond_false] at h ⊢; rw [h]; rfl
 | false =>
 cases h5 : o.kind == 5 with
 | true => rw [h0, h1, h2, h3, h4, h5] at h; simp only [Bool.true_or, Bool.or_true, Bool.false_or, Bool.or_self, cond_true, cond_false] at h ⊢; rw [h]; rfl
 | false =>
 cases h6 : o.kind == 6 with
 | true => rw [h0, h1, h2, h3, h4, h5, h6] at h; simp only [Bool.or_true, Bool.or_self, cond_true, cond_false] at h ⊢; rw [h]; rfl
 | false =>
 cases h7 : o.kind == 7 with
 | true => rw [h0, h1, h2, h3, h4, h5, h6, h7] at h; simp only [Bool.or_self, cond_true, cond_false] at h ⊢; rw [h]; rfl
 | false =>
 cases h8 : o.kind == 8 with
 | true => simp only [Bool.or_self, cond_true, cond_false]
 | false => simp only [Bool.or_self, cond_false]
def dWOp : List SV → Option WOp
 | [.int .i64 k, .int .i64 p, .int .u16 a, .int .u8 b, .int .i8 c, .int .i8 d, .int .i64 e, .int .i64 sh, .int .i64 ah, .int .i64 x, .int .i64 y, .int .i64 z] => some ⟨k, p, ⟨a, b, c, d, e⟩, sh, ah, ⟨x, y, z⟩⟩
 | _ => none
theorem dWOp_sv {l : List SV} {o : WOp} (h : dWOp l = some o) : l = o.sv := by
 unfold dWOp at h
 split at h
 · cases h; rfl
 · cases h
noncomputable def oDoes (args : List SV) (rows : List Row) : Option Eff := match args with
 | [.ptr g 0 0 0, .agg cs] => match rows[g]?, dWOp cs with
  | some (.obj s), some o => some { ok := opOk s o, val := .agg [.int .i64 (opS s o).2.1, .int .i64 (opS s o).2.2], rd := [g], wr := [(g, .obj (opS s o).1)] }
  | _, _ => none
 | _ => none
theorem oDoes_ok {args : List SV} {rows : List Row} {e : Eff} (h : oDoes args rows = some e) (hok : e.ok = true) : FnOkO Try.prog 22 args (rows[·]?) rows.length e := by
 unfold oDoes at h
 split at h
 · rename_i g cs
   split at h
   · rename_i s o hs ho
     cases h
     rw [dWOp_sv ho]
     obtain ⟨v, rows', hk, hc⟩ := runG_ok xDo_ok lok_none Try.func22 (does_val hok)
     simp only [Option.some.injEq, Prod.mk.injEq] at hk
     obtain ⟨rfl, hk⟩ := hk
     refine fnOkO_obj (ds := [.agg o.sv]) rfl hc ?_ rfl hs
     have : (rows'.take 1)[0]? = some (.obj (opS s o).1) := by rw [hk]; rfl
     rw [List.getElem?_take] at this
     simpa using this
   · cases h
 · cases h
noncomputable def orcDoes : OrcO := ⟨22, oDoes, fun _ _ _ h hok => oDoes_ok h hok, bodied Try.func22 (by kernel_rfl)⟩

end Go.Proofs.Ytimkhidniolpeaa
