/- grid's Right, as a contract. -/
import Derived.Test.YtboljdeeodeeeaaVmOrb
import Derived.Test.YtboljdeeodeeeaaVmR
namespace Go.Proofs.Ytboljdeeodeeeaa
set_option linter.unusedSimpArgs false
set_option linter.unusedVariables false
set_option maxRecDepth 100000
open Go.RowKit

mutual
theorem rel_unmine {ρ ρ0 : Rho} : ∀ {s : SV} {u : Value}, Rel ρ s u → (∀ i ∈ s.ids, ρ0 i = (ρ i).map (fun p => { p with mine := false })) → Rel ρ0 s u
  | .top, _, _, _ => by simp [Rel]
  | .unk, _, r, _ => by simpa only [Rel] using r
  | .int .., _, r, _ => by simpa [Rel] using r
  | .bool _, _, r, _ => by simpa [Rel] using r
  | .nilp, _, r, _ => by simpa [Rel] using r
  | .nils, _, r, _ => by simpa [Rel] using r
  | .ptr id _ _ _, _, r, h => by
    simp only [Rel] at r ⊢
    obtain ⟨p, hp, hv⟩ := r
    exact ⟨{ p with mine := false }, by rw [h id (by simp [SV.ids]), hp]; rfl, hv⟩
  | .slice id _ _ _ _, _, r, h => by
    simp only [Rel] at r ⊢
    rcases r with ⟨p, o, c, hp, hv, h1, h2, h3, _⟩ | r
    · exact .inl ⟨{ p with mine := false }, o, c, by rw [h id (by simp [SV.ids]), hp]; rfl, hv, h1, h2, h3, fun h => by cases h⟩
    · exact .inr r
  | .agg xs, _, r, h => by
    simp only [Rel] at r ⊢
    obtain ⟨vs, hv, hr⟩ := r
    exact ⟨vs, hv, relL_unmine hr fun i hi => h i (by simpa [SV.ids] using hi)⟩
  | .tuple xs, _, r, h => by
    simp only [Rel] at r ⊢
    obtain ⟨vs, hv, hr⟩ := r
    exact ⟨vs, hv, relL_unmine hr fun i hi => h i (by simpa [SV.ids] using hi)⟩
  | .fn _ xs, _, r, h => by
    simp only [Rel] at r ⊢
    obtain ⟨vs, hv, hr⟩ := r
    exact ⟨vs, hv, relL_unmine hr fun i hi => h i (by simpa [SV.ids] using hi)⟩
theorem relL_unmine {ρ ρ0 : Rho} : ∀ {s : List SV} {us : List Value}, RelL ρ s us → (∀ i ∈ SV.idsL s, ρ0 i = (ρ i).map (fun p => { p with mine := false })) → RelL ρ0 s us
  | [], _, r, _ => by simpa [RelL] using r
  | x :: xs, _, r, h => by
    simp only [RelL] at r ⊢
    obtain ⟨v, vs, hv, h1, h2⟩ := r
    exact ⟨v, vs, hv, rel_unmine h1 fun i hi => h i (by simp [SV.idsL, hi]), relL_unmine h2 fun i hi => h i (by simp [SV.idsL, hi])⟩
end

/-- A call that only reads two rows of data, whatever their numbers are. -/
theorem fnOk_quiet2 {P : Program} {f : Nat} {ok : Bool} {args0 : List SV} {k1 k2 : Knd} {xs : List k1.T} {ys : List k2.T} {v : SV} {rows' : List Row} (hc : CallOk P f args0 [.vec true k1 xs, .vec true k2 ys] v rows') {rows : List Row} {i1 i2 : Nat} (l1 : i1 < rows.length) (l2 : i2 < rows.length) (hne : i1 ≠ i2)
    (h1 : rows[i1]? = some (.vec true k1 xs)) (h2 : rows[i2]? = some (.vec true k2 ys)) (hv : v.ids = []) (ha : ∀ i ∈ SV.idsL args0, i < 2) : FnOk P f (renFL (atR [i1, i2] rows.length) args0) (rows[·]?) rows.length { ok := ok, val := v, rd := [i1, i2] } := by
  intro ρ pres vargs w hargs hg hap hrd hfree
  let ρ0 : Rho := fun i => if i = 0 then (ρ i1).map (fun p => { p with mine := false }) else if i = 1 then (ρ i2).map (fun p => { p with mine := false }) else none
  have frz : ∀ (j : Nat) (k : Knd) (zs : List k.T) (i : Nat), RowAt ρ j (.vec true k zs) w → ρ0 i = (ρ j).map (fun p => { p with mine := false }) → RowAt ρ0 i (.vec true k zs) w := by
    intro j k zs i hr he
    rcases hr with ⟨_, h0⟩ | ⟨p, hp, hm, _, hcell⟩
    · exact .inl ⟨rfl, h0⟩
    · exact .inr ⟨{ p with mine := false }, by rw [he, hp]; rfl, fun _ => rfl, fun h => (by cases h), hcell⟩
  have r1 := (hrd i1 (by simp) _ h1).1
  have r2 := (hrd i2 (by simp) _ h2).1
  have m1 : ∀ p, ρ i1 = some p → ∃ q, ρ0 0 = some q ∧ q.b = p.b ∧ q.base = p.base ∧ q.size = p.size ∧ q.mine = false := fun p hp => ⟨{ p with mine := false }, by simp [ρ0, hp], rfl, rfl, rfl, rfl⟩
  have hargs0 : RelL ρ0 args0 vargs := by
    rw [relL_renF] at hargs
    refine relL_unmine hargs fun i hi => ?_
    have := ha i hi
    match i, this with
    | 0, _ => simp [ρ0, atR]
    | 1, _ => simp [ρ0, atR]
  have hmine : ∀ i p, ρ0 i = some p → p.mine = false ∧ p.b < w.heap.size := by
    intro i p h
    simp only [ρ0] at h
    split at h
    · cases hq : ρ i1 with
      | none => simp [hq] at h
      | some q => simp [hq] at h; subst h; exact ⟨rfl, hg i1 q hq⟩
    · split at h
      · cases hq : ρ i2 with
        | none => simp [hq] at h
        | some q => simp [hq] at h; subst h; exact ⟨rfl, hg i2 q hq⟩
      · cases h
  have hcall := hc ρ0 vargs w hargs0 (fun i p h => (hmine i p h).2) (fun i row h => by
      match i, h with
      | 0, h => simp at h; subst h; exact frz i1 k1 xs 0 r1 (by simp [ρ0])
      | 1, h => simp at h; subst h; exact frz i2 k2 ys 1 r2 (by simp [ρ0])
      | i + 2, h => simp at h)
    (fun i j p q _ _ hij hp hq hm => by rw [(hmine i p hp).1, (hmine j q hq).1] at hm; cases hm)
    (fun i hi => by simp at hi; simp only [ρ0]; rw [if_neg (by omega), if_neg (by omega)])
  refine hcall.mono ?_
  rintro e w' ⟨v', ρ', rfl, hr, _, _, _, _, hp⟩
  refine ⟨v', ρ, rfl, ⟨Rho.le.refl ρ, fun i p h => Nat.lt_of_lt_of_le (hg i p h) hp.frm.size, fun _ _ h => .inl h, fun i p h1 h2 => by simp at h2; omega, ?_, Rel.only _ _ (fun i hmem => by rw [hv] at hmem; cases hmem) hr, by simp, by simp, ?_⟩⟩
  · intro i j p q hi hj
    refine hap i j p q ?_ ?_
    · rcases hi with h | h
      · exact h.1
      · simp at h; omega
    · rcases hj with h | h
      · exact h.1
      · simp at h; omega
  · refine hp.frm.weaken fun b _ hb => ?_
    obtain ⟨i, p, _, h3, h4, _⟩ := hb
    rw [(hmine i p h3).1] at h4
    cases h4

noncomputable def xRt : Ctx := ctxOf [35, 39, 58] [orcSized, orcClear, orcPlus, orcMinus]
theorem xRt_ok : COk Try.prog xRt := ctxOf_ok (by kernel_rfl)

noncomputable def valRt (ls : Nat) (off2 : Nat) (s i : Int) : List SV := [.slice 1 3 off2 ls none, .fn 35 [.ptr 2 0 0 0, .ptr 3 0 0 0], .int .i64 s, .int .i64 (ls : Int), .int .i64 i]
def rowRt (w d h : Int) (len off : Nat) (xs : List Bool) (ls off2 : Nat) (sp : List V3) : List Row := [.vec true .bool xs, .vec true .vec sp, .own [.int .i64 w, .int .i64 d, .int .i64 h, .slice 0 1 off len none, .slice 1 3 off2 ls none], .own [.int .i64 26214, .int .i64 26214, .int .i64 58982]]
noncomputable def rdRt : List SV → List Row → Option Res2 := roundS xRt (fun _ _ => none) 100 58 [0, 1, 0, 1] (bodyAt Try.f58 [0, 1, 0, 1]) 19 4 [0, 1, 4, 7, 8]

set_option maxRecDepth 100000 in
set_option maxHeartbeats 0 in
theorem rt_round (w d h : Int) (len off : Nat) (xs : List Bool) (ls off2 : Nat) (sp : List V3) (i : Int) : rdRt (valRt ls off2 0 i) (rowRt w d h len off xs ls off2 sp) =
 bif decide (i < (↑ls : Int)) then
 bif decide (0 ≤ i) && decide (i < (↑ls : Int)) then
 bif decide (off2 + i.toNat < sp.length) then
 bif fitsB (sp.getD (off2 + i.toNat) Knd.vec.dflt) && fitsB (V3.mk 26214 26214 58982) then
 bif fitsB (sp.getD (off2 + i.toNat) Knd.vec.dflt) && fitsB (V3.mk 26214 26214 58982) then
 bif
 mapOk w d h len &&
 (fitsB (V3.minus (sp.getD (off2 + i.toNat) Knd.vec.dflt) (V3.mk 26214 26214 58982)) &&
 (fitsB (V3.plus (sp.getD (off2 + i.toNat) Knd.vec.dflt) (V3.mk 26214 26214 58982)) && decide (off + len ≤ xs.length))) then
 bif
 !(mpOf w d h len fun j => xs.getD (off + j) false).clear (V3.minus (sp.getD (off2 + i.toNat) Knd.vec.dflt) (V3.mk 26214 26214 58982))
 (V3.plus (sp.getD (off2 + i.toNat) Knd.vec.dflt) (V3.mk 26214 26214 58982)) then
 some
 (SV.tuple [SV.nils, SV.tuple [SV.slice 1 3 off2 ls none, SV.fn 35 [SV.ptr 2 0 0 0, SV.ptr 3 0 0 0], SV.int IntKind.i64 i, SV.int IntKind.i64 (↑ls : Int), SV.int IntKind.i64 i]],
 [Row.vec true Knd.bool xs, Row.vec true Knd.vec sp, Row.own [SV.int IntKind.i64 w, SV.int IntKind.i64 d, SV.int IntKind.i64 h, SV.slice 0 1 off len none, SV.slice 1 3 off2 ls none],
 Row.own [SV.int IntKind.i64 26214, SV.int IntKind.i64 26214, SV.int IntKind.i64 58982]])
 else
 some
 (SV.tuple
 [SV.nilp,
 SV.tuple
 [SV.slice 1 3 off2 ls none, SV.fn 35 [SV.ptr 2 0 0 0, SV.ptr 3 0 0 0], SV.int IntKind.i64 0, SV.int IntKind.i64 (↑ls : Int), SV.int IntKind.i64 (IntKind.i64.wrap (i + 1))]],
 [Row.vec true Knd.bool xs, Row.vec true Knd.vec sp, Row.own [SV.int IntKind.i64 w, SV.int IntKind.i64 d, SV.int IntKind.i64 h, SV.slice 0 1 off len none, SV.slice 1 3 off2 ls none],
 Row.own [SV.int IntKind.i64 26214, SV.int IntKind.i64 26214, SV.int IntKind.i64 58982]])
 else none
 else none
 else none
 else none
 else none
 else
 some
 (SV.tuple [SV.ptr 0 0 0 0, SV.tuple [SV.slice 1 3 off2 ls none, SV.fn 35 [SV.ptr 2 0 0 0, SV.ptr 3 0 0 0], SV.int IntKind.i64 0, SV.int IntKind.i64 (↑ls : Int), SV.int IntKind.i64 i]],
 [Row.vec true Knd.bool xs, Row.vec true Knd.vec sp, Row.own [SV.int IntKind.i64 w, SV.int IntKind.i64 d, SV.int IntKind.i64 h, SV.slice 0 1 off len none, SV.slice 1 3 off2 ls none],
 Row.own [SV.int IntKind.i64 26214, SV.int IntKind.i64 26214, SV.int IntKind.i64 58982]]) := by kernel_rfl

/-- All places of a row are free; the first one that is not. -/
noncomputable def allFree (f : V3 → Bool) (sp : Nat → V3) : Nat → Nat → Bool
  | 0, _ => true
  | n + 1, i => f (sp i) && allFree f sp n (i + 1)
noncomputable def firstBad (f : V3 → Bool) (sp : Nat → V3) : Nat → Nat → Nat
  | 0, i => i
  | n + 1, i => bif f (sp i) then firstBad f sp n (i + 1) else i
def spAt (sp : List V3) (off : Nat) (i : Nat) : V3 := sp.getD (off + i) ⟨0, 0, 0⟩

section
variable {w d h : Int} {len off : Nat} {xs : List Bool} {ls off2 : Nat} {sp : List V3}
theorem rt_loop (hm : mapOk w d h len = true) (hl : decide (off + len ≤ xs.length) = true) (h2 : off2 + ls ≤ sp.length) (h3 : ls ≤ 9223372036854775807) (hf : sp.all fitsB = true) : ∀ (n i : Nat), i + n = ls →
    (allFree (mpOf w d h len fun j => xs.getD (off + j) false).free (spAt sp off2) n i = true → LoopTo rdRt (valRt ls off2 0 i) (rowRt w d h len off xs ls off2 sp) (.exit 0) (valRt ls off2 0 ls) (rowRt w d h len off xs ls off2 sp)) ∧
    (allFree (mpOf w d h len fun j => xs.getD (off + j) false).free (spAt sp off2) n i = false → LoopTo rdRt (valRt ls off2 0 i) (rowRt w d h len off xs ls off2 sp) .ret (valRt ls off2 (firstBad (mpOf w d h len fun j => xs.getD (off + j) false).free (spAt sp off2) n i) (firstBad (mpOf w d h len fun j => xs.getD (off + j) false).free (spAt sp off2) n i)) (rowRt w d h len off xs ls off2 sp))
  | 0, i, hi => by
    obtain rfl : i = ls := by omega
    refine ⟨fun _ => .done ?_ (by simp), fun h => by simp [allFree] at h⟩
    rw [rt_round, decide_eq_false (by omega), cond_false]
    rfl
  | n + 1, i, hi => by
    have hr := rt_round w d h len off xs ls off2 sp i
    have hfi : fitsB (sp.getD (off2 + i) Knd.vec.dflt) = true := by
      show fitsB (sp.getD (off2 + i) ⟨0, 0, 0⟩) = true
      rw [List.getD_eq_getElem?_getD, List.getElem?_eq_getElem (by omega)]
      exact List.all_eq_true.1 hf _ (List.getElem_mem _)
    have e1 : ((i : Int)).toNat = i := by omega
    have hb : fitsB (V3.mk 26214 26214 58982) = true := fitsB_iff.2 boxV_fits
    have hc1 : fitsB ((sp.getD (off2 + i) Knd.vec.dflt).minus (V3.mk 26214 26214 58982)) = true := fitsB_iff.2 (minus_fits _ _)
    have hc2 : fitsB ((sp.getD (off2 + i) Knd.vec.dflt).plus (V3.mk 26214 26214 58982)) = true := fitsB_iff.2 (plus_fits _ _)
    rw [e1, decide_eq_true (show (i : Int) < (ls : Int) by omega), decide_eq_true (show (0 : Int) ≤ (i : Int) by omega), decide_eq_true (show off2 + i < sp.length by omega), hfi, hb, hm, hl, hc1, hc2, IntWalk.i64_in ((i : Int) + 1) (by omega)] at hr
    simp only [Bool.and_true, cond_true] at hr
    rw [show (mpOf w d h len fun j => xs.getD (off + j) false).clear ((sp.getD (off2 + i) Knd.vec.dflt).minus (V3.mk 26214 26214 58982)) ((sp.getD (off2 + i) Knd.vec.dflt).plus (V3.mk 26214 26214 58982)) = (mpOf w d h len fun j => xs.getD (off + j) false).free (spAt sp off2 i) from rfl] at hr
    have ih := rt_loop hm hl h2 h3 hf n (i + 1) (by omega)
    unfold allFree firstBad
    cases hq : (mpOf w d h len fun j => xs.getD (off + j) false).free (spAt sp off2 i) with
    | true =>
      rw [hq, Bool.not_true, cond_false] at hr
      simp only [Bool.true_and, cond_true]
      rw [show (i : Int) + 1 = ((i + 1 : Nat) : Int) by omega] at hr
      exact ⟨fun h => .more hr (ih.1 h), fun h => .more hr (ih.2 h)⟩
    | false =>
      rw [hq, Bool.not_false, cond_true] at hr
      simp only [Bool.false_and, cond_false]
      exact ⟨fun h => (by cases h), fun _ => .done hr (by simp)⟩
end

set_option maxHeartbeats 0 in
noncomputable def outRt (v : List SV) (R : List Row) (k : Ex → List SV → List Row → Option Res2) : Option Res2 := match v, R with
  | [.slice 1 3 off2 ls none, .fn fid [.ptr 2 0 0 0, .ptr 3 0 0 0], .int .i64 s, .int .i64 l, .int .i64 i],
    [.vec true .bool xs, .vec true .vec sp, .own [.int .i64 w, .int .i64 d, .int .i64 h, .slice 0 1 off len none, .slice 1 3 off2' ls' none], .own [.int .i64 b0, .int .i64 b1, .int .i64 b2]] =>
      bif (Nat.beq fid 35 && (decide (s = 0) && (decide (l = (ls : Int)) && (decide (i = 0) && (decide (off2' = off2) && (decide (ls' = ls) && (decide (b0 = 26214) && (decide (b1 = 26214) && decide (b2 = 58982))))))))) && (mapOk w d h len && (decide (off + len ≤ xs.length) && (decide (off2 + ls ≤ sp.length) && (decide (ls ≤ 9223372036854775807) && sp.all fitsB)))) then
        (bif allFree (mpOf w d h len fun j => xs.getD (off + j) false).free (spAt sp off2) ls 0 then k (.exit 0) (valRt ls off2 0 ls) (rowRt w d h len off xs ls off2 sp)
        else k .ret (valRt ls off2 (firstBad (mpOf w d h len fun j => xs.getD (off + j) false).free (spAt sp off2) ls 0) (firstBad (mpOf w d h len fun j => xs.getD (off + j) false).free (spAt sp off2) ls 0)) (rowRt w d h len off xs ls off2 sp)) else none
  | _, _ => none
set_option maxHeartbeats 0 in
theorem lpoRt_ok : LpOk 58 [0, 1, 0, 1] (loopF 19 [0, 1, 4, 7, 8] outRt) := by
  intro b hat s K r h
  refine loopF_ok (fuel := 100) xRt_ok lok_none hat (fun v R k r hr => ?_) h
  have hbody := at_body Try.func58 hat
  subst hbody
  unfold outRt at hr
  split at hr
  · rename_i off2 ls fid s l i xs sp w d h off len off2' ls' b0 b1 b2
    obtain ⟨hb, hr2⟩ := cond_some hr
    simp only [Bool.and_eq_true, decide_eq_true_eq] at hb
    obtain ⟨⟨h1, h2, h3, h4, h5, h6, h7, h8, h9⟩, k1, k2, k3, k4, k5⟩ := hb
    obtain rfl := Nat.eq_of_beq_eq_true h1
    subst h2 h3 h4 h5 h6 h7 h8 h9
    have hl := rt_loop k1 (decide_eq_true k2) k3 k4 k5 ls' 0 (by omega)
    cases hq : allFree (mpOf w d h len fun j => xs.getD (off + j) false).free (spAt sp off2') ls' 0 with
    | true =>
      rw [hq, cond_true] at hr2
      exact ⟨_, _, _, hr2, hl.1 hq⟩
    | false =>
      rw [hq, cond_false] at hr2
      exact ⟨_, _, _, hr2, hl.2 hq⟩
  · cases hr
noncomputable def lpoRt : Lpo := ⟨_, _, _, lpoRt_ok⟩

set_option maxRecDepth 100000 in
set_option maxHeartbeats 0 in
theorem right_tree (w d h : Int) (len off : Nat) (xs : List Bool) (ls off2 : Nat) (sp : List V3) : runK xRt (loopOf [lpoRt]) 300 21 Try.f21 0 [mapS w d h (.slice 0 1 off len none) (.slice 1 3 off2 ls none)] [.vec true .bool xs, .vec true .vec sp] =
 bif mapOk w d h len && decide (off + len ≤ xs.length) then
 bif bif (bif (!(mpOf w d h len fun j => xs.getD (off + j) false).sized) == false then (↑ls : Int) == 0 else true) == false then decide ((↑ls : Int) > 64) else true then
 some (SV.int IntKind.i64 1, [])
 else
 bif
 decide ((↑ls : Int) = (↑ls : Int)) && (decide (off2 = off2) && (decide (ls = ls) && true)) &&
 (mapOk w d h len && (decide (off + len ≤ xs.length) && (decide (off2 + ls ≤ sp.length) && (decide (ls ≤ 9223372036854775807) && sp.all fitsB)))) then
 bif allFree (mpOf w d h len fun j => xs.getD (off + j) false).free (spAt sp off2) ls 0 then some (SV.int IntKind.i64 0, []) else some (SV.int IntKind.i64 1, [])
 else none
 else none := by kernel_rfl

def rightE (b : Bool) : Int := bif b then 0 else 1
/-- Whether a map may be. -/
noncomputable def Mp.right (m : Mp) (sp : Nat → V3) (ls : Nat) : Bool := (m.sized && (!((ls : Int) == 0) && !decide ((ls : Int) > 64))) && allFree m.free sp ls 0
theorem allFree_iff {f : V3 → Bool} {sp : Nat → V3} : ∀ {n i : Nat}, allFree f sp n i = true ↔ ∀ j, i ≤ j → j < i + n → f (sp j) = true
  | 0, i => by simp [allFree]; intro j h1 h2; omega
  | n + 1, i => by
    rw [allFree, Bool.and_eq_true, allFree_iff]
    constructor
    · rintro ⟨h1, h2⟩ j h3 h4
      by_cases hj : j = i
      · subst hj; exact h1
      · exact h2 j (by omega) (by omega)
    · intro h
      exact ⟨h i (by omega) (by omega), fun j h3 h4 => h j (by omega) (by omega)⟩

theorem right_val {w d h : Int} {len off : Nat} {xs : List Bool} {ls off2 : Nat} {sp : List V3} (hm : mapOk w d h len = true) (hl : decide (off + len ≤ xs.length) = true) (h2 : off2 + ls ≤ sp.length) (h3 : ls ≤ 9223372036854775807) (hf : sp.all fitsB = true) :
    runK xRt (loopOf [lpoRt]) 300 21 Try.f21 0 [mapS w d h (.slice 0 1 off len none) (.slice 1 3 off2 ls none)] [.vec true .bool xs, .vec true .vec sp] =
      some (.int .i64 (rightE ((mpOf w d h len fun j => xs.getD (off + j) false).right (spAt sp off2) ls)), []) := by
  rw [right_tree]
  have c1 : (decide ((ls : Int) = (ls : Int)) && (decide (off2 = off2) && (decide (ls = ls) && true))) = true := by simp
  rw [c1, hm, hl, decide_eq_true h2, decide_eq_true h3, hf]
  unfold Mp.right
  simp only [Bool.and_true, cond_true, or_form]
  cases (mpOf w d h len fun j => xs.getD (off + j) false).sized <;> cases ((ls : Int) == 0) <;> cases decide ((ls : Int) > 64) <;> cases allFree (mpOf w d h len fun j => xs.getD (off + j) false).free (spAt sp off2) ls 0 <;> rfl

noncomputable def oRight (args : List SV) (rows : List Row) : Option Eff :=
  match args with
  | [.agg [.int .i64 w, .int .i64 d, .int .i64 h, .slice id 1 off len none, .slice id2 3 off2 ls none]] => match rows[id]?, rows[id2]? with
    | some (.vec true .bool xs), some (.vec true .vec sp) => some { ok := mapOk w d h len && (decide (off + len ≤ xs.length) && (decide (off2 + ls ≤ sp.length) && (decide (ls ≤ 9223372036854775807) && sp.all fitsB))), val := .int .i64 (rightE ((mpOf w d h len fun j => xs.getD (off + j) false).right (spAt sp off2) ls)), rd := [id, id2] }
    | _, _ => none
  | _ => none
set_option maxHeartbeats 0 in
theorem oRight_ok {args : List SV} {rows : List Row} {e : Eff} (h : oRight args rows = some e) (hok : e.ok = true) : FnOk Try.prog 21 args (rows[·]?) rows.length e := by
  unfold oRight at h
  split at h
  · rename_i wd dd hd id off len id2 off2 ls
    split at h
    · rename_i xs sp h1 h2
      cases h
      simp only [Bool.and_eq_true, decide_eq_true_eq] at hok
      obtain ⟨k1, k2, k3, k4, k5⟩ := hok
      obtain ⟨rows', hc, _⟩ := runK_ok xRt_ok loopOf_ok Try.func21 (right_val (xs := xs) (sp := sp) k1 (decide_eq_true k2) k3 k4 k5)
      have l1 := (List.getElem?_eq_some_iff.1 h1).1
      have l2 := (List.getElem?_eq_some_iff.1 h2).1
      have hne : id ≠ id2 := by intro he; subst he; rw [h1] at h2; cases h2
      refine fnOk_quiet2 hc l1 l2 hne h1 h2 rfl ?_
      intro i hi
      simp [SV.idsL, SV.ids, mapS] at hi
      omega
    · cases h
  · cases h
noncomputable def orcRight : Orc := ⟨21, oRight, fun _ _ _ h hok => oRight_ok h hok, bodied Try.func21 (by kernel_rfl)⟩

theorem mask_in {a c : Int} (n : Nat) (hc : c = n) (hn : n < 9223372036854775808) : 0 ≤ IntKind.i64.wrap ((BitVec.ofInt IntKind.i64.bits a &&& BitVec.ofInt IntKind.i64.bits c).toNat : Int) ∧ IntKind.i64.wrap ((BitVec.ofInt IntKind.i64.bits a &&& BitVec.ofInt IntKind.i64.bits c).toNat : Int) ≤ c := by
  subst hc
  have h : (BitVec.ofInt IntKind.i64.bits a &&& BitVec.ofInt IntKind.i64.bits (n : Int)).toNat ≤ n := by
    rw [BitVec.toNat_and]
    refine Nat.le_trans Nat.and_le_right ?_
    rw [BitVec.toNat_ofInt]
    show ((n : Int) % ((2 ^ 64 : Nat) : Int)).toNat ≤ n
    omega
  generalize (BitVec.ofInt IntKind.i64.bits a &&& BitVec.ofInt IntKind.i64.bits (n : Int)).toNat = k at h
  rw [IntWalk.i64_in (k : Int) (by omega)]
  omega
/-- What is asked where a map is looked at. -/
theorem right_facts {w d h : Int} {len ls : Nat} {xs : List Bool} {sp : List V3} (hw : In64 w) (hd : In64 d) (hh : In64 h) (hl : len ≤ 9223372036854775807) (hx : xs.length = len) (hs : ls ≤ 9223372036854775807) (hy : sp.length = ls) (hf : ∀ p ∈ sp, p.fits) :
    (mapOk w d h len && (decide (0 + len ≤ xs.length) && (decide (0 + ls ≤ sp.length) && (decide (ls ≤ 9223372036854775807) && sp.all fitsB)))) = true ∧ mapOk w d h len = true ∧ decide (0 + len ≤ xs.length) = true := by
  have h1 : mapOk w d h len = true := by
    unfold mapOk
    simp only [Bool.and_eq_true, in64B_iff, decide_eq_true_eq]
    exact ⟨hw, hd, hh, by omega⟩
  have h2 : decide (0 + len ≤ xs.length) = true := by rw [decide_eq_true_eq]; omega
  refine ⟨?_, h1, h2⟩
  rw [h1, h2]
  simp only [Bool.true_and, Bool.and_eq_true, decide_eq_true_eq]
  exact ⟨by omega, hs, List.all_eq_true.2 fun p hp => fitsB_iff.2 (hf p hp)⟩

end Go.Proofs.Ytboljdeeodeeeaa
