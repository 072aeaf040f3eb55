/- The reference's grid: Right as a contract. -/
import Derived.Test.YtikifgbbiffclaaVmRg
import Derived.Test.YtikifgbbiffclaaVmRt
namespace Go.Proofs.Ytikifgbbiffclaa
set_option linter.unusedSimpArgs false
set_option linter.unusedVariables false
open Go.RowKit

noncomputable def xRr : Ctx := ctxOf [] [orcRSized, orcVecMinus, orcVecPlus, orcRClear]
theorem xRr_ok : COk Try.prog xRr := ctxOf_ok (by kernel_rfl)
def valRr (i : Int) : List SV := [.ptr 2 0 0 0, .int .i64 0, .ptr 3 0 0 0, .int .i64 i]
def valRe (i : Int) : List SV := [.ptr 2 0 0 0, .int .i64 1, .ptr 3 0 0 0, .int .i64 i]
noncomputable def rdRr : List SV → List Row → Option Res2 := roundS xRr (fun _ _ => none) 100 18 [0, 1, 0, 1, 1, 1, 1] (bodyAt Try.f18 [0, 1, 0, 1, 1, 1, 1]) 53 4 [1, 2, 4, 5]

set_option maxRecDepth 100000 in
set_option maxHeartbeats 0 in
theorem rr_round (w d h : Int) (len off : Nat) (xs : List Bool) (ls off2 : Nat) (sp : List V3) (i : Int) : rdRr (valRr i) (rowRt w d h len off xs ls off2 sp) =
  bif decide (i < (↑ls : Int)) then
  bif decide (0 ≤ i) && decide (i < (↑ls : Int)) then
  bif decide (off2 + i.toNat < sp.length) then
  bif fitsB (sp.getD (off2 + i.toNat) Knd.vec.dflt) && fitsB (V3.mk 26214 26214 58982) then
  bif decide (0 ≤ i) && decide (i < (↑ls : Int)) then
  bif decide (off2 + i.toNat < sp.length) then
  bif fitsB (sp.getD (off2 + i.toNat) Knd.vec.dflt) && fitsB (V3.mk 26214 26214 58982) then
  bif
  fitsB (V3.minus (sp.getD (off2 + i.toNat) Knd.vec.dflt) (V3.mk 26214 26214 58982)) && fitsB (V3.plus (sp.getD (off2 + i.toNat) Knd.vec.dflt) (V3.mk 26214 26214 58982)) &&
  decide (off + len ≤ xs.length) then
  bif
  !(mpOf w d h len fun j => xs.getD (off + j) false).clear (V3.minus (sp.getD (off2 + i.toNat) Knd.vec.dflt) (V3.mk 26214 26214 58982))
  (V3.plus (sp.getD (off2 + i.toNat) Knd.vec.dflt) (V3.mk 26214 26214 58982)) then
  some
  (SV.tuple [SV.nils, SV.tuple [SV.ptr 2 0 0 0, SV.int IntKind.i64 1, SV.ptr 3 0 0 0, SV.int IntKind.i64 i]],
  [Row.vec true Knd.bool xs, Row.vec true Knd.vec sp,
  Row.own [SV.int IntKind.i64 w, SV.int IntKind.i64 d, SV.int IntKind.i64 h, SV.slice 0 1 off len none, SV.slice 1 3 off2 ls none],
  Row.own [SV.int IntKind.i64 26214, SV.int IntKind.i64 26214, SV.int IntKind.i64 58982]])
  else
  some
  (SV.tuple [SV.nilp, SV.tuple [SV.ptr 2 0 0 0, SV.int IntKind.i64 0, SV.ptr 3 0 0 0, SV.int IntKind.i64 (IntKind.i64.wrap (i + 1))]],
  [Row.vec true Knd.bool xs, Row.vec true Knd.vec sp,
  Row.own [SV.int IntKind.i64 w, SV.int IntKind.i64 d, SV.int IntKind.i64 h, SV.slice 0 1 off len none, SV.slice 1 3 off2 ls none],
  Row.own [SV.int IntKind.i64 26214, SV.int IntKind.i64 26214, SV.int IntKind.i64 58982]])
  else none
  else none
  else none
  else none
  else none
  else none
  else none
  else
  some
  (SV.tuple [SV.ptr 0 0 0 0, SV.tuple [SV.ptr 2 0 0 0, SV.int IntKind.i64 0, SV.ptr 3 0 0 0, SV.int IntKind.i64 i]],
  [Row.vec true Knd.bool xs, Row.vec true Knd.vec sp, Row.own [SV.int IntKind.i64 w, SV.int IntKind.i64 d, SV.int IntKind.i64 h, SV.slice 0 1 off len none, SV.slice 1 3 off2 ls none],
  Row.own [SV.int IntKind.i64 26214, SV.int IntKind.i64 26214, SV.int IntKind.i64 58982]]) := by kernel_rfl

theorem any_free {f : V3 → Bool} {sp : Nat → V3} {ls : Nat} : anyB (fun i => !f (sp i.toNat)) ls 0 = !allFree f sp ls 0 := by
  rw [Bool.eq_iff_iff, anyB_iff, Bool.not_eq_true', ← Bool.not_eq_true, allFree_iff]
  constructor
  · rintro ⟨j, h1, h2, h3⟩ h
    rw [h j.toNat (by omega) (by omega)] at h3
    cases h3
  · intro h
    refine Classical.byContradiction fun hn => h fun j _ h2 => ?_
    cases hf : f (sp j) with
    | true => rfl
    | false => exact absurd ⟨(j : Int), by omega, by omega, by rw [show ((j : Int)).toNat = j by omega, hf]; rfl⟩ hn

section
variable {w d h : Int} {len off : Nat} {xs : List Bool} {ls off2 : Nat} {sp : List V3}
set_option maxHeartbeats 0 in
theorem rr_loop (hl : decide (off + len ≤ xs.length) = true) (h2 : off2 + ls ≤ sp.length) (h3 : ls ≤ 9223372036854775807) (hf : sp.all fitsB = true) :
    (anyB (fun i => !(mpOf w d h len fun j => xs.getD (off + j) false).free (spAt sp off2 i.toNat)) ls 0 = true → LoopTo rdRr (valRr 0) (rowRt w d h len off xs ls off2 sp) .ret (valRe (posB (fun i => !(mpOf w d h len fun j => xs.getD (off + j) false).free (spAt sp off2 i.toNat)) ls 0)) (rowRt w d h len off xs ls off2 sp)) ∧
    (anyB (fun i => !(mpOf w d h len fun j => xs.getD (off + j) false).free (spAt sp off2 i.toNat)) ls 0 = false → LoopTo rdRr (valRr 0) (rowRt w d h len off xs ls off2 sp) (.exit 0) (valRr (ls : Int)) (rowRt w d h len off xs ls off2 sp)) := by
  have key := loop_any (rd := rdRr) (val := valRr) (valR := valRe) (R := rowRt w d h len off xs ls off2 sp) (p := fun i => !(mpOf w d h len fun j => xs.getD (off + j) false).free (spAt sp off2 i.toNat)) (W := (ls : Int)) (ex := 0) (i0 := 0) (fun i i0 i1 => ?_) ?_ ls 0 (by omega) (by omega)
  · exact key
  · obtain ⟨i, rfl⟩ : ∃ k : Nat, i = k := ⟨i.toNat, by omega⟩
    have hfi : fitsB (sp.getD (off2 + i) Knd.vec.dflt) = true := by
      show fitsB (sp.getD (off2 + i) ⟨0, 0, 0⟩) = true
      rw [List.getD_eq_getElem?_getD, List.getElem?_eq_getElem (by omega)]
      exact List.all_eq_true.1 hf _ (List.getElem_mem _)
    have e1 : ((i : Int)).toNat = i := by omega
    have hb : fitsB (V3.mk 26214 26214 58982) = true := fitsB_iff.2 boxV_fits
    have hc1 : fitsB ((sp.getD (off2 + i) Knd.vec.dflt).minus (V3.mk 26214 26214 58982)) = true := fitsB_iff.2 (minus_fits _ _)
    have hc2 : fitsB ((sp.getD (off2 + i) Knd.vec.dflt).plus (V3.mk 26214 26214 58982)) = true := fitsB_iff.2 (plus_fits _ _)
    rw [rr_round, e1, decide_eq_true (show (i : Int) < (ls : Int) by omega), decide_eq_true (show (0 : Int) ≤ (i : Int) by omega), decide_eq_true (show off2 + i < sp.length by omega), hfi, hb, hl, hc1, hc2, IntWalk.i64_in ((i : Int) + 1) (by omega)]
    simp only [Bool.and_true, cond_true]
    rfl
  · rw [rr_round, decide_eq_false (by omega)]
    rfl
end

set_option maxHeartbeats 0 in
noncomputable def outRr (v : List SV) (R : List Row) (k : Ex → List SV → List Row → Option Res2) : Option Res2 := match v, R with
  | [.ptr 2 0 0 0, .int .i64 r, .ptr 3 0 0 0, .int .i64 i],
    [.vec true .bool xs, .vec true .vec sp, .own [.int .i64 w, .int .i64 d, .int .i64 h, .slice 0 1 off len none, .slice 1 3 off2 ls none], .own [.int .i64 b0, .int .i64 b1, .int .i64 b2]] =>
      bif ((decide (r = 0) && decide (i = 0)) && (decide (b0 = 26214) && (decide (b1 = 26214) && decide (b2 = 58982)))) && (decide (off + len ≤ xs.length) && (decide (off2 + ls ≤ sp.length) && (decide (ls ≤ 9223372036854775807) && sp.all fitsB))) then
        (bif anyB (fun i => !(mpOf w d h len fun j => xs.getD (off + j) false).free (spAt sp off2 i.toNat)) ls 0 then k .ret (valRe (posB (fun i => !(mpOf w d h len fun j => xs.getD (off + j) false).free (spAt sp off2 i.toNat)) ls 0)) (rowRt w d h len off xs ls off2 sp)
        else k (.exit 0) (valRr (ls : Int)) (rowRt w d h len off xs ls off2 sp)) else none
  | _, _ => none
set_option maxHeartbeats 0 in
theorem lpoRr_ok : LpOk 18 [0, 1, 0, 1, 1, 1, 1] (loopF 53 [1, 2, 4, 5] outRr) := by
  intro b hat s K r h
  refine loopF_ok (fuel := 100) xRr_ok lok_none hat (fun v R k r hr => ?_) h
  have hbody := at_body Try.func18 hat
  subst hbody
  unfold outRr at hr
  split at hr
  · rename_i r i xs sp w d h off len off2 ls b0 b1 b2
    obtain ⟨hb, hr2⟩ := cond_some hr
    simp only [Bool.and_eq_true, decide_eq_true_eq] at hb
    obtain ⟨⟨⟨rfl, rfl⟩, rfl, rfl, rfl⟩, h1, h2, h3, h4⟩ := hb
    have hl := rr_loop (w := w) (d := d) (h := h) (decide_eq_true h1) h2 h3 h4
    cases hq : anyB (fun i => !(mpOf w d h len fun j => xs.getD (off + j) false).free (spAt sp off2 i.toNat)) ls 0 with
    | true =>
      rw [hq, cond_true] at hr2
      exact ⟨_, _, _, hr2, hl.1 hq⟩
    | false =>
      rw [hq, cond_false] at hr2
      exact ⟨_, _, _, hr2, hl.2 hq⟩
  · cases hr
noncomputable def lpoRr : Lpo := ⟨_, _, _, lpoRr_ok⟩

set_option maxRecDepth 100000 in
set_option maxHeartbeats 0 in
theorem rright_tree (w d h : Int) (len off : Nat) (xs : List Bool) (ls off2 : Nat) (sp : List V3) : runK xRr (loopOf [lpoRr]) 300 18 Try.f18 0 [mapS w d h (.slice 0 1 off len none) (.slice 1 3 off2 ls none)] [.vec true .bool xs, .vec true .vec sp] =
  bif bif (bif (!(mpOf w d h len fun j => xs.getD (off + j) false).sized) == false then decide ((↑ls : Int) < 1) else true) == false then decide ((↑ls : Int) > 64) else true then
  some (SV.int IntKind.i64 1, [])
  else
  bif decide (off + len ≤ xs.length) && (decide (off2 + ls ≤ sp.length) && (decide (ls ≤ 9223372036854775807) && sp.all fitsB)) then
  bif anyB (fun i => !(mpOf w d h len fun j => xs.getD (off + j) false).free (spAt sp off2 i.toNat)) ls 0 then some (SV.int IntKind.i64 1, []) else some (SV.int IntKind.i64 0, [])
  else none := by kernel_rfl

theorem rright_val {w d h : Int} {len off : Nat} {xs : List Bool} {ls off2 : Nat} {sp : List V3} (hl : decide (off + len ≤ xs.length) = true) (h2 : off2 + ls ≤ sp.length) (h3 : ls ≤ 9223372036854775807) (hf : sp.all fitsB = true) :
    runK xRr (loopOf [lpoRr]) 300 18 Try.f18 0 [mapS w d h (.slice 0 1 off len none) (.slice 1 3 off2 ls none)] [.vec true .bool xs, .vec true .vec sp] = some (.int .i64 (rightE ((mpOf w d h len fun j => xs.getD (off + j) false).right (spAt sp off2) ls)), []) := by
  rw [rright_tree]
  simp only [or_form, hl, decide_eq_true h2, decide_eq_true h3, hf, any_free, Bool.and_self, cond_true]
  unfold Mp.right
  cases (mpOf w d h len fun j => xs.getD (off + j) false).sized with
  | false => rfl
  | true =>
    simp only [Bool.not_true, Bool.false_or, Bool.true_and]
    by_cases h0 : ls = 0
    · subst h0; rfl
    · rw [decide_eq_false (show ¬ (ls : Int) < 1 by omega), show ((ls : Int) == 0) = false by rw [beq_eq_false_iff_ne]; omega]
      cases decide ((ls : Int) > 64)
      · cases allFree (mpOf w d h len fun j => xs.getD (off + j) false).free (spAt sp off2) ls 0 <;> rfl
      · rfl
noncomputable def oRRight (args : List SV) (rows : List Row) : Option Eff :=
  match args with
  | [.agg [.int .i64 w, .int .i64 d, .int .i64 h, .slice id 1 off len none, .slice id2 3 off2 ls none]] => match rows[id]?, rows[id2]? with
    | some (.vec true .bool xs), some (.vec true .vec sp) => some { ok := decide (off + len ≤ xs.length) && (decide (off2 + ls ≤ sp.length) && (decide (ls ≤ 9223372036854775807) && sp.all fitsB)), val := .int .i64 (rightE ((mpOf w d h len fun j => xs.getD (off + j) false).right (spAt sp off2) ls)), rd := [id, id2] }
    | _, _ => none
  | _ => none
set_option maxHeartbeats 0 in
theorem oRRight_ok {args : List SV} {rows : List Row} {e : Eff} (h : oRRight args rows = some e) (hok : e.ok = true) : FnOk Try.prog 18 args (rows[·]?) rows.length e := by
  unfold oRRight at h
  split at h
  · rename_i wd dd hd id off len id2 off2 ls
    split at h
    · rename_i xs sp h1 h2
      cases h
      simp only [Bool.and_eq_true, decide_eq_true_eq] at hok
      obtain ⟨k2, k3, k4, k5⟩ := hok
      obtain ⟨rows', hc, _⟩ := runK_ok xRr_ok loopOf_ok Try.func18 (rright_val (w := wd) (d := dd) (h := hd) (xs := xs) (sp := sp) (decide_eq_true k2) k3 k4 k5)
      have l1 := (List.getElem?_eq_some_iff.1 h1).1
      have l2 := (List.getElem?_eq_some_iff.1 h2).1
      have hne : id ≠ id2 := by intro he; subst he; rw [h1] at h2; cases h2
      refine fnOk_quiet2 hc l1 l2 hne h1 h2 rfl ?_
      intro i hi
      simp [SV.idsL, SV.ids, mapS] at hi
      omega
    · cases h
  · cases h
noncomputable def orcRRight : Orc := ⟨18, oRRight, fun _ _ _ h hok => oRRight_ok h hok, bodied Try.func18 (by kernel_rfl)⟩

/-! Cell. -/
set_option maxRecDepth 100000 in
set_option maxHeartbeats 0 in
theorem cell_tree (n : Int) : runK xRr (fun _ _ => none) 200 16 Try.f16 0 [.int .i64 n] [] =
  bif decide (IntKind.i64.wrap (IntKind.i64.wrap (n.tdiv 65536) * 65536) > n) then some (SV.int IntKind.i64 (IntKind.i64.wrap (IntKind.i64.wrap (n.tdiv 65536) - 1)), [])
  else some (SV.int IntKind.i64 (IntKind.i64.wrap (n.tdiv 65536)), []) := by kernel_rfl

theorem cell_val {n : Int} (h : In64 n) : runK xRr (fun _ _ => none) 200 16 Try.f16 0 [.int .i64 n] [] = some (.int .i64 (n / 65536), []) := by
  have hn := h
  unfold In64 at h
  rw [cell_tree]
  obtain ⟨e1, e2, e3⟩ := next_abs hn
  unfold In64 at e2
  have b : -9223372036854775808 ≤ n.tdiv 65536 * 65536 ∧ n.tdiv 65536 * 65536 ≤ 9223372036854775807 := by
    rcases Int.le_total 0 n with h0 | h0
    · rw [Int.tdiv_eq_ediv_of_nonneg h0]; omega
    · have := Int.neg_tdiv (-n) 65536
      rw [Int.neg_neg, Int.tdiv_eq_ediv_of_nonneg (a := -n) (b := 65536) (by omega)] at this
      rw [this]; omega
  rw [e1, IntWalk.i64_in (n.tdiv 65536 * 65536) b]
  have key : n / 65536 = bif decide (n.tdiv 65536 * 65536 > n) then n.tdiv 65536 - 1 else n.tdiv 65536 := by
    rcases Int.le_total 0 n with h0 | h0
    · rw [Int.tdiv_eq_ediv_of_nonneg h0, decide_eq_false (by omega)]; rfl
    · have := Int.neg_tdiv (-n) 65536
      rw [Int.neg_neg, Int.tdiv_eq_ediv_of_nonneg (a := -n) (b := 65536) (by omega)] at this
      rw [this]
      by_cases hc : -(-n / 65536) * 65536 > n
      · rw [decide_eq_true hc]; simp only [cond_true]; omega
      · rw [decide_eq_false hc]; simp only [cond_false]; omega
  rw [key]
  cases hc : decide (n.tdiv 65536 * 65536 > n) with
  | true =>
    have : -9223372036854775808 ≤ n.tdiv 65536 - 1 := by
      have := of_decide_eq_true hc
      omega
    simp only [cond_true]
    rw [IntWalk.i64_in (n.tdiv 65536 - 1) (by omega)]
  | false => rfl
def oCellG : List SV → Option Eff
  | [.int .i64 n] => some { ok := in64B n, val := .int .i64 (n / 65536) }
  | _ => none
theorem oCellG_ok {m : Nat → Option Row} {n : Nat} {args : List SV} {e : Eff} (h : oCellG args = some e) (hok : e.ok = true) : FnOk Try.prog 16 args m n e := by
  unfold oCellG at h
  split at h
  · rename_i k
    cases h
    obtain ⟨rows', hc, _⟩ := runK_ok xRr_ok lok_none Try.func16 (cell_val (in64B_iff.1 hok))
    exact fnOk_pure hc rfl rfl
  · cases h
noncomputable def orcCellG : Orc := ⟨16, fun args _ => oCellG args, fun _ _ _ h hok => oCellG_ok h hok, bodied Try.func16 (by kernel_rfl)⟩

end Go.Proofs.Ytikifgbbiffclaa
