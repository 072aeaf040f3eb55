/- The reference's digits: Product, Sqrt, Div as contracts. -/
import Derived.Test.YtegafbkjdkpfiaaVmGr
import Derived.Test.YtegafbkjdkpfiaaFixL
namespace Go.Proofs.Ytegafbkjdkpfiaa
set_option linter.unusedSimpArgs false
set_option linter.unusedVariables false
open Go.RowKit

noncomputable def xPr : Ctx := ctxOf [] [orcTimesD]
theorem xPr_ok : COk Try.prog xPr := ctxOf_ok (by kernel_rfl)
set_option maxRecDepth 100000 in
set_option maxHeartbeats 0 in
theorem pr_tree (xs ys : List Int) (p q : Bool) (oa la ob lb : Nat) : runK xPr (fun _ _ => none) 300 54 Try.f54 9 [.agg [.bool p, .slice 0 1 oa la none], .agg [.bool q, .slice 1 1 ob lb none]] [.vec true .u64 xs, .vec true .u64 ys] =
  bif (digsB xs && digsB ys) && ((decide (oa + la ≤ xs.length) && decide (ob + lb ≤ ys.length)) && decide (la + lb + 1 ≤ 2000)) then
  some (resP p q xs ys oa la ob lb (!(p == q)) (timesL xs ys oa la ob lb))
  else none := by kernel_rfl
def oProdD (args : List SV) (rows : List Row) : Option Eff :=
  match args with
  | [.agg [.bool p, .slice ia 1 oa la none], .agg [.bool q, .slice ib 1 ob lb none]] => match rows[ia]?, rows[ib]? with
    | some (.vec _ .u64 xs), some (.vec _ .u64 ys) => some { ok := (digsB xs && digsB ys) && ((decide (oa + la ≤ xs.length) && decide (ob + lb ≤ ys.length)) && decide (la + lb + 1 ≤ 2000)), val := .agg [.bool (!(p == q)), .slice rows.length 1 0 (timesL xs ys oa la ob lb).length none], rd := [ia, ib], nw := [.vec true .u64 (timesL xs ys oa la ob lb)] }
    | _, _ => none
  | _ => none
theorem oProdD_ok {args : List SV} {rows : List Row} {e : Eff} (h : oProdD args rows = some e) (hok : e.ok = true) : FnOk Try.prog 54 args (rows[·]?) rows.length e := by
  unfold oProdD at h
  split at h
  · rename_i p ia oa la q ib ob lb
    split at h
    · rename_i ra xs rb ys hxr hyr
      cases h
      simp only at hok
      obtain ⟨rows', hc, ht⟩ := runK_ok xPr_ok lok_none Try.func54 ((pr_tree xs ys p q oa la ob lb).trans (bif_true hok rfl))
      refine fnOk_fresh (C := fun s => .agg [.bool (!(p == q)), s]) (s0 := .slice 5 1 0 (timesL xs ys oa la ob lb).length none) (ds := timesL xs ys oa la ob lb) hc (round_big _) (σ := [ia, ib]) rfl (fun i hi => by simp [SV.idsL, SV.ids] at hi; rcases hi with rfl | rfl <;> simp) (fun i row hr => ?_) (.inr ⟨5, 0, none, true, timesL xs ys oa la ob lb, rfl, by simp, by rw [take_get ht (by omega)]; rfl, fun i hi => by rw [Nat.zero_add]⟩)
      match i with
      | 0 => simp at hr; subst hr; exact ⟨.u64, xs, ra, rfl, hxr⟩
      | 1 => simp at hr; subst hr; exact ⟨.u64, ys, rb, rfl, hyr⟩
      | i + 2 => simp at hr
    · cases h
  · cases h
noncomputable def orcProdD : Orc := ⟨54, oProdD, fun _ _ _ h hok => oProdD_ok h hok, bodied Try.func54 (by kernel_rfl)⟩

noncomputable def xDs1 : Ctx := ctxOf [55] [orcOf, orcGreat]
theorem xDs1_ok : COk Try.prog xDs1 := ctxOf_ok (by kernel_rfl)

set_option maxRecDepth 100000 in
set_option maxHeartbeats 0 in
theorem sq_tree (a : Int) : runK xDs1 (fun _ _ => none) 300 29 Try.f29 0 [.int .i64 a] [] =
  bif decide (a ≤ 0) then some (SV.int IntKind.i64 0, [])
  else
  bif in64B a then
  bif
  decide (0 + (digs 5 a.natAbs).length ≤ (digs 5 a.natAbs).length) &&
  ((true || (some 1).isSome) && (decide (1 + (digs 5 a.natAbs).length ≤ 9223372036854775807) && decide ((1 + (digs 5 a.natAbs).length) * 8 ≤ 140737488355328))) then
  bif grOk (List.take 1 [0] ++ List.take (digs 5 a.natAbs).length (List.drop 0 (digs 5 a.natAbs))) (1 + (digs 5 a.natAbs).length) then
  some (SV.int IntKind.i64 (IntKind.i64.wrap (grVs (List.take 1 [0] ++ List.take (digs 5 a.natAbs).length (List.drop 0 (digs 5 a.natAbs))))), [])
  else none
  else none
  else none := by kernel_rfl

set_option maxRecDepth 100000 in
set_option maxHeartbeats 0 in
theorem di_tree (a b : Int) : runK xDs1 (fun _ _ => none) 300 28 Try.f28 0 [.int .i64 a, .int .i64 b] [] =
  bif a == 0 then some (SV.int IntKind.i64 0, [])
  else
  bif b == 0 then bif decide (a < 0) then some (SV.int IntKind.i64 (-9223372036854775808), []) else some (SV.int IntKind.i64 9223372036854775807, [])
  else
  bif in64B a then
  bif in64B b then
  bif
  decide (0 + (digs 5 a.natAbs).length ≤ (digs 5 a.natAbs).length) &&
  ((true || (some 1).isSome) && (decide (1 + (digs 5 a.natAbs).length ≤ 9223372036854775807) && decide ((1 + (digs 5 a.natAbs).length) * 8 ≤ 140737488355328))) then
  bif
  grOk (List.take 1 [0] ++ List.take (digs 5 a.natAbs).length (List.drop 0 (digs 5 a.natAbs))) (1 + (digs 5 a.natAbs).length) &&
  (digsB (digs 5 b.natAbs) && (decide ((digs 5 b.natAbs).length = (digs 5 b.natAbs).length) && decide ((digs 5 b.natAbs).length ≤ 1900))) then
  bif decide (grVb (digs 5 b.natAbs) (List.take 1 [0] ++ List.take (digs 5 a.natAbs).length (List.drop 0 (digs 5 a.natAbs))) > 9223372036854775807) then
  bif !decide (a < 0) == decide (b < 0) then some (SV.int IntKind.i64 (-9223372036854775808), []) else some (SV.int IntKind.i64 9223372036854775807, [])
  else
  bif !decide (a < 0) == decide (b < 0) then
  some (SV.int IntKind.i64 (IntKind.i64.wrap (0 - IntKind.i64.wrap (grVb (digs 5 b.natAbs) (List.take 1 [0] ++ List.take (digs 5 a.natAbs).length (List.drop 0 (digs 5 a.natAbs)))))), [])
  else some (SV.int IntKind.i64 (IntKind.i64.wrap (grVb (digs 5 b.natAbs) (List.take 1 [0] ++ List.take (digs 5 a.natAbs).length (List.drop 0 (digs 5 a.natAbs))))), [])
  else none
  else none
  else none
  else none := by kernel_rfl

theorem digs_val {a : Int} (h : In64 a) : valL (digs 5 a.natAbs) = (a.natAbs : Int) ∧ Trim (digs 5 a.natAbs) ∧ Digs (digs 5 a.natAbs) := by
  unfold In64 at h
  have hb : a.natAbs < 65536 ^ 5 := by
    have : a.natAbs ≤ 9223372036854775808 := by omega
    have h2 : (65536 : Nat) ^ 5 = 1208925819614629174706176 := by decide
    omega
  exact ⟨valL_digs 5 _ hb, digs_trim 5 _ hb, digs_in 5 _⟩
/-- A number, times 2^16. -/
theorem up_row {a : Int} (h : In64 a) (h0 : a ≠ 0) : (List.take 1 [0] ++ List.take (digs 5 a.natAbs).length (List.drop 0 (digs 5 a.natAbs))) = 0 :: digs 5 a.natAbs ∧ valL (0 :: digs 5 a.natAbs) = 65536 * (a.natAbs : Int) ∧ grOk (0 :: digs 5 a.natAbs) (1 + (digs 5 a.natAbs).length) = true := by
  obtain ⟨h1, h2, h3⟩ := digs_val h
  have hl := digs_len 5 a.natAbs
  have hne : digs 5 a.natAbs ≠ [] := by
    intro he
    rw [he] at h1
    simp only [valL] at h1
    omega
  refine ⟨by simp, by rw [valL, h1]; omega, grOk_iff.2 ⟨⟨fun d hd => ?_, fun _ => ?_⟩, by rw [List.length_cons]; omega, by omega⟩⟩
  · rcases List.mem_cons.1 hd with rfl | hd
    · omega
    · exact h3 d hd
  · have hp : 0 < (digs 5 a.natAbs).length := List.length_pos_iff.2 hne
    rw [List.length_cons, Nat.add_sub_cancel]
    have := h2 hp
    rw [show (digs 5 a.natAbs).length = (digs 5 a.natAbs).length - 1 + 1 by omega, List.getD_cons_succ]
    exact this
theorem sq_mono {V x y : Int} (h0 : 0 ≤ y) (h : y ≤ x) (hx : decide (x * x ≤ V) = true) : decide (y * y ≤ V) = true := by
  rw [decide_eq_true_eq] at hx ⊢
  exact Int.le_trans (Int.mul_le_mul h h h0 (Int.le_trans h0 h)) hx
theorem by_mono {B V x y : Int} (hB : 0 ≤ B) (h : y ≤ x) (hx : decide (x * B ≤ V) = true) : decide (y * B ≤ V) = true := by
  rw [decide_eq_true_eq] at hx ⊢
  exact Int.le_trans (Int.mul_le_mul_of_nonneg_right h hB) hx
theorem grVs_root {os : List Int} {W : Nat} (hv : valL os = (W : Int)) (hW : W < 340282366920938463463374607431768211456) : grVs os = (rootN W : Int) ∧ 0 ≤ grVs os ∧ grVs os < 18446744073709551616 := by
  obtain ⟨h1, h2, h3, h4⟩ := grGo_spec (P := fun x => decide (x * x ≤ valL os)) (fun x y h0 h hx => sq_mono h0 h hx) 64 0 (Int.le_refl _) (by rw [hv, decide_eq_true_eq]; omega)
  rw [show grGo (fun x => decide (x * x ≤ valL os)) 64 0 = grVs os from rfl] at h1 h2 h3 h4
  generalize grVs os = r at h1 h2 h3 h4 ⊢
  obtain ⟨r, rfl⟩ : ∃ n : Nat, r = n := ⟨r.toNat, by omega⟩
  have h3' : (r : Int) < 18446744073709551616 := by
    have : (0 : Int) + 2 ^ 64 = 18446744073709551616 := by decide
    omega
  refine ⟨?_, by omega, h3'⟩
  congr 1
  refine root_unique ⟨?_, ?_⟩ (rootN_spec W)
  · rw [decide_eq_true_eq, hv] at h1
    exact_mod_cast h1
  · rcases Nat.lt_or_ge W ((r + 1) * (r + 1)) with h | h
    · exact h
    · exfalso
      have hr : r + 1 < 18446744073709551616 := by
        rcases Nat.lt_or_ge (r + 1) 18446744073709551616 with hh | hh
        · exact hh
        · have := Nat.mul_le_mul hh hh
          omega
      have := h4 ((r + 1 : Nat) : Int) (by omega) (by have : (0 : Int) + 2 ^ 64 = 18446744073709551616 := by decide
                                                      omega) (by rw [decide_eq_true_eq, hv]; exact_mod_cast h)
      omega
theorem grVb_quo {bs os : List Int} {A B : Nat} (hb : valL bs = (B : Int)) (hv : valL os = (A : Int)) (hB : 0 < B) : grVb bs os = ((min (A / B) 18446744073709551615 : Nat) : Int) := by
  obtain ⟨h1, h2, h3, h4⟩ := grGo_spec (P := fun x => decide (x * valL bs ≤ valL os)) (fun x y h0 h hx => by_mono (by rw [hb]; omega) h hx) 64 0 (Int.le_refl _) (by rw [hv, Int.zero_mul, decide_eq_true_eq]; omega)
  rw [show grGo (fun x => decide (x * valL bs ≤ valL os)) 64 0 = grVb bs os from rfl] at h1 h2 h3 h4
  generalize grVb bs os = r at h1 h2 h3 h4 ⊢
  obtain ⟨r, rfl⟩ : ∃ n : Nat, r = n := ⟨r.toNat, by omega⟩
  rw [hb, hv] at h1 h4
  have e64 : (0 : Int) + 2 ^ 64 = 18446744073709551616 := by decide
  rw [decide_eq_true_eq] at h1
  have k1 : r ≤ A / B := (Nat.le_div_iff_mul_le hB).2 (by exact_mod_cast h1)
  congr 1
  rcases Nat.lt_or_ge r (min (A / B) 18446744073709551615) with h | h
  · exfalso
    have h5 : r + 1 ≤ A / B := by omega
    have h6 := (Nat.le_div_iff_mul_le hB).1 h5
    have := h4 ((r + 1 : Nat) : Int) (by omega) (by omega) (by rw [decide_eq_true_eq]; exact_mod_cast h6)
    omega
  · omega

theorem sqrt_val {a : Int} (h : In64 a) : runK xDs1 (fun _ _ => none) 300 29 Try.f29 0 [.int .i64 a] [] = some (.int .i64 (rootN ((max a 0).toNat * 65536) : Nat), []) := by
  rw [sq_tree]
  by_cases h0 : a ≤ 0
  · rw [decide_eq_true h0, show (max a 0).toNat * 65536 = 0 by omega, show rootN 0 = 0 from root_unique (rootN_spec 0) ⟨by decide, by decide⟩]
    rfl
  · obtain ⟨e1, e2, e3⟩ := up_row h (by omega)
    have hl := digs_len 5 a.natAbs
    have h' := h
    unfold In64 at h'
    obtain ⟨r1, r2, r3⟩ := grVs_root (os := 0 :: digs 5 a.natAbs) (W := (max a 0).toNat * 65536) (by rw [e2]; omega) (by omega)
    have rs : (rootN ((max a 0).toNat * 65536)) < 9223372036854775808 := by
      have hs := (rootN_spec ((max a 0).toNat * 65536)).1
      generalize rootN ((max a 0).toNat * 65536) = r at hs ⊢
      rcases Nat.lt_or_ge r 9223372036854775808 with hh | hh
      · exact hh
      · have := Nat.mul_le_mul hh hh
        omega
    rw [decide_eq_false h0, in64B_iff.2 h, e1, e3, r1, decide_eq_true (show 0 + (digs 5 a.natAbs).length ≤ (digs 5 a.natAbs).length by omega), decide_eq_true (show 1 + (digs 5 a.natAbs).length ≤ 9223372036854775807 by omega), decide_eq_true (show (1 + (digs 5 a.natAbs).length) * 8 ≤ 140737488355328 by omega), IntWalk.i64_in (rootN ((max a 0).toNat * 65536) : Int) (by omega)]
    rfl
theorem ddiv_val {a b : Int} (ha : In64 a) (hb : In64 b) : runK xDs1 (fun _ _ => none) 300 28 Try.f28 0 [.int .i64 a, .int .i64 b] [] = some (.int .i64 (divN a b), []) := by
  rw [di_tree]
  unfold divN
  by_cases h0 : a = 0
  · subst h0; rfl
  · rw [show (a == 0) = false by simpa using h0, if_neg h0]
    simp only [cond_false]
    by_cases h1 : b = 0
    · subst h1
      simp only [beq_self_eq_true, cond_true, if_pos]
      rw [show decide ((0 : Int) < 0) = false from rfl]
      cases decide (a < 0) <;> rfl
    · rw [show (b == 0) = false by simpa using h1, if_neg h1]
      obtain ⟨e1, e2, e3⟩ := up_row ha h0
      obtain ⟨b1, b2, b3⟩ := digs_val hb
      have hl := digs_len 5 a.natAbs
      have hl2 := digs_len 5 b.natAbs
      have hq := grVb_quo (bs := digs 5 b.natAbs) (os := 0 :: digs 5 a.natAbs) (A := a.natAbs * 65536) (B := b.natAbs) b1 (by rw [e2]; omega) (by omega)
      rw [in64B_iff.2 ha, in64B_iff.2 hb, e1, e3, hq, digsB_iff.2 b3, decide_eq_true (show 0 + (digs 5 a.natAbs).length ≤ (digs 5 a.natAbs).length by omega), decide_eq_true (show 1 + (digs 5 a.natAbs).length ≤ 9223372036854775807 by omega), decide_eq_true (show (1 + (digs 5 a.natAbs).length) * 8 ≤ 140737488355328 by omega), decide_eq_true (show (digs 5 b.natAbs).length ≤ 1900 by omega)]
      simp only [cond_false, cond_true, Bool.and_self, Bool.true_or, decide_true]
      generalize a.natAbs * 65536 / b.natAbs = Q
      unfold signedN
      by_cases hQ : Q > 9223372036854775807
      · rw [decide_eq_true (show ((min Q 18446744073709551615 : Nat) : Int) > 9223372036854775807 by omega)]
        simp only [cond_true]
        cases hs : !(decide (a < 0) == decide (b < 0)) with
        | true => simp only [cond_true, if_pos]; congr 3; omega
        | false => simp only [cond_false, Bool.false_eq_true, if_false]; congr 3; omega
      · rw [show min Q 18446744073709551615 = Q by omega, decide_eq_false (show ¬ (Q : Int) > 9223372036854775807 by omega), IntWalk.i64_in (Q : Int) (by omega), IntWalk.i64_in (0 - (Q : Int)) (by omega)]
        simp only [cond_false]
        cases hs : !(decide (a < 0) == decide (b < 0)) with
        | true => simp only [cond_true, if_pos]; congr 3; omega
        | false => simp only [cond_false, Bool.false_eq_true, if_false]; congr 3; omega

end Go.Proofs.Ytegafbkjdkpfiaa
