/- The reference's numbers and fix's: contracts; the laws' calls FixTells and FixVectors. -/
import Derived.Test.YtegafbkjdkpfiaaVmDe
import Derived.Test.YtegafbkjdkpfiaaFixK
namespace Go.Proofs.Ytegafbkjdkpfiaa
set_option linter.unusedSimpArgs false
set_option linter.unusedVariables false
open Go.RowKit

def oMulD : List SV → Option Eff
  | [.int .i64 a, .int .i64 b] => some { ok := in64B a && in64B b, val := .int .i64 (mul16 a b) }
  | _ => none
theorem oMulD_ok {m : Nat → Option Row} {n : Nat} {args : List SV} {e : Eff} (h : oMulD args = some e) (hok : e.ok = true) : FnOk Try.prog 27 args m n e := by
  unfold oMulD at h
  split at h
  · rename_i a b
    cases h
    rw [Bool.and_eq_true] at hok
    obtain ⟨rows', hc, _⟩ := runK_ok xMu_ok lok_none Try.func27 (dmul_val (in64B_iff.1 hok.1) (in64B_iff.1 hok.2))
    exact fnOk_pure hc rfl rfl
  · cases h
noncomputable def orcMulD : Orc := ⟨27, fun args _ => oMulD args, fun _ _ _ h hok => oMulD_ok h hok, bodied Try.func27 (by kernel_rfl)⟩

noncomputable def oDivD : List SV → Option Eff
  | [.int .i64 a, .int .i64 b] => some { ok := in64B a && in64B b, val := .int .i64 (divN a b) }
  | _ => none
theorem oDivD_ok {m : Nat → Option Row} {n : Nat} {args : List SV} {e : Eff} (h : oDivD args = some e) (hok : e.ok = true) : FnOk Try.prog 28 args m n e := by
  unfold oDivD at h
  split at h
  · rename_i a b
    cases h
    rw [Bool.and_eq_true] at hok
    obtain ⟨rows', hc, _⟩ := runK_ok xDs1_ok lok_none Try.func28 (ddiv_val (in64B_iff.1 hok.1) (in64B_iff.1 hok.2))
    exact fnOk_pure hc rfl rfl
  · cases h
noncomputable def orcDivD : Orc := ⟨28, fun args _ => oDivD args, fun _ _ _ h hok => oDivD_ok h hok, bodied Try.func28 (by kernel_rfl)⟩

noncomputable def oSqrtD : List SV → Option Eff
  | [.int .i64 a] => some { ok := in64B a, val := .int .i64 (rootN ((max a 0).toNat * 65536) : Nat) }
  | _ => none
theorem oSqrtD_ok {m : Nat → Option Row} {n : Nat} {args : List SV} {e : Eff} (h : oSqrtD args = some e) (hok : e.ok = true) : FnOk Try.prog 29 args m n e := by
  unfold oSqrtD at h
  split at h
  · rename_i a
    cases h
    skip
    obtain ⟨rows', hc, _⟩ := runK_ok xDs1_ok lok_none Try.func29 (sqrt_val (in64B_iff.1 hok))
    exact fnOk_pure hc rfl rfl
  · cases h
noncomputable def orcSqrtD : Orc := ⟨29, fun args _ => oSqrtD args, fun _ _ _ h hok => oSqrtD_ok h hok, bodied Try.func29 (by kernel_rfl)⟩

def oDotD : List SV → Option Eff
  | [.agg [.int .i64 a, .int .i64 b, .int .i64 c], .agg [.int .i64 p, .int .i64 q, .int .i64 r]] => some { ok := fitsB ⟨a, b, c⟩ && fitsB ⟨p, q, r⟩, val := .int .i64 (dotN ⟨a, b, c⟩ ⟨p, q, r⟩) }
  | _ => none
theorem oDotD_ok {m : Nat → Option Row} {n : Nat} {args : List SV} {e : Eff} (h : oDotD args = some e) (hok : e.ok = true) : FnOk Try.prog 37 args m n e := by
  unfold oDotD at h
  split at h
  · rename_i a b c p q r
    cases h
    rw [Bool.and_eq_true] at hok
    obtain ⟨rows', hc, _⟩ := runK_ok xMu_ok lok_none Try.func37 (ddot_val (a := ⟨a, b, c⟩) (b := ⟨p, q, r⟩) (fitsB_iff.1 hok.1) (fitsB_iff.1 hok.2))
    exact fnOk_pure hc rfl rfl
  · cases h
noncomputable def orcDotD : Orc := ⟨37, fun args _ => oDotD args, fun _ _ _ h hok => oDotD_ok h hok, bodied Try.func37 (by kernel_rfl)⟩

def oLongD : List SV → Option Eff
  | [.agg [.int .i64 a, .int .i64 b, .int .i64 c]] => some { ok := fitsB ⟨a, b, c⟩, val := .int .i64 (V3.long ⟨a, b, c⟩) }
  | _ => none
theorem oLongD_ok {m : Nat → Option Row} {n : Nat} {args : List SV} {e : Eff} (h : oLongD args = some e) (hok : e.ok = true) : FnOk Try.prog 38 args m n e := by
  unfold oLongD at h
  split at h
  · rename_i a b c
    cases h
    skip
    obtain ⟨rows', hc, _⟩ := runK_ok xMu_ok lok_none Try.func38 (dlong_val (a := ⟨a, b, c⟩) (fitsB_iff.1 hok))
    exact fnOk_pure hc rfl rfl
  · cases h
noncomputable def orcLongD : Orc := ⟨38, fun args _ => oLongD args, fun _ _ _ h hok => oLongD_ok h hok, bodied Try.func38 (by kernel_rfl)⟩

noncomputable def xTs : Ctx := ctxOf [] [orcMulD, orcSubD]
theorem xTs_ok : COk Try.prog xTs := ctxOf_ok (by kernel_rfl)

set_option maxRecDepth 100000 in
set_option maxHeartbeats 0 in
theorem ts_tree (a : V3) (n : Int) : runK xTs (fun _ _ => none) 300 36 Try.f36 0 [.agg a.sv, .int .i64 n] [] =
  bif in64B a.x && in64B n then
  bif in64B a.y && in64B n then bif in64B a.z && in64B n then some (SV.agg [SV.int IntKind.i64 (mul16 a.x n), SV.int IntKind.i64 (mul16 a.y n), SV.int IntKind.i64 (mul16 a.z n)], []) else none
  else none
  else none := by kernel_rfl

set_option maxRecDepth 100000 in
set_option maxHeartbeats 0 in
theorem ng_tree (a : Int) : runK xTs (fun _ _ => none) 300 26 Try.f26 0 [.int .i64 a] [] =
  bif in64B 0 && in64B a then some (SV.int IntKind.i64 (cut64 (0 - a)), []) else none := by kernel_rfl

theorem ts_val {a : V3} {n : Int} (ha : a.fits) (hn : In64 n) : runK xTs (fun _ _ => none) 300 36 Try.f36 0 [.agg a.sv, .int .i64 n] [] = some (.agg (a.times n).sv, []) := by
  rw [ts_tree, in64B_iff.2 ha.1, in64B_iff.2 ha.2.1, in64B_iff.2 ha.2.2, in64B_iff.2 hn]
  rfl
theorem ng_val {a : Int} (ha : In64 a) : runK xTs (fun _ _ => none) 300 26 Try.f26 0 [.int .i64 a] [] = some (.int .i64 (cut64 (-a)), []) := by
  rw [ng_tree, in64B_iff.2 ha, show (0 : Int) - a = -a by omega]
  rfl
def oTimesV : List SV → Option Eff
  | [.agg [.int .i64 a, .int .i64 b, .int .i64 c], .int .i64 n] => some { ok := fitsB ⟨a, b, c⟩ && in64B n, val := .agg (V3.times ⟨a, b, c⟩ n).sv }
  | _ => none
theorem oTimesV_ok {m : Nat → Option Row} {n : Nat} {args : List SV} {e : Eff} (h : oTimesV args = some e) (hok : e.ok = true) : FnOk Try.prog 36 args m n e := by
  unfold oTimesV at h
  split at h
  · rename_i a b c n
    cases h
    rw [Bool.and_eq_true] at hok
    obtain ⟨rows', hc, _⟩ := runK_ok xTs_ok lok_none Try.func36 (ts_val (a := ⟨a, b, c⟩) (fitsB_iff.1 hok.1) (in64B_iff.1 hok.2))
    exact fnOk_pure hc rfl rfl
  · cases h
noncomputable def orcTimesV : Orc := ⟨36, fun args _ => oTimesV args, fun _ _ _ h hok => oTimesV_ok h hok, bodied Try.func36 (by kernel_rfl)⟩

def oNegD : List SV → Option Eff
  | [.int .i64 a] => some { ok := in64B a, val := .int .i64 (cut64 (-a)) }
  | _ => none
theorem oNegD_ok {m : Nat → Option Row} {n : Nat} {args : List SV} {e : Eff} (h : oNegD args = some e) (hok : e.ok = true) : FnOk Try.prog 26 args m n e := by
  unfold oNegD at h
  split at h
  · rename_i a
    cases h
    skip
    obtain ⟨rows', hc, _⟩ := runK_ok xTs_ok lok_none Try.func26 (ng_val (in64B_iff.1 hok))
    exact fnOk_pure hc rfl rfl
  · cases h
noncomputable def orcNegD : Orc := ⟨26, fun args _ => oNegD args, fun _ _ _ h hok => oNegD_ok h hok, bodied Try.func26 (by kernel_rfl)⟩

noncomputable def oSubF : List SV → Option Eff
  | [.int .i64 a, .int .i64 b] => some { ok := in64B a && in64B b, val := .int .i64 (cut64 (a - b)) }
  | _ => none
theorem oSubF_ok {m : Nat → Option Row} {n : Nat} {args : List SV} {e : Eff} (h : oSubF args = some e) (hok : e.ok = true) : FnOk Try.prog 23 args m n e := by
  unfold oSubF at h
  split at h
  · rename_i a b
    cases h
    simp only [Bool.and_eq_true, in64B_iff] at hok
    refine fnOk_data (vargs := [I a, I b]) (fun ρ us h => ?_) (fun ρ => by simp only [Rel]) (fun w => sub_any a b w hok.1 hok.2)
    simp only [RelL, Rel] at h
    obtain ⟨_, _, rfl, rfl, _, _, rfl, rfl, rfl⟩ := h
    rfl
  · cases h
noncomputable def orcSubF : Orc := ⟨23, fun args _ => oSubF args, fun _ _ _ h hok => oSubF_ok h hok, bodied Try.func23 (by kernel_rfl)⟩

noncomputable def oAddF : List SV → Option Eff
  | [.int .i64 a, .int .i64 b] => some { ok := in64B a && in64B b, val := .int .i64 (cut64 (a + b)) }
  | _ => none
theorem oAddF_ok {m : Nat → Option Row} {n : Nat} {args : List SV} {e : Eff} (h : oAddF args = some e) (hok : e.ok = true) : FnOk Try.prog 21 args m n e := by
  unfold oAddF at h
  split at h
  · rename_i a b
    cases h
    simp only [Bool.and_eq_true, in64B_iff] at hok
    refine fnOk_data (vargs := [I a, I b]) (fun ρ us h => ?_) (fun ρ => by simp only [Rel]) (fun w => add_any a b w hok.1 hok.2)
    simp only [RelL, Rel] at h
    obtain ⟨_, _, rfl, rfl, _, _, rfl, rfl, rfl⟩ := h
    rfl
  · cases h
noncomputable def orcAddF : Orc := ⟨21, fun args _ => oAddF args, fun _ _ _ h hok => oAddF_ok h hok, bodied Try.func21 (by kernel_rfl)⟩

noncomputable def oNegF : List SV → Option Eff
  | [.int .i64 a] => some { ok := in64B a, val := .int .i64 (cut64 (-a)) }
  | _ => none
theorem oNegF_ok {m : Nat → Option Row} {n : Nat} {args : List SV} {e : Eff} (h : oNegF args = some e) (hok : e.ok = true) : FnOk Try.prog 25 args m n e := by
  unfold oNegF at h
  split at h
  · rename_i a
    cases h
    simp only [in64B_iff] at hok
    refine fnOk_data (vargs := [I a]) (fun ρ us h => ?_) (fun ρ => by simp only [Rel]) (fun w => neg_any a w hok)
    simp only [RelL, Rel] at h
    obtain ⟨_, _, rfl, rfl, rfl⟩ := h
    rfl
  · cases h
noncomputable def orcNegF : Orc := ⟨25, fun args _ => oNegF args, fun _ _ _ h hok => oNegF_ok h hok, bodied Try.func25 (by kernel_rfl)⟩

noncomputable def oMulF : List SV → Option Eff
  | [.int .i64 a, .int .i64 b] => some { ok := in64B a && in64B b, val := .int .i64 (mul16 a b) }
  | _ => none
theorem oMulF_ok {m : Nat → Option Row} {n : Nat} {args : List SV} {e : Eff} (h : oMulF args = some e) (hok : e.ok = true) : FnOk Try.prog 18 args m n e := by
  unfold oMulF at h
  split at h
  · rename_i a b
    cases h
    simp only [Bool.and_eq_true, in64B_iff] at hok
    refine fnOk_data (vargs := [I a, I b]) (fun ρ us h => ?_) (fun ρ => by simp only [Rel]) (fun w => mul_any a b w hok.1 hok.2)
    simp only [RelL, Rel] at h
    obtain ⟨_, _, rfl, rfl, _, _, rfl, rfl, rfl⟩ := h
    rfl
  · cases h
noncomputable def orcMulF : Orc := ⟨18, fun args _ => oMulF args, fun _ _ _ h hok => oMulF_ok h hok, bodied Try.func18 (by kernel_rfl)⟩

noncomputable def oDivF : List SV → Option Eff
  | [.int .i64 a, .int .i64 b] => some { ok := in64B a && in64B b, val := .int .i64 (divN a b) }
  | _ => none
theorem oDivF_ok {m : Nat → Option Row} {n : Nat} {args : List SV} {e : Eff} (h : oDivF args = some e) (hok : e.ok = true) : FnOk Try.prog 19 args m n e := by
  unfold oDivF at h
  split at h
  · rename_i a b
    cases h
    simp only [Bool.and_eq_true, in64B_iff] at hok
    refine fnOk_data (vargs := [I a, I b]) (fun ρ us h => ?_) (fun ρ => by simp only [Rel]) (fun w => div_any a b w hok.1 hok.2)
    simp only [RelL, Rel] at h
    obtain ⟨_, _, rfl, rfl, _, _, rfl, rfl, rfl⟩ := h
    rfl
  · cases h
noncomputable def orcDivF : Orc := ⟨19, fun args _ => oDivF args, fun _ _ _ h hok => oDivF_ok h hok, bodied Try.func19 (by kernel_rfl)⟩

noncomputable def oSqrtF : List SV → Option Eff
  | [.int .i64 a] => some { ok := in64B a, val := .int .i64 (rootN ((max a 0).toNat * 65536) : Nat) }
  | _ => none
theorem oSqrtF_ok {m : Nat → Option Row} {n : Nat} {args : List SV} {e : Eff} (h : oSqrtF args = some e) (hok : e.ok = true) : FnOk Try.prog 16 args m n e := by
  unfold oSqrtF at h
  split at h
  · rename_i a
    cases h
    simp only [in64B_iff] at hok
    refine fnOk_data (vargs := [I a]) (fun ρ us h => ?_) (fun ρ => by simp only [Rel]) (fun w => sqrt_any a w hok)
    simp only [RelL, Rel] at h
    obtain ⟨_, _, rfl, rfl, rfl⟩ := h
    rfl
  · cases h
noncomputable def orcSqrtF : Orc := ⟨16, fun args _ => oSqrtF args, fun _ _ _ h hok => oSqrtF_ok h hok, bodied Try.func16 (by kernel_rfl)⟩

noncomputable def oTimesF : List SV → Option Eff
  | [.agg [.int .i64 a, .int .i64 b, .int .i64 c], .int .i64 n] => some { ok := fitsB ⟨a, b, c⟩ && in64B n, val := .agg (V3.times ⟨a, b, c⟩ n).sv }
  | _ => none
theorem oTimesF_ok {m : Nat → Option Row} {n : Nat} {args : List SV} {e : Eff} (h : oTimesF args = some e) (hok : e.ok = true) : FnOk Try.prog 32 args m n e := by
  unfold oTimesF at h
  split at h
  · rename_i a b c n
    cases h
    simp only [Bool.and_eq_true, in64B_iff, fitsB_iff] at hok
    refine fnOk_data (vargs := [(⟨a, b, c⟩ : V3).v, I n]) (fun ρ us h => ?_) (fun ρ => rel_vec.2 rfl) (fun w => times_any ⟨a, b, c⟩ n w hok.1 hok.2)
    rw [RelL] at h
    obtain ⟨v, us, rfl, h1, h2⟩ := h
    rw [relL_one] at h2
    obtain ⟨u, rfl, h2⟩ := h2
    rw [rel_vec.1 h1]
    simp only [Rel] at h2
    rw [h2]
  · cases h
noncomputable def orcTimesF : Orc := ⟨32, fun args _ => oTimesF args, fun _ _ _ h hok => oTimesF_ok h hok, bodied Try.func32 (by kernel_rfl)⟩

noncomputable def oDotF : List SV → Option Eff
  | [.agg [.int .i64 a, .int .i64 b, .int .i64 c], .agg [.int .i64 p, .int .i64 q, .int .i64 r]] => some { ok := fitsB ⟨a, b, c⟩ && fitsB ⟨p, q, r⟩, val := .int .i64 (dotN ⟨a, b, c⟩ ⟨p, q, r⟩) }
  | _ => none
theorem oDotF_ok {m : Nat → Option Row} {n : Nat} {args : List SV} {e : Eff} (h : oDotF args = some e) (hok : e.ok = true) : FnOk Try.prog 33 args m n e := by
  unfold oDotF at h
  split at h
  · rename_i a b c p q r
    cases h
    simp only [Bool.and_eq_true, fitsB_iff] at hok
    refine fnOk_data (vargs := [(⟨a, b, c⟩ : V3).v, (⟨p, q, r⟩ : V3).v]) (fun ρ us h => ?_) (fun ρ => by simp only [Rel]) (fun w => dot_any ⟨a, b, c⟩ ⟨p, q, r⟩ w hok.1 hok.2)
    rw [RelL] at h
    obtain ⟨v, us, rfl, h1, h2⟩ := h
    rw [relL_one] at h2
    obtain ⟨u, rfl, h2⟩ := h2
    rw [rel_vec.1 h1, rel_vec.1 h2]
  · cases h
noncomputable def orcDotF : Orc := ⟨33, fun args _ => oDotF args, fun _ _ _ h hok => oDotF_ok h hok, bodied Try.func33 (by kernel_rfl)⟩

noncomputable def orcClampF : Orc := ⟨20, fun args _ => oClamp args, fun _ _ _ h hok => oClamp_ok h hok, bodied Try.func20 (by kernel_rfl)⟩
def oShown01 : List SV → Option Eff
  | [] => some { val := .bool true }
  | _ => none
theorem oShown01_ok {m : Nat → Option Row} {n : Nat} {args : List SV} {e : Eff} (h : oShown01 args = some e) : FnOk Try.prog 15 args m n e := by
  unfold oShown01 at h
  split at h
  · cases h
    refine fnOk_data (vargs := []) (fun ρ us h => ?_) (fun ρ => by simp only [Rel]) (fun w => shown01_any w)
    simpa only [RelL] using h
  · cases h
noncomputable def orcShown01 : Orc := ⟨15, fun args _ => oShown01 args, fun _ _ _ h _ => oShown01_ok h, bodied Try.func15 (by kernel_rfl)⟩

noncomputable def x01t : Ctx := ctxOf [] [orcShown01, orcAddF, orcSubF, orcNegF, orcMulF, orcDivF, orcSqrtF, orcAddD, orcSubD, orcNegD, orcMulD, orcDivD, orcSqrtD]
theorem x01t_ok : COk Try.prog x01t := ctxOf_ok (by kernel_rfl)

set_option maxRecDepth 100000 in
set_option maxHeartbeats 0 in
theorem ftells_tree (a b : Int) : runK x01t (fun _ _ => none) 300 6 Try.f6 0 [.int .i64 a, .int .i64 b] [] =
  bif (in64B a && in64B b && (in64B a && in64B b && true) && true || true != true) && (true || true == true) && true then
  bif
  (in64B a && in64B b && (in64B a && in64B b && true) && true || (bif true == true then cut64 (a + b) == cut64 (a + b) else false) != true) &&
  (true || (bif true == true then cut64 (a + b) == cut64 (a + b) else false) == true) &&
  true then
  bif
  (in64B a && (in64B a && true) && true || (bif (bif true == true then cut64 (a + b) == cut64 (a + b) else false) == true then cut64 (a - b) == cut64 (a - b) else false) != true) &&
  (true || (bif (bif true == true then cut64 (a + b) == cut64 (a + b) else false) == true then cut64 (a - b) == cut64 (a - b) else false) == true) &&
  true then
  bif
  (in64B a && in64B b && (in64B a && in64B b && true) && true ||
  (bif (bif (bif true == true then cut64 (a + b) == cut64 (a + b) else false) == true then cut64 (a - b) == cut64 (a - b) else false) == true then cut64 (-a) == cut64 (-a) else false) !=
  true) &&
  (true ||
  (bif (bif (bif true == true then cut64 (a + b) == cut64 (a + b) else false) == true then cut64 (a - b) == cut64 (a - b) else false) == true then cut64 (-a) == cut64 (-a) else false) ==
  true) &&
  true then
  bif
  (in64B a && in64B b && (in64B a && in64B b && true) && true ||
  (bif
  (bif (bif (bif true == true then cut64 (a + b) == cut64 (a + b) else false) == true then cut64 (a - b) == cut64 (a - b) else false) == true then cut64 (-a) == cut64 (-a)
  else false) ==
  true then
  mul16 a b == mul16 a b
  else false) !=
  true) &&
  (true ||
  (bif
  (bif (bif (bif true == true then cut64 (a + b) == cut64 (a + b) else false) == true then cut64 (a - b) == cut64 (a - b) else false) == true then cut64 (-a) == cut64 (-a)
  else false) ==
  true then
  mul16 a b == mul16 a b
  else false) ==
  true) &&
  true then
  bif
  (in64B a && (in64B a && true) && true ||
  (bif
  (bif
  (bif (bif (bif true == true then cut64 (a + b) == cut64 (a + b) else false) == true then cut64 (a - b) == cut64 (a - b) else false) == true then
  cut64 (-a) == cut64 (-a)
  else false) ==
  true then
  mul16 a b == mul16 a b
  else false) ==
  true then
  divN a b == divN a b
  else false) !=
  true) &&
  (true ||
  (bif
  (bif
  (bif (bif (bif true == true then cut64 (a + b) == cut64 (a + b) else false) == true then cut64 (a - b) == cut64 (a - b) else false) == true then
  cut64 (-a) == cut64 (-a)
  else false) ==
  true then
  mul16 a b == mul16 a b
  else false) ==
  true then
  divN a b == divN a b
  else false) ==
  true) &&
  true then
  some
  (SV.bool
  (bif
  (bif
  (bif
  (bif (bif (bif true == true then cut64 (a + b) == cut64 (a + b) else false) == true then cut64 (a - b) == cut64 (a - b) else false) == true then
  cut64 (-a) == cut64 (-a)
  else false) ==
  true then
  mul16 a b == mul16 a b
  else false) ==
  true then
  divN a b == divN a b
  else false) ==
  true then
  (↑(rootN ((max a 0).toNat * 65536)) : Int) == (↑(rootN ((max a 0).toNat * 65536)) : Int)
  else false),
  [])
  else none
  else none
  else none
  else none
  else none
  else none := by kernel_rfl

theorem ftells_law {a b : Int} (ha : In64 a) (hb : In64 b) : runK x01t (fun _ _ => none) 300 6 Try.f6 0 [.int .i64 a, .int .i64 b] [] = some (.bool true, []) := by
  rw [ftells_tree]
  simp only [in64B_iff.2 ha, in64B_iff.2 hb, beq_self_eq_true, Bool.and_self, Bool.and_true, Bool.true_or, cond_true]

noncomputable def x01v : Ctx := ctxOf [] [orcShown01, orcPlus, orcMinus, orcTimesF, orcDotF, orcLong, orcClampF, orcVecPlus, orcVecMinus, orcTimesV, orcDotD, orcLongD, orcClampD]
theorem x01v_ok : COk Try.prog x01v := ctxOf_ok (by kernel_rfl)

set_option maxRecDepth 100000 in
set_option maxHeartbeats 0 in
theorem fvec_tree (a b : V3) (n : Int) : runK x01v (fun _ _ => none) 300 14 Try.f14 0 [.agg a.sv, .agg b.sv, .int .i64 n] [] =
  bif fitsB a && fitsB b then
  bif fitsB a && fitsB b then
  bif (a.plus b).x == (a.plus b).x && ((a.plus b).y == (a.plus b).y && ((a.plus b).z == (a.plus b).z && true)) then
  bif fitsB a && fitsB b then
  bif fitsB a && fitsB b then
  bif fitsB a && in64B n then
  bif fitsB a && in64B n then
  bif (a.times n).x == (a.times n).x && ((a.times n).y == (a.times n).y && ((a.times n).z == (a.times n).z && true)) then
  bif fitsB a && fitsB b then
  bif fitsB a && fitsB b then
  bif (a.minus b).x == (a.minus b).x && ((a.minus b).y == (a.minus b).y && ((a.minus b).z == (a.minus b).z && true)) then
  bif dotN a b == dotN a b then
  bif fitsB a then
  bif fitsB a then
  bif a.long == a.long then
  bif in64B n then
  bif in64B n then some (SV.bool ((a.clamp n).x == (a.clamp n).x && ((a.clamp n).y == (a.clamp n).y && ((a.clamp n).z == (a.clamp n).z && true))), []) else none
  else none
  else some (SV.bool false, [])
  else none
  else none
  else some (SV.bool false, [])
  else some (SV.bool false, [])
  else none
  else none
  else bif (a.minus b).x == (a.minus b).x && ((a.minus b).y == (a.minus b).y && ((a.minus b).z == (a.minus b).z && true)) then some (SV.bool false, []) else some (SV.bool false, [])
  else none
  else none
  else none
  else none
  else
  bif fitsB a && in64B n then
  bif fitsB a && in64B n then
  bif (a.times n).x == (a.times n).x && ((a.times n).y == (a.times n).y && ((a.times n).z == (a.times n).z && true)) then
  bif fitsB a && fitsB b then bif fitsB a && fitsB b then some (SV.bool false, []) else none else none
  else some (SV.bool false, [])
  else none
  else none
  else none
  else none := by kernel_rfl

theorem fvec_law {a b : V3} {n : Int} (ha : a.fits) (hb : b.fits) (hn : In64 n) : runK x01v (fun _ _ => none) 300 14 Try.f14 0 [.agg a.sv, .agg b.sv, .int .i64 n] [] = some (.bool true, []) := by
  rw [fvec_tree]
  simp only [fitsB_iff.2 ha, fitsB_iff.2 hb, in64B_iff.2 hn, beq_self_eq_true, Bool.and_self, Bool.and_true, Bool.true_or, cond_true]

end Go.Proofs.Ytegafbkjdkpfiaa
