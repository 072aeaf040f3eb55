/- fix's Long as a contract: a root that can be reckoned. -/
import Derived.Test.YtboljdeeodeeeaaVmOrc
import Derived.Test.YtboljdeeodeeeaaFixG
namespace Go.Proofs.Ytboljdeeodeeeaa
set_option linter.unusedSimpArgs false
set_option linter.unusedVariables false
set_option maxRecDepth 100000
open Go.RowKit

def rootGo (W : Nat) : Nat → Nat → Nat
  | 0, n => n
  | k + 1, n => bif Nat.ble ((n + 2 ^ k) * (n + 2 ^ k)) W then rootGo W k (n + 2 ^ k) else rootGo W k n
theorem rootGo_spec {W : Nat} : ∀ (k n : Nat), n * n ≤ W → W < (n + 2 ^ k) * (n + 2 ^ k) → IsRoot W (rootGo W k n)
  | 0, n, h1, h2 => ⟨h1, by simpa [rootGo] using h2⟩
  | k + 1, n, h1, h2 => by
    rw [rootGo]
    cases hb : Nat.ble ((n + 2 ^ k) * (n + 2 ^ k)) W with
    | true =>
      refine rootGo_spec k (n + 2 ^ k) (Nat.le_of_ble_eq_true hb) ?_
      rw [show n + 2 ^ k + 2 ^ k = n + 2 ^ (k + 1) by rw [Nat.pow_succ]; omega]
      exact h2
    | false =>
      refine rootGo_spec k n h1 ?_
      rcases Nat.lt_or_ge W ((n + 2 ^ k) * (n + 2 ^ k)) with h | h
      · exact h
      · rw [Nat.ble_eq_true_of_le h] at hb; cases hb
def rootC (W : Nat) : Nat := rootGo W 64 0
theorem rootC_eq {W : Nat} (h : W < 340282366920938463463374607431768211456) : rootN W = rootC W := root_unique (rootN_spec W) (rootGo_spec 64 0 (Nat.zero_le _) (by
  have : (0 + 2 ^ 64) * (0 + 2 ^ 64) = 340282366920938463463374607431768211456 := by decide
  omega))

/-- A vector's length. -/
def V3.long (a : V3) : Int := signedN (rootC (upV a a)) false
def oLong : List SV → Option Eff
  | [.agg [.int .i64 x, .int .i64 y, .int .i64 z]] => some { ok := fitsB ⟨x, y, z⟩, val := .int .i64 (V3.long ⟨x, y, z⟩) }
  | _ => none
theorem upV_lt {a : V3} (h : a.fits) : upV a a < 340282366920938463463374607431768211456 := by
  have h1 := upN_le h.1 h.1
  have h2 := upN_le h.2.1 h.2.1
  have h3 := upN_le h.2.2 h.2.2
  unfold upV
  omega
theorem oLong_ok {m : Nat → Option Row} {n : Nat} {args : List SV} {e : Eff} (h : oLong args = some e) (hok : e.ok = true) : FnOk Try.prog 22 args m n e := by
  unfold oLong at h
  split at h
  · rename_i x y z
    cases h
    simp only [fitsB_iff] at hok
    refine fnOk_data (vargs := [(⟨x, y, z⟩ : V3).v]) (rv := I (V3.long ⟨x, y, z⟩)) (fun ρ us h => ?_) (fun ρ => by simp only [Rel]) (fun w => ?_)
    · rw [relL_one] at h
      obtain ⟨u, rfl, h⟩ := h
      rw [rel_vec.1 h]
    · have := long_any ⟨x, y, z⟩ w hok
      rw [rootC_eq (upV_lt hok)] at this
      exact this
  · cases h
noncomputable def orcLong : Orc := ⟨22, fun args _ => oLong args, fun _ _ _ h hok => oLong_ok h hok, bodied Try.func22 (by kernel_rfl)⟩

end Go.Proofs.Ytboljdeeodeeeaa
