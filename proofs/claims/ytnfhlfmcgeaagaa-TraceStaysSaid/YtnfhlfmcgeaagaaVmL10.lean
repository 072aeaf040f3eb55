/- The small machine in the laws of package trace: what must be in any case. -/
import Derived.Test.YtnfhlfmcgeaagaaVmL9
namespace Go.Proofs.Ytnfhlfmcgeaagaa
set_option linter.unusedSimpArgs false
set_option linter.unusedVariables false
open Go.RowKit

set_option maxRecDepth 100000 in
set_option maxHeartbeats 0 in
theorem shown_tree (u : Nat) : runK x10 (fun _ _ => none) 200 10 Try.f10 0 [] [] =
  some
    (SV.bool
        (bif
            (bif
                  (bif (mpOf 2 2 2 (Int.toNat 8) fun j => ((List.replicate (Int.toNat 8) false).set (0 + Int.toNat 1) true).getD (0 + j) false).free { x := 32768, y := 32768, z := 65536 } == true then
                      !(mpOf 2 2 2 (Int.toNat 8) fun j => ((List.replicate (Int.toNat 8) false).set (0 + Int.toNat 1) true).getD (0 + j) false).free { x := 0, y := 0, z := 0 }
                    else false) ==
                    true then
                ((mpOf 2 2 2 (Int.toNat 8) fun j => ((List.replicate (Int.toNat 8) false).set (0 + Int.toNat 1) true).getD (0 + j) false).slide { x := 32768, y := 32768, z := 65536 }
                          { x := 32768, y := 32768, z := 0 }).fst.x ==
                    32768 &&
                  (((mpOf 2 2 2 (Int.toNat 8) fun j => ((List.replicate (Int.toNat 8) false).set (0 + Int.toNat 1) true).getD (0 + j) false).slide { x := 32768, y := 32768, z := 65536 }
                            { x := 32768, y := 32768, z := 0 }).fst.y ==
                      65536 &&
                    (((mpOf 2 2 2 (Int.toNat 8) fun j => ((List.replicate (Int.toNat 8) false).set (0 + Int.toNat 1) true).getD (0 + j) false).slide { x := 32768, y := 32768, z := 65536 }
                              { x := 32768, y := 32768, z := 0 }).fst.z ==
                        65536 &&
                      true))
              else false) ==
              true then
          ((mpOf 2 2 2 (Int.toNat 8) fun j => ((List.replicate (Int.toNat 8) false).set (0 + Int.toNat 1) true).getD (0 + j) false).slide { x := 32768, y := 32768, z := 65536 }
                    { x := 32768, y := 32768, z := 0 }).snd.fst ==
              true &&
            (((mpOf 2 2 2 (Int.toNat 8) fun j => ((List.replicate (Int.toNat 8) false).set (0 + Int.toNat 1) true).getD (0 + j) false).slide { x := 32768, y := 32768, z := 65536 }
                        { x := 32768, y := 32768, z := 0 }).snd.snd.fst ==
                false &&
              (((mpOf 2 2 2 (Int.toNat 8) fun j => ((List.replicate (Int.toNat 8) false).set (0 + Int.toNat 1) true).getD (0 + j) false).slide { x := 32768, y := 32768, z := 65536 }
                          { x := 32768, y := 32768, z := 0 }).snd.snd.snd ==
                  false &&
                true))
        else false),
      []) := by kernel_rfl


theorem shown_val : runK x10 (fun _ _ => none) 200 10 Try.f10 0 [] [] = some (.bool true, []) := by
  rw [shown_tree 0]
  simp only [slide_eq, free_eq]
  kernel_rfl

noncomputable def call10 (f : Nat) (args : List SV) (rows : List Row) : Option Eff :=
  bif Nat.beq f 10 then (match args with
    | [] => some { val := .bool true }
    | _ => none) else call10a f args rows
noncomputable def x10b : Ctx := ⟨vmT, fnsOf fns10, call10⟩
theorem x10b_ok : COk Try.prog x10b where
  mixed := by kernel_rfl
  T := vmT_ok
  fn := fnsOf_ok (by kernel_rfl)
  call := fun f args rows e h hok => by
    simp only [x10b, call10] at h
    cases h1 : Nat.beq f 10 with
    | true =>
      simp only [h1, cond_true] at h
      have := Nat.eq_of_beq_eq_true h1
      subst this
      split at h
      · cases h
        obtain ⟨rows', hc, _⟩ := runK_ok x10_ok lok_none Try.func10 shown_val
        exact ⟨fnOk_pure hc rfl rfl, bodied Try.func10 (by kernel_rfl)⟩
      · cases h
    | false =>
      simp only [h1, cond_false] at h
      exact call10a_ok h hok

end Go.Proofs.Ytnfhlfmcgeaagaa
