/- The small machine: rounds whose early returns are not looked into. Of whatever program. -/
import Derived.Test.YtimkhidniolpeaaVmI
namespace Go.Proofs.Ytimkhidniolpeaa
set_option linter.unusedSimpArgs false
set_option linter.unusedVariables false
set_option maxRecDepth 100000
set_option maxHeartbeats 0
open Go.RowKit

def retB : Ex → Bool
 | .ret => true
 | _ => false
def encQ (N n0 : Nat) (keep : List Nat) (e : Ex) (s : St) : Option Res2 := bif retB e then some (.nils, []) else encN N n0 keep e s
theorem encQ_tuple {N n0 : Nat} {keep : List Nat} {e : Ex} {s : St} {l : List SV} {R : List Row} (h : encQ N n0 keep e s = some (.tuple l, R)) : encN N n0 keep e s = some (.tuple l, R) := by
 unfold encQ at h
 cases hb : retB e with
 | true => rw [hb] at h; cases h
 | false => rw [hb] at h; exact h
def roundQ (X : Ctx) (L : Nat → List Nat → Option LoopF) (fuel f : Nat) (p : List Nat) (b : Code) (N n0 : Nat) (keep : List Nat) (v : List SV) (R : List Row) : Option Res2 :=
 exec X L fuel f (0 :: p) b (nrm N keep v R) (encQ N n0 keep)

section
variable {P : Program} {X : Ctx}

theorem loopToQ_ok (hX : COk P X) {L : Nat → List Nat → Option LoopF} (hL : LOk P L) {fuel f : Nat} {p : List Nat} {b : Code} (hat : At P f p (.loop b)) {N n0 : Nat} {keep : List Nat} {v v' : List SV} {R R' : List Row} {e : Ex}
    (h : LoopTo (roundQ X L fuel f p b N n0 keep) v R e v' R') : ∃ m, ∀ (ρ0 : Rho) (m0 : Rws) (w0 : World), (∀ i, m0 i = none ↔ n0 ≤ i) → (∀ i, m0 i = none → ρ0 i = none) →
     ∀ (ρ : Rho) (a : Act) (w : World), SRel ρ (nrm N keep v R).cf a w → PrgO ρ0 m0 w0 ρ (nrm N keep v R).cf.m w → ∀ Q : Exit → Act → World → Prop,
      (∀ ρ' a' w', SRel ρ' (nrm N keep v' R').cf a' w' → PrgO ρ0 m0 w0 ρ' (nrm N keep v' R').cf.m w' → Q e.to a' w') → Code.rounds P b Q m a w := by
 have step : ∀ {v R e1 v1 R1}, roundQ X L fuel f p b N n0 keep v R = some (.tuple [exS e1, .tuple v1], R1) → ∀ (ρ0 : Rho) (m0 : Rws) (w0 : World), (∀ i, m0 i = none ↔ n0 ≤ i) → (∀ i, m0 i = none → ρ0 i = none) →
     ∀ (ρ : Rho) (a : Act) (w : World), SRel ρ (nrm N keep v R).cf a w → PrgO ρ0 m0 w0 ρ (nrm N keep v R).cf.m w → ∀ Q : Exit → Act → World → Prop,
      (∀ ρ' a' w', SRel ρ' (nrm N keep v1 R1).cf a' w' → PrgO ρ0 m0 w0 ρ' (nrm N keep v1 R1).cf.m w' → Q e1.to a' w') → b.wp P Q a w := by
  intro v R e1 v1 R1 hr ρ0 m0 w0 hm0 hf0 ρ a w hs hp Q hQ
  obtain ⟨e2, s2, h1, h2⟩ := exec_ok hX hL fuel f (0 :: p) b _ _ _ hr (hat.child rfl)
  have h1 := encQ_tuple h1
  unfold encN at h1
  split at h1
  · rename_i v2 R2 hn
    simp only [Option.some.injEq, Prod.mk.injEq, SV.tuple.injEq, List.cons.injEq, and_true] at h1
    obtain ⟨⟨he, rfl⟩, rfl⟩ := h1
    have := exS_inj he
    subst this
    refine h2.tri ρ a w hs Q fun ρ' a' w' g1 g2 => ?_
    obtain ⟨k1, k2⟩ := norm_ok hn g1
    exact hQ _ a' w' k1 (k2 ρ0 m0 w0 hm0 hf0 (hp.trans g2))
  · cases h1
 induction h with
 | done hr hne =>
  refine ⟨1, fun ρ0 m0 w0 hm0 hf0 ρ a w hs hp Q hQ => ?_⟩
  rw [rounds_succ]
  refine step hr ρ0 m0 w0 hm0 hf0 ρ a w hs hp _ fun ρ' a' w' g1 g2 => ?_
  rename_i e' _ _ 
  cases e' with
  | normal => exact absurd rfl hne
  | exit i => exact hQ ρ' a' w' g1 g2
  | ret => exact hQ ρ' a' w' g1 g2
 | more hr _ ih =>
  obtain ⟨m, hm⟩ := ih
  refine ⟨m + 1, fun ρ0 m0 w0 hm0 hf0 ρ a w hs hp Q hQ => ?_⟩
  rw [rounds_succ]
  exact step (e1 := .normal) hr ρ0 m0 w0 hm0 hf0 ρ a w hs hp _ fun ρ' a' w' g1 g2 => hm ρ0 m0 w0 hm0 hf0 ρ' a' w' g1 g2 Q hQ

theorem loopFQ_ok (hX : COk P X) {L : Nat → List Nat → Option LoopF} (hL : LOk P L) {fuel f : Nat} {p : List Nat} {b : Code} (hat : At P f p (.loop b)) {N : Nat} {keep : List Nat} {out : List SV → List Row → (Ex → List SV → List Row → Option Res2) → Option Res2}
    (hout : ∀ v R k r, out v R k = some r → ∃ e v' R', k e v' R' = some r ∧ LoopTo (roundQ X L fuel f p b N R.length keep) v R e v' R') {s : St} {K : Ex → St → Option Res2} {r : Res2} (h : loopF N keep out s K = some r) : ∃ e s', K e s' = some r ∧ TriL P b s e s' := by
 unfold loopF at h
 cases hb : Nat.beq s.tmps.n N with
 | false => simp [hb] at h
 | true =>
  simp only [hb, cond_true] at h
  have hN := Nat.eq_of_beq_eq_true hb
  obtain ⟨e, v', R', h1, h2⟩ := hout _ _ _ _ h
  obtain ⟨m, hm⟩ := loopToQ_ok hX hL hat h2
  refine ⟨e, _, h1, m, fun ρ a w hs Q hQ => ?_⟩
  exact hm ρ s.cf.m w (fun i => by simp [St.cf]) hs.free ρ a w (enter_nrm hN hs) (PrgO.refl ρ s.cf.m w hs.free) Q hQ
end
end Go.Proofs.Ytimkhidniolpeaa
