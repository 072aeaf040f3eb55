/- WorldOwn: the law's call. -/
import Derived.Test.YtimkhidniolpeaaWnC
namespace Go.Proofs.Ytimkhidniolpeaa
set_option linter.unusedSimpArgs false
set_option linter.unusedVariables false
set_option maxRecDepth 100000
set_option maxHeartbeats 0
open Go.RowKit

def mkB (src dst n b : Nat) : Bool := decide (n ≤ src) && (decide ((0 : Int) = 0) && ((decide ((0 : Nat) < 0) || (some (0 : Nat)).isSome) && (decide (0 ≤ dst) && (decide (n ≤ 9223372036854775807) && decide (n * b ≤ 140737488355328)))))
def cpB (len : Nat) (xs : List Bool) : List Bool := ([] : List Bool).take 0 ++ (xs.drop 0).take len
def cpV (ls : Nat) (sp : List V3) : List V3 := ([] : List V3).take 0 ++ (sp.drop 0).take ls
noncomputable def endN (s : WS) : Option Res2 :=
 bif eqPs (s.ps.map PL.p) (s.ps.map PL.p) then bif decide (s.shots.length ≤ 1000) then bif decide (s.shots.length ≤ 1000) then bif eqSs s.shots s.shots then
  some (.bool (bif true == true then (bif true then true else false) else false), []) else none else none else none else none
noncomputable def g1N (w d h : Int) (len ls : Nat) (xs : List Bool) (sp : List V3) : WS := newG w d h (0 + len) 0 (cpB len xs) (0 + ls) 0 (cpV ls sp)
noncomputable def midN (w d h : Int) (len ls ll : Nat) (xs : List Bool) (sp : List V3) (cs : List WOp) : Option Res2 :=
 bif newC w d h (0 + len) 0 (cpB len xs) (0 + ls) 0 (cpV ls sp) && newV w d h (0 + len) 0 (cpB len xs) (0 + ls) 0 (cpV ls sp) then
 bif newC w d h len 0 xs ls 0 sp && newV w d h len 0 xs ls 0 sp then
 bif decide ((0 : Int) = 0) && (decide (ll ≤ cs.length) && ((decide (w = w) && (decide (d = d) && decide (h = h))) && wnB (0 + len) (0 + ls) (cpB len xs) (cpV ls sp) (g1N w d h len ls xs sp) (newG w d h len 0 xs ls 0 sp))) then
  endN (opsS cs (min ll 40) 0 (g1N w d h len ls xs sp)) else none else none else none
theorem wn_tree (w d h : Int) (len ls ll : Nat) (xs : List Bool) (sp : List V3) (cs : List WOp) : runK x16n (loopOf [lpoN1]) 300 7 Try.f7 0 [mapS w d h (.slice 0 1 0 len none) (.slice 1 3 0 ls none), .slice 2 12 0 ll none] [.vec true .bool xs, .vec true .vec sp, .vec true .wop cs] =
 bif sm1 w d h len ls xs sp then bif sm2 w d h len ls xs sp then some (.bool true, []) else
 bif mkB xs.length ([] : List Bool).length (0 + len) 1 then bif mkB sp.length ([] : List V3).length (0 + ls) 24 then midN w d h len ls ll xs sp cs else none else none else none := by kernel_rfl
theorem cpB_eq {len : Nat} {xs : List Bool} (h : xs.length = len) : cpB len xs = xs := by
 unfold cpB
 rw [List.take_nil, List.nil_append, List.drop_zero, ← h, List.take_length]
theorem cpV_eq {ls : Nat} {sp : List V3} (h : sp.length = ls) : cpV ls sp = sp := by
 unfold cpV
 rw [List.take_nil, List.nil_append, List.drop_zero, ← h, List.take_length]
theorem wn_law {w d h : Int} {len ls ll : Nat} {xs : List Bool} {sp : List V3} {cs : List WOp} (m : MapA w d h len ls xs sp) (hc : cs.length = ll) :
    runK x16n (loopOf [lpoN1]) 300 7 Try.f7 0 [mapS w d h (.slice 0 1 0 len none) (.slice 1 3 0 ls none), .slice 2 12 0 ll none] [.vec true .bool xs, .vec true .vec sp, .vec true .wop cs] = some (.bool true, []) := by
 rw [wn_tree, m.sm1, cond_true]
 refine bif_law (fun _ => rfl) (fun hr => ?_)
 have hv := sm2_false hr
 have hv' := hv
 unfold newV Mp.right at hv'
 simp only [Bool.and_eq_true, Bool.not_eq_true', beq_eq_false_iff_ne, decide_eq_false_iff_not] at hv'
 obtain ⟨⟨hs, h1, h2⟩, _⟩ := hv'
 have hl := sized_len hs
 have hl1 : 1 ≤ len := hl.1
 have hl2 : len ≤ 32768 := hl.2
 have hi := m.inv hv
 have hn := opsS_inv cs (min ll 40) 0 0 _ hi (by omega)
 have hx := m.ix
 have hsp := m.isp
 have a1 : mkB xs.length ([] : List Bool).length (0 + len) 1 = true := by
  simp only [mkB, Bool.and_eq_true, decide_eq_true_eq]
  refine ⟨by omega, ?_, ?_, Nat.zero_le _, by omega, by omega⟩ <;> simp
 have a2 : mkB sp.length ([] : List V3).length (0 + ls) 24 = true := by
  simp only [mkB, Bool.and_eq_true, decide_eq_true_eq]
  refine ⟨by omega, ?_, ?_, Nat.zero_le _, by omega, by omega⟩ <;> simp
 have hg : g1N w d h len ls xs sp = newG w d h len 0 xs ls 0 sp := by
  unfold g1N
  rw [cpB_eq hx, cpV_eq hsp, Nat.zero_add, Nat.zero_add]
 have hb : wnB len ls xs sp (newG w d h len 0 xs ls 0 sp) (newG w d h len 0 xs ls 0 sp) = true := by
  refine wnB_iff.2 ⟨hi, rfl, ?_, by omega, by omega, by omega, by omega⟩
  show ((xs.drop 0).take len).length ≤ 100000
  simp only [List.length_take]
  omega
 rw [a1, a2, cond_true, cond_true]
 unfold midN
 rw [hg, cpB_eq hx, cpV_eq hsp, Nat.zero_add, Nat.zero_add, m.newC, hv, hb, decide_eq_true (show ll ≤ cs.length by omega)]
 simp only [decide_true, Bool.and_true, cond_true]
 unfold endN
 rw [eqPs_refl (by have := hn.few; simp; omega), eqSs_refl (by have := hn.shots; omega), decide_eq_true (show _ ≤ 1000 by have := hn.shots; omega)]
 rfl

end Go.Proofs.Ytimkhidniolpeaa
