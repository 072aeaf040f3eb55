/- A game's methods: what they are walked with. -/
import Derived.Test.YtimkhidniolpeaaVmR
import Derived.Test.YtimkhidniolpeaaVmOra
import Derived.Test.YtimkhidniolpeaaVmTr
import Derived.Test.YtimkhidniolpeaaVmSs
import Derived.Test.YtimkhidniolpeaaVmNw
import Derived.Test.YtimkhidniolpeaaVmHt
namespace Go.Proofs.Ytimkhidniolpeaa
set_option linter.unusedSimpArgs false
set_option linter.unusedVariables false
set_option maxRecDepth 100000
set_option maxHeartbeats 0
open Go.RowKit

noncomputable def xNe : Ctx := ctxOf [] []
theorem xNe_ok : COk Try.prog xNe := ctxOf_ok (by kernel_rfl)
def nearB (a b f : Int) : Bool := decide (IntKind.i64.wrap (a - b) ≤ f) && decide (IntKind.i64.wrap (b - a) ≤ f)
theorem near_tree' (a b f : Int) : runK xNe (fun _ _ => none) 200 74 Try.f74 0 [.int .i64 a, .int .i64 b, .int .i64 f] [] =
    some (.bool (bif (decide (IntKind.i64.wrap (a - b) ≤ f) == true) then (bif true then decide (IntKind.i64.wrap (b - a) ≤ f) else false) else false), []) := by kernel_rfl
theorem near_val' (a b f : Int) : runK xNe (fun _ _ => none) 200 74 Try.f74 0 [.int .i64 a, .int .i64 b, .int .i64 f] [] = some (.bool (nearB a b f), []) := by
 rw [near_tree']
 unfold nearB
 cases decide (IntKind.i64.wrap (a - b) ≤ f) <;> rfl
def oNearB : List SV → Option Eff
 | [.int .i64 a, .int .i64 b, .int .i64 f] => some { val := .bool (nearB a b f) }
 | _ => none
theorem oNearB_ok {m : Nat → Option Row} {n : Nat} {args : List SV} {e : Eff} (h : oNearB args = some e) : FnOk Try.prog 74 args m n e := by
 unfold oNearB at h
 split at h
 · cases h
   obtain ⟨rows', hc, _⟩ := runK_ok xNe_ok lok_none Try.func74 (near_val' _ _ _)
   exact fnOk_pure hc rfl rfl
 · cases h
noncomputable def orcNearW : Orc := ⟨74, fun args _ => oNearB args, fun _ _ _ h _ => oNearB_ok h, bodied Try.func74 (by kernel_rfl)⟩

noncomputable def xHi : Ctx := ctxOf [] [orcNearW]
theorem xHi_ok : COk Try.prog xHi := ctxOf_ok (by kernel_rfl)
def hitB (s : Sh) (p : Pl) : Bool := decide (p.dead ≤ 0) && (p.id != s.owner && (nearB s.pos.x p.pos.x 26214 && (nearB s.pos.y p.pos.y 26214 && nearB s.pos.z p.pos.z 58982)))
def andF (a b : Bool) : Bool := bif (a == true) then (bif true then b else false) else false
theorem andF_eq (a b : Bool) : andF a b = (a && b) := by cases a <;> rfl
theorem hits_tree (s : Sh) (p : Pl) : runK xHi (fun _ _ => none) 200 56 Try.f56 0 [.agg s.sv, .agg p.sv] [] =
    some (.bool (andF (andF (andF (andF (decide (p.dead ≤ 0)) (p.id != s.owner)) (nearB s.pos.x p.pos.x 26214)) (nearB s.pos.y p.pos.y 26214)) (nearB s.pos.z p.pos.z 58982)), []) := by kernel_rfl
theorem hits_val (s : Sh) (p : Pl) : runK xHi (fun _ _ => none) 200 56 Try.f56 0 [.agg s.sv, .agg p.sv] [] = some (.bool (hitB s p), []) := by
 rw [hits_tree]
 simp only [andF_eq, hitB, Bool.and_assoc]
def oHits : List SV → Option Eff
 | [.agg cs, .agg ds] => match dSh cs, dPl ds with
  | some s, some p => some { val := .bool (hitB s p) }
  | _, _ => none
 | _ => none
theorem oHits_ok {m : Nat → Option Row} {n : Nat} {args : List SV} {e : Eff} (h : oHits args = some e) : FnOk Try.prog 56 args m n e := by
 unfold oHits at h
 split at h
 · split at h
   · rename_i s p hs hp
     cases h
     rw [dSh_sv hs, dPl_sv hp]
     obtain ⟨rows', hc, _⟩ := runK_ok xHi_ok lok_none Try.func56 (hits_val s p)
     exact fnOk_pure hc rfl rfl
   · cases h
 · cases h
noncomputable def orcHits : Orc := ⟨56, fun args _ => oHits args, fun _ _ _ h _ => oHits_ok h, bodied Try.func56 (by kernel_rfl)⟩

noncomputable def roW : List Nat := [31, 30, 16, 55, 60, 54, 73, 37, 49, 50]
noncomputable def xWo : Ctx := ctxOf [59, 28] [orcSpawn, orcFire, orcAtick, orcBack, orcStepW, orcNew, orcStep, orcBurst, orcHits] roW
theorem xWo_ok : COk Try.prog xWo := ctxOf_ok (by kernel_rfl)

def WS.mp (s : WS) : Mp := mpOf s.w s.d s.h s.cells.length fun j => s.cells.getD (0 + j) false
def endV (l : WLay) (s : WS) (v : SV) (more : List Row) : Option Res2 := some (.tuple [v, .slice 0 0 0 s.cells.length (some l.cc), .slice 0 0 0 s.spawns.length (some l.sc), (match l.pc with | none => .nils | some c => .slice 0 0 0 s.ps.length (some c)), (match l.hc with | none => .nils | some c => .slice 0 0 0 s.shots.length (some c))], .obj s :: more)

theorem game_cases {C : WS → WLay → Prop} (H : ∀ (w d h : Int) (cells : List Bool) (spawns : List V3) (now given fired : Int) (cc sc : Nat),
    (∀ (shots : List Sh) (hc : Nat), C ⟨w, d, h, cells, spawns, now, [], shots, given, fired⟩ ⟨cc, sc, none, some hc⟩) ∧ C ⟨w, d, h, cells, spawns, now, [], [], given, fired⟩ ⟨cc, sc, none, none⟩ ∧
    (∀ (c : Nat) (shots : List Sh) (hc : Nat), C ⟨w, d, h, cells, spawns, now, [], shots, given, fired⟩ ⟨cc, sc, some c, some hc⟩ ∧ ∀ p1, (C ⟨w, d, h, cells, spawns, now, [p1], shots, given, fired⟩ ⟨cc, sc, some c, some hc⟩ ∧ ∀ p2, (C ⟨w, d, h, cells, spawns, now, [p1, p2], shots, given, fired⟩ ⟨cc, sc, some c, some hc⟩ ∧ ∀ p3, (C ⟨w, d, h, cells, spawns, now, [p1, p2, p3], shots, given, fired⟩ ⟨cc, sc, some c, some hc⟩ ∧ ∀ p4, (C ⟨w, d, h, cells, spawns, now, [p1, p2, p3, p4], shots, given, fired⟩ ⟨cc, sc, some c, some hc⟩ ∧ ∀ p5, (C ⟨w, d, h, cells, spawns, now, [p1, p2, p3, p4, p5], shots, given, fired⟩ ⟨cc, sc, some c, some hc⟩ ∧ ∀ p6, (C ⟨w, d, h, cells, spawns, now, [p1, p2, p3, p4, p5, p6], shots, given, fired⟩ ⟨cc, sc, some c, some hc⟩ ∧ ∀ p7, (C ⟨w, d, h, cells, spawns, now, [p1, p2, p3, p4, p5, p6, p7], shots, given, fired⟩ ⟨cc, sc, some c, some hc⟩ ∧ ∀ p8, (C ⟨w, d, h, cells, spawns, now, [p1, p2, p3, p4, p5, p6, p7, p8], shots, given, fired⟩ ⟨cc, sc, some c, some hc⟩))))))))) ∧
    (∀ (c : Nat), C ⟨w, d, h, cells, spawns, now, [], [], given, fired⟩ ⟨cc, sc, some c, none⟩ ∧ ∀ p1, (C ⟨w, d, h, cells, spawns, now, [p1], [], given, fired⟩ ⟨cc, sc, some c, none⟩ ∧ ∀ p2, (C ⟨w, d, h, cells, spawns, now, [p1, p2], [], given, fired⟩ ⟨cc, sc, some c, none⟩ ∧ ∀ p3, (C ⟨w, d, h, cells, spawns, now, [p1, p2, p3], [], given, fired⟩ ⟨cc, sc, some c, none⟩ ∧ ∀ p4, (C ⟨w, d, h, cells, spawns, now, [p1, p2, p3, p4], [], given, fired⟩ ⟨cc, sc, some c, none⟩ ∧ ∀ p5, (C ⟨w, d, h, cells, spawns, now, [p1, p2, p3, p4, p5], [], given, fired⟩ ⟨cc, sc, some c, none⟩ ∧ ∀ p6, (C ⟨w, d, h, cells, spawns, now, [p1, p2, p3, p4, p5, p6], [], given, fired⟩ ⟨cc, sc, some c, none⟩ ∧ ∀ p7, (C ⟨w, d, h, cells, spawns, now, [p1, p2, p3, p4, p5, p6, p7], [], given, fired⟩ ⟨cc, sc, some c, none⟩ ∧ ∀ p8, (C ⟨w, d, h, cells, spawns, now, [p1, p2, p3, p4, p5, p6, p7, p8], [], given, fired⟩ ⟨cc, sc, some c, none⟩)))))))))) (s : WS) (l : WLay) (ok : LayOk l s) : C s l := by
 obtain ⟨w, d, h, cells, spawns, now, ps, shots, given, fired⟩ := s
 obtain ⟨cc, sc, pc, hc⟩ := l
 obtain ⟨hp, hh, _, hf⟩ := ok
 obtain ⟨h1, h2, h3, h4⟩ := H w d h cells spawns now given fired cc sc
 have few : ∀ {D : List PL → Prop}, (D [] ∧ ∀ p1, (D [p1] ∧ ∀ p2, (D [p1, p2] ∧ ∀ p3, (D [p1, p2, p3] ∧ ∀ p4, (D [p1, p2, p3, p4] ∧ ∀ p5, (D [p1, p2, p3, p4, p5] ∧ ∀ p6, (D [p1, p2, p3, p4, p5, p6] ∧ ∀ p7, (D [p1, p2, p3, p4, p5, p6, p7] ∧ ∀ p8, (D [p1, p2, p3, p4, p5, p6, p7, p8]))))))))) → D ps := by
  intro D hD
  match ps, hf with
  | [], _ => exact hD.1
  | [_], _ => exact (hD.2 _).1
  | [_, _], _ => exact ((hD.2 _).2 _).1
  | [_, _, _], _ => exact (((hD.2 _).2 _).2 _).1
  | [_, _, _, _], _ => exact ((((hD.2 _).2 _).2 _).2 _).1
  | [_, _, _, _, _], _ => exact (((((hD.2 _).2 _).2 _).2 _).2 _).1
  | [_, _, _, _, _, _], _ => exact ((((((hD.2 _).2 _).2 _).2 _).2 _).2 _).1
  | [_, _, _, _, _, _, _], _ => exact (((((((hD.2 _).2 _).2 _).2 _).2 _).2 _).2 _).1
  | [_, _, _, _, _, _, _, _], _ => exact (((((((hD.2 _).2 _).2 _).2 _).2 _).2 _).2 _).2 _
  | _ :: _ :: _ :: _ :: _ :: _ :: _ :: _ :: _ :: _, hf => simp at hf
 cases pc with
 | none =>
  obtain rfl := hp rfl
  cases hc with
  | none => obtain rfl := hh rfl; exact h2
  | some hc => exact h1 shots hc
 | some c =>
  cases hc with
  | none => obtain rfl := hh rfl; exact few (D := fun ps => C ⟨w, d, h, cells, spawns, now, ps, [], given, fired⟩ ⟨cc, sc, some c, none⟩) (h4 c)
  | some hc => exact few (D := fun ps => C ⟨w, d, h, cells, spawns, now, ps, shots, given, fired⟩ ⟨cc, sc, some c, some hc⟩) (h3 c shots hc)

theorem endV_ends {l : WLay} {s : WS} (v : SV) (more : List Row) (ok : LayOk l s) : Ends (endV l s v more) v s more := by
 refine ⟨_, _, _, _, rfl, ⟨rfl, .inr rfl⟩, ⟨rfl, .inr rfl⟩, ?_, ?_, ok.few⟩
 · cases hp : l.pc with
   | none => simp [SV.firm, ok.pn hp]
   | some c => exact ⟨rfl, .inr rfl⟩
 · cases hh : l.hc with
   | none => simp [SV.firm, ok.hn hh]
   | some c => exact ⟨rfl, .inr rfl⟩

def leftT (l : WLay) (s : WS) (id : Int) : List PL → Option Res2
 | [] => endV l s (.int .i64 0) []
 | p :: ps => bif p.p.id == id then endV l s (.int .i64 p.left) [] else leftT l s id ps
theorem left_tree (id : Int) : ∀ (s : WS) (l : WLay), LayOk l s → runG xWo (fun _ _ => none) 300 19 Try.f19 foldK [.ptr 0 0 0 0, .int .i64 id] (s.rows l) = leftT l s id s.ps :=
 game_cases fun w d h cells spawns now given fired cc sc => by repeat' (first | apply And.intro | intro _ | kernel_rfl)

def leftL (id : Int) : List PL → Int
 | [] => 0
 | p :: ps => bif p.p.id == id then p.left else leftL id ps
theorem leftT_eq (l : WLay) (s : WS) (id : Int) : ∀ ps, leftT l s id ps = endV l s (.int .i64 (leftL id ps)) []
 | [] => rfl
 | p :: ps => by
  rw [leftT, leftL, leftT_eq l s id ps]
  cases p.p.id == id <;> rfl
theorem now_tree : ∀ (s : WS) (l : WLay), LayOk l s → runG xWo (fun _ _ => none) 300 21 Try.f21 foldK [.ptr 0 0 0 0] (s.rows l) = endV l s (.int .i64 s.now) [] :=
 game_cases fun w d h cells spawns now given fired cc sc => by repeat' (first | apply And.intro | intro _ | kernel_rfl)

end Go.Proofs.Ytimkhidniolpeaa
