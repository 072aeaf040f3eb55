/- grid's Sight: the steps of a line's axes. grid's Sight: the steps of a line's axes, as a contract. grid's Sight: its loops, round by round. -/
import Derived.Test.YtimkhidniolpeaaVmSi
import Derived.Test.YtimkhidniolpeaaVmR
import Derived.Test.YtimkhidniolpeaaVmO
import Derived.Test.YtimkhidniolpeaaVmOra
namespace Go.Proofs.Ytimkhidniolpeaa
set_option linter.unusedSimpArgs false
set_option linter.unusedVariables false
set_option maxRecDepth 100000
set_option maxHeartbeats 0
open Go.RowKit

noncomputable def xStp : Ctx := ctxOf [96] [⟨94, fun args _ => oDue args, fun _ _ _ h _ => oDue_ok h, bodied Try.func94 (by kernel_rfl)⟩, ⟨95, fun args _ => oAhead args, fun _ _ _ h _ => oAhead_ok h, bodied Try.func95 (by kernel_rfl)⟩, ⟨62, oSolid, fun _ _ _ h hok => oSolid_ok h hok, bodied Try.func62 (by kernel_rfl)⟩]
theorem xStp_ok : COk Try.prog xStp := ctxOf_ok (by kernel_rfl)

theorem steps_round0 (w d h : Int) (len : Nat) (cap : Option Nat) (ro : Bool) (xs : List Bool) (off : Nat) (s : Bool) (dir : Int) (a b c x : Ax) : roundS xStp (fun _ _ => none) 100 93 [0, 1, 0, 1, 1] (bodyAt Try.f93 [0, 1, 0, 1, 1]) 52 4 [1, 2, 3, 4, 6, 7, 10] [.int .i64 dir, .ptr 2 0 0 0, .ptr 1 0 0 0, .ptr 3 0 0 0, .bool false, .bool s, .int .i64 0] [.vec ro .bool xs, .own [.int .i64 w, .int .i64 d, .int .i64 h, .slice 0 1 off len cap, .unk], .own [.int .i64 a.c, .int .i64 a.d, .int .i64 a.n, .int .i64 a.e, .int .i64 b.c, .int .i64 b.d, .int .i64 b.n, .int .i64 b.e, .int .i64 c.c, .int .i64 c.d, .int .i64 c.n, .int .i64 c.e], .own [.int .i64 x.c, .int .i64 x.d, .int .i64 x.n, .int .i64 x.e]] =
 bif a.d == dir then
  bif (⟨a.c, a.d, a.n, a.e⟩ : Ax).due then
   bif !(⟨x.c, x.d, x.n, x.e⟩ : Ax).ahead (⟨a.c, a.d, a.n, a.e⟩ : Ax) then
    some
     (SV.tuple [SV.nilp, SV.tuple [.int .i64 dir, SV.ptr 2 0 0 0, SV.ptr 1 0 0 0, SV.ptr 3 0 0 0, SV.bool false, SV.bool true, .int .i64 (IntKind.i64.wrap (0 + 1))]],
      [Row.vec ro Knd.bool xs, Row.own [.int .i64 w, .int .i64 d, .int .i64 h, SV.slice 0 1 off len cap, SV.unk],
       Row.own
        [.int .i64 (IntKind.i64.wrap (a.c + a.d)), .int .i64 a.d, .int .i64 (IntKind.i64.wrap (a.n + 65536)), .int .i64 a.e, .int .i64 b.c,
         .int .i64 b.d, .int .i64 b.n, .int .i64 b.e, .int .i64 c.c, .int .i64 c.d, .int .i64 c.n, .int .i64 c.e],
       Row.own [.int .i64 x.c, .int .i64 x.d, .int .i64 x.n, .int .i64 x.e]])
   else
    some
     (SV.tuple [SV.nilp, SV.tuple [.int .i64 dir, SV.ptr 2 0 0 0, SV.ptr 1 0 0 0, SV.ptr 3 0 0 0, SV.bool false, SV.bool s, .int .i64 (IntKind.i64.wrap (0 + 1))]],
      [Row.vec ro Knd.bool xs, Row.own [.int .i64 w, .int .i64 d, .int .i64 h, SV.slice 0 1 off len cap, SV.unk],
       Row.own
        [.int .i64 a.c, .int .i64 a.d, .int .i64 a.n, .int .i64 a.e, .int .i64 b.c, .int .i64 b.d, .int .i64 b.n,
         .int .i64 b.e, .int .i64 c.c, .int .i64 c.d, .int .i64 c.n, .int .i64 c.e],
       Row.own [.int .i64 x.c, .int .i64 x.d, .int .i64 x.n, .int .i64 x.e]])
  else
   some
    (SV.tuple [SV.nilp, SV.tuple [.int .i64 dir, SV.ptr 2 0 0 0, SV.ptr 1 0 0 0, SV.ptr 3 0 0 0, SV.bool false, SV.bool s, .int .i64 (IntKind.i64.wrap (0 + 1))]],
     [Row.vec ro Knd.bool xs, Row.own [.int .i64 w, .int .i64 d, .int .i64 h, SV.slice 0 1 off len cap, SV.unk],
      Row.own
       [.int .i64 a.c, .int .i64 a.d, .int .i64 a.n, .int .i64 a.e, .int .i64 b.c, .int .i64 b.d, .int .i64 b.n,
        .int .i64 b.e, .int .i64 c.c, .int .i64 c.d, .int .i64 c.n, .int .i64 c.e],
      Row.own [.int .i64 x.c, .int .i64 x.d, .int .i64 x.n, .int .i64 x.e]])
 else
  some
   (SV.tuple [SV.nilp, SV.tuple [.int .i64 dir, SV.ptr 2 0 0 0, SV.ptr 1 0 0 0, SV.ptr 3 0 0 0, SV.bool false, SV.bool s, .int .i64 (IntKind.i64.wrap (0 + 1))]],
    [Row.vec ro Knd.bool xs, Row.own [.int .i64 w, .int .i64 d, .int .i64 h, SV.slice 0 1 off len cap, SV.unk],
     Row.own
      [.int .i64 a.c, .int .i64 a.d, .int .i64 a.n, .int .i64 a.e, .int .i64 b.c, .int .i64 b.d, .int .i64 b.n,
       .int .i64 b.e, .int .i64 c.c, .int .i64 c.d, .int .i64 c.n, .int .i64 c.e],
     Row.own [.int .i64 x.c, .int .i64 x.d, .int .i64 x.n, .int .i64 x.e]]) := by kernel_rfl

theorem steps_round1 (w d h : Int) (len : Nat) (cap : Option Nat) (ro : Bool) (xs : List Bool) (off : Nat) (s : Bool) (dir : Int) (a b c x : Ax) : roundS xStp (fun _ _ => none) 100 93 [0, 1, 0, 1, 1] (bodyAt Try.f93 [0, 1, 0, 1, 1]) 52 4 [1, 2, 3, 4, 6, 7, 10] [.int .i64 dir, .ptr 2 0 0 0, .ptr 1 0 0 0, .ptr 3 0 0 0, .bool false, .bool s, .int .i64 1] [.vec ro .bool xs, .own [.int .i64 w, .int .i64 d, .int .i64 h, .slice 0 1 off len cap, .unk], .own [.int .i64 a.c, .int .i64 a.d, .int .i64 a.n, .int .i64 a.e, .int .i64 b.c, .int .i64 b.d, .int .i64 b.n, .int .i64 b.e, .int .i64 c.c, .int .i64 c.d, .int .i64 c.n, .int .i64 c.e], .own [.int .i64 x.c, .int .i64 x.d, .int .i64 x.n, .int .i64 x.e]] =
 bif b.d == dir then
  bif (⟨b.c, b.d, b.n, b.e⟩ : Ax).due then
   bif !(⟨x.c, x.d, x.n, x.e⟩ : Ax).ahead (⟨b.c, b.d, b.n, b.e⟩ : Ax) then
    some
     (SV.tuple [SV.nilp, SV.tuple [.int .i64 dir, SV.ptr 2 0 0 0, SV.ptr 1 0 0 0, SV.ptr 3 0 0 0, SV.bool false, SV.bool true, .int .i64 (IntKind.i64.wrap (1 + 1))]],
      [Row.vec ro Knd.bool xs, Row.own [.int .i64 w, .int .i64 d, .int .i64 h, SV.slice 0 1 off len cap, SV.unk],
       Row.own
        [.int .i64 a.c, .int .i64 a.d, .int .i64 a.n, .int .i64 a.e, .int .i64 (IntKind.i64.wrap (b.c + b.d)), .int .i64 b.d,
         .int .i64 (IntKind.i64.wrap (b.n + 65536)), .int .i64 b.e, .int .i64 c.c, .int .i64 c.d, .int .i64 c.n, .int .i64 c.e],
       Row.own [.int .i64 x.c, .int .i64 x.d, .int .i64 x.n, .int .i64 x.e]])
   else
    some
     (SV.tuple [SV.nilp, SV.tuple [.int .i64 dir, SV.ptr 2 0 0 0, SV.ptr 1 0 0 0, SV.ptr 3 0 0 0, SV.bool false, SV.bool s, .int .i64 (IntKind.i64.wrap (1 + 1))]],
      [Row.vec ro Knd.bool xs, Row.own [.int .i64 w, .int .i64 d, .int .i64 h, SV.slice 0 1 off len cap, SV.unk],
       Row.own
        [.int .i64 a.c, .int .i64 a.d, .int .i64 a.n, .int .i64 a.e, .int .i64 b.c, .int .i64 b.d, .int .i64 b.n,
         .int .i64 b.e, .int .i64 c.c, .int .i64 c.d, .int .i64 c.n, .int .i64 c.e],
       Row.own [.int .i64 x.c, .int .i64 x.d, .int .i64 x.n, .int .i64 x.e]])
  else
   some
    (SV.tuple [SV.nilp, SV.tuple [.int .i64 dir, SV.ptr 2 0 0 0, SV.ptr 1 0 0 0, SV.ptr 3 0 0 0, SV.bool false, SV.bool s, .int .i64 (IntKind.i64.wrap (1 + 1))]],
     [Row.vec ro Knd.bool xs, Row.own [.int .i64 w, .int .i64 d, .int .i64 h, SV.slice 0 1 off len cap, SV.unk],
      Row.own
       [.int .i64 a.c, .int .i64 a.d, .int .i64 a.n, .int .i64 a.e, .int .i64 b.c, .int .i64 b.d, .int .i64 b.n,
        .int .i64 b.e, .int .i64 c.c, .int .i64 c.d, .int .i64 c.n, .int .i64 c.e],
      Row.own [.int .i64 x.c, .int .i64 x.d, .int .i64 x.n, .int .i64 x.e]])
 else
  some
   (SV.tuple [SV.nilp, SV.tuple [.int .i64 dir, SV.ptr 2 0 0 0, SV.ptr 1 0 0 0, SV.ptr 3 0 0 0, SV.bool false, SV.bool s, .int .i64 (IntKind.i64.wrap (1 + 1))]],
    [Row.vec ro Knd.bool xs, Row.own [.int .i64 w, .int .i64 d, .int .i64 h, SV.slice 0 1 off len cap, SV.unk],
     Row.own
      [.int .i64 a.c, .int .i64 a.d, .int .i64 a.n, .int .i64 a.e, .int .i64 b.c, .int .i64 b.d, .int .i64 b.n,
       .int .i64 b.e, .int .i64 c.c, .int .i64 c.d, .int .i64 c.n, .int .i64 c.e],
     Row.own [.int .i64 x.c, .int .i64 x.d, .int .i64 x.n, .int .i64 x.e]]) := by kernel_rfl

theorem steps_round2 (w d h : Int) (len : Nat) (cap : Option Nat) (ro : Bool) (xs : List Bool) (off : Nat) (s : Bool) (dir : Int) (a b c x : Ax) : roundS xStp (fun _ _ => none) 100 93 [0, 1, 0, 1, 1] (bodyAt Try.f93 [0, 1, 0, 1, 1]) 52 4 [1, 2, 3, 4, 6, 7, 10] [.int .i64 dir, .ptr 2 0 0 0, .ptr 1 0 0 0, .ptr 3 0 0 0, .bool false, .bool s, .int .i64 2] [.vec ro .bool xs, .own [.int .i64 w, .int .i64 d, .int .i64 h, .slice 0 1 off len cap, .unk], .own [.int .i64 a.c, .int .i64 a.d, .int .i64 a.n, .int .i64 a.e, .int .i64 b.c, .int .i64 b.d, .int .i64 b.n, .int .i64 b.e, .int .i64 c.c, .int .i64 c.d, .int .i64 c.n, .int .i64 c.e], .own [.int .i64 x.c, .int .i64 x.d, .int .i64 x.n, .int .i64 x.e]] =
 bif c.d == dir then
  bif (⟨c.c, c.d, c.n, c.e⟩ : Ax).due then
   bif !(⟨x.c, x.d, x.n, x.e⟩ : Ax).ahead (⟨c.c, c.d, c.n, c.e⟩ : Ax) then
    some
     (SV.tuple [SV.nilp, SV.tuple [.int .i64 dir, SV.ptr 2 0 0 0, SV.ptr 1 0 0 0, SV.ptr 3 0 0 0, SV.bool false, SV.bool true, .int .i64 (IntKind.i64.wrap (2 + 1))]],
      [Row.vec ro Knd.bool xs, Row.own [.int .i64 w, .int .i64 d, .int .i64 h, SV.slice 0 1 off len cap, SV.unk],
       Row.own
        [.int .i64 a.c, .int .i64 a.d, .int .i64 a.n, .int .i64 a.e, .int .i64 b.c, .int .i64 b.d, .int .i64 b.n,
         .int .i64 b.e, .int .i64 (IntKind.i64.wrap (c.c + c.d)), .int .i64 c.d, .int .i64 (IntKind.i64.wrap (c.n + 65536)), .int .i64 c.e],
       Row.own [.int .i64 x.c, .int .i64 x.d, .int .i64 x.n, .int .i64 x.e]])
   else
    some
     (SV.tuple [SV.nilp, SV.tuple [.int .i64 dir, SV.ptr 2 0 0 0, SV.ptr 1 0 0 0, SV.ptr 3 0 0 0, SV.bool false, SV.bool s, .int .i64 (IntKind.i64.wrap (2 + 1))]],
      [Row.vec ro Knd.bool xs, Row.own [.int .i64 w, .int .i64 d, .int .i64 h, SV.slice 0 1 off len cap, SV.unk],
       Row.own
        [.int .i64 a.c, .int .i64 a.d, .int .i64 a.n, .int .i64 a.e, .int .i64 b.c, .int .i64 b.d, .int .i64 b.n,
         .int .i64 b.e, .int .i64 c.c, .int .i64 c.d, .int .i64 c.n, .int .i64 c.e],
       Row.own [.int .i64 x.c, .int .i64 x.d, .int .i64 x.n, .int .i64 x.e]])
  else
   some
    (SV.tuple [SV.nilp, SV.tuple [.int .i64 dir, SV.ptr 2 0 0 0, SV.ptr 1 0 0 0, SV.ptr 3 0 0 0, SV.bool false, SV.bool s, .int .i64 (IntKind.i64.wrap (2 + 1))]],
     [Row.vec ro Knd.bool xs, Row.own [.int .i64 w, .int .i64 d, .int .i64 h, SV.slice 0 1 off len cap, SV.unk],
      Row.own
       [.int .i64 a.c, .int .i64 a.d, .int .i64 a.n, .int .i64 a.e, .int .i64 b.c, .int .i64 b.d, .int .i64 b.n,
        .int .i64 b.e, .int .i64 c.c, .int .i64 c.d, .int .i64 c.n, .int .i64 c.e],
      Row.own [.int .i64 x.c, .int .i64 x.d, .int .i64 x.n, .int .i64 x.e]])
 else
  some
   (SV.tuple [SV.nilp, SV.tuple [.int .i64 dir, SV.ptr 2 0 0 0, SV.ptr 1 0 0 0, SV.ptr 3 0 0 0, SV.bool false, SV.bool s, .int .i64 (IntKind.i64.wrap (2 + 1))]],
    [Row.vec ro Knd.bool xs, Row.own [.int .i64 w, .int .i64 d, .int .i64 h, SV.slice 0 1 off len cap, SV.unk],
     Row.own
      [.int .i64 a.c, .int .i64 a.d, .int .i64 a.n, .int .i64 a.e, .int .i64 b.c, .int .i64 b.d, .int .i64 b.n,
       .int .i64 b.e, .int .i64 c.c, .int .i64 c.d, .int .i64 c.n, .int .i64 c.e],
     Row.own [.int .i64 x.c, .int .i64 x.d, .int .i64 x.n, .int .i64 x.e]]) := by kernel_rfl

theorem steps_round3 (w d h : Int) (len : Nat) (cap : Option Nat) (ro : Bool) (xs : List Bool) (off : Nat) (s : Bool) (dir : Int) (a b c x : Ax) : roundS xStp (fun _ _ => none) 100 93 [0, 1, 0, 1, 1] (bodyAt Try.f93 [0, 1, 0, 1, 1]) 52 4 [1, 2, 3, 4, 6, 7, 10] [.int .i64 dir, .ptr 2 0 0 0, .ptr 1 0 0 0, .ptr 3 0 0 0, .bool false, .bool s, .int .i64 3] [.vec ro .bool xs, .own [.int .i64 w, .int .i64 d, .int .i64 h, .slice 0 1 off len cap, .unk], .own [.int .i64 a.c, .int .i64 a.d, .int .i64 a.n, .int .i64 a.e, .int .i64 b.c, .int .i64 b.d, .int .i64 b.n, .int .i64 b.e, .int .i64 c.c, .int .i64 c.d, .int .i64 c.n, .int .i64 c.e], .own [.int .i64 x.c, .int .i64 x.d, .int .i64 x.n, .int .i64 x.e]] =
 some
  (SV.tuple [SV.ptr 0 0 0 0, SV.tuple [.int .i64 dir, SV.ptr 2 0 0 0, SV.ptr 1 0 0 0, SV.ptr 3 0 0 0, SV.bool false, SV.bool s, .int .i64 3]],
   [Row.vec ro Knd.bool xs, Row.own [.int .i64 w, .int .i64 d, .int .i64 h, SV.slice 0 1 off len cap, SV.unk],
    Row.own
     [.int .i64 a.c, .int .i64 a.d, .int .i64 a.n, .int .i64 a.e, .int .i64 b.c, .int .i64 b.d, .int .i64 b.n, .int .i64 b.e,
      .int .i64 c.c, .int .i64 c.d, .int .i64 c.n, .int .i64 c.e],
    Row.own [.int .i64 x.c, .int .i64 x.d, .int .i64 x.n, .int .i64 x.e]]) := by kernel_rfl

def valStp (dir : Int) (s : Bool) (i : Int) : List SV := [.int .i64 dir, .ptr 2 0 0 0, .ptr 1 0 0 0, .ptr 3 0 0 0, .bool false, .bool s, .int .i64 i]
def rowStp (w d h : Int) (len : Nat) (cap : Option Nat) (ro : Bool) (xs : List Bool) (off : Nat) (a b c x : Ax) : List Row := [.vec ro .bool xs, .own [.int .i64 w, .int .i64 d, .int .i64 h, .slice 0 1 off len cap, .unk], .own [.int .i64 a.c, .int .i64 a.d, .int .i64 a.n, .int .i64 a.e, .int .i64 b.c, .int .i64 b.d, .int .i64 b.n, .int .i64 b.e, .int .i64 c.c, .int .i64 c.d, .int .i64 c.n, .int .i64 c.e], .own [.int .i64 x.c, .int .i64 x.d, .int .i64 x.n, .int .i64 x.e]]
noncomputable def rdStp : List SV → List Row → Option Res2 := roundS xStp (fun _ _ => none) 100 93 [0, 1, 0, 1, 1] (bodyAt Try.f93 [0, 1, 0, 1, 1]) 52 4 [1, 2, 3, 4, 6, 7, 10]

section
variable {w d h : Int} {len : Nat} {cap : Option Nat} {ro : Bool} {xs : List Bool} {off : Nat} {dir : Int} {a b c x : Ax} {s : Bool}
theorem steps_do0 : rdStp (valStp dir s 0) (rowStp w d h len cap ro xs off a b c x) = some (.tuple [.nilp, .tuple (valStp dir (x.goes dir a || s) 1)], rowStp w d h len cap ro xs off (x.next dir a) b c x) := by
 unfold rdStp valStp rowStp
 rw [steps_round0]
 have e1 : (⟨a.c, a.d, a.n, a.e⟩ : Ax) = a := rfl
 have e2 : (⟨x.c, x.d, x.n, x.e⟩ : Ax) = x := rfl
 rw [e1, e2]
 unfold Ax.next Ax.goes
 cases (a.d == dir) <;> cases a.due <;> cases x.ahead a <;> rfl
theorem steps_do1 : rdStp (valStp dir s 1) (rowStp w d h len cap ro xs off a b c x) = some (.tuple [.nilp, .tuple (valStp dir (x.goes dir b || s) 2)], rowStp w d h len cap ro xs off a (x.next dir b) c x) := by
 unfold rdStp valStp rowStp
 rw [steps_round1]
 have e1 : (⟨b.c, b.d, b.n, b.e⟩ : Ax) = b := rfl
 have e2 : (⟨x.c, x.d, x.n, x.e⟩ : Ax) = x := rfl
 rw [e1, e2]
 unfold Ax.next Ax.goes
 cases (b.d == dir) <;> cases b.due <;> cases x.ahead b <;> rfl
theorem steps_do2 : rdStp (valStp dir s 2) (rowStp w d h len cap ro xs off a b c x) = some (.tuple [.nilp, .tuple (valStp dir (x.goes dir c || s) 3)], rowStp w d h len cap ro xs off a b (x.next dir c) x) := by
 unfold rdStp valStp rowStp
 rw [steps_round2]
 have e1 : (⟨c.c, c.d, c.n, c.e⟩ : Ax) = c := rfl
 have e2 : (⟨x.c, x.d, x.n, x.e⟩ : Ax) = x := rfl
 rw [e1, e2]
 unfold Ax.next Ax.goes
 cases (c.d == dir) <;> cases c.due <;> cases x.ahead c <;> rfl
theorem steps_end : rdStp (valStp dir s 3) (rowStp w d h len cap ro xs off a b c x) = some (.tuple [exS (.exit 0), .tuple (valStp dir s 3)], rowStp w d h len cap ro xs off a b c x) := by
 unfold rdStp valStp rowStp
 rw [steps_round3]
 rfl
theorem steps_loop : LoopTo rdStp (valStp dir s 0) (rowStp w d h len cap ro xs off a b c x) (.exit 0) (valStp dir (x.goes dir c || (x.goes dir b || (x.goes dir a || s))) 3) (rowStp w d h len cap ro xs off (x.next dir a) (x.next dir b) (x.next dir c) x) :=
 .more steps_do0 (.more steps_do1 (.more steps_do2 (.done steps_end (by simp))))
end

noncomputable def outStp (v : List SV) (R : List Row) (k : Ex → List SV → List Row → Option Res2) : Option Res2 := match v, R with
 | [.int .i64 dir, .ptr 2 0 0 0, .ptr 1 0 0 0, .ptr 3 0 0 0, .bool false, .bool s, .int .i64 0], [.vec ro .bool xs, .own [.int .i64 w, .int .i64 d, .int .i64 h, .slice 0 1 off len cap, .unk], .own [.int .i64 ac, .int .i64 ad, .int .i64 an, .int .i64 ae, .int .i64 bc, .int .i64 bd, .int .i64 bn, .int .i64 be, .int .i64 cc, .int .i64 cd, .int .i64 cn, .int .i64 ce], .own [.int .i64 xc, .int .i64 xd, .int .i64 xn, .int .i64 xe]] =>
     k (.exit 0) (valStp dir (Ax.goes ⟨xc, xd, xn, xe⟩ dir ⟨cc, cd, cn, ce⟩ || (Ax.goes ⟨xc, xd, xn, xe⟩ dir ⟨bc, bd, bn, be⟩ || (Ax.goes ⟨xc, xd, xn, xe⟩ dir ⟨ac, ad, an, ae⟩ || s))) 3)
      (rowStp w d h len cap ro xs off (Ax.next ⟨xc, xd, xn, xe⟩ dir ⟨ac, ad, an, ae⟩) (Ax.next ⟨xc, xd, xn, xe⟩ dir ⟨bc, bd, bn, be⟩) (Ax.next ⟨xc, xd, xn, xe⟩ dir ⟨cc, cd, cn, ce⟩) ⟨xc, xd, xn, xe⟩)
 | _, _ => none
noncomputable def lStp : Nat → List Nat → Option LoopF := fun f p => bif Nat.beq f 93 && decide (p = [0, 1, 0, 1, 1]) then some (loopF 52 [1, 2, 3, 4, 6, 7, 10] outStp) else none
theorem lStp_ok : LOk Try.prog lStp := by
 intro f p F hF b hat s K r h
 unfold lStp at hF
 obtain ⟨hb, hF⟩ := cond_some hF
 cases hF
 rw [Bool.and_eq_true, decide_eq_true_eq] at hb
 obtain ⟨h1, rfl⟩ := hb
 obtain rfl := Nat.eq_of_beq_eq_true h1
 refine loopF_ok (fuel := 100) xStp_ok lok_none hat (fun v R k r hr => ?_) h
 have hbody := at_body Try.func93 hat
 subst hbody
 unfold outStp at hr
 split at hr
 · rename_i dir s ro xs w d h off len cap ac ad an ae bc bd bn be cc cd cn ce xc xd xn xe
   exact ⟨_, _, _, hr, steps_loop (dir := dir) (s := s) (a := ⟨ac, ad, an, ae⟩) (b := ⟨bc, bd, bn, be⟩) (c := ⟨cc, cd, cn, ce⟩) (x := ⟨xc, xd, xn, xe⟩)⟩
 · cases hr

end Go.Proofs.Ytimkhidniolpeaa

namespace Go.Proofs.Ytimkhidniolpeaa
set_option linter.unusedSimpArgs false
set_option linter.unusedVariables false
set_option maxRecDepth 100000
set_option maxHeartbeats 0
open Go.RowKit

theorem steps_tree (w d h : Int) (len : Nat) (cap : Option Nat) (ro : Bool) (xs : List Bool) (off : Nat) (dir : Int) (a b c x : Ax) : runF xStp lStp 200 93 Try.f93 [.agg [.int .i64 x.c, .int .i64 x.d, .int .i64 x.n, .int .i64 x.e], .int .i64 dir, .ptr 2 0 0 0, .ptr 1 0 0 0] [.vec ro .bool xs, .own [.int .i64 w, .int .i64 d, .int .i64 h, .slice 0 1 off len cap, .unk], .own [.int .i64 a.c, .int .i64 a.d, .int .i64 a.n, .int .i64 a.e, .int .i64 b.c, .int .i64 b.d, .int .i64 b.n, .int .i64 b.e, .int .i64 c.c, .int .i64 c.d, .int .i64 c.n, .int .i64 c.e]] =
 bif
     (mapOk w d h len &&
                 (in64B ((⟨x.c, x.d, x.n, x.e⟩ : Ax).next dir (⟨a.c, a.d, a.n, a.e⟩ : Ax)).c &&
                  (in64B ((⟨x.c, x.d, x.n, x.e⟩ : Ax).next dir (⟨b.c, b.d, b.n, b.e⟩ : Ax)).c &&
                   (in64B ((⟨x.c, x.d, x.n, x.e⟩ : Ax).next dir (⟨c.c, c.d, c.n, c.e⟩ : Ax)).c && decide (off + len ≤ xs.length)))) &&
               true &&
             true ||
           ((⟨x.c, x.d, x.n, x.e⟩ : Ax).goes dir (⟨c.c, c.d, c.n, c.e⟩ : Ax) ||
               ((⟨x.c, x.d, x.n, x.e⟩ : Ax).goes dir (⟨b.c, b.d, b.n, b.e⟩ : Ax) ||
                ((⟨x.c, x.d, x.n, x.e⟩ : Ax).goes dir (⟨a.c, a.d, a.n, a.e⟩ : Ax) || false))) !=
            true) &&
         (true ||
          ((⟨x.c, x.d, x.n, x.e⟩ : Ax).goes dir (⟨c.c, c.d, c.n, c.e⟩ : Ax) ||
              ((⟨x.c, x.d, x.n, x.e⟩ : Ax).goes dir (⟨b.c, b.d, b.n, b.e⟩ : Ax) ||
               ((⟨x.c, x.d, x.n, x.e⟩ : Ax).goes dir (⟨a.c, a.d, a.n, a.e⟩ : Ax) || false))) ==
           true) &&
      true then
  some
   (SV.bool
       (bif
           ((⟨x.c, x.d, x.n, x.e⟩ : Ax).goes dir (⟨c.c, c.d, c.n, c.e⟩ : Ax) ||
               ((⟨x.c, x.d, x.n, x.e⟩ : Ax).goes dir (⟨b.c, b.d, b.n, b.e⟩ : Ax) ||
                ((⟨x.c, x.d, x.n, x.e⟩ : Ax).goes dir (⟨a.c, a.d, a.n, a.e⟩ : Ax) || false))) ==
            true then
        (mpOf w d h len fun j => xs.getD (off + j) false).solid ((⟨x.c, x.d, x.n, x.e⟩ : Ax).next dir (⟨a.c, a.d, a.n, a.e⟩ : Ax)).c
         ((⟨x.c, x.d, x.n, x.e⟩ : Ax).next dir (⟨b.c, b.d, b.n, b.e⟩ : Ax)).c
         ((⟨x.c, x.d, x.n, x.e⟩ : Ax).next dir (⟨c.c, c.d, c.n, c.e⟩ : Ax)).c
       else false),
    [Row.vec ro Knd.bool xs, Row.own [.int .i64 w, .int .i64 d, .int .i64 h, SV.slice 0 1 off len cap, SV.unk],
     Row.own
      [.int .i64 ((⟨x.c, x.d, x.n, x.e⟩ : Ax).next dir (⟨a.c, a.d, a.n, a.e⟩ : Ax)).c,
       .int .i64 ((⟨x.c, x.d, x.n, x.e⟩ : Ax).next dir (⟨a.c, a.d, a.n, a.e⟩ : Ax)).d,
       .int .i64 ((⟨x.c, x.d, x.n, x.e⟩ : Ax).next dir (⟨a.c, a.d, a.n, a.e⟩ : Ax)).n,
       .int .i64 ((⟨x.c, x.d, x.n, x.e⟩ : Ax).next dir (⟨a.c, a.d, a.n, a.e⟩ : Ax)).e,
       .int .i64 ((⟨x.c, x.d, x.n, x.e⟩ : Ax).next dir (⟨b.c, b.d, b.n, b.e⟩ : Ax)).c,
       .int .i64 ((⟨x.c, x.d, x.n, x.e⟩ : Ax).next dir (⟨b.c, b.d, b.n, b.e⟩ : Ax)).d,
       .int .i64 ((⟨x.c, x.d, x.n, x.e⟩ : Ax).next dir (⟨b.c, b.d, b.n, b.e⟩ : Ax)).n,
       .int .i64 ((⟨x.c, x.d, x.n, x.e⟩ : Ax).next dir (⟨b.c, b.d, b.n, b.e⟩ : Ax)).e,
       .int .i64 ((⟨x.c, x.d, x.n, x.e⟩ : Ax).next dir (⟨c.c, c.d, c.n, c.e⟩ : Ax)).c,
       .int .i64 ((⟨x.c, x.d, x.n, x.e⟩ : Ax).next dir (⟨c.c, c.d, c.n, c.e⟩ : Ax)).d,
       .int .i64 ((⟨x.c, x.d, x.n, x.e⟩ : Ax).next dir (⟨c.c, c.d, c.n, c.e⟩ : Ax)).n,
       .int .i64 ((⟨x.c, x.d, x.n, x.e⟩ : Ax).next dir (⟨c.c, c.d, c.n, c.e⟩ : Ax)).e],
     Row.own [.int .i64 x.c, .int .i64 x.d, .int .i64 x.n, .int .i64 x.e]])
 else none := by kernel_rfl

noncomputable def Mp.hit (m : Mp) (x : Ax) (dir : Int) (a b c : Ax) : Bool := bif x.anyGo dir a b c == true then m.solid (x.next dir a).c (x.next dir b).c (x.next dir c).c else false
def okStp (w d h : Int) (len off : Nat) (xs : List Bool) (x : Ax) (dir : Int) (a b c : Ax) : Bool := mapOk w d h len && (in64B (x.next dir a).c && (in64B (x.next dir b).c && (in64B (x.next dir c).c && decide (off + len ≤ xs.length))))

theorem steps_val {w d h : Int} {len : Nat} {cap : Option Nat} {ro : Bool} {xs : List Bool} {off : Nat} {dir : Int} {a b c x : Ax} (hok : okStp w d h len off xs x dir a b c = true) :
    runF xStp lStp 200 93 Try.f93 [.agg [.int .i64 x.c, .int .i64 x.d, .int .i64 x.n, .int .i64 x.e], .int .i64 dir, .ptr 2 0 0 0, .ptr 1 0 0 0] [.vec ro .bool xs, .own [.int .i64 w, .int .i64 d, .int .i64 h, .slice 0 1 off len cap, .unk], .own [.int .i64 a.c, .int .i64 a.d, .int .i64 a.n, .int .i64 a.e, .int .i64 b.c, .int .i64 b.d, .int .i64 b.n, .int .i64 b.e, .int .i64 c.c, .int .i64 c.d, .int .i64 c.n, .int .i64 c.e]] =
    some (.bool ((mpOf w d h len fun j => xs.getD (off + j) false).hit x dir a b c), rowStp w d h len cap ro xs off (x.next dir a) (x.next dir b) (x.next dir c) x) := by
 rw [steps_tree]
 unfold okStp at hok
 have e : ∀ y : Ax, (⟨y.c, y.d, y.n, y.e⟩ : Ax) = y := fun _ => rfl
 simp only [e, hok, Bool.and_true, Bool.true_or, cond_true]
 rfl

noncomputable def oSteps (args : List SV) (rows : List Row) : Option Eff := match args with
 | [.agg [.int .i64 xc, .int .i64 xd, .int .i64 xn, .int .i64 xe], .int .i64 dir, .ptr lid 0 0 0, .ptr mid 0 0 0] => match rows[lid]?, rows[mid]? with
  | some (.own [.int .i64 ac, .int .i64 ad, .int .i64 an, .int .i64 ae, .int .i64 bc, .int .i64 bd, .int .i64 bn, .int .i64 be, .int .i64 cc, .int .i64 cd, .int .i64 cn, .int .i64 ce]), some (.own [.int .i64 w, .int .i64 d, .int .i64 h, .slice sid 1 off len cap, .unk]) => match rows[sid]? with
   | some (.vec true .bool xs) => bif !(Nat.beq sid mid) && (!(Nat.beq sid lid) && !(Nat.beq mid lid)) then
       some { ok := okStp w d h len off xs ⟨xc, xd, xn, xe⟩ dir ⟨ac, ad, an, ae⟩ ⟨bc, bd, bn, be⟩ ⟨cc, cd, cn, ce⟩, val := .bool ((mpOf w d h len fun j => xs.getD (off + j) false).hit ⟨xc, xd, xn, xe⟩ dir ⟨ac, ad, an, ae⟩ ⟨bc, bd, bn, be⟩ ⟨cc, cd, cn, ce⟩),
              rd := [sid, mid, lid], wr := [(mid, .own [.int .i64 w, .int .i64 d, .int .i64 h, .slice sid 1 off len cap, .unk]), (lid, .own ((Ax.next ⟨xc, xd, xn, xe⟩ dir ⟨ac, ad, an, ae⟩).sv ++ ((Ax.next ⟨xc, xd, xn, xe⟩ dir ⟨bc, bd, bn, be⟩).sv ++ (Ax.next ⟨xc, xd, xn, xe⟩ dir ⟨cc, cd, cn, ce⟩).sv)))],
              nw := [.own [.int .i64 xc, .int .i64 xd, .int .i64 xn, .int .i64 xe]] } else none
   | _ => none
  | _, _ => none
 | _ => none

theorem oSteps_ok {args : List SV} {rows : List Row} {e : Eff} (h : oSteps args rows = some e) (hok : e.ok = true) : FnOk Try.prog 93 args (rows[·]?) rows.length e := by
 unfold oSteps at h
 split at h
 · rename_i xc xd xn xe dir lid mid
   split at h
   · rename_i q1 q2 ac ad an ae bc bd bn be cc cd cn ce w d h' sid off len cap hl hm
     split at h
     · rename_i xs hs
       obtain ⟨hb, h⟩ := cond_some h
       cases h
       simp only [Bool.and_eq_true, Bool.not_eq_true'] at hb
       obtain ⟨n1, n2, n3⟩ := hb
       have n1 := Nat.ne_of_beq_eq_false n1
       have n2 := Nat.ne_of_beq_eq_false n2
       have n3 := Nat.ne_of_beq_eq_false n3
       have l1 := (List.getElem?_eq_some_iff.1 hl).1
       have l2 := (List.getElem?_eq_some_iff.1 hm).1
       have l3 := (List.getElem?_eq_some_iff.1 hs).1
       have hc := runF_ok xStp_ok lStp_ok Try.func93 (steps_val (ro := true) (cap := cap) hok)
       refine fnOk_ren hc (σ := [sid, mid, lid]) (n := rows.length) (W := [(mid, .own [.int .i64 w, .int .i64 d, .int .i64 h', .slice sid 1 off len cap, .unk]), (lid, .own ((Ax.next ⟨xc, xd, xn, xe⟩ dir ⟨ac, ad, an, ae⟩).sv ++ ((Ax.next ⟨xc, xd, xn, xe⟩ dir ⟨bc, bd, bn, be⟩).sv ++ (Ax.next ⟨xc, xd, xn, xe⟩ dir ⟨cc, cd, cn, ce⟩).sv)))]) rfl ?_ ?_ ?_ ?_ ?_ ?_ ?_
       · simp [n1, n2, n3]
       · intro j hj
         simp at hj
         rcases hj with rfl | rfl | rfl <;> assumption
       · intro i hi
         simp [SV.idsL, SV.ids] at hi
         rcases hi with rfl | rfl <;> simp
       · intro i row hr j hj
         match i, hr with
         | 0, hr => simp at hr; subst hr; simp [Row.idsR] at hj
         | 1, hr => simp at hr; subst hr; simp [Row.idsR, SV.idsL, SV.ids] at hj; subst hj; simp
         | 2, hr => simp at hr; subst hr; simp [Row.idsR, SV.idsL, SV.ids] at hj
         | i + 3, hr => simp at hr
       · intro i row hr
         match i, hr with
         | 0, hr => simp at hr; subst hr; exact ⟨_, hs, fun h => h, fun _ _ h => h⟩
         | 1, hr => simp at hr; subst hr; exact ⟨_, hm, fun _ => rfl, fun _ _ h => h⟩
         | 2, hr => simp at hr; subst hr; exact ⟨_, hl, fun _ => rfl, fun _ _ h => h⟩
         | i + 3, hr => simp at hr
       · intro i row hr _
         match i, hr with
         | 0, hr => simp at hr; subst hr; exact .inl ⟨_, _, rfl⟩
         | 1, hr => exact .inr ⟨_, rfl, List.mem_cons_self ..⟩
         | 2, hr => exact .inr ⟨_, rfl, List.mem_cons_of_mem _ (List.mem_cons_self ..)⟩
         | i + 3, hr => simp at hr
       · intro x hx
         simp only [List.mem_cons, List.not_mem_nil, or_false] at hx
         rcases hx with rfl | rfl
         · exact ⟨1, _, by simp, rfl, rfl⟩
         · exact ⟨2, _, by simp, rfl, rfl⟩
     · cases h
   · cases h
 · cases h

end Go.Proofs.Ytimkhidniolpeaa

namespace Go.Proofs.Ytimkhidniolpeaa
set_option linter.unusedSimpArgs false
set_option linter.unusedVariables false
set_option maxRecDepth 100000
set_option maxHeartbeats 0
open Go.RowKit

noncomputable def orcDue : Orc := ⟨94, fun args _ => oDue args, fun _ _ _ h _ => oDue_ok h, bodied Try.func94 (by kernel_rfl)⟩
noncomputable def orcAhead : Orc := ⟨95, fun args _ => oAhead args, fun _ _ _ h _ => oAhead_ok h, bodied Try.func95 (by kernel_rfl)⟩
noncomputable def orcAlong : Orc := ⟨92, fun args _ => oAlong args, fun _ _ _ h hok => oAlong_ok h hok, bodied Try.func92 (by kernel_rfl)⟩
noncomputable def orcSteps : Orc := ⟨93, oSteps, fun _ _ _ h hok => oSteps_ok h hok, bodied Try.func93 (by kernel_rfl)⟩

noncomputable def xSi : Ctx := ctxOf [91, 61] [orcDue, orcAhead, orcSolid, orcAlong, orcSteps]
theorem xSi_ok : COk Try.prog xSi := ctxOf_ok (by kernel_rfl)

def axs (a b c : Ax) : List SV := [.int .i64 a.c, .int .i64 a.d, .int .i64 a.n, .int .i64 a.e, .int .i64 b.c, .int .i64 b.d, .int .i64 b.n, .int .i64 b.e, .int .i64 c.c, .int .i64 c.d, .int .i64 c.n, .int .i64 c.e]
def rowSi (w d h : Int) (len : Nat) (xs : List Bool) (off : Nat) (p q : V3) (a b c : Ax) : List Row := [.vec true .bool xs, .own [.int .i64 w, .int .i64 d, .int .i64 h, .slice 0 1 off len none, .unk], .own [.int .i64 p.x, .int .i64 p.y, .int .i64 p.z], .own [.int .i64 q.x, .int .i64 q.y, .int .i64 q.z], .own (axs a b c)]
def rowSj (w d h : Int) (len : Nat) (xs : List Bool) (off : Nat) (p q : V3) (a b c x : Ax) : List Row := [.vec true .bool xs, .own [.int .i64 w, .int .i64 d, .int .i64 h, .slice 0 1 off len none, .unk], .own [.int .i64 p.x, .int .i64 p.y, .int .i64 p.z], .own [.int .i64 q.x, .int .i64 q.y, .int .i64 q.z], .own (axs a b c), .own [.int .i64 x.c, .int .i64 x.d, .int .i64 x.n, .int .i64 x.e]]
noncomputable def valSj (a b c : Ax) (i : Int) : List SV := [.bool false, .ptr 4 0 0 0, .fn 93 [.ptr 4 0 0 0, .ptr 1 0 0 0], .ptr 5 0 0 0, .agg (axs a b c), .int .i64 i]
noncomputable def valSi (s : Bool) : List SV := [.bool s, .ptr 4 0 0 0, .fn 93 [.ptr 4 0 0 0, .ptr 1 0 0 0]]
noncomputable def rdSj : List SV → List Row → Option Res2 := roundS xSi (fun _ _ => none) 100 87 [0, 1, 0, 1, 0, 0, 0, 1, 1, 1, 1, 1] (bodyAt Try.f87 [0, 1, 0, 1, 0, 0, 0, 1, 1, 1, 1, 1]) 68 6 [6, 8, 9, 10, 39, 40]

theorem sg_round0 (w d h : Int) (len : Nat) (xs : List Bool) (off : Nat) (p q : V3) (k l m a b c x : Ax) : rdSj (valSj a b c 0) (rowSj w d h len xs off p q k l m x) =
 bif bif a.due == true then bif (x.d == 0) == false then a.ahead x else true else false then
  some
   (SV.tuple
       [SV.nilp,
        SV.tuple
         [SV.bool false, SV.ptr 4 0 0 0, SV.fn 93 [SV.ptr 4 0 0 0, SV.ptr 1 0 0 0], SV.ptr 5 0 0 0,
          SV.agg
           [.int .i64 a.c, .int .i64 a.d, .int .i64 a.n, .int .i64 a.e, .int .i64 b.c, .int .i64 b.d, .int .i64 b.n,
            .int .i64 b.e, .int .i64 c.c, .int .i64 c.d, .int .i64 c.n, .int .i64 c.e],
          .int .i64 (IntKind.i64.wrap (0 + 1))]],
    [Row.vec true Knd.bool xs, Row.own [.int .i64 w, .int .i64 d, .int .i64 h, SV.slice 0 1 off len none, SV.unk],
     Row.own [.int .i64 p.x, .int .i64 p.y, .int .i64 p.z], Row.own [.int .i64 q.x, .int .i64 q.y, .int .i64 q.z],
     Row.own
      [.int .i64 k.c, .int .i64 k.d, .int .i64 k.n, .int .i64 k.e, .int .i64 l.c, .int .i64 l.d, .int .i64 l.n,
       .int .i64 l.e, .int .i64 m.c, .int .i64 m.d, .int .i64 m.n, .int .i64 m.e],
     Row.own [.int .i64 a.c, .int .i64 a.d, .int .i64 a.n, .int .i64 a.e]])
 else
  some
   (SV.tuple
       [SV.nilp,
        SV.tuple
         [SV.bool false, SV.ptr 4 0 0 0, SV.fn 93 [SV.ptr 4 0 0 0, SV.ptr 1 0 0 0], SV.ptr 5 0 0 0,
          SV.agg
           [.int .i64 a.c, .int .i64 a.d, .int .i64 a.n, .int .i64 a.e, .int .i64 b.c, .int .i64 b.d, .int .i64 b.n,
            .int .i64 b.e, .int .i64 c.c, .int .i64 c.d, .int .i64 c.n, .int .i64 c.e],
          .int .i64 (IntKind.i64.wrap (0 + 1))]],
    [Row.vec true Knd.bool xs, Row.own [.int .i64 w, .int .i64 d, .int .i64 h, SV.slice 0 1 off len none, SV.unk],
     Row.own [.int .i64 p.x, .int .i64 p.y, .int .i64 p.z], Row.own [.int .i64 q.x, .int .i64 q.y, .int .i64 q.z],
     Row.own
      [.int .i64 k.c, .int .i64 k.d, .int .i64 k.n, .int .i64 k.e, .int .i64 l.c, .int .i64 l.d, .int .i64 l.n,
       .int .i64 l.e, .int .i64 m.c, .int .i64 m.d, .int .i64 m.n, .int .i64 m.e],
     Row.own [.int .i64 x.c, .int .i64 x.d, .int .i64 x.n, .int .i64 x.e]]) := by kernel_rfl

theorem sg_round1 (w d h : Int) (len : Nat) (xs : List Bool) (off : Nat) (p q : V3) (k l m a b c x : Ax) : rdSj (valSj a b c 1) (rowSj w d h len xs off p q k l m x) =
 bif bif b.due == true then bif (x.d == 0) == false then b.ahead x else true else false then
  some
   (SV.tuple
       [SV.nilp,
        SV.tuple
         [SV.bool false, SV.ptr 4 0 0 0, SV.fn 93 [SV.ptr 4 0 0 0, SV.ptr 1 0 0 0], SV.ptr 5 0 0 0,
          SV.agg
           [.int .i64 a.c, .int .i64 a.d, .int .i64 a.n, .int .i64 a.e, .int .i64 b.c, .int .i64 b.d, .int .i64 b.n,
            .int .i64 b.e, .int .i64 c.c, .int .i64 c.d, .int .i64 c.n, .int .i64 c.e],
          .int .i64 (IntKind.i64.wrap (1 + 1))]],
    [Row.vec true Knd.bool xs, Row.own [.int .i64 w, .int .i64 d, .int .i64 h, SV.slice 0 1 off len none, SV.unk],
     Row.own [.int .i64 p.x, .int .i64 p.y, .int .i64 p.z], Row.own [.int .i64 q.x, .int .i64 q.y, .int .i64 q.z],
     Row.own
      [.int .i64 k.c, .int .i64 k.d, .int .i64 k.n, .int .i64 k.e, .int .i64 l.c, .int .i64 l.d, .int .i64 l.n,
       .int .i64 l.e, .int .i64 m.c, .int .i64 m.d, .int .i64 m.n, .int .i64 m.e],
     Row.own [.int .i64 b.c, .int .i64 b.d, .int .i64 b.n, .int .i64 b.e]])
 else
  some
   (SV.tuple
       [SV.nilp,
        SV.tuple
         [SV.bool false, SV.ptr 4 0 0 0, SV.fn 93 [SV.ptr 4 0 0 0, SV.ptr 1 0 0 0], SV.ptr 5 0 0 0,
          SV.agg
           [.int .i64 a.c, .int .i64 a.d, .int .i64 a.n, .int .i64 a.e, .int .i64 b.c, .int .i64 b.d, .int .i64 b.n,
            .int .i64 b.e, .int .i64 c.c, .int .i64 c.d, .int .i64 c.n, .int .i64 c.e],
          .int .i64 (IntKind.i64.wrap (1 + 1))]],
    [Row.vec true Knd.bool xs, Row.own [.int .i64 w, .int .i64 d, .int .i64 h, SV.slice 0 1 off len none, SV.unk],
     Row.own [.int .i64 p.x, .int .i64 p.y, .int .i64 p.z], Row.own [.int .i64 q.x, .int .i64 q.y, .int .i64 q.z],
     Row.own
      [.int .i64 k.c, .int .i64 k.d, .int .i64 k.n, .int .i64 k.e, .int .i64 l.c, .int .i64 l.d, .int .i64 l.n,
       .int .i64 l.e, .int .i64 m.c, .int .i64 m.d, .int .i64 m.n, .int .i64 m.e],
     Row.own [.int .i64 x.c, .int .i64 x.d, .int .i64 x.n, .int .i64 x.e]]) := by kernel_rfl

theorem sg_round2 (w d h : Int) (len : Nat) (xs : List Bool) (off : Nat) (p q : V3) (k l m a b c x : Ax) : rdSj (valSj a b c 2) (rowSj w d h len xs off p q k l m x) =
 bif bif c.due == true then bif (x.d == 0) == false then c.ahead x else true else false then
  some
   (SV.tuple
       [SV.nilp,
        SV.tuple
         [SV.bool false, SV.ptr 4 0 0 0, SV.fn 93 [SV.ptr 4 0 0 0, SV.ptr 1 0 0 0], SV.ptr 5 0 0 0,
          SV.agg
           [.int .i64 a.c, .int .i64 a.d, .int .i64 a.n, .int .i64 a.e, .int .i64 b.c, .int .i64 b.d, .int .i64 b.n,
            .int .i64 b.e, .int .i64 c.c, .int .i64 c.d, .int .i64 c.n, .int .i64 c.e],
          .int .i64 (IntKind.i64.wrap (2 + 1))]],
    [Row.vec true Knd.bool xs, Row.own [.int .i64 w, .int .i64 d, .int .i64 h, SV.slice 0 1 off len none, SV.unk],
     Row.own [.int .i64 p.x, .int .i64 p.y, .int .i64 p.z], Row.own [.int .i64 q.x, .int .i64 q.y, .int .i64 q.z],
     Row.own
      [.int .i64 k.c, .int .i64 k.d, .int .i64 k.n, .int .i64 k.e, .int .i64 l.c, .int .i64 l.d, .int .i64 l.n,
       .int .i64 l.e, .int .i64 m.c, .int .i64 m.d, .int .i64 m.n, .int .i64 m.e],
     Row.own [.int .i64 c.c, .int .i64 c.d, .int .i64 c.n, .int .i64 c.e]])
 else
  some
   (SV.tuple
       [SV.nilp,
        SV.tuple
         [SV.bool false, SV.ptr 4 0 0 0, SV.fn 93 [SV.ptr 4 0 0 0, SV.ptr 1 0 0 0], SV.ptr 5 0 0 0,
          SV.agg
           [.int .i64 a.c, .int .i64 a.d, .int .i64 a.n, .int .i64 a.e, .int .i64 b.c, .int .i64 b.d, .int .i64 b.n,
            .int .i64 b.e, .int .i64 c.c, .int .i64 c.d, .int .i64 c.n, .int .i64 c.e],
          .int .i64 (IntKind.i64.wrap (2 + 1))]],
    [Row.vec true Knd.bool xs, Row.own [.int .i64 w, .int .i64 d, .int .i64 h, SV.slice 0 1 off len none, SV.unk],
     Row.own [.int .i64 p.x, .int .i64 p.y, .int .i64 p.z], Row.own [.int .i64 q.x, .int .i64 q.y, .int .i64 q.z],
     Row.own
      [.int .i64 k.c, .int .i64 k.d, .int .i64 k.n, .int .i64 k.e, .int .i64 l.c, .int .i64 l.d, .int .i64 l.n,
       .int .i64 l.e, .int .i64 m.c, .int .i64 m.d, .int .i64 m.n, .int .i64 m.e],
     Row.own [.int .i64 x.c, .int .i64 x.d, .int .i64 x.n, .int .i64 x.e]]) := by kernel_rfl

theorem sg_round3 (w d h : Int) (len : Nat) (xs : List Bool) (off : Nat) (p q : V3) (k l m a b c x : Ax) : rdSj (valSj a b c 3) (rowSj w d h len xs off p q k l m x) =
 some
  (SV.tuple
      [SV.ptr 2 0 0 0,
       SV.tuple
        [SV.bool false, SV.ptr 4 0 0 0, SV.fn 93 [SV.ptr 4 0 0 0, SV.ptr 1 0 0 0], SV.ptr 5 0 0 0,
         SV.agg
          [.int .i64 a.c, .int .i64 a.d, .int .i64 a.n, .int .i64 a.e, .int .i64 b.c, .int .i64 b.d, .int .i64 b.n,
           .int .i64 b.e, .int .i64 c.c, .int .i64 c.d, .int .i64 c.n, .int .i64 c.e],
         .int .i64 3]],
   [Row.vec true Knd.bool xs, Row.own [.int .i64 w, .int .i64 d, .int .i64 h, SV.slice 0 1 off len none, SV.unk],
    Row.own [.int .i64 p.x, .int .i64 p.y, .int .i64 p.z], Row.own [.int .i64 q.x, .int .i64 q.y, .int .i64 q.z],
    Row.own
     [.int .i64 k.c, .int .i64 k.d, .int .i64 k.n, .int .i64 k.e, .int .i64 l.c, .int .i64 l.d, .int .i64 l.n, .int .i64 l.e,
      .int .i64 m.c, .int .i64 m.d, .int .i64 m.n, .int .i64 m.e],
    Row.own [.int .i64 x.c, .int .i64 x.d, .int .i64 x.n, .int .i64 x.e]]) := by kernel_rfl

section
variable {w d h : Int} {len : Nat} {xs : List Bool} {off : Nat} {p q : V3} {k l m a b c x : Ax}
theorem sg_do0 : rdSj (valSj a b c 0) (rowSj w d h len xs off p q k l m x) = some (.tuple [.nilp, .tuple (valSj a b c 1)], rowSj w d h len xs off p q k l m (x.pick a)) := by
 rw [sg_round0]
 unfold Ax.pick

 cases a.due <;> cases (x.d == 0) <;> cases a.ahead x <;> rfl
theorem sg_do1 : rdSj (valSj a b c 1) (rowSj w d h len xs off p q k l m x) = some (.tuple [.nilp, .tuple (valSj a b c 2)], rowSj w d h len xs off p q k l m (x.pick b)) := by
 rw [sg_round1]
 unfold Ax.pick

 cases b.due <;> cases (x.d == 0) <;> cases b.ahead x <;> rfl
theorem sg_do2 : rdSj (valSj a b c 2) (rowSj w d h len xs off p q k l m x) = some (.tuple [.nilp, .tuple (valSj a b c 3)], rowSj w d h len xs off p q k l m (x.pick c)) := by
 rw [sg_round2]
 unfold Ax.pick

 cases c.due <;> cases (x.d == 0) <;> cases c.ahead x <;> rfl
theorem sg_do3 : rdSj (valSj a b c 3) (rowSj w d h len xs off p q k l m x) = some (.tuple [exS (.exit 2), .tuple (valSj a b c 3)], rowSj w d h len xs off p q k l m x) := by
 rw [sg_round3]
 rfl
theorem sg_in : LoopTo rdSj (valSj a b c 0) (rowSj w d h len xs off p q k l m x) (.exit 2) (valSj a b c 3) (rowSj w d h len xs off p q k l m (((x.pick a).pick b).pick c)) :=
 .more sg_do0 (.more sg_do1 (.more sg_do2 (.done sg_do3 (by simp))))
end

noncomputable def outSj (v : List SV) (R : List Row) (k : Ex → List SV → List Row → Option Res2) : Option Res2 := match v, R with
 | [.bool false, .ptr 4 0 0 0, .fn fid [.ptr 4 0 0 0, .ptr 1 0 0 0], .ptr 5 0 0 0, .agg [.int .i64 ac, .int .i64 ad, .int .i64 an, .int .i64 ae, .int .i64 bc, .int .i64 bd, .int .i64 bn, .int .i64 be, .int .i64 cc, .int .i64 cd, .int .i64 cn, .int .i64 ce], .int .i64 0],
  [.vec true .bool xs, .own [.int .i64 w, .int .i64 d, .int .i64 h, .slice 0 1 off len none, .unk], .own [.int .i64 px, .int .i64 py, .int .i64 pz], .own [.int .i64 qx, .int .i64 qy, .int .i64 qz], .own [.int .i64 ac', .int .i64 ad', .int .i64 an', .int .i64 ae', .int .i64 bc', .int .i64 bd', .int .i64 bn', .int .i64 be', .int .i64 cc', .int .i64 cd', .int .i64 cn', .int .i64 ce'], .own [.int .i64 xc, .int .i64 xd, .int .i64 xn, .int .i64 xe]] =>
   bif Nat.beq fid 93 then k (.exit 2) (valSj ⟨ac, ad, an, ae⟩ ⟨bc, bd, bn, be⟩ ⟨cc, cd, cn, ce⟩ 3) (rowSj w d h len xs off ⟨px, py, pz⟩ ⟨qx, qy, qz⟩ ⟨ac', ad', an', ae'⟩ ⟨bc', bd', bn', be'⟩ ⟨cc', cd', cn', ce'⟩ (((Ax.pick ⟨xc, xd, xn, xe⟩ ⟨ac, ad, an, ae⟩).pick ⟨bc, bd, bn, be⟩).pick ⟨cc, cd, cn, ce⟩)) else none
 | _, _ => none
theorem lpoSj_ok : LpOk 87 [0, 1, 0, 1, 0, 0, 0, 1, 1, 1, 1, 1] (loopF 68 [6, 8, 9, 10, 39, 40] outSj) := by
 intro b hat s K r h
 refine loopF_ok (fuel := 100) xSi_ok lok_none hat (fun v R k r hr => ?_) h
 have hbody := at_body Try.func87 hat
 subst hbody
 unfold outSj at hr
 split at hr
 · rename_i fid ac ad an ae bc bd bn be cc cd cn ce xs w d h off len px py pz qx qy qz ac' ad' an' ae' bc' bd' bn' be' cc' cd' cn' ce' xc xd xn xe
   obtain ⟨hb, hr⟩ := cond_some hr
   obtain rfl := Nat.eq_of_beq_eq_true hb
   refine ⟨_, _, _, hr, ?_⟩
   exact sg_in (w := w) (d := d) (h := h) (len := len) (xs := xs) (off := off) (p := ⟨px, py, pz⟩) (q := ⟨qx, qy, qz⟩) (k := ⟨ac', ad', an', ae'⟩) (l := ⟨bc', bd', bn', be'⟩) (m := ⟨cc', cd', cn', ce'⟩) (a := ⟨ac, ad, an, ae⟩) (b := ⟨bc, bd, bn, be⟩) (c := ⟨cc, cd, cn, ce⟩) (x := ⟨xc, xd, xn, xe⟩)
 · cases hr
noncomputable def lpoSj : Lpo := ⟨_, _, _, lpoSj_ok⟩

noncomputable def rdSi : List SV → List Row → Option Res2 := roundS xSi (loopOf [lpoSj]) 100 87 [0, 1, 1, 1, 1, 1] (bodyAt Try.f87 [0, 1, 1, 1, 1, 1]) 68 5 [6, 8, 9]

theorem sg_outer (w d h : Int) (len : Nat) (xs : List Bool) (off : Nat) (p q : V3) (a b c : Ax) : rdSi (valSi false) (rowSi w d h len xs off p q a b c) =
 bif ((((Ax.mk 0 0 0 0).pick a).pick b).pick c).d == 0 then
  some
   (SV.tuple [SV.nils, SV.tuple [SV.bool true, SV.ptr 4 0 0 0, SV.fn 93 [SV.ptr 4 0 0 0, SV.ptr 1 0 0 0]]],
    [Row.vec true Knd.bool xs, Row.own [.int .i64 w, .int .i64 d, .int .i64 h, SV.slice 0 1 off len none, SV.unk],
     Row.own [.int .i64 p.x, .int .i64 p.y, .int .i64 p.z], Row.own [.int .i64 q.x, .int .i64 q.y, .int .i64 q.z],
     Row.own
      [.int .i64 a.c, .int .i64 a.d, .int .i64 a.n, .int .i64 a.e, .int .i64 b.c, .int .i64 b.d, .int .i64 b.n,
       .int .i64 b.e, .int .i64 c.c, .int .i64 c.d, .int .i64 c.n, .int .i64 c.e]])
 else
  bif okStp w d h len off xs ((((Ax.mk 0 0 0 0).pick a).pick b).pick c) 1 a b c then
   bif (mpOf w d h len fun j => xs.getD (off + j) false).hit ((((Ax.mk 0 0 0 0).pick a).pick b).pick c) 1 a b c then
    some
     (SV.tuple [SV.nils, SV.tuple [SV.bool false, SV.ptr 4 0 0 0, SV.fn 93 [SV.ptr 4 0 0 0, SV.ptr 1 0 0 0]]],
      [Row.vec true Knd.bool xs, Row.own [.int .i64 w, .int .i64 d, .int .i64 h, SV.slice 0 1 off len none, SV.unk],
       Row.own [.int .i64 p.x, .int .i64 p.y, .int .i64 p.z], Row.own [.int .i64 q.x, .int .i64 q.y, .int .i64 q.z],
       Row.own
        [.int .i64 (((((Ax.mk 0 0 0 0).pick a).pick b).pick c).next 1 a).c, .int .i64 (((((Ax.mk 0 0 0 0).pick a).pick b).pick c).next 1 a).d,
         .int .i64 (((((Ax.mk 0 0 0 0).pick a).pick b).pick c).next 1 a).n, .int .i64 (((((Ax.mk 0 0 0 0).pick a).pick b).pick c).next 1 a).e,
         .int .i64 (((((Ax.mk 0 0 0 0).pick a).pick b).pick c).next 1 b).c, .int .i64 (((((Ax.mk 0 0 0 0).pick a).pick b).pick c).next 1 b).d,
         .int .i64 (((((Ax.mk 0 0 0 0).pick a).pick b).pick c).next 1 b).n, .int .i64 (((((Ax.mk 0 0 0 0).pick a).pick b).pick c).next 1 b).e,
         .int .i64 (((((Ax.mk 0 0 0 0).pick a).pick b).pick c).next 1 c).c, .int .i64 (((((Ax.mk 0 0 0 0).pick a).pick b).pick c).next 1 c).d,
         .int .i64 (((((Ax.mk 0 0 0 0).pick a).pick b).pick c).next 1 c).n, .int .i64 (((((Ax.mk 0 0 0 0).pick a).pick b).pick c).next 1 c).e]])
   else
    bif
        okStp w d h len off xs ((((Ax.mk 0 0 0 0).pick a).pick b).pick c) (-1) (((((Ax.mk 0 0 0 0).pick a).pick b).pick c).next 1 a) (((((Ax.mk 0 0 0 0).pick a).pick b).pick c).next 1 b)
         (((((Ax.mk 0 0 0 0).pick a).pick b).pick c).next 1 c) then
     bif
         (mpOf w d h len fun j => xs.getD (off + j) false).hit ((((Ax.mk 0 0 0 0).pick a).pick b).pick c) (-1) (((((Ax.mk 0 0 0 0).pick a).pick b).pick c).next 1 a)
          (((((Ax.mk 0 0 0 0).pick a).pick b).pick c).next 1 b) (((((Ax.mk 0 0 0 0).pick a).pick b).pick c).next 1 c) then
      some
       (SV.tuple [SV.nils, SV.tuple [SV.bool false, SV.ptr 4 0 0 0, SV.fn 93 [SV.ptr 4 0 0 0, SV.ptr 1 0 0 0]]],
        [Row.vec true Knd.bool xs, Row.own [.int .i64 w, .int .i64 d, .int .i64 h, SV.slice 0 1 off len none, SV.unk],
         Row.own [.int .i64 p.x, .int .i64 p.y, .int .i64 p.z], Row.own [.int .i64 q.x, .int .i64 q.y, .int .i64 q.z],
         Row.own
          [.int .i64 (((((Ax.mk 0 0 0 0).pick a).pick b).pick c).next (-1) (((((Ax.mk 0 0 0 0).pick a).pick b).pick c).next 1 a)).c,
           .int .i64 (((((Ax.mk 0 0 0 0).pick a).pick b).pick c).next (-1) (((((Ax.mk 0 0 0 0).pick a).pick b).pick c).next 1 a)).d,
           .int .i64 (((((Ax.mk 0 0 0 0).pick a).pick b).pick c).next (-1) (((((Ax.mk 0 0 0 0).pick a).pick b).pick c).next 1 a)).n,
           .int .i64 (((((Ax.mk 0 0 0 0).pick a).pick b).pick c).next (-1) (((((Ax.mk 0 0 0 0).pick a).pick b).pick c).next 1 a)).e,
           .int .i64 (((((Ax.mk 0 0 0 0).pick a).pick b).pick c).next (-1) (((((Ax.mk 0 0 0 0).pick a).pick b).pick c).next 1 b)).c,
           .int .i64 (((((Ax.mk 0 0 0 0).pick a).pick b).pick c).next (-1) (((((Ax.mk 0 0 0 0).pick a).pick b).pick c).next 1 b)).d,
           .int .i64 (((((Ax.mk 0 0 0 0).pick a).pick b).pick c).next (-1) (((((Ax.mk 0 0 0 0).pick a).pick b).pick c).next 1 b)).n,
           .int .i64 (((((Ax.mk 0 0 0 0).pick a).pick b).pick c).next (-1) (((((Ax.mk 0 0 0 0).pick a).pick b).pick c).next 1 b)).e,
           .int .i64 (((((Ax.mk 0 0 0 0).pick a).pick b).pick c).next (-1) (((((Ax.mk 0 0 0 0).pick a).pick b).pick c).next 1 c)).c,
           .int .i64 (((((Ax.mk 0 0 0 0).pick a).pick b).pick c).next (-1) (((((Ax.mk 0 0 0 0).pick a).pick b).pick c).next 1 c)).d,
           .int .i64 (((((Ax.mk 0 0 0 0).pick a).pick b).pick c).next (-1) (((((Ax.mk 0 0 0 0).pick a).pick b).pick c).next 1 c)).n,
           .int .i64 (((((Ax.mk 0 0 0 0).pick a).pick b).pick c).next (-1) (((((Ax.mk 0 0 0 0).pick a).pick b).pick c).next 1 c)).e]])
     else
      some
       (SV.tuple [SV.nilp, SV.tuple [SV.bool false, SV.ptr 4 0 0 0, SV.fn 93 [SV.ptr 4 0 0 0, SV.ptr 1 0 0 0]]],
        [Row.vec true Knd.bool xs, Row.own [.int .i64 w, .int .i64 d, .int .i64 h, SV.slice 0 1 off len none, SV.unk],
         Row.own [.int .i64 p.x, .int .i64 p.y, .int .i64 p.z], Row.own [.int .i64 q.x, .int .i64 q.y, .int .i64 q.z],
         Row.own
          [.int .i64 (((((Ax.mk 0 0 0 0).pick a).pick b).pick c).next (-1) (((((Ax.mk 0 0 0 0).pick a).pick b).pick c).next 1 a)).c,
           .int .i64 (((((Ax.mk 0 0 0 0).pick a).pick b).pick c).next (-1) (((((Ax.mk 0 0 0 0).pick a).pick b).pick c).next 1 a)).d,
           .int .i64 (((((Ax.mk 0 0 0 0).pick a).pick b).pick c).next (-1) (((((Ax.mk 0 0 0 0).pick a).pick b).pick c).next 1 a)).n,
           .int .i64 (((((Ax.mk 0 0 0 0).pick a).pick b).pick c).next (-1) (((((Ax.mk 0 0 0 0).pick a).pick b).pick c).next 1 a)).e,
           .int .i64 (((((Ax.mk 0 0 0 0).pick a).pick b).pick c).next (-1) (((((Ax.mk 0 0 0 0).pick a).pick b).pick c).next 1 b)).c,
           .int .i64 (((((Ax.mk 0 0 0 0).pick a).pick b).pick c).next (-1) (((((Ax.mk 0 0 0 0).pick a).pick b).pick c).next 1 b)).d,
           .int .i64 (((((Ax.mk 0 0 0 0).pick a).pick b).pick c).next (-1) (((((Ax.mk 0 0 0 0).pick a).pick b).pick c).next 1 b)).n,
           .int .i64 (((((Ax.mk 0 0 0 0).pick a).pick b).pick c).next (-1) (((((Ax.mk 0 0 0 0).pick a).pick b).pick c).next 1 b)).e,
           .int .i64 (((((Ax.mk 0 0 0 0).pick a).pick b).pick c).next (-1) (((((Ax.mk 0 0 0 0).pick a).pick b).pick c).next 1 c)).c,
           .int .i64 (((((Ax.mk 0 0 0 0).pick a).pick b).pick c).next (-1) (((((Ax.mk 0 0 0 0).pick a).pick b).pick c).next 1 c)).d,
           .int .i64 (((((Ax.mk 0 0 0 0).pick a).pick b).pick c).next (-1) (((((Ax.mk 0 0 0 0).pick a).pick b).pick c).next 1 c)).n,
           .int .i64 (((((Ax.mk 0 0 0 0).pick a).pick b).pick c).next (-1) (((((Ax.mk 0 0 0 0).pick a).pick b).pick c).next 1 c)).e]])
    else none
  else none := by kernel_rfl

noncomputable def Mp.sightL (m : Mp) (n : Nat) (a b c : Ax) : Bool := Go.Proofs.Ytimkhidniolpeaa.sightL m.solid n a b c
theorem mp_hit (m : Mp) (x : Ax) (dir : Int) (a b c : Ax) : m.hit x dir a b c = hitF m.solid x dir a b c := rfl

section
variable {w d h : Int} {len : Nat} {xs : List Bool} {off : Nat} {p q : V3}

theorem okStp_of {X a b c : Ax} {a1 b1 a2 b2 a3 b3 : Int} {dir : Int} (hm : mapOk w d h len = true) (hl : decide (off + len ≤ xs.length) = true) (s : S3 a1 b1 a2 b2 a3 b3 (X.next dir a) (X.next dir b) (X.next dir c)) : okStp w d h len off xs X dir a b c = true := by
 unfold okStp
 have h1 := bd_of s.l1 s.k1
 have h2 := bd_of s.l2 s.k2
 have h3 := bd_of s.l3 s.k3
 simp only [hm, hl, Bool.true_and, Bool.and_true, Bool.and_eq_true, in64B_iff]
 unfold In64
 omega

theorem sg_loop (hm : mapOk w d h len = true) (hl : decide (off + len ≤ xs.length) = true) {a1 b1 a2 b2 a3 b3 : Int} : ∀ (n : Nat) (a b c : Ax), S3 a1 b1 a2 b2 a3 b3 a b c → a.left + b.left + c.left < n →
    LoopTo rdSi (valSi false) (rowSi w d h len xs off p q a b c) .ret (valSi ((mpOf w d h len fun j => xs.getD (off + j) false).sightL n a b c))
     (rowSi w d h len xs off p q (sightE (mpOf w d h len fun j => xs.getD (off + j) false).solid n a b c).1 (sightE (mpOf w d h len fun j => xs.getD (off + j) false).solid n a b c).2.1 (sightE (mpOf w d h len fun j => xs.getD (off + j) false).solid n a b c).2.2)
 | 0, _, _, _, _, hn => by omega
 | n + 1, a, b, c, s, hn => by
  have hout := sg_outer w d h len xs off p q a b c
  simp only [mp_hit] at hout
  unfold Mp.sightL Go.Proofs.Ytimkhidniolpeaa.sightL sightE
  rw [show (((Ax.mk 0 0 0 0).pick a).pick b).pick c = Ax.pick3 a b c from rfl] at hout
  by_cases hd : (Ax.pick3 a b c).d = 0
  · simp only [hd, beq_self_eq_true, cond_true] at hout ⊢
    exact .done hout (by simp)
  · have hnow := now_ok s hd
    have hr := rnd_ok s hnow
    obtain ⟨xa, xb, hXl, _⟩ := hnow.lin
    have hleft := rnd_left hXl hd hnow hr
    have k1 := okStp_of (X := Ax.pick3 a b c) (dir := 1) hm hl hr.s1
    have k2 := okStp_of (X := Ax.pick3 a b c) (dir := -1) hm hl hr.s2
    generalize Ax.pick3 a b c = X at *
    simp only [beq_eq_false_iff_ne.2 hd, cond_false, k1, cond_true] at hout ⊢
    cases hh1 : hitF (mpOf w d h len fun j => xs.getD (off + j) false).solid X 1 a b c with
    | true =>
     simp only [hh1, cond_true] at hout ⊢
     exact .done hout (by simp)
    | false =>
     simp only [hh1, cond_false, k2, cond_true] at hout ⊢
     cases hh2 : hitF (mpOf w d h len fun j => xs.getD (off + j) false).solid X (-1) (X.next 1 a) (X.next 1 b) (X.next 1 c) with
     | true =>
      simp only [hh2, cond_true] at hout ⊢
      exact .done hout (by simp)
     | false =>
      simp only [hh2, cond_false] at hout ⊢
      exact .more hout (sg_loop hm hl n _ _ _ hr.s2 (by omega))

end

def inM (a : Int) : Bool := decide (0 ≤ a) && decide (a < 2097152)
def inM3 (a : V3) : Bool := inM a.x && (inM a.y && inM a.z)
def axEq (a b : Ax) : Bool := decide (a.c = b.c) && (decide (a.d = b.d) && (decide (a.n = b.n) && decide (a.e = b.e)))
theorem axEq_iff {a b : Ax} (h : axEq a b = true) : a = b := by
 unfold axEq at h
 simp only [Bool.and_eq_true, decide_eq_true_eq] at h
 cases a; cases b
 simp only at h
 obtain ⟨rfl, rfl, rfl, rfl⟩ := h
 rfl

noncomputable def outSi (v : List SV) (R : List Row) (k : Ex → List SV → List Row → Option Res2) : Option Res2 := match v, R with
 | [.bool false, .ptr 4 0 0 0, .fn fid [.ptr 4 0 0 0, .ptr 1 0 0 0]],
  [.vec true .bool xs, .own [.int .i64 w, .int .i64 d, .int .i64 h, .slice 0 1 off len none, .unk], .own [.int .i64 px, .int .i64 py, .int .i64 pz], .own [.int .i64 qx, .int .i64 qy, .int .i64 qz], .own [.int .i64 ac, .int .i64 ad, .int .i64 an, .int .i64 ae, .int .i64 bc, .int .i64 bd, .int .i64 bn, .int .i64 be, .int .i64 cc, .int .i64 cd, .int .i64 cn, .int .i64 ce]] =>
   bif Nat.beq fid 93 && (mapOk w d h len && (decide (off + len ≤ xs.length) && ((inM3 ⟨px, py, pz⟩ && inM3 ⟨qx, qy, qz⟩) && (axEq ⟨ac, ad, an, ae⟩ (alongA px qx) && (axEq ⟨bc, bd, bn, be⟩ (alongA py qy) && axEq ⟨cc, cd, cn, ce⟩ (alongA pz qz)))))) then
    k .ret (valSi ((mpOf w d h len fun j => xs.getD (off + j) false).sightL 101 (alongA px qx) (alongA py qy) (alongA pz qz)))
     (rowSi w d h len xs off ⟨px, py, pz⟩ ⟨qx, qy, qz⟩ (sightE (mpOf w d h len fun j => xs.getD (off + j) false).solid 101 (alongA px qx) (alongA py qy) (alongA pz qz)).1 (sightE (mpOf w d h len fun j => xs.getD (off + j) false).solid 101 (alongA px qx) (alongA py qy) (alongA pz qz)).2.1 (sightE (mpOf w d h len fun j => xs.getD (off + j) false).solid 101 (alongA px qx) (alongA py qy) (alongA pz qz)).2.2) else none
 | _, _ => none
theorem inM_iff {a : Int} : inM a = true ↔ 0 ≤ a ∧ a < 2097152 := by unfold inM; simp
theorem lpoSi_ok : LpOk 87 [0, 1, 1, 1, 1, 1] (loopF 68 [6, 8, 9] outSi) := by
 intro b hat s K r h
 refine loopF_ok (fuel := 100) xSi_ok loopOf_ok hat (L := loopOf [lpoSj]) (fun v R k r hr => ?_) h
 have hbody := at_body Try.func87 hat
 subst hbody
 unfold outSi at hr
 split at hr
 · rename_i fid xs w d h off len px py pz qx qy qz ac ad an ae bc bd bn be cc cd cn ce
   obtain ⟨hb, hr2⟩ := cond_some hr
   simp only [Bool.and_eq_true, inM3, inM_iff] at hb
   obtain ⟨h1, h2, h3, ⟨⟨p1, p2, p3⟩, q1, q2, q3⟩, e1, e2, e3⟩ := hb
   obtain rfl := Nat.eq_of_beq_eq_true h1
   have e1 := axEq_iff e1
   have e2 := axEq_iff e2
   have e3 := axEq_iff e3
   obtain ⟨l1, k1, _, m1, _, _⟩ := along_lin p1 q1
   obtain ⟨l2, k2, _, m2, _, _⟩ := along_lin p2 q2
   obtain ⟨l3, k3, _, m3, _, _⟩ := along_lin p3 q3
   refine ⟨_, _, _, hr2, ?_⟩
   have hl := sg_loop (p := ⟨px, py, pz⟩) (q := ⟨qx, qy, qz⟩) h2 h3 101 _ _ _ ⟨l1, k1, l2, k2, l3, k3⟩ (by omega)
   rw [← e1, ← e2, ← e3] at hl ⊢
   exact hl
 · cases hr
noncomputable def lpoSi : Lpo := ⟨_, _, _, lpoSi_ok⟩

theorem sight_tree (w d h : Int) (len off : Nat) (xs : List Bool) (px py pz qx qy qz : Int) : runK xSi (loopOf [lpoSi]) 200 87 Try.f87 0 [mapS w d h (.slice 0 1 off len none) .unk, .agg [.int .i64 px, .int .i64 py, .int .i64 pz], .agg [.int .i64 qx, .int .i64 qy, .int .i64 qz]] [.vec true .bool xs] =
 bif
     mapOk w d h len &&
      (in64B (px.fdiv (2 ^ min (Int.toNat 16) IntKind.i64.bits)) &&
       (in64B (py.fdiv (2 ^ min (Int.toNat 16) IntKind.i64.bits)) && (in64B (pz.fdiv (2 ^ min (Int.toNat 16) IntKind.i64.bits)) && decide (off + len ≤ xs.length)))) then
  bif
      (mpOf w d h len fun j => xs.getD (off + j) false).solid (px.fdiv (2 ^ min (Int.toNat 16) IntKind.i64.bits)) (py.fdiv (2 ^ min (Int.toNat 16) IntKind.i64.bits))
       (pz.fdiv (2 ^ min (Int.toNat 16) IntKind.i64.bits)) then
   some (SV.bool false, [])
  else
   bif
       mapOk w d h len &&
        (in64B (qx.fdiv (2 ^ min (Int.toNat 16) IntKind.i64.bits)) &&
         (in64B (qy.fdiv (2 ^ min (Int.toNat 16) IntKind.i64.bits)) && (in64B (qz.fdiv (2 ^ min (Int.toNat 16) IntKind.i64.bits)) && decide (off + len ≤ xs.length)))) then
    bif
        (mpOf w d h len fun j => xs.getD (off + j) false).solid (qx.fdiv (2 ^ min (Int.toNat 16) IntKind.i64.bits)) (qy.fdiv (2 ^ min (Int.toNat 16) IntKind.i64.bits))
         (qz.fdiv (2 ^ min (Int.toNat 16) IntKind.i64.bits)) then
     some (SV.bool false, [])
    else
     bif smallB px && smallB qx then
      bif smallB py && smallB qy then
       bif smallB pz && smallB qz then
        bif
            mapOk w d h len &&
             (decide (off + len ≤ xs.length) &&
              (inM3 (V3.mk px py pz) && inM3 (V3.mk qx qy qz) && (axEq (alongA px qx) (alongA px qx) && (axEq (alongA py qy) (alongA py qy) && axEq (alongA pz qz) (alongA pz qz))))) then
         some (SV.bool ((mpOf w d h len fun j => xs.getD (off + j) false).sightL 101 (alongA px qx) (alongA py qy) (alongA pz qz)), [])
        else none
       else none
      else none
     else none
   else none
 else none := by kernel_rfl

noncomputable def Mp.sight (m : Mp) (a b : V3) : Bool := sightF m.solid a b

theorem mp_solid_in {w d h : Int} {len : Nat} {s : Nat → Bool} (x y z : Int) (hs : (mpOf w d h len s).solid x y z = false) : (0 ≤ x ∧ x < 32) ∧ (0 ≤ y ∧ y < 32) ∧ (0 ≤ z ∧ z < 32) := by
 unfold Mp.solid at hs
 simp only [Bool.or_eq_false_iff, Bool.not_eq_false', mpOf] at hs
 obtain ⟨⟨⟨⟨h1, h2⟩, h3⟩, h4⟩, _⟩ := hs
 unfold Mp.sized sideB at h1
 unfold inB at h2 h3 h4
 simp only [Bool.and_eq_true, decide_eq_true_eq] at h1 h2 h3 h4
 omega

theorem sight_val {w d h : Int} {len off : Nat} {xs : List Bool} {p q : V3} (hm : mapOk w d h len = true) (hl : decide (off + len ≤ xs.length) = true) (hp : p.fits) (hq : q.fits) :
    runK xSi (loopOf [lpoSi]) 200 87 Try.f87 0 [mapS w d h (.slice 0 1 off len none) .unk, .agg [.int .i64 p.x, .int .i64 p.y, .int .i64 p.z], .agg [.int .i64 q.x, .int .i64 q.y, .int .i64 q.z]] [.vec true .bool xs] =
    some (.bool ((mpOf w d h len fun j => xs.getD (off + j) false).sight p q), []) := by
 rw [sight_tree]
 have p16 : (2 ^ min (Int.toNat 16) IntKind.i64.bits : Int) = 65536 := by decide
 have f16 : ∀ a : Int, a.fdiv 65536 = a / 65536 := fun a => Int.fdiv_eq_ediv_of_nonneg a (by omega)
 have i64 : ∀ a : Int, In64 a → in64B (a / 65536) = true := fun a h => by rw [in64B_iff]; unfold In64 at h ⊢; omega
 simp only [p16, f16, hm, hl, i64 _ hp.1, i64 _ hp.2.1, i64 _ hp.2.2, i64 _ hq.1, i64 _ hq.2.1, i64 _ hq.2.2, Bool.true_and, Bool.and_true, cond_true]
 unfold Mp.sight sightF
 cases h1 : (mpOf w d h len fun j => xs.getD (off + j) false).solid (p.x / 65536) (p.y / 65536) (p.z / 65536) with
 | true => rfl
 | false =>
  cases h2 : (mpOf w d h len fun j => xs.getD (off + j) false).solid (q.x / 65536) (q.y / 65536) (q.z / 65536) with
  | true => rfl
  | false =>
   have b1 := mp_solid_in _ _ _ h1
   have b2 := mp_solid_in _ _ _ h2
   have sm : ∀ a : Int, 0 ≤ a / 65536 ∧ a / 65536 < 32 → smallB a = true ∧ inM a = true := fun a h => by
    unfold smallB inM
    simp only [Bool.and_eq_true, decide_eq_true_eq]
    omega
   have ax : ∀ a : Ax, axEq a a = true := fun a => by unfold axEq; simp
   simp only [(sm _ b1.1).1, (sm _ b1.2.1).1, (sm _ b1.2.2).1, (sm _ b2.1).1, (sm _ b2.2.1).1, (sm _ b2.2.2).1, inM3, (sm _ b1.1).2, (sm _ b1.2.1).2, (sm _ b1.2.2).2, (sm _ b2.1).2, (sm _ b2.2.1).2, (sm _ b2.2.2).2, ax, Bool.and_true, cond_true, cond_false]
   rfl

noncomputable def oSight (args : List SV) (rows : List Row) : Option Eff :=
 match args with
 | [.agg [.int .i64 w, .int .i64 d, .int .i64 h, .slice id st off len _, sp], .agg [.int .i64 x, .int .i64 y, .int .i64 z], .agg [.int .i64 p, .int .i64 q, .int .i64 r]] => match rows[id]? with
  | some (.vec _ .bool xs) => bif Nat.beq st 1 && sp.one then some { ok := mapOk w d h len && (fitsB ⟨x, y, z⟩ && (fitsB ⟨p, q, r⟩ && decide (off + len ≤ xs.length))), val := .bool ((mpOf w d h len fun j => xs.getD (off + j) false).sight ⟨x, y, z⟩ ⟨p, q, r⟩), rd := [id] } else none
  | _ => none
 | _ => none

theorem oSight_ok {args : List SV} {rows : List Row} {n : Nat} {e : Eff} (h : oSight args rows = some e) (hok : e.ok = true) : FnOk Try.prog 87 args (rows[·]?) n e := by
 unfold oSight at h
 split at h
 · rename_i wd dd hd id st off len cap sp x y z p q r
   split at h
   · rename_i ro xs hrow
     cases hb : Nat.beq st 1 && sp.one with
     | false => simp [hb] at h
     | true =>
      simp only [hb, cond_true, Option.some.injEq] at h
      subst h
      rw [Bool.and_eq_true] at hb
      have hst := Nat.eq_of_beq_eq_true hb.1
      subst hst
      simp only [Bool.and_eq_true, fitsB_iff] at hok
      obtain ⟨h1, h2, h3, h4⟩ := hok
      obtain ⟨rows', hc, _⟩ := runK_ok xSi_ok loopOf_ok Try.func87 (sight_val (p := ⟨x, y, z⟩) (q := ⟨p, q, r⟩) h1 h4 h2 h3)
      exact fnOk_map hb.2 hc rfl rfl hrow
   · cases h
 · cases h
noncomputable def orcSight : Orc := ⟨87, oSight, fun _ _ _ h hok => oSight_ok h hok, bodied Try.func87 (by kernel_rfl)⟩

end Go.Proofs.Ytimkhidniolpeaa
