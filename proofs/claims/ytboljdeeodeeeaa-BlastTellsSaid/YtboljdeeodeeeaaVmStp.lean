/- grid's Sight: the steps of a line's axes. -/
import Derived.Test.YtboljdeeodeeeaaVmSi
import Derived.Test.YtboljdeeodeeeaaVmR
namespace Go.Proofs.Ytboljdeeodeeeaa
set_option linter.unusedSimpArgs false
set_option linter.unusedVariables false
set_option maxRecDepth 100000
open Go.RowKit

noncomputable def callStp (f : Nat) (args : List SV) (rows : List Row) : Option Eff := bif Nat.beq f 32 then oDue args else bif Nat.beq f 33 then oAhead args else bif Nat.beq f 29 then oSolid args rows else none
noncomputable def xStp : Ctx := ⟨vmT, fnsOf [34], callStp⟩
theorem xStp_ok : COk Try.prog xStp where
  mixed := by kernel_rfl
  T := vmT_ok
  fn := fnsOf_ok (by kernel_rfl)
  call := fun f args rows e h hok => by
    simp only [xStp, callStp] at h
    cases h1 : Nat.beq f 32 with
    | true =>
      simp only [h1, cond_true] at h
      have := Nat.eq_of_beq_eq_true h1
      subst this
      exact ⟨oDue_ok h, bodied Try.func32 (by kernel_rfl)⟩
    | false =>
      simp only [h1, cond_false] at h
      cases h2 : Nat.beq f 33 with
      | true =>
        simp only [h2, cond_true] at h
        have := Nat.eq_of_beq_eq_true h2
        subst this
        exact ⟨oAhead_ok h, bodied Try.func33 (by kernel_rfl)⟩
      | false =>
        simp only [h2, cond_false] at h
        cases h3 : Nat.beq f 29 with
        | true =>
          simp only [h3, cond_true] at h
          have := Nat.eq_of_beq_eq_true h3
          subst this
          exact ⟨oSolid_ok h hok, bodied Try.func29 (by kernel_rfl)⟩
        | false => simp [h3] at h

set_option maxRecDepth 100000 in
set_option maxHeartbeats 0 in
theorem steps_round0 (w d h : Int) (len : Nat) (cap : Option Nat) (ro : Bool) (xs : List Bool) (off : Nat) (s : Bool) (dir : Int) (a b c x : Ax) : roundS xStp (fun _ _ => none) 100 31 [0, 1, 0, 1, 1] (bodyAt Try.f31 [0, 1, 0, 1, 1]) 52 4 [1, 2, 3, 4, 6, 7, 10] [.int .i64 dir, .ptr 2 0 0 0, .ptr 1 0 0 0, .ptr 3 0 0 0, .bool false, .bool s, .int .i64 0] [.vec ro .bool xs, .own [.int .i64 w, .int .i64 d, .int .i64 h, .slice 0 1 off len cap, .unk], .own [.int .i64 a.c, .int .i64 a.d, .int .i64 a.n, .int .i64 a.e, .int .i64 b.c, .int .i64 b.d, .int .i64 b.n, .int .i64 b.e, .int .i64 c.c, .int .i64 c.d, .int .i64 c.n, .int .i64 c.e], .own [.int .i64 x.c, .int .i64 x.d, .int .i64 x.n, .int .i64 x.e]] =
  bif a.d == dir then
    bif (⟨a.c, a.d, a.n, a.e⟩ : Ax).due then
      bif !(⟨x.c, x.d, x.n, x.e⟩ : Ax).ahead (⟨a.c, a.d, a.n, a.e⟩ : Ax) then
        some
          (SV.tuple [SV.nilp, SV.tuple [SV.int IntKind.i64 dir, SV.ptr 2 0 0 0, SV.ptr 1 0 0 0, SV.ptr 3 0 0 0, SV.bool false, SV.bool true, SV.int IntKind.i64 (IntKind.i64.wrap (0 + 1))]],
            [Row.vec ro Knd.bool xs, Row.own [SV.int IntKind.i64 w, SV.int IntKind.i64 d, SV.int IntKind.i64 h, SV.slice 0 1 off len cap, SV.unk],
              Row.own
                [SV.int IntKind.i64 (IntKind.i64.wrap (a.c + a.d)), SV.int IntKind.i64 a.d, SV.int IntKind.i64 (IntKind.i64.wrap (a.n + 65536)), SV.int IntKind.i64 a.e, SV.int IntKind.i64 b.c,
                  SV.int IntKind.i64 b.d, SV.int IntKind.i64 b.n, SV.int IntKind.i64 b.e, SV.int IntKind.i64 c.c, SV.int IntKind.i64 c.d, SV.int IntKind.i64 c.n, SV.int IntKind.i64 c.e],
              Row.own [SV.int IntKind.i64 x.c, SV.int IntKind.i64 x.d, SV.int IntKind.i64 x.n, SV.int IntKind.i64 x.e]])
      else
        some
          (SV.tuple [SV.nilp, SV.tuple [SV.int IntKind.i64 dir, SV.ptr 2 0 0 0, SV.ptr 1 0 0 0, SV.ptr 3 0 0 0, SV.bool false, SV.bool s, SV.int IntKind.i64 (IntKind.i64.wrap (0 + 1))]],
            [Row.vec ro Knd.bool xs, Row.own [SV.int IntKind.i64 w, SV.int IntKind.i64 d, SV.int IntKind.i64 h, SV.slice 0 1 off len cap, SV.unk],
              Row.own
                [SV.int IntKind.i64 a.c, SV.int IntKind.i64 a.d, SV.int IntKind.i64 a.n, SV.int IntKind.i64 a.e, SV.int IntKind.i64 b.c, SV.int IntKind.i64 b.d, SV.int IntKind.i64 b.n,
                  SV.int IntKind.i64 b.e, SV.int IntKind.i64 c.c, SV.int IntKind.i64 c.d, SV.int IntKind.i64 c.n, SV.int IntKind.i64 c.e],
              Row.own [SV.int IntKind.i64 x.c, SV.int IntKind.i64 x.d, SV.int IntKind.i64 x.n, SV.int IntKind.i64 x.e]])
    else
      some
        (SV.tuple [SV.nilp, SV.tuple [SV.int IntKind.i64 dir, SV.ptr 2 0 0 0, SV.ptr 1 0 0 0, SV.ptr 3 0 0 0, SV.bool false, SV.bool s, SV.int IntKind.i64 (IntKind.i64.wrap (0 + 1))]],
          [Row.vec ro Knd.bool xs, Row.own [SV.int IntKind.i64 w, SV.int IntKind.i64 d, SV.int IntKind.i64 h, SV.slice 0 1 off len cap, SV.unk],
            Row.own
              [SV.int IntKind.i64 a.c, SV.int IntKind.i64 a.d, SV.int IntKind.i64 a.n, SV.int IntKind.i64 a.e, SV.int IntKind.i64 b.c, SV.int IntKind.i64 b.d, SV.int IntKind.i64 b.n,
                SV.int IntKind.i64 b.e, SV.int IntKind.i64 c.c, SV.int IntKind.i64 c.d, SV.int IntKind.i64 c.n, SV.int IntKind.i64 c.e],
            Row.own [SV.int IntKind.i64 x.c, SV.int IntKind.i64 x.d, SV.int IntKind.i64 x.n, SV.int IntKind.i64 x.e]])
  else
    some
      (SV.tuple [SV.nilp, SV.tuple [SV.int IntKind.i64 dir, SV.ptr 2 0 0 0, SV.ptr 1 0 0 0, SV.ptr 3 0 0 0, SV.bool false, SV.bool s, SV.int IntKind.i64 (IntKind.i64.wrap (0 + 1))]],
        [Row.vec ro Knd.bool xs, Row.own [SV.int IntKind.i64 w, SV.int IntKind.i64 d, SV.int IntKind.i64 h, SV.slice 0 1 off len cap, SV.unk],
          Row.own
            [SV.int IntKind.i64 a.c, SV.int IntKind.i64 a.d, SV.int IntKind.i64 a.n, SV.int IntKind.i64 a.e, SV.int IntKind.i64 b.c, SV.int IntKind.i64 b.d, SV.int IntKind.i64 b.n,
              SV.int IntKind.i64 b.e, SV.int IntKind.i64 c.c, SV.int IntKind.i64 c.d, SV.int IntKind.i64 c.n, SV.int IntKind.i64 c.e],
          Row.own [SV.int IntKind.i64 x.c, SV.int IntKind.i64 x.d, SV.int IntKind.i64 x.n, SV.int IntKind.i64 x.e]]) := by kernel_rfl

set_option maxRecDepth 100000 in
set_option maxHeartbeats 0 in
theorem steps_round1 (w d h : Int) (len : Nat) (cap : Option Nat) (ro : Bool) (xs : List Bool) (off : Nat) (s : Bool) (dir : Int) (a b c x : Ax) : roundS xStp (fun _ _ => none) 100 31 [0, 1, 0, 1, 1] (bodyAt Try.f31 [0, 1, 0, 1, 1]) 52 4 [1, 2, 3, 4, 6, 7, 10] [.int .i64 dir, .ptr 2 0 0 0, .ptr 1 0 0 0, .ptr 3 0 0 0, .bool false, .bool s, .int .i64 1] [.vec ro .bool xs, .own [.int .i64 w, .int .i64 d, .int .i64 h, .slice 0 1 off len cap, .unk], .own [.int .i64 a.c, .int .i64 a.d, .int .i64 a.n, .int .i64 a.e, .int .i64 b.c, .int .i64 b.d, .int .i64 b.n, .int .i64 b.e, .int .i64 c.c, .int .i64 c.d, .int .i64 c.n, .int .i64 c.e], .own [.int .i64 x.c, .int .i64 x.d, .int .i64 x.n, .int .i64 x.e]] =
  bif b.d == dir then
    bif (⟨b.c, b.d, b.n, b.e⟩ : Ax).due then
      bif !(⟨x.c, x.d, x.n, x.e⟩ : Ax).ahead (⟨b.c, b.d, b.n, b.e⟩ : Ax) then
        some
          (SV.tuple [SV.nilp, SV.tuple [SV.int IntKind.i64 dir, SV.ptr 2 0 0 0, SV.ptr 1 0 0 0, SV.ptr 3 0 0 0, SV.bool false, SV.bool true, SV.int IntKind.i64 (IntKind.i64.wrap (1 + 1))]],
            [Row.vec ro Knd.bool xs, Row.own [SV.int IntKind.i64 w, SV.int IntKind.i64 d, SV.int IntKind.i64 h, SV.slice 0 1 off len cap, SV.unk],
              Row.own
                [SV.int IntKind.i64 a.c, SV.int IntKind.i64 a.d, SV.int IntKind.i64 a.n, SV.int IntKind.i64 a.e, SV.int IntKind.i64 (IntKind.i64.wrap (b.c + b.d)), SV.int IntKind.i64 b.d,
                  SV.int IntKind.i64 (IntKind.i64.wrap (b.n + 65536)), SV.int IntKind.i64 b.e, SV.int IntKind.i64 c.c, SV.int IntKind.i64 c.d, SV.int IntKind.i64 c.n, SV.int IntKind.i64 c.e],
              Row.own [SV.int IntKind.i64 x.c, SV.int IntKind.i64 x.d, SV.int IntKind.i64 x.n, SV.int IntKind.i64 x.e]])
      else
        some
          (SV.tuple [SV.nilp, SV.tuple [SV.int IntKind.i64 dir, SV.ptr 2 0 0 0, SV.ptr 1 0 0 0, SV.ptr 3 0 0 0, SV.bool false, SV.bool s, SV.int IntKind.i64 (IntKind.i64.wrap (1 + 1))]],
            [Row.vec ro Knd.bool xs, Row.own [SV.int IntKind.i64 w, SV.int IntKind.i64 d, SV.int IntKind.i64 h, SV.slice 0 1 off len cap, SV.unk],
              Row.own
                [SV.int IntKind.i64 a.c, SV.int IntKind.i64 a.d, SV.int IntKind.i64 a.n, SV.int IntKind.i64 a.e, SV.int IntKind.i64 b.c, SV.int IntKind.i64 b.d, SV.int IntKind.i64 b.n,
                  SV.int IntKind.i64 b.e, SV.int IntKind.i64 c.c, SV.int IntKind.i64 c.d, SV.int IntKind.i64 c.n, SV.int IntKind.i64 c.e],
              Row.own [SV.int IntKind.i64 x.c, SV.int IntKind.i64 x.d, SV.int IntKind.i64 x.n, SV.int IntKind.i64 x.e]])
    else
      some
        (SV.tuple [SV.nilp, SV.tuple [SV.int IntKind.i64 dir, SV.ptr 2 0 0 0, SV.ptr 1 0 0 0, SV.ptr 3 0 0 0, SV.bool false, SV.bool s, SV.int IntKind.i64 (IntKind.i64.wrap (1 + 1))]],
          [Row.vec ro Knd.bool xs, Row.own [SV.int IntKind.i64 w, SV.int IntKind.i64 d, SV.int IntKind.i64 h, SV.slice 0 1 off len cap, SV.unk],
            Row.own
              [SV.int IntKind.i64 a.c, SV.int IntKind.i64 a.d, SV.int IntKind.i64 a.n, SV.int IntKind.i64 a.e, SV.int IntKind.i64 b.c, SV.int IntKind.i64 b.d, SV.int IntKind.i64 b.n,
                SV.int IntKind.i64 b.e, SV.int IntKind.i64 c.c, SV.int IntKind.i64 c.d, SV.int IntKind.i64 c.n, SV.int IntKind.i64 c.e],
            Row.own [SV.int IntKind.i64 x.c, SV.int IntKind.i64 x.d, SV.int IntKind.i64 x.n, SV.int IntKind.i64 x.e]])
  else
    some
      (SV.tuple [SV.nilp, SV.tuple [SV.int IntKind.i64 dir, SV.ptr 2 0 0 0, SV.ptr 1 0 0 0, SV.ptr 3 0 0 0, SV.bool false, SV.bool s, SV.int IntKind.i64 (IntKind.i64.wrap (1 + 1))]],
        [Row.vec ro Knd.bool xs, Row.own [SV.int IntKind.i64 w, SV.int IntKind.i64 d, SV.int IntKind.i64 h, SV.slice 0 1 off len cap, SV.unk],
          Row.own
            [SV.int IntKind.i64 a.c, SV.int IntKind.i64 a.d, SV.int IntKind.i64 a.n, SV.int IntKind.i64 a.e, SV.int IntKind.i64 b.c, SV.int IntKind.i64 b.d, SV.int IntKind.i64 b.n,
              SV.int IntKind.i64 b.e, SV.int IntKind.i64 c.c, SV.int IntKind.i64 c.d, SV.int IntKind.i64 c.n, SV.int IntKind.i64 c.e],
          Row.own [SV.int IntKind.i64 x.c, SV.int IntKind.i64 x.d, SV.int IntKind.i64 x.n, SV.int IntKind.i64 x.e]]) := by kernel_rfl

set_option maxRecDepth 100000 in
set_option maxHeartbeats 0 in
theorem steps_round2 (w d h : Int) (len : Nat) (cap : Option Nat) (ro : Bool) (xs : List Bool) (off : Nat) (s : Bool) (dir : Int) (a b c x : Ax) : roundS xStp (fun _ _ => none) 100 31 [0, 1, 0, 1, 1] (bodyAt Try.f31 [0, 1, 0, 1, 1]) 52 4 [1, 2, 3, 4, 6, 7, 10] [.int .i64 dir, .ptr 2 0 0 0, .ptr 1 0 0 0, .ptr 3 0 0 0, .bool false, .bool s, .int .i64 2] [.vec ro .bool xs, .own [.int .i64 w, .int .i64 d, .int .i64 h, .slice 0 1 off len cap, .unk], .own [.int .i64 a.c, .int .i64 a.d, .int .i64 a.n, .int .i64 a.e, .int .i64 b.c, .int .i64 b.d, .int .i64 b.n, .int .i64 b.e, .int .i64 c.c, .int .i64 c.d, .int .i64 c.n, .int .i64 c.e], .own [.int .i64 x.c, .int .i64 x.d, .int .i64 x.n, .int .i64 x.e]] =
  bif c.d == dir then
    bif (⟨c.c, c.d, c.n, c.e⟩ : Ax).due then
      bif !(⟨x.c, x.d, x.n, x.e⟩ : Ax).ahead (⟨c.c, c.d, c.n, c.e⟩ : Ax) then
        some
          (SV.tuple [SV.nilp, SV.tuple [SV.int IntKind.i64 dir, SV.ptr 2 0 0 0, SV.ptr 1 0 0 0, SV.ptr 3 0 0 0, SV.bool false, SV.bool true, SV.int IntKind.i64 (IntKind.i64.wrap (2 + 1))]],
            [Row.vec ro Knd.bool xs, Row.own [SV.int IntKind.i64 w, SV.int IntKind.i64 d, SV.int IntKind.i64 h, SV.slice 0 1 off len cap, SV.unk],
              Row.own
                [SV.int IntKind.i64 a.c, SV.int IntKind.i64 a.d, SV.int IntKind.i64 a.n, SV.int IntKind.i64 a.e, SV.int IntKind.i64 b.c, SV.int IntKind.i64 b.d, SV.int IntKind.i64 b.n,
                  SV.int IntKind.i64 b.e, SV.int IntKind.i64 (IntKind.i64.wrap (c.c + c.d)), SV.int IntKind.i64 c.d, SV.int IntKind.i64 (IntKind.i64.wrap (c.n + 65536)), SV.int IntKind.i64 c.e],
              Row.own [SV.int IntKind.i64 x.c, SV.int IntKind.i64 x.d, SV.int IntKind.i64 x.n, SV.int IntKind.i64 x.e]])
      else
        some
          (SV.tuple [SV.nilp, SV.tuple [SV.int IntKind.i64 dir, SV.ptr 2 0 0 0, SV.ptr 1 0 0 0, SV.ptr 3 0 0 0, SV.bool false, SV.bool s, SV.int IntKind.i64 (IntKind.i64.wrap (2 + 1))]],
            [Row.vec ro Knd.bool xs, Row.own [SV.int IntKind.i64 w, SV.int IntKind.i64 d, SV.int IntKind.i64 h, SV.slice 0 1 off len cap, SV.unk],
              Row.own
                [SV.int IntKind.i64 a.c, SV.int IntKind.i64 a.d, SV.int IntKind.i64 a.n, SV.int IntKind.i64 a.e, SV.int IntKind.i64 b.c, SV.int IntKind.i64 b.d, SV.int IntKind.i64 b.n,
                  SV.int IntKind.i64 b.e, SV.int IntKind.i64 c.c, SV.int IntKind.i64 c.d, SV.int IntKind.i64 c.n, SV.int IntKind.i64 c.e],
              Row.own [SV.int IntKind.i64 x.c, SV.int IntKind.i64 x.d, SV.int IntKind.i64 x.n, SV.int IntKind.i64 x.e]])
    else
      some
        (SV.tuple [SV.nilp, SV.tuple [SV.int IntKind.i64 dir, SV.ptr 2 0 0 0, SV.ptr 1 0 0 0, SV.ptr 3 0 0 0, SV.bool false, SV.bool s, SV.int IntKind.i64 (IntKind.i64.wrap (2 + 1))]],
          [Row.vec ro Knd.bool xs, Row.own [SV.int IntKind.i64 w, SV.int IntKind.i64 d, SV.int IntKind.i64 h, SV.slice 0 1 off len cap, SV.unk],
            Row.own
              [SV.int IntKind.i64 a.c, SV.int IntKind.i64 a.d, SV.int IntKind.i64 a.n, SV.int IntKind.i64 a.e, SV.int IntKind.i64 b.c, SV.int IntKind.i64 b.d, SV.int IntKind.i64 b.n,
                SV.int IntKind.i64 b.e, SV.int IntKind.i64 c.c, SV.int IntKind.i64 c.d, SV.int IntKind.i64 c.n, SV.int IntKind.i64 c.e],
            Row.own [SV.int IntKind.i64 x.c, SV.int IntKind.i64 x.d, SV.int IntKind.i64 x.n, SV.int IntKind.i64 x.e]])
  else
    some
      (SV.tuple [SV.nilp, SV.tuple [SV.int IntKind.i64 dir, SV.ptr 2 0 0 0, SV.ptr 1 0 0 0, SV.ptr 3 0 0 0, SV.bool false, SV.bool s, SV.int IntKind.i64 (IntKind.i64.wrap (2 + 1))]],
        [Row.vec ro Knd.bool xs, Row.own [SV.int IntKind.i64 w, SV.int IntKind.i64 d, SV.int IntKind.i64 h, SV.slice 0 1 off len cap, SV.unk],
          Row.own
            [SV.int IntKind.i64 a.c, SV.int IntKind.i64 a.d, SV.int IntKind.i64 a.n, SV.int IntKind.i64 a.e, SV.int IntKind.i64 b.c, SV.int IntKind.i64 b.d, SV.int IntKind.i64 b.n,
              SV.int IntKind.i64 b.e, SV.int IntKind.i64 c.c, SV.int IntKind.i64 c.d, SV.int IntKind.i64 c.n, SV.int IntKind.i64 c.e],
          Row.own [SV.int IntKind.i64 x.c, SV.int IntKind.i64 x.d, SV.int IntKind.i64 x.n, SV.int IntKind.i64 x.e]]) := by kernel_rfl

set_option maxRecDepth 100000 in
set_option maxHeartbeats 0 in
theorem steps_round3 (w d h : Int) (len : Nat) (cap : Option Nat) (ro : Bool) (xs : List Bool) (off : Nat) (s : Bool) (dir : Int) (a b c x : Ax) : roundS xStp (fun _ _ => none) 100 31 [0, 1, 0, 1, 1] (bodyAt Try.f31 [0, 1, 0, 1, 1]) 52 4 [1, 2, 3, 4, 6, 7, 10] [.int .i64 dir, .ptr 2 0 0 0, .ptr 1 0 0 0, .ptr 3 0 0 0, .bool false, .bool s, .int .i64 3] [.vec ro .bool xs, .own [.int .i64 w, .int .i64 d, .int .i64 h, .slice 0 1 off len cap, .unk], .own [.int .i64 a.c, .int .i64 a.d, .int .i64 a.n, .int .i64 a.e, .int .i64 b.c, .int .i64 b.d, .int .i64 b.n, .int .i64 b.e, .int .i64 c.c, .int .i64 c.d, .int .i64 c.n, .int .i64 c.e], .own [.int .i64 x.c, .int .i64 x.d, .int .i64 x.n, .int .i64 x.e]] =
  some
    (SV.tuple [SV.ptr 0 0 0 0, SV.tuple [SV.int IntKind.i64 dir, SV.ptr 2 0 0 0, SV.ptr 1 0 0 0, SV.ptr 3 0 0 0, SV.bool false, SV.bool s, SV.int IntKind.i64 3]],
      [Row.vec ro Knd.bool xs, Row.own [SV.int IntKind.i64 w, SV.int IntKind.i64 d, SV.int IntKind.i64 h, SV.slice 0 1 off len cap, SV.unk],
        Row.own
          [SV.int IntKind.i64 a.c, SV.int IntKind.i64 a.d, SV.int IntKind.i64 a.n, SV.int IntKind.i64 a.e, SV.int IntKind.i64 b.c, SV.int IntKind.i64 b.d, SV.int IntKind.i64 b.n, SV.int IntKind.i64 b.e,
            SV.int IntKind.i64 c.c, SV.int IntKind.i64 c.d, SV.int IntKind.i64 c.n, SV.int IntKind.i64 c.e],
        Row.own [SV.int IntKind.i64 x.c, SV.int IntKind.i64 x.d, SV.int IntKind.i64 x.n, SV.int IntKind.i64 x.e]]) := by kernel_rfl

def valStp (dir : Int) (s : Bool) (i : Int) : List SV := [.int .i64 dir, .ptr 2 0 0 0, .ptr 1 0 0 0, .ptr 3 0 0 0, .bool false, .bool s, .int .i64 i]
def rowStp (w d h : Int) (len : Nat) (cap : Option Nat) (ro : Bool) (xs : List Bool) (off : Nat) (a b c x : Ax) : List Row := [.vec ro .bool xs, .own [.int .i64 w, .int .i64 d, .int .i64 h, .slice 0 1 off len cap, .unk], .own [.int .i64 a.c, .int .i64 a.d, .int .i64 a.n, .int .i64 a.e, .int .i64 b.c, .int .i64 b.d, .int .i64 b.n, .int .i64 b.e, .int .i64 c.c, .int .i64 c.d, .int .i64 c.n, .int .i64 c.e], .own [.int .i64 x.c, .int .i64 x.d, .int .i64 x.n, .int .i64 x.e]]
noncomputable def rdStp : List SV → List Row → Option Res2 := roundS xStp (fun _ _ => none) 100 31 [0, 1, 0, 1, 1] (bodyAt Try.f31 [0, 1, 0, 1, 1]) 52 4 [1, 2, 3, 4, 6, 7, 10]

section
variable {w d h : Int} {len : Nat} {cap : Option Nat} {ro : Bool} {xs : List Bool} {off : Nat} {dir : Int} {a b c x : Ax} {s : Bool}
theorem steps_do0 : rdStp (valStp dir s 0) (rowStp w d h len cap ro xs off a b c x) = some (.tuple [.nilp, .tuple (valStp dir (x.goes dir a || s) 1)], rowStp w d h len cap ro xs off (x.next dir a) b c x) := by
  unfold rdStp valStp rowStp
  rw [steps_round0]
  have e1 : (⟨a.c, a.d, a.n, a.e⟩ : Ax) = a := rfl
  have e2 : (⟨x.c, x.d, x.n, x.e⟩ : Ax) = x := rfl
  rw [e1, e2]
  unfold Ax.next Ax.goes
  cases (a.d == dir) <;> cases a.due <;> cases x.ahead a <;> rfl
theorem steps_do1 : rdStp (valStp dir s 1) (rowStp w d h len cap ro xs off a b c x) = some (.tuple [.nilp, .tuple (valStp dir (x.goes dir b || s) 2)], rowStp w d h len cap ro xs off a (x.next dir b) c x) := by
  unfold rdStp valStp rowStp
  rw [steps_round1]
  have e1 : (⟨b.c, b.d, b.n, b.e⟩ : Ax) = b := rfl
  have e2 : (⟨x.c, x.d, x.n, x.e⟩ : Ax) = x := rfl
  rw [e1, e2]
  unfold Ax.next Ax.goes
  cases (b.d == dir) <;> cases b.due <;> cases x.ahead b <;> rfl
theorem steps_do2 : rdStp (valStp dir s 2) (rowStp w d h len cap ro xs off a b c x) = some (.tuple [.nilp, .tuple (valStp dir (x.goes dir c || s) 3)], rowStp w d h len cap ro xs off a b (x.next dir c) x) := by
  unfold rdStp valStp rowStp
  rw [steps_round2]
  have e1 : (⟨c.c, c.d, c.n, c.e⟩ : Ax) = c := rfl
  have e2 : (⟨x.c, x.d, x.n, x.e⟩ : Ax) = x := rfl
  rw [e1, e2]
  unfold Ax.next Ax.goes
  cases (c.d == dir) <;> cases c.due <;> cases x.ahead c <;> rfl
theorem steps_end : rdStp (valStp dir s 3) (rowStp w d h len cap ro xs off a b c x) = some (.tuple [exS (.exit 0), .tuple (valStp dir s 3)], rowStp w d h len cap ro xs off a b c x) := by
  unfold rdStp valStp rowStp
  rw [steps_round3]
  rfl
theorem steps_loop : LoopTo rdStp (valStp dir s 0) (rowStp w d h len cap ro xs off a b c x) (.exit 0) (valStp dir (x.goes dir c || (x.goes dir b || (x.goes dir a || s))) 3) (rowStp w d h len cap ro xs off (x.next dir a) (x.next dir b) (x.next dir c) x) :=
  .more steps_do0 (.more steps_do1 (.more steps_do2 (.done steps_end (by simp))))
end

noncomputable def outStp (v : List SV) (R : List Row) (k : Ex → List SV → List Row → Option Res2) : Option Res2 := match v, R with
  | [.int .i64 dir, .ptr 2 0 0 0, .ptr 1 0 0 0, .ptr 3 0 0 0, .bool false, .bool s, .int .i64 0], [.vec ro .bool xs, .own [.int .i64 w, .int .i64 d, .int .i64 h, .slice 0 1 off len cap, .unk], .own [.int .i64 ac, .int .i64 ad, .int .i64 an, .int .i64 ae, .int .i64 bc, .int .i64 bd, .int .i64 bn, .int .i64 be, .int .i64 cc, .int .i64 cd, .int .i64 cn, .int .i64 ce], .own [.int .i64 xc, .int .i64 xd, .int .i64 xn, .int .i64 xe]] =>
      k (.exit 0) (valStp dir (Ax.goes ⟨xc, xd, xn, xe⟩ dir ⟨cc, cd, cn, ce⟩ || (Ax.goes ⟨xc, xd, xn, xe⟩ dir ⟨bc, bd, bn, be⟩ || (Ax.goes ⟨xc, xd, xn, xe⟩ dir ⟨ac, ad, an, ae⟩ || s))) 3)
        (rowStp w d h len cap ro xs off (Ax.next ⟨xc, xd, xn, xe⟩ dir ⟨ac, ad, an, ae⟩) (Ax.next ⟨xc, xd, xn, xe⟩ dir ⟨bc, bd, bn, be⟩) (Ax.next ⟨xc, xd, xn, xe⟩ dir ⟨cc, cd, cn, ce⟩) ⟨xc, xd, xn, xe⟩)
  | _, _ => none
noncomputable def lStp : Nat → List Nat → Option LoopF := fun f p => bif Nat.beq f 31 && decide (p = [0, 1, 0, 1, 1]) then some (loopF 52 [1, 2, 3, 4, 6, 7, 10] outStp) else none
theorem lStp_ok : LOk Try.prog lStp := by
  intro f p F hF b hat s K r h
  unfold lStp at hF
  obtain ⟨hb, hF⟩ := cond_some hF
  cases hF
  rw [Bool.and_eq_true, decide_eq_true_eq] at hb
  obtain ⟨h1, rfl⟩ := hb
  obtain rfl := Nat.eq_of_beq_eq_true h1
  refine loopF_ok (fuel := 100) xStp_ok lok_none hat (fun v R k r hr => ?_) h
  have hbody := at_body Try.func31 hat
  subst hbody
  unfold outStp at hr
  split at hr
  · rename_i dir s ro xs w d h off len cap ac ad an ae bc bd bn be cc cd cn ce xc xd xn xe
    exact ⟨_, _, _, hr, steps_loop (dir := dir) (s := s) (a := ⟨ac, ad, an, ae⟩) (b := ⟨bc, bd, bn, be⟩) (c := ⟨cc, cd, cn, ce⟩) (x := ⟨xc, xd, xn, xe⟩)⟩
  · cases hr

end Go.Proofs.Ytboljdeeodeeeaa
