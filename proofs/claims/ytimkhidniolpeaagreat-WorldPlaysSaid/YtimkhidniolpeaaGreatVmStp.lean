/- Part of the proof. -/
import Derived.Test.YtimkhidniolpeaaGreatVmTv
import Derived.Test.YtimkhidniolpeaaGreatVmR
import Derived.Test.YtimkhidniolpeaaGreatVmO
import Derived.Test.YtimkhidniolpeaaGreatFx
import Derived.Test.YtimkhidniolpeaaGreatVmFh
import Derived.Test.YtimkhidniolpeaaGreatVmDp
namespace Go.Proofs.YtimkhidniolpeaaGreat
set_option linter.unusedSimpArgs false
set_option linter.unusedVariables false
set_option maxRecDepth 100000
set_option maxHeartbeats 0
open Go.RowKit
noncomputable def Bv:bS:=aV [141] [⟨139,fun args _=>Sw args,fun _ _ _ h _=>FO h,aq Tryz.func139 (by kernel_rfl)⟩,⟨140,fun args _=>xC args,fun _ _ _ h _=>vf h,aq Tryz.func140 (by kernel_rfl)⟩,⟨71,xH,fun _ _ _ h hok=>vN h hok,aq Tryz.func71 (by kernel_rfl)⟩]
theorem Fu:bV Tryz.prog Bv:=aD (by kernel_rfl)
theorem xh (w d h:Int) (len:Nat) (cap:Option Nat) (ro:Bool) (xs:List Bool) (off:Nat) (s:Bool) (dir:Int) (a b c x:Ax):bj Bv (fun _ _=>none) 100 138 [0,1,0,1,1] (bg Tryz.f138 [0,1,0,1,1]) 52 4 [1,2,3,4,6,7,10] [.int .i64 dir,.ptr 2 0 0 0,.ptr 1 0 0 0,.ptr 3 0 0 0,.bool false,.bool s,.int .i64 0] [.vec ro .bool xs,.own [.int .i64 w,.int .i64 d,.int .i64 h,.slice 0 1 off len cap,.unk],.own [.int .i64 a.c,.int .i64 a.d,.int .i64 a.n,.int .i64 a.e,.int .i64 b.c,.int .i64 b.d,.int .i64 b.n,.int .i64 b.e,.int .i64 c.c,.int .i64 c.d,.int .i64 c.n,.int .i64 c.e],.own [.int .i64 x.c,.int .i64 x.d,.int .i64 x.n,.int .i64 x.e]]=
 bif a.d ==dir then
  bif (⟨a.c,a.d,a.n,a.e⟩:Ax).due then
   bif !(⟨x.c,x.d,x.n,x.e⟩:Ax).ahead (⟨a.c,a.d,a.n,a.e⟩:Ax) then
    some
     (SV.tuple [SV.nilp,SV.tuple [.int .i64 dir,SV.ptr 2 0 0 0,SV.ptr 1 0 0 0,SV.ptr 3 0 0 0,SV.bool false,SV.bool true,.int .i64 (IntKind.i64.wrap (0+1))]],
      [Row.vec ro aA.bool xs,Row.own [.int .i64 w,.int .i64 d,.int .i64 h,SV.slice 0 1 off len cap,SV.unk],
       Row.own
        [.int .i64 (IntKind.i64.wrap (a.c+a.d)),.int .i64 a.d,.int .i64 (IntKind.i64.wrap (a.n+65536)),.int .i64 a.e,.int .i64 b.c,
         .int .i64 b.d,.int .i64 b.n,.int .i64 b.e,.int .i64 c.c,.int .i64 c.d,.int .i64 c.n,.int .i64 c.e],
       Row.own [.int .i64 x.c,.int .i64 x.d,.int .i64 x.n,.int .i64 x.e]])
   else
    some
     (SV.tuple [SV.nilp,SV.tuple [.int .i64 dir,SV.ptr 2 0 0 0,SV.ptr 1 0 0 0,SV.ptr 3 0 0 0,SV.bool false,SV.bool s,.int .i64 (IntKind.i64.wrap (0+1))]],
      [Row.vec ro aA.bool xs,Row.own [.int .i64 w,.int .i64 d,.int .i64 h,SV.slice 0 1 off len cap,SV.unk],
       Row.own
        [.int .i64 a.c,.int .i64 a.d,.int .i64 a.n,.int .i64 a.e,.int .i64 b.c,.int .i64 b.d,.int .i64 b.n,
         .int .i64 b.e,.int .i64 c.c,.int .i64 c.d,.int .i64 c.n,.int .i64 c.e],
       Row.own [.int .i64 x.c,.int .i64 x.d,.int .i64 x.n,.int .i64 x.e]])
  else
   some
    (SV.tuple [SV.nilp,SV.tuple [.int .i64 dir,SV.ptr 2 0 0 0,SV.ptr 1 0 0 0,SV.ptr 3 0 0 0,SV.bool false,SV.bool s,.int .i64 (IntKind.i64.wrap (0+1))]],
     [Row.vec ro aA.bool xs,Row.own [.int .i64 w,.int .i64 d,.int .i64 h,SV.slice 0 1 off len cap,SV.unk],
      Row.own
       [.int .i64 a.c,.int .i64 a.d,.int .i64 a.n,.int .i64 a.e,.int .i64 b.c,.int .i64 b.d,.int .i64 b.n,
        .int .i64 b.e,.int .i64 c.c,.int .i64 c.d,.int .i64 c.n,.int .i64 c.e],
      Row.own [.int .i64 x.c,.int .i64 x.d,.int .i64 x.n,.int .i64 x.e]])
 else
  some
   (SV.tuple [SV.nilp,SV.tuple [.int .i64 dir,SV.ptr 2 0 0 0,SV.ptr 1 0 0 0,SV.ptr 3 0 0 0,SV.bool false,SV.bool s,.int .i64 (IntKind.i64.wrap (0+1))]],
    [Row.vec ro aA.bool xs,Row.own [.int .i64 w,.int .i64 d,.int .i64 h,SV.slice 0 1 off len cap,SV.unk],
     Row.own
      [.int .i64 a.c,.int .i64 a.d,.int .i64 a.n,.int .i64 a.e,.int .i64 b.c,.int .i64 b.d,.int .i64 b.n,
       .int .i64 b.e,.int .i64 c.c,.int .i64 c.d,.int .i64 c.n,.int .i64 c.e],
     Row.own [.int .i64 x.c,.int .i64 x.d,.int .i64 x.n,.int .i64 x.e]]):=by kernel_rfl
theorem wE (w d h:Int) (len:Nat) (cap:Option Nat) (ro:Bool) (xs:List Bool) (off:Nat) (s:Bool) (dir:Int) (a b c x:Ax):bj Bv (fun _ _=>none) 100 138 [0,1,0,1,1] (bg Tryz.f138 [0,1,0,1,1]) 52 4 [1,2,3,4,6,7,10] [.int .i64 dir,.ptr 2 0 0 0,.ptr 1 0 0 0,.ptr 3 0 0 0,.bool false,.bool s,.int .i64 1] [.vec ro .bool xs,.own [.int .i64 w,.int .i64 d,.int .i64 h,.slice 0 1 off len cap,.unk],.own [.int .i64 a.c,.int .i64 a.d,.int .i64 a.n,.int .i64 a.e,.int .i64 b.c,.int .i64 b.d,.int .i64 b.n,.int .i64 b.e,.int .i64 c.c,.int .i64 c.d,.int .i64 c.n,.int .i64 c.e],.own [.int .i64 x.c,.int .i64 x.d,.int .i64 x.n,.int .i64 x.e]]=
 bif b.d ==dir then
  bif (⟨b.c,b.d,b.n,b.e⟩:Ax).due then
   bif !(⟨x.c,x.d,x.n,x.e⟩:Ax).ahead (⟨b.c,b.d,b.n,b.e⟩:Ax) then
    some
     (SV.tuple [SV.nilp,SV.tuple [.int .i64 dir,SV.ptr 2 0 0 0,SV.ptr 1 0 0 0,SV.ptr 3 0 0 0,SV.bool false,SV.bool true,.int .i64 (IntKind.i64.wrap (1+1))]],
      [Row.vec ro aA.bool xs,Row.own [.int .i64 w,.int .i64 d,.int .i64 h,SV.slice 0 1 off len cap,SV.unk],
       Row.own
        [.int .i64 a.c,.int .i64 a.d,.int .i64 a.n,.int .i64 a.e,.int .i64 (IntKind.i64.wrap (b.c+b.d)),.int .i64 b.d,
         .int .i64 (IntKind.i64.wrap (b.n+65536)),.int .i64 b.e,.int .i64 c.c,.int .i64 c.d,.int .i64 c.n,.int .i64 c.e],
       Row.own [.int .i64 x.c,.int .i64 x.d,.int .i64 x.n,.int .i64 x.e]])
   else
    some
     (SV.tuple [SV.nilp,SV.tuple [.int .i64 dir,SV.ptr 2 0 0 0,SV.ptr 1 0 0 0,SV.ptr 3 0 0 0,SV.bool false,SV.bool s,.int .i64 (IntKind.i64.wrap (1+1))]],
      [Row.vec ro aA.bool xs,Row.own [.int .i64 w,.int .i64 d,.int .i64 h,SV.slice 0 1 off len cap,SV.unk],
       Row.own
        [.int .i64 a.c,.int .i64 a.d,.int .i64 a.n,.int .i64 a.e,.int .i64 b.c,.int .i64 b.d,.int .i64 b.n,
         .int .i64 b.e,.int .i64 c.c,.int .i64 c.d,.int .i64 c.n,.int .i64 c.e],
       Row.own [.int .i64 x.c,.int .i64 x.d,.int .i64 x.n,.int .i64 x.e]])
  else
   some
    (SV.tuple [SV.nilp,SV.tuple [.int .i64 dir,SV.ptr 2 0 0 0,SV.ptr 1 0 0 0,SV.ptr 3 0 0 0,SV.bool false,SV.bool s,.int .i64 (IntKind.i64.wrap (1+1))]],
     [Row.vec ro aA.bool xs,Row.own [.int .i64 w,.int .i64 d,.int .i64 h,SV.slice 0 1 off len cap,SV.unk],
      Row.own
       [.int .i64 a.c,.int .i64 a.d,.int .i64 a.n,.int .i64 a.e,.int .i64 b.c,.int .i64 b.d,.int .i64 b.n,
        .int .i64 b.e,.int .i64 c.c,.int .i64 c.d,.int .i64 c.n,.int .i64 c.e],
      Row.own [.int .i64 x.c,.int .i64 x.d,.int .i64 x.n,.int .i64 x.e]])
 else
  some
   (SV.tuple [SV.nilp,SV.tuple [.int .i64 dir,SV.ptr 2 0 0 0,SV.ptr 1 0 0 0,SV.ptr 3 0 0 0,SV.bool false,SV.bool s,.int .i64 (IntKind.i64.wrap (1+1))]],
    [Row.vec ro aA.bool xs,Row.own [.int .i64 w,.int .i64 d,.int .i64 h,SV.slice 0 1 off len cap,SV.unk],
     Row.own
      [.int .i64 a.c,.int .i64 a.d,.int .i64 a.n,.int .i64 a.e,.int .i64 b.c,.int .i64 b.d,.int .i64 b.n,
       .int .i64 b.e,.int .i64 c.c,.int .i64 c.d,.int .i64 c.n,.int .i64 c.e],
     Row.own [.int .i64 x.c,.int .i64 x.d,.int .i64 x.n,.int .i64 x.e]]):=by kernel_rfl
theorem yo (w d h:Int) (len:Nat) (cap:Option Nat) (ro:Bool) (xs:List Bool) (off:Nat) (s:Bool) (dir:Int) (a b c x:Ax):bj Bv (fun _ _=>none) 100 138 [0,1,0,1,1] (bg Tryz.f138 [0,1,0,1,1]) 52 4 [1,2,3,4,6,7,10] [.int .i64 dir,.ptr 2 0 0 0,.ptr 1 0 0 0,.ptr 3 0 0 0,.bool false,.bool s,.int .i64 2] [.vec ro .bool xs,.own [.int .i64 w,.int .i64 d,.int .i64 h,.slice 0 1 off len cap,.unk],.own [.int .i64 a.c,.int .i64 a.d,.int .i64 a.n,.int .i64 a.e,.int .i64 b.c,.int .i64 b.d,.int .i64 b.n,.int .i64 b.e,.int .i64 c.c,.int .i64 c.d,.int .i64 c.n,.int .i64 c.e],.own [.int .i64 x.c,.int .i64 x.d,.int .i64 x.n,.int .i64 x.e]]=
 bif c.d ==dir then
  bif (⟨c.c,c.d,c.n,c.e⟩:Ax).due then
   bif !(⟨x.c,x.d,x.n,x.e⟩:Ax).ahead (⟨c.c,c.d,c.n,c.e⟩:Ax) then
    some
     (SV.tuple [SV.nilp,SV.tuple [.int .i64 dir,SV.ptr 2 0 0 0,SV.ptr 1 0 0 0,SV.ptr 3 0 0 0,SV.bool false,SV.bool true,.int .i64 (IntKind.i64.wrap (2+1))]],
      [Row.vec ro aA.bool xs,Row.own [.int .i64 w,.int .i64 d,.int .i64 h,SV.slice 0 1 off len cap,SV.unk],
       Row.own
        [.int .i64 a.c,.int .i64 a.d,.int .i64 a.n,.int .i64 a.e,.int .i64 b.c,.int .i64 b.d,.int .i64 b.n,
         .int .i64 b.e,.int .i64 (IntKind.i64.wrap (c.c+c.d)),.int .i64 c.d,.int .i64 (IntKind.i64.wrap (c.n+65536)),.int .i64 c.e],
       Row.own [.int .i64 x.c,.int .i64 x.d,.int .i64 x.n,.int .i64 x.e]])
   else
    some
     (SV.tuple [SV.nilp,SV.tuple [.int .i64 dir,SV.ptr 2 0 0 0,SV.ptr 1 0 0 0,SV.ptr 3 0 0 0,SV.bool false,SV.bool s,.int .i64 (IntKind.i64.wrap (2+1))]],
      [Row.vec ro aA.bool xs,Row.own [.int .i64 w,.int .i64 d,.int .i64 h,SV.slice 0 1 off len cap,SV.unk],
       Row.own
        [.int .i64 a.c,.int .i64 a.d,.int .i64 a.n,.int .i64 a.e,.int .i64 b.c,.int .i64 b.d,.int .i64 b.n,
         .int .i64 b.e,.int .i64 c.c,.int .i64 c.d,.int .i64 c.n,.int .i64 c.e],
       Row.own [.int .i64 x.c,.int .i64 x.d,.int .i64 x.n,.int .i64 x.e]])
  else
   some
    (SV.tuple [SV.nilp,SV.tuple [.int .i64 dir,SV.ptr 2 0 0 0,SV.ptr 1 0 0 0,SV.ptr 3 0 0 0,SV.bool false,SV.bool s,.int .i64 (IntKind.i64.wrap (2+1))]],
     [Row.vec ro aA.bool xs,Row.own [.int .i64 w,.int .i64 d,.int .i64 h,SV.slice 0 1 off len cap,SV.unk],
      Row.own
       [.int .i64 a.c,.int .i64 a.d,.int .i64 a.n,.int .i64 a.e,.int .i64 b.c,.int .i64 b.d,.int .i64 b.n,
        .int .i64 b.e,.int .i64 c.c,.int .i64 c.d,.int .i64 c.n,.int .i64 c.e],
      Row.own [.int .i64 x.c,.int .i64 x.d,.int .i64 x.n,.int .i64 x.e]])
 else
  some
   (SV.tuple [SV.nilp,SV.tuple [.int .i64 dir,SV.ptr 2 0 0 0,SV.ptr 1 0 0 0,SV.ptr 3 0 0 0,SV.bool false,SV.bool s,.int .i64 (IntKind.i64.wrap (2+1))]],
    [Row.vec ro aA.bool xs,Row.own [.int .i64 w,.int .i64 d,.int .i64 h,SV.slice 0 1 off len cap,SV.unk],
     Row.own
      [.int .i64 a.c,.int .i64 a.d,.int .i64 a.n,.int .i64 a.e,.int .i64 b.c,.int .i64 b.d,.int .i64 b.n,
       .int .i64 b.e,.int .i64 c.c,.int .i64 c.d,.int .i64 c.n,.int .i64 c.e],
     Row.own [.int .i64 x.c,.int .i64 x.d,.int .i64 x.n,.int .i64 x.e]]):=by kernel_rfl
theorem wz (w d h:Int) (len:Nat) (cap:Option Nat) (ro:Bool) (xs:List Bool) (off:Nat) (s:Bool) (dir:Int) (a b c x:Ax):bj Bv (fun _ _=>none) 100 138 [0,1,0,1,1] (bg Tryz.f138 [0,1,0,1,1]) 52 4 [1,2,3,4,6,7,10] [.int .i64 dir,.ptr 2 0 0 0,.ptr 1 0 0 0,.ptr 3 0 0 0,.bool false,.bool s,.int .i64 3] [.vec ro .bool xs,.own [.int .i64 w,.int .i64 d,.int .i64 h,.slice 0 1 off len cap,.unk],.own [.int .i64 a.c,.int .i64 a.d,.int .i64 a.n,.int .i64 a.e,.int .i64 b.c,.int .i64 b.d,.int .i64 b.n,.int .i64 b.e,.int .i64 c.c,.int .i64 c.d,.int .i64 c.n,.int .i64 c.e],.own [.int .i64 x.c,.int .i64 x.d,.int .i64 x.n,.int .i64 x.e]]=
 some
  (SV.tuple [SV.ptr 0 0 0 0,SV.tuple [.int .i64 dir,SV.ptr 2 0 0 0,SV.ptr 1 0 0 0,SV.ptr 3 0 0 0,SV.bool false,SV.bool s,.int .i64 3]],
   [Row.vec ro aA.bool xs,Row.own [.int .i64 w,.int .i64 d,.int .i64 h,SV.slice 0 1 off len cap,SV.unk],
    Row.own
     [.int .i64 a.c,.int .i64 a.d,.int .i64 a.n,.int .i64 a.e,.int .i64 b.c,.int .i64 b.d,.int .i64 b.n,.int .i64 b.e,
      .int .i64 c.c,.int .i64 c.d,.int .i64 c.n,.int .i64 c.e],
    Row.own [.int .i64 x.c,.int .i64 x.d,.int .i64 x.n,.int .i64 x.e]]):=by kernel_rfl
def eV (dir:Int) (s:Bool) (i:Int):List SV:=[.int .i64 dir,.ptr 2 0 0 0,.ptr 1 0 0 0,.ptr 3 0 0 0,.bool false,.bool s,.int .i64 i]
def el (w d h:Int) (len:Nat) (cap:Option Nat) (ro:Bool) (xs:List Bool) (off:Nat) (a b c x:Ax):List Row:=[.vec ro .bool xs,.own [.int .i64 w,.int .i64 d,.int .i64 h,.slice 0 1 off len cap,.unk],.own [.int .i64 a.c,.int .i64 a.d,.int .i64 a.n,.int .i64 a.e,.int .i64 b.c,.int .i64 b.d,.int .i64 b.n,.int .i64 b.e,.int .i64 c.c,.int .i64 c.d,.int .i64 c.n,.int .i64 c.e],.own [.int .i64 x.c,.int .i64 x.d,.int .i64 x.n,.int .i64 x.e]]
noncomputable def ox:List SV→List Row→Option aj:=bj Bv (fun _ _=>none) 100 138 [0,1,0,1,1] (bg Tryz.f138 [0,1,0,1,1]) 52 4 [1,2,3,4,6,7,10]
section
variable {w d h:Int} {len:Nat} {cap:Option Nat} {ro:Bool} {xs:List Bool} {off:Nat} {dir:Int} {a b c x:Ax} {s:Bool}
theorem Jt:ox (eV dir s 0) (el w d h len cap ro xs off a b c x)=some (.tuple [.nilp,.tuple (eV dir (x.goes dir a||s) 1)],el w d h len cap ro xs off (x.next dir a) b c x):=by
 unfold ox eV el
 rw [xh]
 have e1:(⟨a.c,a.d,a.n,a.e⟩:Ax)=a:=rfl
 have e2:(⟨x.c,x.d,x.n,x.e⟩:Ax)=x:=rfl
 rw [e1,e2]
 unfold Ax.next Ax.goes
 cases (a.d==dir)<;>cases a.due<;>cases x.ahead a<;>rfl
theorem IE:ox (eV dir s 1) (el w d h len cap ro xs off a b c x)=some (.tuple [.nilp,.tuple (eV dir (x.goes dir b||s) 2)],el w d h len cap ro xs off a (x.next dir b) c x):=by
 unfold ox eV el
 rw [wE]
 have e1:(⟨b.c,b.d,b.n,b.e⟩:Ax)=b:=rfl
 have e2:(⟨x.c,x.d,x.n,x.e⟩:Ax)=x:=rfl
 rw [e1,e2]
 unfold Ax.next Ax.goes
 cases (b.d==dir)<;>cases b.due<;>cases x.ahead b<;>rfl
theorem Ib:ox (eV dir s 2) (el w d h len cap ro xs off a b c x)=some (.tuple [.nilp,.tuple (eV dir (x.goes dir c||s) 3)],el w d h len cap ro xs off a b (x.next dir c) x):=by
 unfold ox eV el
 rw [yo]
 have e1:(⟨c.c,c.d,c.n,c.e⟩:Ax)=c:=rfl
 have e2:(⟨x.c,x.d,x.n,x.e⟩:Ax)=x:=rfl
 rw [e1,e2]
 unfold Ax.next Ax.goes
 cases (c.d==dir)<;>cases c.due<;>cases x.ahead c<;>rfl
theorem Iu:ox (eV dir s 3) (el w d h len cap ro xs off a b c x)=some (.tuple [Gr (.exit 0),.tuple (eV dir s 3)],el w d h len cap ro xs off a b c x):=by
 unfold ox eV el
 rw [wz]
 rfl
theorem C0:aJ ox (eV dir s 0) (el w d h len cap ro xs off a b c x) (.exit 0) (eV dir (x.goes dir c||(x.goes dir b||(x.goes dir a||s))) 3) (el w d h len cap ro xs off (x.next dir a) (x.next dir b) (x.next dir c) x):=
 .more Jt (.more IE (.more Ib (.done Iu (by simp))))
end
noncomputable def MN (v:List SV) (R:List Row) (k:Ex→List SV→List Row→Option aj):Option aj:=match v,R with
 | [.int .i64 dir,.ptr 2 0 0 0,.ptr 1 0 0 0,.ptr 3 0 0 0,.bool false,.bool s,.int .i64 0],[.vec ro .bool xs,.own [.int .i64 w,.int .i64 d,.int .i64 h,.slice 0 1 off len cap,.unk],.own [.int .i64 ac,.int .i64 ad,.int .i64 an,.int .i64 ae,.int .i64 bc,.int .i64 bd,.int .i64 bn,.int .i64 be,.int .i64 cc,.int .i64 cd,.int .i64 cn,.int .i64 ce],.own [.int .i64 xc,.int .i64 xd,.int .i64 xn,.int .i64 xe]]=>
     k (.exit 0) (eV dir (Ax.goes ⟨xc,xd,xn,xe⟩ dir ⟨cc,cd,cn,ce⟩||(Ax.goes ⟨xc,xd,xn,xe⟩ dir ⟨bc,bd,bn,be⟩||(Ax.goes ⟨xc,xd,xn,xe⟩ dir ⟨ac,ad,an,ae⟩||s))) 3)
      (el w d h len cap ro xs off (Ax.next ⟨xc,xd,xn,xe⟩ dir ⟨ac,ad,an,ae⟩) (Ax.next ⟨xc,xd,xn,xe⟩ dir ⟨bc,bd,bn,be⟩) (Ax.next ⟨xc,xd,xn,xe⟩ dir ⟨cc,cd,cn,ce⟩) ⟨xc,xd,xn,xe⟩)
 |_,_=>none
noncomputable def Rc:Nat→List Nat→Option dq:=fun f p=>bif Nat.beq f 138&&decide (p=[0,1,0,1,1]) then some (bG 52 [1,2,3,4,6,7,10] MN) else none
theorem S5:AM Tryz.prog Rc:=by
 intro f p F hF b hat s K r h
 unfold Rc at hF
 obtain ⟨hb,hF⟩:=al hF
 cases hF
 rw [Bool.and_eq_true,decide_eq_true_eq] at hb
 obtain ⟨h1,rfl⟩:=hb
 obtain rfl:=Nat.eq_of_beq_eq_true h1
 refine aQ (fuel:=100) Fu ag hat (fun v R k r hr=>?_) h
 have hbody:=aZ Tryz.func138 hat
 subst hbody
 unfold MN at hr
 split at hr
 · rename_i dir s ro xs w d h off len cap ac ad an ae bc bd bn be cc cd cn ce xc xd xn xe
   exact ⟨_,_,_,hr,C0 (dir:=dir) (s:=s) (a:=⟨ac,ad,an,ae⟩) (b:=⟨bc,bd,bn,be⟩) (c:=⟨cc,cd,cn,ce⟩) (x:=⟨xc,xd,xn,xe⟩)⟩
 · cases hr
theorem Ey (w d h :Int) (len:Nat) (cap:Option Nat) (ro:Bool) (xs:List Bool) (off:Nat) (dir:Int) (a b c x:Ax):Jy Bv Rc 200 138 Tryz.f138 [.agg [.int .i64 x.c,.int .i64 x.d,.int .i64 x.n,.int .i64 x.e],.int .i64 dir,.ptr 2 0 0 0,.ptr 1 0 0 0] [.vec ro .bool xs,.own [.int .i64 w,.int .i64 d,.int .i64 h,.slice 0 1 off len cap,.unk],.own [.int .i64 a.c,.int .i64 a.d,.int .i64 a.n,.int .i64 a.e,.int .i64 b.c,.int .i64 b.d,.int .i64 b.n,.int .i64 b.e,.int .i64 c.c,.int .i64 c.d,.int .i64 c.n,.int .i64 c.e]]=
 bif
     (aP w d h len &&
                 (am ((⟨x.c,x.d,x.n,x.e⟩:Ax).next dir (⟨a.c,a.d,a.n,a.e⟩:Ax)).c&&
                  (am ((⟨x.c,x.d,x.n,x.e⟩:Ax).next dir (⟨b.c,b.d,b.n,b.e⟩:Ax)).c&&
                   (am ((⟨x.c,x.d,x.n,x.e⟩:Ax).next dir (⟨c.c,c.d,c.n,c.e⟩:Ax)).c&&decide (off+len≤xs.length))))&&
               true&&
             true||
           ((⟨x.c,x.d,x.n,x.e⟩:Ax).goes dir (⟨c.c,c.d,c.n,c.e⟩:Ax)||
               ((⟨x.c,x.d,x.n,x.e⟩:Ax).goes dir (⟨b.c,b.d,b.n,b.e⟩:Ax)||
                ((⟨x.c,x.d,x.n,x.e⟩:Ax).goes dir (⟨a.c,a.d,a.n,a.e⟩:Ax)||false))) !=
            true)&&
         (true ||
          ((⟨x.c,x.d,x.n,x.e⟩:Ax).goes dir (⟨c.c,c.d,c.n,c.e⟩:Ax)||
              ((⟨x.c,x.d,x.n,x.e⟩:Ax).goes dir (⟨b.c,b.d,b.n,b.e⟩:Ax)||
               ((⟨x.c,x.d,x.n,x.e⟩:Ax).goes dir (⟨a.c,a.d,a.n,a.e⟩:Ax)||false)))==
           true)&&
      true then
  some
   (SV.bool
       (bif
           ((⟨x.c,x.d,x.n,x.e⟩:Ax).goes dir (⟨c.c,c.d,c.n,c.e⟩:Ax)||
               ((⟨x.c,x.d,x.n,x.e⟩:Ax).goes dir (⟨b.c,b.d,b.n,b.e⟩:Ax)||
                ((⟨x.c,x.d,x.n,x.e⟩:Ax).goes dir (⟨a.c,a.d,a.n,a.e⟩:Ax)||false)))==
            true then
        (af w d h len fun j=>xs.getD (off+j) false).solid ((⟨x.c,x.d,x.n,x.e⟩:Ax).next dir (⟨a.c,a.d,a.n,a.e⟩:Ax)).c
         ((⟨x.c,x.d,x.n,x.e⟩:Ax).next dir (⟨b.c,b.d,b.n,b.e⟩:Ax)).c
         ((⟨x.c,x.d,x.n,x.e⟩:Ax).next dir (⟨c.c,c.d,c.n,c.e⟩:Ax)).c
       else false),
    [Row.vec ro aA.bool xs,Row.own [.int .i64 w,.int .i64 d,.int .i64 h,SV.slice 0 1 off len cap,SV.unk],
     Row.own
      [.int .i64 ((⟨x.c,x.d,x.n,x.e⟩:Ax).next dir (⟨a.c,a.d,a.n,a.e⟩:Ax)).c,
       .int .i64 ((⟨x.c,x.d,x.n,x.e⟩:Ax).next dir (⟨a.c,a.d,a.n,a.e⟩:Ax)).d,
       .int .i64 ((⟨x.c,x.d,x.n,x.e⟩:Ax).next dir (⟨a.c,a.d,a.n,a.e⟩:Ax)).n,
       .int .i64 ((⟨x.c,x.d,x.n,x.e⟩:Ax).next dir (⟨a.c,a.d,a.n,a.e⟩:Ax)).e,
       .int .i64 ((⟨x.c,x.d,x.n,x.e⟩:Ax).next dir (⟨b.c,b.d,b.n,b.e⟩:Ax)).c,
       .int .i64 ((⟨x.c,x.d,x.n,x.e⟩:Ax).next dir (⟨b.c,b.d,b.n,b.e⟩:Ax)).d,
       .int .i64 ((⟨x.c,x.d,x.n,x.e⟩:Ax).next dir (⟨b.c,b.d,b.n,b.e⟩:Ax)).n,
       .int .i64 ((⟨x.c,x.d,x.n,x.e⟩:Ax).next dir (⟨b.c,b.d,b.n,b.e⟩:Ax)).e,
       .int .i64 ((⟨x.c,x.d,x.n,x.e⟩:Ax).next dir (⟨c.c,c.d,c.n,c.e⟩:Ax)).c,
       .int .i64 ((⟨x.c,x.d,x.n,x.e⟩:Ax).next dir (⟨c.c,c.d,c.n,c.e⟩:Ax)).d,
       .int .i64 ((⟨x.c,x.d,x.n,x.e⟩:Ax).next dir (⟨c.c,c.d,c.n,c.e⟩:Ax)).n,
       .int .i64 ((⟨x.c,x.d,x.n,x.e⟩:Ax).next dir (⟨c.c,c.d,c.n,c.e⟩:Ax)).e],
     Row.own [.int .i64 x.c,.int .i64 x.d,.int .i64 x.n,.int .i64 x.e]])
 else none:=by kernel_rfl
noncomputable def Mp.hit (m:Mp) (x:Ax) (dir:Int) (a b c:Ax):Bool:=bif x.anyGo dir a b c==true then m.solid (x.next dir a).c (x.next dir b).c (x.next dir c).c else false
def tU (w d h:Int) (len off:Nat) (xs:List Bool) (x:Ax) (dir:Int) (a b c:Ax):Bool:=aP w d h len&&(am (x.next dir a).c&&(am (x.next dir b).c&&(am (x.next dir c).c&&decide (off+len≤xs.length))))
theorem JG {w d h:Int} {len:Nat} {cap:Option Nat} {ro:Bool} {xs:List Bool} {off:Nat} {dir:Int} {a b c x:Ax} (hok:tU w d h len off xs x dir a b c=true):
    Jy Bv Rc 200 138 Tryz.f138 [.agg [.int .i64 x.c,.int .i64 x.d,.int .i64 x.n,.int .i64 x.e],.int .i64 dir,.ptr 2 0 0 0,.ptr 1 0 0 0] [.vec ro .bool xs,.own [.int .i64 w,.int .i64 d,.int .i64 h,.slice 0 1 off len cap,.unk],.own [.int .i64 a.c,.int .i64 a.d,.int .i64 a.n,.int .i64 a.e,.int .i64 b.c,.int .i64 b.d,.int .i64 b.n,.int .i64 b.e,.int .i64 c.c,.int .i64 c.d,.int .i64 c.n,.int .i64 c.e]]=
    some (.bool ((af w d h len fun j=>xs.getD (off+j) false).hit x dir a b c),el w d h len cap ro xs off (x.next dir a) (x.next dir b) (x.next dir c) x):=by
 rw [Ey]
 unfold tU at hok
 have e:∀y:Ax,(⟨y.c,y.d,y.n,y.e⟩:Ax)=y:=fun _=>rfl
 simp only [e,hok,Bool.and_true,Bool.true_or,cond_true]
 rfl
noncomputable def DC (args:List SV) (rows:List Row):Option aL:=match args with
 | [.agg [.int .i64 xc,.int .i64 xd,.int .i64 xn,.int .i64 xe],.int .i64 dir,.ptr lid 0 0 0,.ptr mid 0 0 0]=>match rows[lid]?,rows[mid]? with
  | some (.own [.int .i64 ac,.int .i64 ad,.int .i64 an,.int .i64 ae,.int .i64 bc,.int .i64 bd,.int .i64 bn,.int .i64 be,.int .i64 cc,.int .i64 cd,.int .i64 cn,.int .i64 ce]),some (.own [.int .i64 w,.int .i64 d,.int .i64 h,.slice sid 1 off len cap,.unk])=>match rows[sid]? with
   | some (.vec true .bool xs)=>bif !(Nat.beq sid mid)&&(!(Nat.beq sid lid)&& !(Nat.beq mid lid)) then
       some { ok:=tU w d h len off xs ⟨xc,xd,xn,xe⟩ dir ⟨ac,ad,an,ae⟩ ⟨bc,bd,bn,be⟩ ⟨cc,cd,cn,ce⟩,val:=.bool ((af w d h len fun j=>xs.getD (off+j) false).hit ⟨xc,xd,xn,xe⟩ dir ⟨ac,ad,an,ae⟩ ⟨bc,bd,bn,be⟩ ⟨cc,cd,cn,ce⟩),
              rd:=[sid,mid,lid],wr:=[(mid,.own [.int .i64 w,.int .i64 d,.int .i64 h,.slice sid 1 off len cap,.unk]),(lid,.own ((Ax.next ⟨xc,xd,xn,xe⟩ dir ⟨ac,ad,an,ae⟩).sv++((Ax.next ⟨xc,xd,xn,xe⟩ dir ⟨bc,bd,bn,be⟩).sv++(Ax.next ⟨xc,xd,xn,xe⟩ dir ⟨cc,cd,cn,ce⟩).sv)))],
              nw:=[.own [.int .i64 xc,.int .i64 xd,.int .i64 xn,.int .i64 xe]]} else none
   |_=>none
  |_,_=>none
 |_=>none
theorem HK {args:List SV} {rows:List Row} {e:aL} (h:DC args rows=some e) (hok:e.ok=true):aN Tryz.prog 138 args (rows[·]?) rows.length e:=by
 unfold DC at h
 split at h
 · rename_i xc xd xn xe dir lid mid
   split at h
   · rename_i q1 q2 ac ad an ae bc bd bn be cc cd cn ce w d h' sid off len cap hl hm
     split at h
     · rename_i xs hs
       obtain ⟨hb,h⟩:=al h
       cases h
       simp only [Bool.and_eq_true,Bool.not_eq_true'] at hb
       obtain ⟨n1,n2,n3⟩:=hb
       have n1:=Nat.ne_of_beq_eq_false n1
       have n2:=Nat.ne_of_beq_eq_false n2
       have n3:=Nat.ne_of_beq_eq_false n3
       have l1:=(List.getElem?_eq_some_iff.1 hl).1
       have l2:=(List.getElem?_eq_some_iff.1 hm).1
       have l3:=(List.getElem?_eq_some_iff.1 hs).1
       have hc:=Fy Fu S5 Tryz.func138 (JG (ro:=true) (cap:=cap) hok)
       refine lC hc (σ:=[sid,mid,lid]) (n:=rows.length) (W:=[(mid,.own [.int .i64 w,.int .i64 d,.int .i64 h',.slice sid 1 off len cap,.unk]),(lid,.own ((Ax.next ⟨xc,xd,xn,xe⟩ dir ⟨ac,ad,an,ae⟩).sv++((Ax.next ⟨xc,xd,xn,xe⟩ dir ⟨bc,bd,bn,be⟩).sv++(Ax.next ⟨xc,xd,xn,xe⟩ dir ⟨cc,cd,cn,ce⟩).sv)))]) rfl ?_ ?_ ?_ ?_ ?_ ?_ ?_
       · simp [n1,n2,n3]
       · intro j hj
         simp at hj
         rcases hj with rfl |rfl |rfl<;>assumption
       · intro i hi
         simp [SV.idsL,SV.ids] at hi
         rcases hi with rfl |rfl<;>simp
       · intro i row hr j hj
         match i,hr with
         |0,hr=>simp at hr;subst hr;simp [Row.idsR] at hj
         |1,hr=>simp at hr;subst hr;simp [Row.idsR,SV.idsL,SV.ids] at hj;subst hj;simp
         |2,hr=>simp at hr;subst hr;simp [Row.idsR,SV.idsL,SV.ids] at hj
         |i+3,hr=>simp at hr
       · intro i row hr
         match i,hr with
         |0,hr=>simp at hr;subst hr;exact ⟨_,hs,fun h=>h,fun _ _ h=>h⟩
         |1,hr=>simp at hr;subst hr;exact ⟨_,hm,fun _=>rfl,fun _ _ h=>h⟩
         |2,hr=>simp at hr;subst hr;exact ⟨_,hl,fun _=>rfl,fun _ _ h=>h⟩
         |i+3,hr=>simp at hr
       · intro i row hr _
         match i,hr with
         |0,hr=>simp at hr;subst hr;exact .inl ⟨_,_,rfl⟩
         |1,hr=>exact .inr ⟨_,rfl,List.mem_cons_self ..⟩
         |2,hr=>exact .inr ⟨_,rfl,List.mem_cons_of_mem _ (List.mem_cons_self ..)⟩
         |i+3,hr=>simp at hr
       · intro x hx
         simp only [List.mem_cons,List.not_mem_nil,or_false] at hx
         rcases hx with rfl |rfl
         · exact ⟨1,_,by simp,rfl,rfl⟩
         · exact ⟨2,_,by simp,rfl,rfl⟩
     · cases h
   · cases h
 · cases h
noncomputable def VX:bY:=⟨139,fun args _=>Sw args,fun _ _ _ h _=>FO h,aq Tryz.func139 (by kernel_rfl)⟩
noncomputable def MK:bY:=⟨140,fun args _=>xC args,fun _ _ _ h _=>vf h,aq Tryz.func140 (by kernel_rfl)⟩
noncomputable def OD:bY:=⟨137,fun args _=>Cx args,fun _ _ _ h hok=>Hu h hok,aq Tryz.func137 (by kernel_rfl)⟩
noncomputable def Oh:bY:=⟨138,DC,fun _ _ _ h hok=>HK h hok,aq Tryz.func138 (by kernel_rfl)⟩
noncomputable def YE:bS:=aV [136,70] [VX,MK,sE,OD,Oh]
theorem E9:bV Tryz.prog YE:=aD (by kernel_rfl)
def Zu (a b c:Ax):List SV:=[.int .i64 a.c,.int .i64 a.d,.int .i64 a.n,.int .i64 a.e,.int .i64 b.c,.int .i64 b.d,.int .i64 b.n,.int .i64 b.e,.int .i64 c.c,.int .i64 c.d,.int .i64 c.n,.int .i64 c.e]
def Fw (w d h:Int) (len:Nat) (xs:List Bool) (off:Nat) (p q:V3) (a b c:Ax):List Row:=[.vec true .bool xs,.own [.int .i64 w,.int .i64 d,.int .i64 h,.slice 0 1 off len none,.unk],.own [.int .i64 p.x,.int .i64 p.y,.int .i64 p.z],.own [.int .i64 q.x,.int .i64 q.y,.int .i64 q.z],.own (Zu a b c)]
def iM (w d h:Int) (len:Nat) (xs:List Bool) (off:Nat) (p q:V3) (a b c x:Ax):List Row:=[.vec true .bool xs,.own [.int .i64 w,.int .i64 d,.int .i64 h,.slice 0 1 off len none,.unk],.own [.int .i64 p.x,.int .i64 p.y,.int .i64 p.z],.own [.int .i64 q.x,.int .i64 q.y,.int .i64 q.z],.own (Zu a b c),.own [.int .i64 x.c,.int .i64 x.d,.int .i64 x.n,.int .i64 x.e]]
noncomputable def iO (a b c:Ax) (i:Int):List SV:=[.bool false,.ptr 4 0 0 0,.fn 138 [.ptr 4 0 0 0,.ptr 1 0 0 0],.ptr 5 0 0 0,.agg (Zu a b c),.int .i64 i]
noncomputable def Gq (s:Bool):List SV:=[.bool s,.ptr 4 0 0 0,.fn 138 [.ptr 4 0 0 0,.ptr 1 0 0 0]]
noncomputable def xw:List SV→List Row→Option aj:=bj YE (fun _ _=>none) 100 121 [0,1,0,1,0,0,0,1,1,1,1,1] (bg Tryz.f121 [0,1,0,1,0,0,0,1,1,1,1,1]) 68 6 [6,8,9,10,39,40]
theorem Jo (w d h:Int) (len:Nat) (xs:List Bool) (off:Nat) (p q:V3) (k l m a b c x:Ax):xw (iO a b c 0) (iM w d h len xs off p q k l m x)=
 bif bif a.due==true then bif (x.d==0)==false then a.ahead x else true else false then
  some
   (SV.tuple
       [SV.nilp,
        SV.tuple
         [SV.bool false,SV.ptr 4 0 0 0,SV.fn 138 [SV.ptr 4 0 0 0,SV.ptr 1 0 0 0],SV.ptr 5 0 0 0,
          SV.agg
           [.int .i64 a.c,.int .i64 a.d,.int .i64 a.n,.int .i64 a.e,.int .i64 b.c,.int .i64 b.d,.int .i64 b.n,
            .int .i64 b.e,.int .i64 c.c,.int .i64 c.d,.int .i64 c.n,.int .i64 c.e],
          .int .i64 (IntKind.i64.wrap (0+1))]],
    [Row.vec true aA.bool xs,Row.own [.int .i64 w,.int .i64 d,.int .i64 h,SV.slice 0 1 off len none,SV.unk],
     Row.own [.int .i64 p.x,.int .i64 p.y,.int .i64 p.z],Row.own [.int .i64 q.x,.int .i64 q.y,.int .i64 q.z],
     Row.own
      [.int .i64 k.c,.int .i64 k.d,.int .i64 k.n,.int .i64 k.e,.int .i64 l.c,.int .i64 l.d,.int .i64 l.n,
       .int .i64 l.e,.int .i64 m.c,.int .i64 m.d,.int .i64 m.n,.int .i64 m.e],
     Row.own [.int .i64 a.c,.int .i64 a.d,.int .i64 a.n,.int .i64 a.e]])
 else
  some
   (SV.tuple
       [SV.nilp,
        SV.tuple
         [SV.bool false,SV.ptr 4 0 0 0,SV.fn 138 [SV.ptr 4 0 0 0,SV.ptr 1 0 0 0],SV.ptr 5 0 0 0,
          SV.agg
           [.int .i64 a.c,.int .i64 a.d,.int .i64 a.n,.int .i64 a.e,.int .i64 b.c,.int .i64 b.d,.int .i64 b.n,
            .int .i64 b.e,.int .i64 c.c,.int .i64 c.d,.int .i64 c.n,.int .i64 c.e],
          .int .i64 (IntKind.i64.wrap (0+1))]],
    [Row.vec true aA.bool xs,Row.own [.int .i64 w,.int .i64 d,.int .i64 h,SV.slice 0 1 off len none,SV.unk],
     Row.own [.int .i64 p.x,.int .i64 p.y,.int .i64 p.z],Row.own [.int .i64 q.x,.int .i64 q.y,.int .i64 q.z],
     Row.own
      [.int .i64 k.c,.int .i64 k.d,.int .i64 k.n,.int .i64 k.e,.int .i64 l.c,.int .i64 l.d,.int .i64 l.n,
       .int .i64 l.e,.int .i64 m.c,.int .i64 m.d,.int .i64 m.n,.int .i64 m.e],
     Row.own [.int .i64 x.c,.int .i64 x.d,.int .i64 x.n,.int .i64 x.e]]):=by kernel_rfl
theorem JJ (w d h:Int) (len:Nat) (xs:List Bool) (off:Nat) (p q:V3) (k l m a b c x:Ax):xw (iO a b c 1) (iM w d h len xs off p q k l m x)=
 bif bif b.due==true then bif (x.d==0)==false then b.ahead x else true else false then
  some
   (SV.tuple
       [SV.nilp,
        SV.tuple
         [SV.bool false,SV.ptr 4 0 0 0,SV.fn 138 [SV.ptr 4 0 0 0,SV.ptr 1 0 0 0],SV.ptr 5 0 0 0,
          SV.agg
           [.int .i64 a.c,.int .i64 a.d,.int .i64 a.n,.int .i64 a.e,.int .i64 b.c,.int .i64 b.d,.int .i64 b.n,
            .int .i64 b.e,.int .i64 c.c,.int .i64 c.d,.int .i64 c.n,.int .i64 c.e],
          .int .i64 (IntKind.i64.wrap (1+1))]],
    [Row.vec true aA.bool xs,Row.own [.int .i64 w,.int .i64 d,.int .i64 h,SV.slice 0 1 off len none,SV.unk],
     Row.own [.int .i64 p.x,.int .i64 p.y,.int .i64 p.z],Row.own [.int .i64 q.x,.int .i64 q.y,.int .i64 q.z],
     Row.own
      [.int .i64 k.c,.int .i64 k.d,.int .i64 k.n,.int .i64 k.e,.int .i64 l.c,.int .i64 l.d,.int .i64 l.n,
       .int .i64 l.e,.int .i64 m.c,.int .i64 m.d,.int .i64 m.n,.int .i64 m.e],
     Row.own [.int .i64 b.c,.int .i64 b.d,.int .i64 b.n,.int .i64 b.e]])
 else
  some
   (SV.tuple
       [SV.nilp,
        SV.tuple
         [SV.bool false,SV.ptr 4 0 0 0,SV.fn 138 [SV.ptr 4 0 0 0,SV.ptr 1 0 0 0],SV.ptr 5 0 0 0,
          SV.agg
           [.int .i64 a.c,.int .i64 a.d,.int .i64 a.n,.int .i64 a.e,.int .i64 b.c,.int .i64 b.d,.int .i64 b.n,
            .int .i64 b.e,.int .i64 c.c,.int .i64 c.d,.int .i64 c.n,.int .i64 c.e],
          .int .i64 (IntKind.i64.wrap (1+1))]],
    [Row.vec true aA.bool xs,Row.own [.int .i64 w,.int .i64 d,.int .i64 h,SV.slice 0 1 off len none,SV.unk],
     Row.own [.int .i64 p.x,.int .i64 p.y,.int .i64 p.z],Row.own [.int .i64 q.x,.int .i64 q.y,.int .i64 q.z],
     Row.own
      [.int .i64 k.c,.int .i64 k.d,.int .i64 k.n,.int .i64 k.e,.int .i64 l.c,.int .i64 l.d,.int .i64 l.n,
       .int .i64 l.e,.int .i64 m.c,.int .i64 m.d,.int .i64 m.n,.int .i64 m.e],
     Row.own [.int .i64 x.c,.int .i64 x.d,.int .i64 x.n,.int .i64 x.e]]):=by kernel_rfl
theorem IQ (w d h:Int) (len:Nat) (xs:List Bool) (off:Nat) (p q:V3) (k l m a b c x:Ax):xw (iO a b c 2) (iM w d h len xs off p q k l m x)=
 bif bif c.due==true then bif (x.d==0)==false then c.ahead x else true else false then
  some
   (SV.tuple
       [SV.nilp,
        SV.tuple
         [SV.bool false,SV.ptr 4 0 0 0,SV.fn 138 [SV.ptr 4 0 0 0,SV.ptr 1 0 0 0],SV.ptr 5 0 0 0,
          SV.agg
           [.int .i64 a.c,.int .i64 a.d,.int .i64 a.n,.int .i64 a.e,.int .i64 b.c,.int .i64 b.d,.int .i64 b.n,
            .int .i64 b.e,.int .i64 c.c,.int .i64 c.d,.int .i64 c.n,.int .i64 c.e],
          .int .i64 (IntKind.i64.wrap (2+1))]],
    [Row.vec true aA.bool xs,Row.own [.int .i64 w,.int .i64 d,.int .i64 h,SV.slice 0 1 off len none,SV.unk],
     Row.own [.int .i64 p.x,.int .i64 p.y,.int .i64 p.z],Row.own [.int .i64 q.x,.int .i64 q.y,.int .i64 q.z],
     Row.own
      [.int .i64 k.c,.int .i64 k.d,.int .i64 k.n,.int .i64 k.e,.int .i64 l.c,.int .i64 l.d,.int .i64 l.n,
       .int .i64 l.e,.int .i64 m.c,.int .i64 m.d,.int .i64 m.n,.int .i64 m.e],
     Row.own [.int .i64 c.c,.int .i64 c.d,.int .i64 c.n,.int .i64 c.e]])
 else
  some
   (SV.tuple
       [SV.nilp,
        SV.tuple
         [SV.bool false,SV.ptr 4 0 0 0,SV.fn 138 [SV.ptr 4 0 0 0,SV.ptr 1 0 0 0],SV.ptr 5 0 0 0,
          SV.agg
           [.int .i64 a.c,.int .i64 a.d,.int .i64 a.n,.int .i64 a.e,.int .i64 b.c,.int .i64 b.d,.int .i64 b.n,
            .int .i64 b.e,.int .i64 c.c,.int .i64 c.d,.int .i64 c.n,.int .i64 c.e],
          .int .i64 (IntKind.i64.wrap (2+1))]],
    [Row.vec true aA.bool xs,Row.own [.int .i64 w,.int .i64 d,.int .i64 h,SV.slice 0 1 off len none,SV.unk],
     Row.own [.int .i64 p.x,.int .i64 p.y,.int .i64 p.z],Row.own [.int .i64 q.x,.int .i64 q.y,.int .i64 q.z],
     Row.own
      [.int .i64 k.c,.int .i64 k.d,.int .i64 k.n,.int .i64 k.e,.int .i64 l.c,.int .i64 l.d,.int .i64 l.n,
       .int .i64 l.e,.int .i64 m.c,.int .i64 m.d,.int .i64 m.n,.int .i64 m.e],
     Row.own [.int .i64 x.c,.int .i64 x.d,.int .i64 x.n,.int .i64 x.e]]):=by kernel_rfl
theorem Jq (w d h:Int) (len:Nat) (xs:List Bool) (off:Nat) (p q:V3) (k l m a b c x:Ax):xw (iO a b c 3) (iM w d h len xs off p q k l m x)=
 some
  (SV.tuple
      [SV.ptr 2 0 0 0,
       SV.tuple
        [SV.bool false,SV.ptr 4 0 0 0,SV.fn 138 [SV.ptr 4 0 0 0,SV.ptr 1 0 0 0],SV.ptr 5 0 0 0,
         SV.agg
          [.int .i64 a.c,.int .i64 a.d,.int .i64 a.n,.int .i64 a.e,.int .i64 b.c,.int .i64 b.d,.int .i64 b.n,
           .int .i64 b.e,.int .i64 c.c,.int .i64 c.d,.int .i64 c.n,.int .i64 c.e],
         .int .i64 3]],
   [Row.vec true aA.bool xs,Row.own [.int .i64 w,.int .i64 d,.int .i64 h,SV.slice 0 1 off len none,SV.unk],
    Row.own [.int .i64 p.x,.int .i64 p.y,.int .i64 p.z],Row.own [.int .i64 q.x,.int .i64 q.y,.int .i64 q.z],
    Row.own
     [.int .i64 k.c,.int .i64 k.d,.int .i64 k.n,.int .i64 k.e,.int .i64 l.c,.int .i64 l.d,.int .i64 l.n,.int .i64 l.e,
      .int .i64 m.c,.int .i64 m.d,.int .i64 m.n,.int .i64 m.e],
    Row.own [.int .i64 x.c,.int .i64 x.d,.int .i64 x.n,.int .i64 x.e]]):=by kernel_rfl
section
variable {w d h:Int} {len:Nat} {xs:List Bool} {off:Nat} {p q:V3} {k l m a b c x:Ax}
theorem VU:xw (iO a b c 0) (iM w d h len xs off p q k l m x)=some (.tuple [.nilp,.tuple (iO a b c 1)],iM w d h len xs off p q k l m (x.pick a)):=by
 rw [Jo]
 unfold Ax.pick
 cases a.due<;>cases (x.d==0)<;>cases a.ahead x<;>rfl
theorem X3:xw (iO a b c 1) (iM w d h len xs off p q k l m x)=some (.tuple [.nilp,.tuple (iO a b c 2)],iM w d h len xs off p q k l m (x.pick b)):=by
 rw [JJ]
 unfold Ax.pick
 cases b.due<;>cases (x.d==0)<;>cases b.ahead x<;>rfl
theorem VH:xw (iO a b c 2) (iM w d h len xs off p q k l m x)=some (.tuple [.nilp,.tuple (iO a b c 3)],iM w d h len xs off p q k l m (x.pick c)):=by
 rw [IQ]
 unfold Ax.pick
 cases c.due<;>cases (x.d==0)<;>cases c.ahead x<;>rfl
theorem Xv:xw (iO a b c 3) (iM w d h len xs off p q k l m x)=some (.tuple [Gr (.exit 2),.tuple (iO a b c 3)],iM w d h len xs off p q k l m x):=by
 rw [Jq]
 rfl
theorem XW:aJ xw (iO a b c 0) (iM w d h len xs off p q k l m x) (.exit 2) (iO a b c 3) (iM w d h len xs off p q k l m (((x.pick a).pick b).pick c)):=
 .more VU (.more X3 (.more VH (.done Xv (by simp))))
end
noncomputable def Tu (v:List SV) (R:List Row) (k:Ex→List SV→List Row→Option aj):Option aj:=match v,R with
 | [.bool false,.ptr 4 0 0 0,.fn fid [.ptr 4 0 0 0,.ptr 1 0 0 0],.ptr 5 0 0 0,.agg [.int .i64 ac,.int .i64 ad,.int .i64 an,.int .i64 ae,.int .i64 bc,.int .i64 bd,.int .i64 bn,.int .i64 be,.int .i64 cc,.int .i64 cd,.int .i64 cn,.int .i64 ce],.int .i64 0],
  [.vec true .bool xs,.own [.int .i64 w,.int .i64 d,.int .i64 h,.slice 0 1 off len none,.unk],.own [.int .i64 px,.int .i64 py,.int .i64 pz],.own [.int .i64 qx,.int .i64 qy,.int .i64 qz],.own [.int .i64 ac',.int .i64 ad',.int .i64 an',.int .i64 ae',.int .i64 bc',.int .i64 bd',.int .i64 bn',.int .i64 be',.int .i64 cc',.int .i64 cd',.int .i64 cn',.int .i64 ce'],.own [.int .i64 xc,.int .i64 xd,.int .i64 xn,.int .i64 xe]]=>
   bif Nat.beq fid 138 then k (.exit 2) (iO ⟨ac,ad,an,ae⟩ ⟨bc,bd,bn,be⟩ ⟨cc,cd,cn,ce⟩ 3) (iM w d h len xs off ⟨px,py,pz⟩ ⟨qx,qy,qz⟩ ⟨ac',ad',an',ae'⟩ ⟨bc',bd',bn',be'⟩ ⟨cc',cd',cn',ce'⟩ (((Ax.pick ⟨xc,xd,xn,xe⟩ ⟨ac,ad,an,ae⟩).pick ⟨bc,bd,bn,be⟩).pick ⟨cc,cd,cn,ce⟩)) else none
 |_,_=>none
theorem KF:da 121 [0,1,0,1,0,0,0,1,1,1,1,1] (bG 68 [6,8,9,10,39,40] Tu):=by
 intro b hat s K r h
 refine aQ (fuel:=100) E9 ag hat (fun v R k r hr=>?_) h
 have hbody:=aZ Tryz.func121 hat
 subst hbody
 unfold Tu at hr
 split at hr
 · rename_i fid ac ad an ae bc bd bn be cc cd cn ce xs w d h off len px py pz qx qy qz ac' ad' an' ae' bc' bd' bn' be' cc' cd' cn' ce' xc xd xn xe
   obtain ⟨hb,hr⟩:=al hr
   obtain rfl:=Nat.eq_of_beq_eq_true hb
   refine ⟨_,_,_,hr,?_⟩
   exact XW (w:=w) (d:=d) (h:=h) (len:=len) (xs:=xs) (off:=off) (p:=⟨px,py,pz⟩) (q:=⟨qx,qy,qz⟩) (k:=⟨ac',ad',an',ae'⟩) (l:=⟨bc',bd',bn',be'⟩) (m:=⟨cc',cd',cn',ce'⟩) (a:=⟨ac,ad,an,ae⟩) (b:=⟨bc,bd,bn,be⟩) (c:=⟨cc,cd,cn,ce⟩) (x:=⟨xc,xd,xn,xe⟩)
 · cases hr
noncomputable def Tz:jh:=⟨_,_,_,KF⟩
noncomputable def Yf:List SV→List Row→Option aj:=bj YE (aF [Tz]) 100 121 [0,1,1,1,1,1] (bg Tryz.f121 [0,1,1,1,1,1]) 68 5 [6,8,9]
theorem OR (w d h:Int) (len:Nat) (xs:List Bool) (off:Nat) (p q:V3) (a b c:Ax):Yf (Gq false) (Fw w d h len xs off p q a b c)=
 bif ((((Ax.mk 0 0 0 0).pick a).pick b).pick c).d==0 then
  some
   (SV.tuple [SV.nils,SV.tuple [SV.bool true,SV.ptr 4 0 0 0,SV.fn 138 [SV.ptr 4 0 0 0,SV.ptr 1 0 0 0]]],
    [Row.vec true aA.bool xs,Row.own [.int .i64 w,.int .i64 d,.int .i64 h,SV.slice 0 1 off len none,SV.unk],
     Row.own [.int .i64 p.x,.int .i64 p.y,.int .i64 p.z],Row.own [.int .i64 q.x,.int .i64 q.y,.int .i64 q.z],
     Row.own
      [.int .i64 a.c,.int .i64 a.d,.int .i64 a.n,.int .i64 a.e,.int .i64 b.c,.int .i64 b.d,.int .i64 b.n,
       .int .i64 b.e,.int .i64 c.c,.int .i64 c.d,.int .i64 c.n,.int .i64 c.e]])
 else
  bif tU w d h len off xs ((((Ax.mk 0 0 0 0).pick a).pick b).pick c) 1 a b c then
   bif (af w d h len fun j=>xs.getD (off+j) false).hit ((((Ax.mk 0 0 0 0).pick a).pick b).pick c) 1 a b c then
    some
     (SV.tuple [SV.nils,SV.tuple [SV.bool false,SV.ptr 4 0 0 0,SV.fn 138 [SV.ptr 4 0 0 0,SV.ptr 1 0 0 0]]],
      [Row.vec true aA.bool xs,Row.own [.int .i64 w,.int .i64 d,.int .i64 h,SV.slice 0 1 off len none,SV.unk],
       Row.own [.int .i64 p.x,.int .i64 p.y,.int .i64 p.z],Row.own [.int .i64 q.x,.int .i64 q.y,.int .i64 q.z],
       Row.own
        [.int .i64 (((((Ax.mk 0 0 0 0).pick a).pick b).pick c).next 1 a).c,.int .i64 (((((Ax.mk 0 0 0 0).pick a).pick b).pick c).next 1 a).d,
         .int .i64 (((((Ax.mk 0 0 0 0).pick a).pick b).pick c).next 1 a).n,.int .i64 (((((Ax.mk 0 0 0 0).pick a).pick b).pick c).next 1 a).e,
         .int .i64 (((((Ax.mk 0 0 0 0).pick a).pick b).pick c).next 1 b).c,.int .i64 (((((Ax.mk 0 0 0 0).pick a).pick b).pick c).next 1 b).d,
         .int .i64 (((((Ax.mk 0 0 0 0).pick a).pick b).pick c).next 1 b).n,.int .i64 (((((Ax.mk 0 0 0 0).pick a).pick b).pick c).next 1 b).e,
         .int .i64 (((((Ax.mk 0 0 0 0).pick a).pick b).pick c).next 1 c).c,.int .i64 (((((Ax.mk 0 0 0 0).pick a).pick b).pick c).next 1 c).d,
         .int .i64 (((((Ax.mk 0 0 0 0).pick a).pick b).pick c).next 1 c).n,.int .i64 (((((Ax.mk 0 0 0 0).pick a).pick b).pick c).next 1 c).e]])
   else
    bif
        tU w d h len off xs ((((Ax.mk 0 0 0 0).pick a).pick b).pick c) (-1) (((((Ax.mk 0 0 0 0).pick a).pick b).pick c).next 1 a) (((((Ax.mk 0 0 0 0).pick a).pick b).pick c).next 1 b)
         (((((Ax.mk 0 0 0 0).pick a).pick b).pick c).next 1 c) then
     bif
         (af w d h len fun j=>xs.getD (off+j) false).hit ((((Ax.mk 0 0 0 0).pick a).pick b).pick c) (-1) (((((Ax.mk 0 0 0 0).pick a).pick b).pick c).next 1 a)
          (((((Ax.mk 0 0 0 0).pick a).pick b).pick c).next 1 b) (((((Ax.mk 0 0 0 0).pick a).pick b).pick c).next 1 c) then
      some
       (SV.tuple [SV.nils,SV.tuple [SV.bool false,SV.ptr 4 0 0 0,SV.fn 138 [SV.ptr 4 0 0 0,SV.ptr 1 0 0 0]]],
        [Row.vec true aA.bool xs,Row.own [.int .i64 w,.int .i64 d,.int .i64 h,SV.slice 0 1 off len none,SV.unk],
         Row.own [.int .i64 p.x,.int .i64 p.y,.int .i64 p.z],Row.own [.int .i64 q.x,.int .i64 q.y,.int .i64 q.z],
         Row.own
          [.int .i64 (((((Ax.mk 0 0 0 0).pick a).pick b).pick c).next (-1) (((((Ax.mk 0 0 0 0).pick a).pick b).pick c).next 1 a)).c,
           .int .i64 (((((Ax.mk 0 0 0 0).pick a).pick b).pick c).next (-1) (((((Ax.mk 0 0 0 0).pick a).pick b).pick c).next 1 a)).d,
           .int .i64 (((((Ax.mk 0 0 0 0).pick a).pick b).pick c).next (-1) (((((Ax.mk 0 0 0 0).pick a).pick b).pick c).next 1 a)).n,
           .int .i64 (((((Ax.mk 0 0 0 0).pick a).pick b).pick c).next (-1) (((((Ax.mk 0 0 0 0).pick a).pick b).pick c).next 1 a)).e,
           .int .i64 (((((Ax.mk 0 0 0 0).pick a).pick b).pick c).next (-1) (((((Ax.mk 0 0 0 0).pick a).pick b).pick c).next 1 b)).c,
           .int .i64 (((((Ax.mk 0 0 0 0).pick a).pick b).pick c).next (-1) (((((Ax.mk 0 0 0 0).pick a).pick b).pick c).next 1 b)).d,
           .int .i64 (((((Ax.mk 0 0 0 0).pick a).pick b).pick c).next (-1) (((((Ax.mk 0 0 0 0).pick a).pick b).pick c).next 1 b)).n,
           .int .i64 (((((Ax.mk 0 0 0 0).pick a).pick b).pick c).next (-1) (((((Ax.mk 0 0 0 0).pick a).pick b).pick c).next 1 b)).e,
           .int .i64 (((((Ax.mk 0 0 0 0).pick a).pick b).pick c).next (-1) (((((Ax.mk 0 0 0 0).pick a).pick b).pick c).next 1 c)).c,
           .int .i64 (((((Ax.mk 0 0 0 0).pick a).pick b).pick c).next (-1) (((((Ax.mk 0 0 0 0).pick a).pick b).pick c).next 1 c)).d,
           .int .i64 (((((Ax.mk 0 0 0 0).pick a).pick b).pick c).next (-1) (((((Ax.mk 0 0 0 0).pick a).pick b).pick c).next 1 c)).n,
           .int .i64 (((((Ax.mk 0 0 0 0).pick a).pick b).pick c).next (-1) (((((Ax.mk 0 0 0 0).pick a).pick b).pick c).next 1 c)).e]])
     else
      some
       (SV.tuple [SV.nilp,SV.tuple [SV.bool false,SV.ptr 4 0 0 0,SV.fn 138 [SV.ptr 4 0 0 0,SV.ptr 1 0 0 0]]],
        [Row.vec true aA.bool xs,Row.own [.int .i64 w,.int .i64 d,.int .i64 h,SV.slice 0 1 off len none,SV.unk],
         Row.own [.int .i64 p.x,.int .i64 p.y,.int .i64 p.z],Row.own [.int .i64 q.x,.int .i64 q.y,.int .i64 q.z],
         Row.own
          [.int .i64 (((((Ax.mk 0 0 0 0).pick a).pick b).pick c).next (-1) (((((Ax.mk 0 0 0 0).pick a).pick b).pick c).next 1 a)).c,
           .int .i64 (((((Ax.mk 0 0 0 0).pick a).pick b).pick c).next (-1) (((((Ax.mk 0 0 0 0).pick a).pick b).pick c).next 1 a)).d,
           .int .i64 (((((Ax.mk 0 0 0 0).pick a).pick b).pick c).next (-1) (((((Ax.mk 0 0 0 0).pick a).pick b).pick c).next 1 a)).n,
           .int .i64 (((((Ax.mk 0 0 0 0).pick a).pick b).pick c).next (-1) (((((Ax.mk 0 0 0 0).pick a).pick b).pick c).next 1 a)).e,
           .int .i64 (((((Ax.mk 0 0 0 0).pick a).pick b).pick c).next (-1) (((((Ax.mk 0 0 0 0).pick a).pick b).pick c).next 1 b)).c,
           .int .i64 (((((Ax.mk 0 0 0 0).pick a).pick b).pick c).next (-1) (((((Ax.mk 0 0 0 0).pick a).pick b).pick c).next 1 b)).d,
           .int .i64 (((((Ax.mk 0 0 0 0).pick a).pick b).pick c).next (-1) (((((Ax.mk 0 0 0 0).pick a).pick b).pick c).next 1 b)).n,
           .int .i64 (((((Ax.mk 0 0 0 0).pick a).pick b).pick c).next (-1) (((((Ax.mk 0 0 0 0).pick a).pick b).pick c).next 1 b)).e,
           .int .i64 (((((Ax.mk 0 0 0 0).pick a).pick b).pick c).next (-1) (((((Ax.mk 0 0 0 0).pick a).pick b).pick c).next 1 c)).c,
           .int .i64 (((((Ax.mk 0 0 0 0).pick a).pick b).pick c).next (-1) (((((Ax.mk 0 0 0 0).pick a).pick b).pick c).next 1 c)).d,
           .int .i64 (((((Ax.mk 0 0 0 0).pick a).pick b).pick c).next (-1) (((((Ax.mk 0 0 0 0).pick a).pick b).pick c).next 1 c)).n,
           .int .i64 (((((Ax.mk 0 0 0 0).pick a).pick b).pick c).next (-1) (((((Ax.mk 0 0 0 0).pick a).pick b).pick c).next 1 c)).e]])
    else none
  else none:=by kernel_rfl
noncomputable def Mp.sightL (m:Mp) (n:Nat) (a b c:Ax):Bool:=Go.Proofs.YtimkhidniolpeaaGreat.sightL m.solid n a b c
theorem VR (m:Mp) (x:Ax) (dir:Int) (a b c:Ax):m.hit x dir a b c=nx m.solid x dir a b c:=rfl
section
variable {w d h:Int} {len:Nat} {xs:List Bool} {off:Nat} {p q:V3}
theorem zR {X a b c:Ax} {a1 b1 a2 b2 a3 b3:Int} {dir:Int} (hm:aP w d h len=true) (hl:decide (off+len≤xs.length)=true) (s:S3 a1 b1 a2 b2 a3 b3 (X.next dir a) (X.next dir b) (X.next dir c)):tU w d h len off xs X dir a b c=true:=by
 unfold tU
 have h1:=kI s.l1 s.k1
 have h2:=kI s.l2 s.k2
 have h3:=kI s.l3 s.k3
 simp only [hm,hl,Bool.true_and,Bool.and_true,Bool.and_eq_true,ap]
 unfold aU
 omega
theorem FJ (hm:aP w d h len=true) (hl:decide (off+len≤xs.length)=true) {a1 b1 a2 b2 a3 b3:Int}:∀(n:Nat) (a b c:Ax),S3 a1 b1 a2 b2 a3 b3 a b c→a.left+b.left+c.left<n→
    aJ Yf (Gq false) (Fw w d h len xs off p q a b c) .ret (Gq ((af w d h len fun j=>xs.getD (off+j) false).sightL n a b c))
     (Fw w d h len xs off p q (l8 (af w d h len fun j=>xs.getD (off+j) false).solid n a b c).1 (l8 (af w d h len fun j=>xs.getD (off+j) false).solid n a b c).2.1 (l8 (af w d h len fun j=>xs.getD (off+j) false).solid n a b c).2.2)
 |0,_,_,_,_,hn=>by omega
 | n +1,a,b,c,s,hn=>by
  have hout:=OR w d h len xs off p q a b c
  simp only [VR] at hout
  unfold Mp.sightL Go.Proofs.YtimkhidniolpeaaGreat.sightL l8
  rw [show (((Ax.mk 0 0 0 0).pick a).pick b).pick c=Ax.pick3 a b c from rfl] at hout
  by_cases hd:(Ax.pick3 a b c).d=0
  · simp only [hd,beq_self_eq_true,cond_true] at hout ⊢
    exact .done hout (by simp)
  · have hnow:=CM s hd
    have hr:=Ej s hnow
    obtain ⟨xa,xb,hXl,_⟩:=hnow.lin
    have hleft:=Aa hXl hd hnow hr
    have k1:=zR (X:=Ax.pick3 a b c) (dir:=1) hm hl hr.s1
    have k2:=zR (X:=Ax.pick3 a b c) (dir:= -1) hm hl hr.s2
    generalize Ax.pick3 a b c=X at*
    simp only [beq_eq_false_iff_ne.2 hd,cond_false,k1,cond_true] at hout ⊢
    cases hh1:nx (af w d h len fun j=>xs.getD (off+j) false).solid X 1 a b c with
    |true=>
     simp only [hh1,cond_true] at hout ⊢
     exact .done hout (by simp)
    | false=>
     simp only [hh1,cond_false,k2,cond_true] at hout ⊢
     cases hh2:nx (af w d h len fun j=>xs.getD (off+j) false).solid X (-1) (X.next 1 a) (X.next 1 b) (X.next 1 c) with
     |true=>
      simp only [hh2,cond_true] at hout ⊢
      exact .done hout (by simp)
     |false=>
      simp only [hh2,cond_false] at hout ⊢
      exact .more hout (FJ hm hl n _ _ _ hr.s2 (by omega))
end
def Uo (a:Int):Bool:=decide (0≤a)&&decide (a<2097152)
def I4 (a:V3):Bool:=Uo a.x&&(Uo a.y&&Uo a.z)
def un (a b:Ax):Bool:=decide (a.c=b.c)&&(decide (a.d=b.d)&&(decide (a.n=b.n)&&decide (a.e=b.e)))
theorem sy {a b:Ax} (h:un a b=true):a=b:=by
 unfold un at h
 simp only [Bool.and_eq_true,decide_eq_true_eq] at h
 cases a;cases b
 simp only at h
 obtain ⟨rfl,rfl,rfl,rfl⟩:=h
 rfl
noncomputable def Tq (v:List SV) (R:List Row) (k:Ex→List SV→List Row→Option aj):Option aj:=match v,R with
 | [.bool false,.ptr 4 0 0 0,.fn fid [.ptr 4 0 0 0,.ptr 1 0 0 0]],
  [.vec true .bool xs,.own [.int .i64 w,.int .i64 d,.int .i64 h,.slice 0 1 off len none,.unk],.own [.int .i64 px,.int .i64 py,.int .i64 pz],.own [.int .i64 qx,.int .i64 qy,.int .i64 qz],.own [.int .i64 ac,.int .i64 ad,.int .i64 an,.int .i64 ae,.int .i64 bc,.int .i64 bd,.int .i64 bn,.int .i64 be,.int .i64 cc,.int .i64 cd,.int .i64 cn,.int .i64 ce]]=>
   bif Nat.beq fid 138&&(aP w d h len&&(decide (off+len≤xs.length)&&((I4 ⟨px,py,pz⟩&&I4 ⟨qx,qy,qz⟩)&&(un ⟨ac,ad,an,ae⟩ (aS px qx)&&(un ⟨bc,bd,bn,be⟩ (aS py qy)&&un ⟨cc,cd,cn,ce⟩ (aS pz qz)))))) then
    k .ret (Gq ((af w d h len fun j=>xs.getD (off+j) false).sightL 101 (aS px qx) (aS py qy) (aS pz qz)))
     (Fw w d h len xs off ⟨px,py,pz⟩ ⟨qx,qy,qz⟩ (l8 (af w d h len fun j=>xs.getD (off+j) false).solid 101 (aS px qx) (aS py qy) (aS pz qz)).1 (l8 (af w d h len fun j=>xs.getD (off+j) false).solid 101 (aS px qx) (aS py qy) (aS pz qz)).2.1 (l8 (af w d h len fun j=>xs.getD (off+j) false).solid 101 (aS px qx) (aS py qy) (aS pz qz)).2.2) else none
 |_,_=>none
theorem SH {a:Int}:Uo a=true↔0≤a∧a<2097152:=by unfold Uo;simp
theorem Ml:da 121 [0,1,1,1,1,1] (bG 68 [6,8,9] Tq):=by
 intro b hat s K r h
 refine aQ (fuel:=100) E9 aG hat (L:=aF [Tz]) (fun v R k r hr=>?_) h
 have hbody:=aZ Tryz.func121 hat
 subst hbody
 unfold Tq at hr
 split at hr
 · rename_i fid xs w d h off len px py pz qx qy qz ac ad an ae bc bd bn be cc cd cn ce
   obtain ⟨hb,hr2⟩:=al hr
   simp only [Bool.and_eq_true,I4,SH] at hb
   obtain ⟨h1,h2,h3,⟨⟨p1,p2,p3⟩,q1,q2,q3⟩,e1,e2,e3⟩:=hb
   obtain rfl:=Nat.eq_of_beq_eq_true h1
   have e1:=sy e1
   have e2:=sy e2
   have e3:=sy e3
   obtain ⟨l1,k1,_,m1,_,_⟩:=iv p1 q1
   obtain ⟨l2,k2,_,m2,_,_⟩:=iv p2 q2
   obtain ⟨l3,k3,_,m3,_,_⟩:=iv p3 q3
   refine ⟨_,_,_,hr2,?_⟩
   have hl:=FJ (p:=⟨px,py,pz⟩) (q:=⟨qx,qy,qz⟩) h2 h3 101 _ _ _ ⟨l1,k1,l2,k2,l3,k3⟩ (by omega)
   rw [←e1,←e2,←e3] at hl ⊢
   exact hl
 · cases hr
noncomputable def Ul:jh:=⟨_,_,_,Ml⟩
theorem EE (w d h:Int) (len off:Nat) (xs:List Bool) (px py pz qx qy qz:Int):aH YE (aF [Ul]) 200 121 Tryz.f121 0 [bB w d h (.slice 0 1 off len none) .unk,.agg [.int .i64 px,.int .i64 py,.int .i64 pz],.agg [.int .i64 qx,.int .i64 qy,.int .i64 qz]] [.vec true .bool xs]=
 bif
     aP w d h len&&
      (am (px.fdiv (2 ^ min (Int.toNat 16) IntKind.i64.bits))&&
       (am (py.fdiv (2 ^ min (Int.toNat 16) IntKind.i64.bits))&&(am (pz.fdiv (2 ^ min (Int.toNat 16) IntKind.i64.bits))&&decide (off+len≤xs.length)))) then
  bif
      (af w d h len fun j=>xs.getD (off+j) false).solid (px.fdiv (2 ^ min (Int.toNat 16) IntKind.i64.bits)) (py.fdiv (2 ^ min (Int.toNat 16) IntKind.i64.bits))
       (pz.fdiv (2 ^ min (Int.toNat 16) IntKind.i64.bits)) then
   some (SV.bool false,[])
  else
   bif
       aP w d h len&&
        (am (qx.fdiv (2 ^ min (Int.toNat 16) IntKind.i64.bits))&&
         (am (qy.fdiv (2 ^ min (Int.toNat 16) IntKind.i64.bits))&&(am (qz.fdiv (2 ^ min (Int.toNat 16) IntKind.i64.bits))&&decide (off+len≤xs.length)))) then
    bif
        (af w d h len fun j=>xs.getD (off+j) false).solid (qx.fdiv (2 ^ min (Int.toNat 16) IntKind.i64.bits)) (qy.fdiv (2 ^ min (Int.toNat 16) IntKind.i64.bits))
         (qz.fdiv (2 ^ min (Int.toNat 16) IntKind.i64.bits)) then
     some (SV.bool false,[])
    else
     bif gh px&&gh qx then
      bif gh py&&gh qy then
       bif gh pz&&gh qz then
        bif
            aP w d h len&&
             (decide (off+len≤xs.length)&&
              (I4 (V3.mk px py pz)&&I4 (V3.mk qx qy qz)&&(un (aS px qx) (aS px qx)&&(un (aS py qy) (aS py qy)&&un (aS pz qz) (aS pz qz))))) then
         some (SV.bool ((af w d h len fun j=>xs.getD (off+j) false).sightL 101 (aS px qx) (aS py qy) (aS pz qz)),[])
        else none
       else none
      else none
     else none
   else none
 else none:=by kernel_rfl
noncomputable def Mp.sight (m:Mp) (a b:V3):Bool:=nc m.solid a b
theorem lQ {w d h:Int} {len:Nat} {s:Nat→Bool} (x y z:Int) (hs:(af w d h len s).solid x y z=false):(0≤x∧x<32)∧(0≤y∧y<32)∧(0≤z∧z<32):=by
 unfold Mp.solid at hs
 simp only [Bool.or_eq_false_iff,Bool.not_eq_false',af] at hs
 obtain ⟨⟨⟨⟨h1,h2⟩,h3⟩,h4⟩,_⟩:=hs
 unfold Mp.sized ez at h1
 unfold kN at h2 h3 h4
 simp only [Bool.and_eq_true,decide_eq_true_eq] at h1 h2 h3 h4
 omega
theorem HT {w d h:Int} {len off:Nat} {xs:List Bool} {p q:V3} (hm:aP w d h len=true) (hl:decide (off+len≤xs.length)=true) (hp:p.fits) (hq:q.fits):
    aH YE (aF [Ul]) 200 121 Tryz.f121 0 [bB w d h (.slice 0 1 off len none) .unk,.agg [.int .i64 p.x,.int .i64 p.y,.int .i64 p.z],.agg [.int .i64 q.x,.int .i64 q.y,.int .i64 q.z]] [.vec true .bool xs]=
    some (.bool ((af w d h len fun j=>xs.getD (off+j) false).sight p q),[]):=by
 rw [EE]
 have p16:(2 ^ min (Int.toNat 16) IntKind.i64.bits:Int)=65536:=by decide
 have f16:∀a:Int,a.fdiv 65536=a/65536:=fun a=>Int.fdiv_eq_ediv_of_nonneg a (by omega)
 have i64:∀a:Int,aU a→am (a/65536)=true:=fun a h=>by rw [ap];unfold aU at h ⊢;omega
 simp only [p16,f16,hm,hl,i64 _ hp.1,i64 _ hp.2.1,i64 _ hp.2.2,i64 _ hq.1,i64 _ hq.2.1,i64 _ hq.2.2,Bool.true_and,Bool.and_true,cond_true]
 unfold Mp.sight nc
 cases h1:(af w d h len fun j=>xs.getD (off+j) false).solid (p.x/65536) (p.y/65536) (p.z/65536) with
 |true=>rfl
 | false=>
  cases h2:(af w d h len fun j=>xs.getD (off+j) false).solid (q.x/65536) (q.y/65536) (q.z/65536) with
  |true=>rfl
  | false=>
   have b1:=lQ _ _ _ h1
   have b2:=lQ _ _ _ h2
   have sm:∀a:Int,0≤a/65536∧a/65536<32→gh a=true∧Uo a=true:=fun a h=>by
    unfold gh Uo
    simp only [Bool.and_eq_true,decide_eq_true_eq]
    omega
   have ax:∀a:Ax,un a a=true:=fun a=>by unfold un;simp
   simp only [(sm _ b1.1).1,(sm _ b1.2.1).1,(sm _ b1.2.2).1,(sm _ b2.1).1,(sm _ b2.2.1).1,(sm _ b2.2.2).1,I4,(sm _ b1.1).2,(sm _ b1.2.1).2,(sm _ b1.2.2).2,(sm _ b2.1).2,(sm _ b2.2.1).2,(sm _ b2.2.2).2,ax,Bool.and_true,cond_true,cond_false]
   rfl
noncomputable def En (args:List SV) (rows:List Row):Option aL:=
 match args with
 |[.agg [.int .i64 w,.int .i64 d,.int .i64 h,.slice id st off len _,sp],.agg [.int .i64 x,.int .i64 y,.int .i64 z],.agg [.int .i64 p,.int .i64 q,.int .i64 r]]=>match rows[id]? with
  |some (.vec _ .bool xs)=>bif Nat.beq st 1&&sp.one then some {ok:=aP w d h len&&(aw ⟨x,y,z⟩&&(aw ⟨p,q,r⟩&&decide (off+len≤xs.length))),val:=.bool ((af w d h len fun j=>xs.getD (off+j) false).sight ⟨x,y,z⟩ ⟨p,q,r⟩),rd:=[id]} else none
  |_=>none
 |_=>none
theorem Hi {args:List SV} {rows:List Row} {n:Nat} {e:aL} (h:En args rows=some e) (hok:e.ok=true):aN Tryz.prog 121 args (rows[·]?) n e:=by
 unfold En at h
 split at h
 · rename_i wd dd hd id st off len cap sp x y z p q r
   split at h
   · rename_i ro xs hrow
     cases hb:Nat.beq st 1&&sp.one with
     |false=>simp [hb] at h
     |true=>
      simp only [hb,cond_true,Option.some.injEq] at h
      subst h
      rw [Bool.and_eq_true] at hb
      have hst:=Nat.eq_of_beq_eq_true hb.1
      subst hst
      simp only [Bool.and_eq_true,aB] at hok
      obtain ⟨h1,h2,h3,h4⟩:=hok
      obtain ⟨rows',hc,_⟩:=aC E9 aG Tryz.func121 (HT (p:=⟨x,y,z⟩) (q:=⟨p,q,r⟩) h1 h4 h2 h3)
      exact c7 hb.2 hc rfl rfl hrow
   · cases h
 · cases h
noncomputable def JW:bY:=⟨121,En,fun _ _ _ h hok=>Hi h hok,aq Tryz.func121 (by kernel_rfl)⟩
noncomputable def Zi:bS:=aV [] [G9,sx,JW]
theorem UY:bV Tryz.prog Zi:=aD (by kernel_rfl)
theorem He (w d h:Int) (len off:Nat) (xs:List Bool) (a:V3) (p:Pl):aH Zi (fun _ _=>none) 200 96 Tryz.f96 0 [bB w d h (.slice 0 1 off len none) .unk,.agg a.sv,.agg p.sv] [.vec true .bool xs]=
 bif aw p.pos&&aw a then
  bif aw (p.pos.minus a) then
   bif
       (aP w d h len&&(aw a&&(aw p.pos&&decide (off+len≤xs.length)))&&true&&true||
             (bif decide (p.dead>0)==false then decide (IntKind.i64.wrap (196608 - (p.pos.minus a).long)≤0) else true) !=false)&&
           (true||(bif decide (p.dead>0)==false then decide (IntKind.i64.wrap (196608 - (p.pos.minus a).long)≤0) else true)==false)&&
        true then
    bif
        bif (bif decide (p.dead>0)==false then decide (IntKind.i64.wrap (196608 - (p.pos.minus a).long)≤0) else true)==false then
         !(af w d h len fun j=>xs.getD (off+j) false).sight a p.pos
        else true then
     some (.int .i64 0,[])
    else some (.int .i64 (IntKind.i64.wrap ((IntKind.i64.wrap (100*IntKind.i64.wrap (196608 - (p.pos.minus a).long))).tdiv 196608)),[])
   else none
  else none
 else none:=by kernel_rfl
def uE (a:V3) (p:Pl):Int:=IntKind.i64.wrap (196608 - (p.pos.minus a).long)
noncomputable def Mp.hurt (m:Mp) (a:V3) (p:Pl):Int:=bif (decide (p.dead>0)||decide (uE a p≤0))|| !m.sight a p.pos then 0 else IntKind.i64.wrap ((IntKind.i64.wrap (100*uE a p)).tdiv 196608)
theorem qt (a b:V3):(a.minus b).fits:=⟨cj _,cj _,cj _⟩
theorem Ny {w d h:Int} {len off:Nat} {xs:List Bool} {a:V3} {p:Pl} (hm:aP w d h len=true) (hl:decide (off+len≤xs.length)=true) (ha:a.fits) (hp:p.pos.fits):
    aH Zi (fun _ _=>none) 200 96 Tryz.f96 0 [bB w d h (.slice 0 1 off len none) .unk,.agg a.sv,.agg p.sv] [.vec true .bool xs]=some (.int .i64 ((af w d h len fun j=>xs.getD (off+j) false).hurt a p),[]):=by
 rw [He]
 simp only [hm,hl,aB.2 ha,aB.2 hp,aB.2 (qt p.pos a),Bool.and_true,Bool.true_or,cond_true,cY]
 unfold Mp.hurt uE
 cases decide (p.dead>0)||decide (IntKind.i64.wrap (196608 - (p.pos.minus a).long)≤0)
 · cases (af w d h len fun j=>xs.getD (off+j) false).sight a p.pos<;>rfl
 · rfl
noncomputable def uR (args:List SV) (rows:List Row):Option aL:=
 match args with
 |[.agg [.int .i64 w,.int .i64 d,.int .i64 h,.slice id st off len _,sp],.agg [.int .i64 x,.int .i64 y,.int .i64 z],.agg [.int .i64 a0,.int .i64 a1,.int .i64 a2,.int .i64 a3,.int .i64 a4,.int .i64 a5,.int .i64 a6,.bool a7,.int .i64 a8,.int .i64 a9,.int .i64 a10,.int .i64 a11,.int .i64 a12,.int .i64 a13,.int .i64 a14]]=>match rows[id]? with
  |some (.vec _ .bool xs)=>bif Nat.beq st 1&&sp.one then some {ok:=aP w d h len&&(aw ⟨x,y,z⟩&&(aw ⟨a1,a2,a3⟩&&decide (off+len≤xs.length))),val:=.int .i64 ((af w d h len fun j=>xs.getD (off+j) false).hurt ⟨x,y,z⟩ ⟨a0,⟨a1,a2,a3⟩,⟨a4,a5,a6⟩,a7,a8,a9,a10,a11,a12,a13,a14⟩),rd:=[id]} else none
  |_=>none
 |_=>none
theorem Ki {args:List SV} {rows:List Row} {n:Nat} {e:aL} (h:uR args rows=some e) (hok:e.ok=true):aN Tryz.prog 96 args (rows[·]?) n e:=by
 unfold uR at h
 split at h
 · rename_i wd dd hd id st off len cap sp x y z a0 a1 a2 a3 a4 a5 a6 a7 a8 a9 a10 a11 a12 a13 a14
   split at h
   · rename_i ro xs hrow
     cases hb:Nat.beq st 1&&sp.one with
     |false=>simp [hb] at h
     |true=>
      simp only [hb,cond_true,Option.some.injEq] at h
      subst h
      rw [Bool.and_eq_true] at hb
      have hst:=Nat.eq_of_beq_eq_true hb.1
      subst hst
      simp only [Bool.and_eq_true,aB] at hok
      obtain ⟨h1,h2,h3,h4⟩:=hok
      obtain ⟨rows',hc,_⟩:=aC UY ag Tryz.func96 (Ny (a:=⟨x,y,z⟩) (p:=⟨a0,⟨a1,a2,a3⟩,⟨a4,a5,a6⟩,a7,a8,a9,a10,a11,a12,a13,a14⟩) h1 h4 h2 h3)
      exact c7 hb.2 hc rfl rfl hrow
   · cases h
 · cases h
noncomputable def RZ:bY:=⟨96,uR,fun _ _ _ h hok=>Ki h hok,aq Tryz.func96 (by kernel_rfl)⟩
noncomputable def Y1:bS:=aV [] []
theorem L9:bV Tryz.prog Y1:=aD (by kernel_rfl)
theorem HJ (p:Pl) (n:Int):aH Y1 (fun _ _=>none) 200 95 Tryz.f95 0 [.agg p.sv,.int .i64 n] []=
 bif bif decide (p.dead>0)==false then decide (n<1) else true then
  some
   (SV.agg
       [.int .i64 p.id,.int .i64 p.pos.x,.int .i64 p.pos.y,.int .i64 p.pos.z,.int .i64 p.vel.x,.int .i64 p.vel.y,
        .int .i64 p.vel.z,SV.bool p.ground,.int .i64 p.health,.int .i64 p.armour,.int .i64 p.score,.int .i64 p.a0,.int .i64 p.a1,
        .int .i64 p.wait,.int .i64 p.dead],
    [])
 else
  bif decide (IntKind.i64.wrap (p.health - IntKind.i64.wrap (n - min (IntKind.i64.wrap (n.tdiv 2)) p.armour))≤0) then
   some
    (SV.agg
        [.int .i64 p.id,.int .i64 p.pos.x,.int .i64 p.pos.y,.int .i64 p.pos.z,.int .i64 p.vel.x,.int .i64 p.vel.y,
         .int .i64 p.vel.z,SV.bool p.ground,.int .i64 0,.int .i64 (IntKind.i64.wrap (p.armour - min (IntKind.i64.wrap (n.tdiv 2)) p.armour)),
         .int .i64 p.score,.int .i64 p.a0,.int .i64 p.a1,.int .i64 p.wait,.int .i64 30],
     [])
  else
   some
    (SV.agg
        [.int .i64 p.id,.int .i64 p.pos.x,.int .i64 p.pos.y,.int .i64 p.pos.z,.int .i64 p.vel.x,.int .i64 p.vel.y,
         .int .i64 p.vel.z,SV.bool p.ground,.int .i64 (IntKind.i64.wrap (p.health - IntKind.i64.wrap (n - min (IntKind.i64.wrap (n.tdiv 2)) p.armour))),
         .int .i64 (IntKind.i64.wrap (p.armour - min (IntKind.i64.wrap (n.tdiv 2)) p.armour)),.int .i64 p.score,.int .i64 p.a0,.int .i64 p.a1,
         .int .i64 p.wait,.int .i64 p.dead],
     []):=by kernel_rfl
def wy (p:Pl) (n:Int):Int:=min (IntKind.i64.wrap (n.tdiv 2)) p.armour
def o1 (p:Pl) (n:Int):Int:=IntKind.i64.wrap (p.health - IntKind.i64.wrap (n - wy p n))
def jb (p:Pl) (n:Int):Pl:=bif decide (p.dead>0)||decide (n<1) then p else
 bif decide (o1 p n≤0) then {p with health:=0,armour:=IntKind.i64.wrap (p.armour - wy p n),dead:=30} else {p with health:=o1 p n,armour:=IntKind.i64.wrap (p.armour - wy p n)}
theorem Lp (p:Pl) (n:Int):aH Y1 (fun _ _=>none) 200 95 Tryz.f95 0 [.agg p.sv,.int .i64 n] []=some (.agg (jb p n).sv,[]):=by
 rw [HJ]
 simp only [cY]
 unfold jb
 rw [show IntKind.i64.wrap (p.health - IntKind.i64.wrap (n - min (IntKind.i64.wrap (n.tdiv 2)) p.armour))=o1 p n from rfl]
 cases (decide (p.dead>0)||decide (n<1))
 · cases decide (o1 p n≤0)<;>rfl
 · rfl
def vp:List SV→Option aL
 |[.agg [.int .i64 a0,.int .i64 a1,.int .i64 a2,.int .i64 a3,.int .i64 a4,.int .i64 a5,.int .i64 a6,.bool a7,.int .i64 a8,.int .i64 a9,.int .i64 a10,.int .i64 a11,.int .i64 a12,.int .i64 a13,.int .i64 a14],.int .i64 n]=>some {val:=.agg (jb ⟨a0,⟨a1,a2,a3⟩,⟨a4,a5,a6⟩,a7,a8,a9,a10,a11,a12,a13,a14⟩ n).sv}
 |_=>none
theorem MG {m:Nat→Option Row} {n:Nat} {args:List SV} {e:aL} (h:vp args=some e):aN Tryz.prog 95 args m n e:=by
 unfold vp at h
 split at h
 · rename_i a0 a1 a2 a3 a4 a5 a6 a7 a8 a9 a10 a11 a12 a13 a14 nn
   cases h
   obtain ⟨rows',hc,_⟩:=aC L9 ag Tryz.func95 (Lp ⟨a0,⟨a1,a2,a3⟩,⟨a4,a5,a6⟩,a7,a8,a9,a10,a11,a12,a13,a14⟩ nn)
   exact aM hc rfl rfl
 · cases h
noncomputable def RK:bY:=⟨95,fun args _=>vp args,fun _ _ _ h _=>MG h,aq Tryz.func95 (by kernel_rfl)⟩
noncomputable def XX:bS:=aV [] [RZ,RK]
theorem su:bV Tryz.prog XX:=aD (by kernel_rfl)
def xf (owner s:Int) (ll:Nat) (i:Int):List SV:=[.int .i64 owner,.ptr 2 0 0 0,.ptr 3 0 0 0,.nils,.nils,.int .i64 s,.slice 1 15 0 ll none,.int .i64 (ll:Int),.int .i64 i]
def gL (owner s:Int) (ll k:Nat) (i:Int):List SV:=[.int .i64 owner,.ptr 2 0 0 0,.ptr 3 0 0 0,.nils,.slice 4 15 0 k none,.int .i64 s,.slice 1 15 0 ll none,.int .i64 (ll:Int),.int .i64 i]
def lP (w d h:Int) (off len:Nat) (xs:List Bool) (at':V3) (ps:List Pl):List Row:=[.vec true .bool xs,.vec true .pl ps,.own [.int .i64 w,.int .i64 d,.int .i64 h,.slice 0 1 off len none,.unk],.own at'.sv]
def cO (w d h:Int) (off len:Nat) (xs:List Bool) (at':V3) (ps ys:List Pl):List Row:=[.vec true .bool xs,.vec true .pl ps,.own [.int .i64 w,.int .i64 d,.int .i64 h,.slice 0 1 off len none,.unk],.own at'.sv,.vec false .pl ys]
noncomputable def PK:List SV→List Row→Option aj:=bj XX (fun _ _=>none) 100 69 [0,1,0,1,1,1] (bg Tryz.f69 [0,1,0,1,1,1]) 72 4 [2,4,5,8,9,10,15,16,17]
noncomputable def Mp.brQ (m:Mp) (a:V3) (p:Pl):Pl:=jb p (m.hurt a p)
def zu (p q:Pl):Bool:=decide (q.dead>0)&&decide (p.dead≤0)
def H5 (owner:Int) (p q:Pl) (s:Int):Int:=bif zu p q then (bif p.id==owner then IntKind.i64.wrap (IntKind.i64.wrap (s - 2)+1) else IntKind.i64.wrap (s+1)) else s
def fI (k:Nat) (ys:List Pl) (q:Pl):Bool:=decide (0+1≤[q].length)&&((decide (0<k)||(none:Option Nat).isSome)&&(decide (k≤ys.length)&&(decide (k+1≤9223372036854775807)&&decide ((k+1)*120≤140737488355328))))
theorem vh (w d h:Int) (off len:Nat) (xs:List Bool) (at':V3) (ps:List Pl) (owner s:Int) (ll:Nat) (i:Int):PK (xf owner s ll i) (lP w d h off len xs at' ps)=
 bif decide (i<(ll:Int)) then
 bif decide (0≤i)&&decide (i<(ll:Int)) then
 bif decide (0+i.toNat<ps.length) then
 bif aP w d h len&&(aw at'&&(aw (ps.getD (0+i.toNat) aA.pl.dflt).pos&&decide (off+len≤xs.length))) then
 bif (bif decide (((af w d h len fun j=>xs.getD (off+j) false).brQ at' (ps.getD (0+i.toNat) aA.pl.dflt)).dead>0)==true then decide ((ps.getD (0+i.toNat) aA.pl.dflt).dead≤0) else false) then
 bif (ps.getD (0+i.toNat) aA.pl.dflt).id==owner then some (.tuple [.nilp,.tuple (gL owner (IntKind.i64.wrap (IntKind.i64.wrap (s - 2)+1)) ll 1 (IntKind.i64.wrap (i+1)))],cO w d h off len xs at' ps [(af w d h len fun j=>xs.getD (off+j) false).brQ at' (ps.getD (0+i.toNat) aA.pl.dflt)])
 else some (.tuple [.nilp,.tuple (gL owner (IntKind.i64.wrap (s+1)) ll 1 (IntKind.i64.wrap (i+1)))],cO w d h off len xs at' ps [(af w d h len fun j=>xs.getD (off+j) false).brQ at' (ps.getD (0+i.toNat) aA.pl.dflt)])
 else some (.tuple [.nilp,.tuple (gL owner (s) ll 1 (IntKind.i64.wrap (i+1)))],cO w d h off len xs at' ps [(af w d h len fun j=>xs.getD (off+j) false).brQ at' (ps.getD (0+i.toNat) aA.pl.dflt)])
 else none
 else none
 else none
 else some (.tuple [.ptr 0 0 0 0,.tuple (xf owner s ll i)],lP w d h off len xs at' ps):=by kernel_rfl
theorem ux (w d h:Int) (off len:Nat) (xs:List Bool) (at':V3) (ps ys:List Pl) (owner s:Int) (ll k:Nat) (i:Int):PK (gL owner s ll k i) (cO w d h off len xs at' ps ys)=
 bif decide (i<(ll:Int)) then
 bif decide (0≤i)&&decide (i<(ll:Int)) then
 bif decide (0+i.toNat<ps.length) then
 bif aP w d h len&&(aw at'&&(aw (ps.getD (0+i.toNat) aA.pl.dflt).pos&&decide (off+len≤xs.length))) then
 bif (bif decide (((af w d h len fun j=>xs.getD (off+j) false).brQ at' (ps.getD (0+i.toNat) aA.pl.dflt)).dead>0)==true then decide ((ps.getD (0+i.toNat) aA.pl.dflt).dead≤0) else false) then
 bif (ps.getD (0+i.toNat) aA.pl.dflt).id==owner then (bif fI k ys ((af w d h len fun j=>xs.getD (off+j) false).brQ at' (ps.getD (0+i.toNat) aA.pl.dflt)) then some (.tuple [.nilp,.tuple (gL owner (IntKind.i64.wrap (IntKind.i64.wrap (s - 2)+1)) ll (k+1) (IntKind.i64.wrap (i+1)))],cO w d h off len xs at' ps (ys.take k++[(af w d h len fun j=>xs.getD (off+j) false).brQ at' (ps.getD (0+i.toNat) aA.pl.dflt)])) else none)
 else (bif fI k ys ((af w d h len fun j=>xs.getD (off+j) false).brQ at' (ps.getD (0+i.toNat) aA.pl.dflt)) then some (.tuple [.nilp,.tuple (gL owner (IntKind.i64.wrap (s+1)) ll (k+1) (IntKind.i64.wrap (i+1)))],cO w d h off len xs at' ps (ys.take k++[(af w d h len fun j=>xs.getD (off+j) false).brQ at' (ps.getD (0+i.toNat) aA.pl.dflt)])) else none)
 else (bif fI k ys ((af w d h len fun j=>xs.getD (off+j) false).brQ at' (ps.getD (0+i.toNat) aA.pl.dflt)) then some (.tuple [.nilp,.tuple (gL owner (s) ll (k+1) (IntKind.i64.wrap (i+1)))],cO w d h off len xs at' ps (ys.take k++[(af w d h len fun j=>xs.getD (off+j) false).brQ at' (ps.getD (0+i.toNat) aA.pl.dflt)])) else none)
 else none
 else none
 else none
 else some (.tuple [.ptr 0 0 0 0,.tuple (gL owner s ll k i)],cO w d h off len xs at' ps ys):=by kernel_rfl
theorem fJ {l:List Pl} (z:Pl) {i:Nat} (h:i<l.length):l.getD i z=l[i]:=by
 rw [List.getD_eq_getElem?_getD,List.getElem?_eq_getElem h]
 rfl
def jC (F:Pl→Pl) (owner:Int):List Pl→Int→Int
 |[],s=>s
 |p::l,s=>jC F owner l (H5 owner p (F p) s)
def js (w d h:Int) (off len:Nat) (xs:List Bool) (a:V3) (ps:List Pl) (ll:Nat):Bool:=((aP w d h len&&aw a)&&decide (off+len≤xs.length))&&(ps.all (fun p=>aw p.pos)&&(decide (ll=ps.length)&&decide (ll≤1000)))
section
variable {w d h:Int} {off len:Nat} {xs:List Bool} {a:V3} {ps:List Pl}
theorem Bp (hm:aP w d h len=true) (ha:aw a=true) (hl:decide (off+len≤xs.length)=true) (hp:ps.all (fun p=>aw p.pos)=true) (hL:ps.length≤1000) {owner:Int}:∀(n i:Nat) (s:Int) (ys:List Pl),i+n=ps.length→ys.length=i→0<i→
    aJ PK (gL owner s ps.length i i) (cO w d h off len xs a ps ys) (.exit 0) (gL owner (jC ((af w d h len fun j=>xs.getD (off+j) false).brQ a) owner (ps.drop i) s) ps.length ps.length ps.length) (cO w d h off len xs a ps (ys++(ps.drop i).map ((af w d h len fun j=>xs.getD (off+j) false).brQ a)))
 |0,i,s,ys,h1,h2,h3=>by
  obtain rfl:i=ps.length:=by omega
  refine .done ?_ (by simp)
  rw [ux,decide_eq_false (by omega),cond_false,List.drop_length]
  simp only [List.map_nil,List.append_nil]
  rfl
 | n+1,i,s,ys,h1,h2,h3=>by
  have hi:i<ps.length:=by omega
  have hro:=ux w d h off len xs a ps ys owner s ps.length i i
  have e0:ps.getD (0+((i:Int)).toNat) aA.pl.dflt=ps[i]:=by
   rw [show 0+((i:Int)).toNat=i by omega]
   exact fJ _ hi
  have ef:aw (ps[i]).pos=true:=List.all_eq_true.1 hp _ (List.getElem_mem hi)
  have eg:fI i ys ((af w d h len fun j=>xs.getD (off+j) false).brQ a ps[i])=true:=by
   unfold fI
   rw [decide_eq_true (show 0+1≤[(af w d h len fun j=>xs.getD (off+j) false).brQ a ps[i]].length by simp),decide_eq_true h3,decide_eq_true (show i≤ys.length by omega),decide_eq_true (show i+1≤9223372036854775807 by omega),decide_eq_true (show (i+1)*120≤140737488355328 by omega)]
   rfl
  rw [e0,decide_eq_true (show (i:Int)<(ps.length:Int) by omega),decide_eq_true (show (0:Int)≤(i:Int) by omega),decide_eq_true (show 0+((i:Int)).toNat<ps.length by omega),hm,ha,ef,hl,eg,IntWalk.i64_in ((i:Int)+1) (by omega),dh] at hro
  simp only [Bool.and_self,cond_true] at hro
  have et:ys.take i=ys:=by rw [←h2];exact List.take_length
  rw [et] at hro
  have ih:=Bp hm ha hl hp hL (owner:=owner) n (i+1) (H5 owner ps[i] ((af w d h len fun j=>xs.getD (off+j) false).brQ a ps[i]) s) (ys++[(af w d h len fun j=>xs.getD (off+j) false).brQ a ps[i]]) (by omega) (by simp [h2]) (by omega)
  rw [List.append_assoc,List.singleton_append] at ih
  rw [List.drop_eq_getElem_cons hi,List.map_cons]
  refine .more ?_ ih
  rw [hro]
  unfold H5 zu
  cases decide (((af w d h len fun j=>xs.getD (off+j) false).brQ a ps[i]).dead>0)&&decide ((ps[i]).dead≤0)
  · rfl
  · cases (ps[i]).id==owner<;>rfl
theorem OM (hm:aP w d h len=true) (ha:aw a=true) (hl:decide (off+len≤xs.length)=true) (hp:ps.all (fun p=>aw p.pos)=true) (hL:ps.length≤1000) (h0:0<ps.length) {owner:Int}:
    aJ PK (xf owner 0 ps.length 0) (lP w d h off len xs a ps) (.exit 0) (gL owner (jC ((af w d h len fun j=>xs.getD (off+j) false).brQ a) owner ps 0) ps.length ps.length ps.length) (cO w d h off len xs a ps (ps.map ((af w d h len fun j=>xs.getD (off+j) false).brQ a))):=by
 have hro:=vh w d h off len xs a ps owner 0 ps.length 0
 have e0:ps.getD (0+(0:Int).toNat) aA.pl.dflt=ps[0]:=by
  rw [show 0+(0:Int).toNat=0 from rfl]
  exact fJ _ h0
 have ef:aw (ps[0]).pos=true:=List.all_eq_true.1 hp _ (List.getElem_mem h0)
 rw [e0,decide_eq_true (show (0:Int)<(ps.length:Int) by omega),decide_eq_true (show (0:Int)≤0 by omega),decide_eq_true (show 0+(0:Int).toNat<ps.length by have :(0:Int).toNat=0:=rfl;omega),hm,ha,ef,hl,dh] at hro
 simp only [Bool.and_self,cond_true] at hro
 have ih:=Bp hm ha hl hp hL (owner:=owner) (ps.length - 1) 1 (H5 owner ps[0] ((af w d h len fun j=>xs.getD (off+j) false).brQ a ps[0]) 0) [(af w d h len fun j=>xs.getD (off+j) false).brQ a ps[0]] (by omega) rfl (by omega)
 have ed:ps=ps[0]::ps.drop 1:=by
  have:=List.drop_eq_getElem_cons h0
  rw [List.drop_zero] at this
  exact this
 have em:ps.map ((af w d h len fun j=>xs.getD (off+j) false).brQ a)=[(af w d h len fun j=>xs.getD (off+j) false).brQ a ps[0]]++(ps.drop 1).map ((af w d h len fun j=>xs.getD (off+j) false).brQ a):=by
  rw [List.singleton_append,←List.map_cons,←ed]
 have es:jC ((af w d h len fun j=>xs.getD (off+j) false).brQ a) owner ps 0=jC ((af w d h len fun j=>xs.getD (off+j) false).brQ a) owner (ps.drop 1) (H5 owner ps[0] ((af w d h len fun j=>xs.getD (off+j) false).brQ a ps[0]) 0):=by
  have :jC ((af w d h len fun j=>xs.getD (off+j) false).brQ a) owner (ps[0]::ps.drop 1) 0=jC ((af w d h len fun j=>xs.getD (off+j) false).brQ a) owner (ps.drop 1) (H5 owner ps[0] ((af w d h len fun j=>xs.getD (off+j) false).brQ a ps[0]) 0):=rfl
  rwa [←ed] at this
 rw [em,es]
 refine .more ?_ ih
 rw [hro]
 unfold H5 zu
 cases decide (((af w d h len fun j=>xs.getD (off+j) false).brQ a ps[0]).dead>0)&&decide ((ps[0]).dead≤0)
 · rfl
 · cases (ps[0]).id==owner<;>rfl
end
noncomputable def TV (v:List SV) (R:List Row) (k:Ex→List SV→List Row→Option aj):Option aj:=match v,R with
 | [.int .i64 owner,.ptr 2 0 0 0,.ptr 3 0 0 0,.nils,.nils,.int .i64 s,.slice 1 15 0 ll none,.int .i64 l2,.int .i64 i],[.vec true .bool xs,.vec true .pl ps,.own [.int .i64 w,.int .i64 d,.int .i64 h,.slice 0 1 off len none,.unk],.own [.int .i64 ax,.int .i64 ay,.int .i64 az]]=>
     bif ((decide (s=0)&&decide (i=0))&&decide (l2=(ll:Int)))&&js w d h off len xs ⟨ax,ay,az⟩ ps ll then
      (bif Nat.beq ll 0 then k (.exit 0) (xf owner 0 ll 0) (lP w d h off len xs ⟨ax,ay,az⟩ ps)
      else k (.exit 0) (gL owner (jC ((af w d h len fun j=>xs.getD (off+j) false).brQ ⟨ax,ay,az⟩) owner ps 0) ll ll ll) (cO w d h off len xs ⟨ax,ay,az⟩ ps (ps.map ((af w d h len fun j=>xs.getD (off+j) false).brQ ⟨ax,ay,az⟩)))) else none
 |_,_=>none
theorem Lh:da 69 [0,1,0,1,1,1] (bG 72 [2,4,5,8,9,10,15,16,17] TV):=by
 intro b hat s K r h
 refine aQ (fuel:=100) su ag hat (fun v R k r hr=>?_) h
 have hbody:=aZ Tryz.func69 hat
 subst hbody
 unfold TV at hr
 split at hr
 · rename_i owner s ll l2 i xs ps w d h off len ax ay az
   obtain ⟨hb,hr2⟩:=al hr
   unfold js at hb
   simp only [Bool.and_eq_true,decide_eq_true_eq] at hb
   obtain ⟨⟨⟨rfl,rfl⟩,rfl⟩,⟨⟨h1,h2⟩,h3⟩,h4,h5,h6⟩:=hb
   have e1:ll=List.length (α:=Pl) ps:=h5
   subst e1
   cases h0:Nat.beq (List.length (α:=Pl) ps) 0 with
   |true=>
    rw [h0,cond_true] at hr2
    have hz:=Nat.eq_of_beq_eq_true h0
    refine ⟨_,_,_,hr2,.done ?_ (by simp)⟩
    have hro:=vh w d h off len xs ⟨ax,ay,az⟩ ps owner 0 (List.length (α:=Pl) ps) 0
    rw [decide_eq_false (by omega)] at hro
    exact hro
   |false=>
    rw [h0,cond_false] at hr2
    have hz:=Nat.ne_of_beq_eq_false h0
    exact ⟨_,_,_,hr2,OM h1 h2 (decide_eq_true h3) h4 h6 (by omega)⟩
 · cases hr
noncomputable def Yr:jh:=⟨_,_,_,Lh⟩
def Pl.scored (p:Pl) (s:Int):Pl:=⟨p.id,p.pos,p.vel,p.ground,p.health,p.armour,IntKind.i64.wrap (p.score+s),p.a0,p.a1,p.wait,p.dead⟩
def cG (owner s:Int) (q:Pl):Pl:=bif q.id==owner then q.scored s else q
def oz (owner s:Int) (k:Nat) (n i:Int):List SV:=[.int .i64 owner,.nils,.slice 4 15 0 k none,.int .i64 s,.int .i64 n,.int .i64 i]
def LT (owner s:Int) (n i:Int):List SV:=[.int .i64 owner,.nils,.nils,.int .i64 s,.int .i64 n,.int .i64 i]
noncomputable def SN (n0:Nat):List SV→List Row→Option aj:=bj XX (fun _ _=>none) 100 69 [0,1,0,1,1,1,1] (bg Tryz.f69 [0,1,0,1,1,1,1]) 72 n0 [2,8,9,10,50,51]
theorem yK (w d h:Int) (off len:Nat) (xs:List Bool) (at':V3) (ps ys:List Pl) (owner s:Int) (k:Nat) (n i:Int):SN 5 (oz owner s k n i) (cO w d h off len xs at' ps ys)=
 bif decide (i<n) then
 bif decide (0≤i)&&decide (i<(k:Int)) then
 bif decide (0+i.toNat<ys.length) then
 bif (ys.getD (0+i.toNat) aA.pl.dflt).id==owner then
 bif decide (0≤i)&&decide (i<(k:Int)) then
 bif decide (0+i.toNat<ys.length) then
 bif decide (0≤i)&&decide (i<(k:Int)) then
 bif decide (0+i.toNat<ys.length) then
 some (.tuple [.nilp,.tuple (oz owner s k n (IntKind.i64.wrap (i+1)))],cO w d h off len xs at' ps (ys.set (0+i.toNat) (Pl.scored (ys.getD (0+i.toNat) aA.pl.dflt) s)))
 else none
 else none
 else none
 else none
 else some (.tuple [.nilp,.tuple (oz owner s k n (IntKind.i64.wrap (i+1)))],cO w d h off len xs at' ps ys)
 else none
 else none
 else some (.tuple [.ptr 5 0 0 0,.tuple (oz owner s k n i)],cO w d h off len xs at' ps ys):=by kernel_rfl
theorem Kt (w d h:Int) (off len:Nat) (xs:List Bool) (at':V3) (ps:List Pl) (owner s:Int):SN 4 (LT owner s 0 0) (lP w d h off len xs at' ps)=some (.tuple [.ptr 5 0 0 0,.tuple (LT owner s 0 0)],lP w d h off len xs at' ps):=by kernel_rfl
section
variable {w d h:Int} {off len:Nat} {xs:List Bool} {a:V3} {ps:List Pl}
theorem wP {owner s:Int}:∀(n i:Nat) (ys:List Pl),i+n=ys.length→ys.length≤1000→
    aJ (SN 5) (oz owner s ys.length ys.length i) (cO w d h off len xs a ps ys) (.exit 5) (oz owner s ys.length ys.length ys.length) (cO w d h off len xs a ps (ys.take i++(ys.drop i).map (cG owner s)))
 |0,i,ys,h1,h2=>by
  obtain rfl:i=ys.length:=by omega
  refine .done ?_ (by simp)
  rw [yK,decide_eq_false (by omega),cond_false,List.drop_length,List.take_length]
  simp only [List.map_nil,List.append_nil]
  rfl
 | n+1,i,ys,h1,h2=>by
  have hi:i<ys.length:=by omega
  have hro:=yK w d h off len xs a ps ys owner s ys.length ys.length i
  have e0:ys.getD (0+((i:Int)).toNat) aA.pl.dflt=ys[i]:=by
   rw [show 0+((i:Int)).toNat=i by omega]
   exact fJ _ hi
  rw [e0,decide_eq_true (show (i:Int)<(ys.length:Int) by omega),decide_eq_true (show (0:Int)≤(i:Int) by omega),decide_eq_true (show 0+((i:Int)).toNat<ys.length by omega),IntWalk.i64_in ((i:Int)+1) (by omega),show 0+((i:Int)).toNat=i by omega] at hro
  simp only [Bool.and_self,cond_true] at hro
  cases hc:(ys[i]).id==owner with
  | false=>
   rw [hc,cond_false] at hro
   have ih:=wP (owner:=owner) (s:=s) n (i+1) ys (by omega) h2
   have e:ys.take (i+1)++(ys.drop (i+1)).map (cG owner s)=ys.take i++(ys.drop i).map (cG owner s):=by
    rw [List.drop_eq_getElem_cons hi,List.map_cons,List.take_add_one,List.getElem?_eq_getElem hi,show cG owner s ys[i]=ys[i] by unfold cG;rw [hc];rfl]
    simp only [Option.toList_some,List.append_assoc,List.singleton_append,List.cons_append,List.nil_append]
   rw [e] at ih
   exact .more hro ih
  | true=>
   rw [hc,cond_true] at hro
   have hl:(ys.set i (Pl.scored ys[i] s)).length=ys.length:=List.length_set ..
   have ih:=wP (owner:=owner) (s:=s) n (i+1) (ys.set i (Pl.scored ys[i] s)) (by omega) (by omega)
   rw [hl] at ih
   have e:(ys.set i (Pl.scored ys[i] s)).take (i+1)++((ys.set i (Pl.scored ys[i] s)).drop (i+1)).map (cG owner s)=ys.take i++(ys.drop i).map (cG owner s):=by
    rw [List.drop_eq_getElem_cons hi,List.map_cons,List.take_add_one,List.getElem?_set_self hi,List.take_set_of_le (by omega),List.drop_set_of_lt (by omega),show cG owner s ys[i]=Pl.scored ys[i] s by unfold cG;rw [hc];rfl]
    simp only [Option.toList_some,List.append_assoc,List.singleton_append,List.cons_append,List.nil_append]
   rw [e] at ih
   exact .more hro ih
theorem Ke {owner s:Int} {ys:List Pl} (h2:ys.length≤1000):
    aJ (SN 5) (oz owner s ys.length ys.length 0) (cO w d h off len xs a ps ys) (.exit 5) (oz owner s ys.length ys.length ys.length) (cO w d h off len xs a ps (ys.map (cG owner s))):=by
 have key:=wP (w:=w) (d:=d) (h:=h) (off:=off) (len:=len) (xs:=xs) (a:=a) (ps:=ps) (owner:=owner) (s:=s) ys.length 0 ys (by omega) h2
 rw [List.take_zero,List.nil_append,List.drop_zero] at key
 exact key
end
noncomputable def Uj (v:List SV) (R:List Row) (k:Ex→List SV→List Row→Option aj):Option aj:=match v,R with
 | [.int .i64 owner,.nils,.slice 4 15 0 kk none,.int .i64 s,.int .i64 n,.int .i64 i],[.vec true .bool xs,.vec true .pl ps,.own [.int .i64 w,.int .i64 d,.int .i64 h,.slice 0 1 off len none,.unk],.own [.int .i64 ax,.int .i64 ay,.int .i64 az],.vec false .pl ys]=>
     bif (decide (i=0)&&decide (n=(kk:Int)))&&(decide (kk=ys.length)&&decide (kk≤1000)) then
      k (.exit 5) (oz owner s kk kk kk) (cO w d h off len xs ⟨ax,ay,az⟩ ps (ys.map (cG owner s))) else none
 | [.int .i64 owner,.nils,.nils,.int .i64 s,.int .i64 n,.int .i64 i],[.vec true .bool xs,.vec true .pl ps,.own [.int .i64 w,.int .i64 d,.int .i64 h,.slice 0 1 off len none,.unk],.own [.int .i64 ax,.int .i64 ay,.int .i64 az]]=>
     bif decide (i=0)&&decide (n=0) then k (.exit 5) (LT owner s 0 0) (lP w d h off len xs ⟨ax,ay,az⟩ ps) else none
 |_,_=>none
theorem Mu:da 69 [0,1,0,1,1,1,1] (bG 72 [2,8,9,10,50,51] Uj):=by
 intro b hat s K r h
 refine aQ (fuel:=100) su ag hat (fun v R k r hr=>?_) h
 have hbody:=aZ Tryz.func69 hat
 subst hbody
 unfold Uj at hr
 split at hr
 · rename_i owner kk s n i xs ps w d h off len ax ay az ys
   obtain ⟨hb,hr2⟩:=al hr
   simp only [Bool.and_eq_true,decide_eq_true_eq] at hb
   obtain ⟨⟨rfl,rfl⟩,h1,h2⟩:=hb
   have e1:kk=List.length (α:=Pl) ys:=h1
   subst e1
   exact ⟨_,_,_,hr2,Ke (w:=w) (d:=d) (h:=h) (off:=off) (len:=len) (xs:=xs) (a:=⟨ax,ay,az⟩) (ps:=ps) (owner:=owner) (s:=s) (ys:=ys) h2⟩
 · rename_i owner s n i xs ps w d h off len ax ay az
   obtain ⟨hb,hr2⟩:=al hr
   simp only [Bool.and_eq_true,decide_eq_true_eq] at hb
   obtain ⟨rfl,rfl⟩:=hb
   exact ⟨_,_,_,hr2,.done (Kt w d h off len xs ⟨ax,ay,az⟩ ps owner s) (by simp)⟩
 · cases hr
noncomputable def YD:jh:=⟨_,_,_,Mu⟩
def bZ (F:Pl→Pl) (owner:Int) (ps:List Pl):List Pl:=(ps.map F).map (cG owner (jC F owner ps 0))
theorem BO (w d h:Int) (off len:Nat) (xs:List Bool) (a:V3) (ps:List Pl) (owner:Int) (ll:Nat):aH XX (aF [Yr,YD]) 300 69 Tryz.f69 9 [bB w d h (.slice 0 1 off len none) .unk,.agg a.sv,.int .i64 owner,.slice 1 15 0 ll none] [.vec true .bool xs,.vec true .pl ps]=
 bif decide ((ll:Int)=(ll:Int))&&js w d h off len xs a ps ll then
 bif Nat.beq ll 0 then some (.nils,lP w d h off len xs a ps)
 else bif decide ((ll:Int)=(ll:Int))&&(decide (ll=(ps.map ((af w d h len fun j=>xs.getD (off+j) false).brQ a)).length)&&decide (ll≤1000)) then some (.slice 4 15 0 ll none,cO w d h off len xs a ps (bZ ((af w d h len fun j=>xs.getD (off+j) false).brQ a) owner ps)) else none
 else none:=by kernel_rfl
theorem jr (F:Pl→Pl) (owner:Int) (ps:List Pl):(bZ F owner ps).length=ps.length:=by
 unfold bZ
 rw [List.length_map,List.length_map]
theorem F7 {ρ:aR} {w d h:Int} {id off len:Nat} {cap:Option Nat} {sp:SV} {u:Value} (hsp:sp.one=true) (h1:aE ρ (.agg [.int .i64 w,.int .i64 d,.int .i64 h,.slice id 1 off len cap,sp]) u):aE ρ (bB w d h (.slice id 1 off len none) .unk) u:=by
 unfold bB
 simp only [aE] at h1 ⊢
 obtain ⟨vs,hu,hr⟩:=h1
 refine ⟨vs,hu,?_⟩
 simp only [au,aE] at hr ⊢
 obtain ⟨a1,l1,rfl,h1,a2,l2,rfl,h2,a3,l3,rfl,h3,a4,l4,rfl,h4,a5,l5,rfl,h5,rfl⟩:=hr
 refine ⟨_,_,rfl,h1,_,_,rfl,h2,_,_,rfl,h3,_,_,rfl,?_,_,_,rfl,FA h5 hsp,rfl⟩
 rcases h4 with ⟨p,o,c,hp,hs,hcap,ho,hlc,hsz⟩|⟨h6,_,h7⟩
 · refine .inl ⟨p,o,c,hp,hs,by simp,?_,hlc,hsz⟩
   rcases ho with ho |⟨ho,_⟩
   · exact .inl ho
   · exact .inr ⟨ho,trivial⟩
 · exact .inr ⟨h6,trivial,h7⟩
noncomputable def mY (args:List SV) (rows:List Row):Option aL:=
 match args with
 |[.agg [.int .i64 w,.int .i64 d,.int .i64 h,.slice id st off len cap,sp],.agg [.int .i64 x,.int .i64 y,.int .i64 z],.int .i64 owner,.slice ip 15 0 ll cp]=>match rows[id]?,rows[ip]? with
  |some (.vec _ .bool xs),some (.vec _ .pl ps)=>bif Nat.beq st 1&&sp.one then some {ok:=js w d h off len xs ⟨x,y,z⟩ ps ll,val:=.slice rows.length 15 0 (bZ ((af w d h len fun j=>xs.getD (off+j) false).brQ ⟨x,y,z⟩) owner ps).length none,rd:=[id,ip],nw:=[.vec true .pl (bZ ((af w d h len fun j=>xs.getD (off+j) false).brQ ⟨x,y,z⟩) owner ps)]} else none
  |_,_=>none
 |_=>none
theorem VI {rows':List Row} {w d h:Int} {off len:Nat} {xs:List Bool} {a:V3} {ps ys:List Pl} (ht:rows'.take 9=cO w d h off len xs a ps ys):rows'[4]? =some (.vec false .pl ys):=by
 have :(rows'.take 9)[4]? =some (.vec false .pl ys):=by rw [ht];rfl
 rw [List.getElem?_take] at this
 exact this
theorem Cr {w d h:Int} {off len:Nat} {xs:List Bool} {a:V3} {ps:List Pl} {owner:Int} {rows:List Row} {id ip:Nat} {ra rb ok:Bool} (h1:rows[id]? =some (.vec ra .bool xs)) (h2:rows[ip]? =some (.vec rb .pl ps)) (hok:js w d h off len xs a ps ps.length=true):
    aN Tryz.prog 69 [bB w d h (.slice id 1 off len none) .unk,.agg a.sv,.int .i64 owner,.slice ip 15 0 ps.length none] (rows[·]?) rows.length {ok:=ok,val:=.slice rows.length 15 0 (bZ ((af w d h len fun j=>xs.getD (off+j) false).brQ a) owner ps).length none,rd:=[id,ip],nw:=[.vec true .pl (bZ ((af w d h len fun j=>xs.getD (off+j) false).brQ a) owner ps)]}:=by
 have hv:=BO w d h off len xs a ps owner ps.length
 rw [hok,decide_eq_true rfl,Bool.true_and,cond_true] at hv
 have hm:∀(i:Nat) (row:Row),([.vec true .bool xs,.vec true .pl ps]:List Row)[i]? =some row→∃(k:aA) (zs:List k.T) (ro:Bool),row=.vec true k zs∧(rows[·]?) (gV [id,ip] rows.length i)=some (.vec ro k zs):=by
  intro i row hr
  match i with
  |0=>simp at hr;subst hr;exact ⟨.bool,xs,ra,rfl,h1⟩
  |1=>simp at hr;subst hr;exact ⟨.pl,ps,rb,rfl,h2⟩
  |i+2=>simp at hr
 have ha:∀i∈SV.idsL [bB w d h (.slice 0 1 off len none) .unk,.agg a.sv,.int .i64 owner,.slice 1 15 0 ps.length none],i<([.vec true .bool xs,.vec true .pl ps]:List Row).length:=by
  intro i hi
  simp [bB,SV.idsL,SV.ids,V3.sv] at hi
  simp
  omega
 cases h0:Nat.beq ps.length 0 with
 | true=>
  rw [h0,cond_true] at hv
  have hz:=Nat.eq_of_beq_eq_true h0
  obtain ⟨rows',hc,ht⟩:=aC su aG Tryz.func69 hv
  have hb:bZ ((af w d h len fun j=>xs.getD (off+j) false).brQ a) owner ps=[]:=by
   rw [List.length_eq_zero_iff.1 hz]
   rfl
  exact pV (k:=.pl) hc (σ:=[id,ip]) rfl ha hm (.inl ⟨rfl,hb⟩)
 | false=>
  have hL:ps.length≤1000:=by
   unfold js at hok
   simp only [Bool.and_eq_true,decide_eq_true_eq] at hok
   exact hok.2.2.2
  rw [h0,cond_false,List.length_map,decide_eq_true rfl,decide_eq_true hL] at hv
  simp only [Bool.and_self,cond_true] at hv
  obtain ⟨rows',hc,ht⟩:=aC su aG Tryz.func69 hv
  exact pV (k:=.pl) (ds:=bZ ((af w d h len fun j=>xs.getD (off+j) false).brQ a) owner ps) hc (σ:=[id,ip]) rfl ha hm (.inr ⟨4,none,false,bZ ((af w d h len fun j=>xs.getD (off+j) false).brQ a) owner ps,congrArg (fun q=>SV.slice 4 15 0 q none) (jr _ _ _).symm,by simp,VI ht,fun i hi=>rfl⟩)
theorem uB {args:List SV} {rows:List Row} {e:aL} (h:mY args rows=some e) (hok:e.ok=true):aN Tryz.prog 69 args (rows[·]?) rows.length e:=by
 unfold mY at h
 split at h
 · rename_i w d hh id st off len cap sp x y z owner ip ll cp
   split at h
   · rename_i ra xs rb ps h1 h2
     obtain ⟨hb,h⟩:=al h
     cases h
     rw [Bool.and_eq_true] at hb
     have hst:=Nat.eq_of_beq_eq_true hb.1
     subst hst
     have hok:js w d hh off len xs ⟨x,y,z⟩ ps ll=true:=hok
     have e1:ll=List.length (α:=Pl) ps:=by
      have:=hok
      unfold js at this
      simp only [Bool.and_eq_true,decide_eq_true_eq] at this
      exact this.2.2.1
     subst e1
     refine cy (args:=[bB w d hh (.slice id 1 off len none) .unk,.agg [.int .i64 x,.int .i64 y,.int .i64 z],.int .i64 owner,.slice ip 15 0 (List.length (α:=Pl) ps) none]) (Cr (a:=⟨x,y,z⟩) (xs:=xs) (ps:=ps) h1 h2 hok) fun ρ vs hr=>?_
     rw [au] at hr ⊢
     obtain ⟨u,us,rfl,k1,k2⟩:=hr
     refine ⟨u,us,rfl,F7 hb.2 k1,?_⟩
     rw [au] at k2 ⊢
     obtain ⟨u,us,rfl,k1,k2⟩:=k2
     refine ⟨u,us,rfl,k1,?_⟩
     rw [au] at k2 ⊢
     obtain ⟨u,us,rfl,k1,k2⟩:=k2
     refine ⟨u,us,rfl,k1,?_⟩
     rw [au] at k2 ⊢
     obtain ⟨u,us,rfl,k1,k2⟩:=k2
     exact ⟨u,us,rfl,bP k1,k2⟩
   · cases h
 · cases h
noncomputable def LG:bY:=⟨69,mY,fun _ _ _ h hok=>uB h hok,aq Tryz.func69 (by kernel_rfl)⟩
noncomputable def Zk:bS:=aV [] []
theorem Vh:bV Tryz.prog Zk:=aD (by kernel_rfl)
def jg (a b f:Int):Bool:=decide (IntKind.i64.wrap (a - b)≤f)&&decide (IntKind.i64.wrap (b - a)≤f)
theorem Ck (a b f:Int):aH Zk (fun _ _=>none) 200 94 Tryz.f94 0 [.int .i64 a,.int .i64 b,.int .i64 f] []=
    some (.bool (bif (decide (IntKind.i64.wrap (a - b)≤f)==true) then (bif true then decide (IntKind.i64.wrap (b - a)≤f) else false) else false),[]):=by kernel_rfl
theorem Ia (a b f:Int):aH Zk (fun _ _=>none) 200 94 Tryz.f94 0 [.int .i64 a,.int .i64 b,.int .i64 f] []=some (.bool (jg a b f),[]):=by
 rw [Ck]
 unfold jg
 cases decide (IntKind.i64.wrap (a - b)≤f)<;>rfl
def EL:List SV→Option aL
 |[.int .i64 a,.int .i64 b,.int .i64 f]=>some {val:=.bool (jg a b f)}
 |_=>none
theorem ID {m:Nat→Option Row} {n:Nat} {args:List SV} {e:aL} (h:EL args=some e):aN Tryz.prog 94 args m n e:=by
 unfold EL at h
 split at h
 · cases h
   obtain ⟨rows',hc,_⟩:=aC Vh ag Tryz.func94 (Ia _ _ _)
   exact aM hc rfl rfl
 · cases h
noncomputable def OB:bY:=⟨94,fun args _=>EL args,fun _ _ _ h _=>ID h,aq Tryz.func94 (by kernel_rfl)⟩
noncomputable def ZD:bS:=aV [] [OB]
theorem Uw:bV Tryz.prog ZD:=aD (by kernel_rfl)
def tP (s:Sh) (p:Pl):Bool:=decide (p.dead≤0)&&(p.id !=s.owner&&(jg s.pos.x p.pos.x 26214&&(jg s.pos.y p.pos.y 26214&&jg s.pos.z p.pos.z 58982)))
def nQ (a b:Bool):Bool:=bif (a==true) then (bif true then b else false) else false
theorem gv (a b:Bool):nQ a b=(a&&b):=by cases a<;>rfl
theorem Io (s:Sh) (p:Pl):aH ZD (fun _ _=>none) 200 68 Tryz.f68 0 [.agg s.sv,.agg p.sv] []=
    some (.bool (nQ (nQ (nQ (nQ (decide (p.dead≤0)) (p.id !=s.owner)) (jg s.pos.x p.pos.x 26214)) (jg s.pos.y p.pos.y 26214)) (jg s.pos.z p.pos.z 58982)),[]):=by kernel_rfl
theorem Ll (s:Sh) (p:Pl):aH ZD (fun _ _=>none) 200 68 Tryz.f68 0 [.agg s.sv,.agg p.sv] []=some (.bool (tP s p),[]):=by
 rw [Io]
 simp only [gv,tP,Bool.and_assoc]
def Lu:List SV→Option aL
 |[.agg cs,.agg ds]=>match JQ cs,Jj ds with
  |some s,some p=>some {val:=.bool (tP s p)}
  |_,_=>none
 |_=>none
theorem M1 {m:Nat→Option Row} {n:Nat} {args:List SV} {e:aL} (h:Lu args=some e):aN Tryz.prog 68 args m n e:=by
 unfold Lu at h
 split at h
 · split at h
   · rename_i s p hs hp
     cases h
     rw [fE hs,iT hp]
     obtain ⟨rows',hc,_⟩:=aC Uw ag Tryz.func68 (Ll s p)
     exact aM hc rfl rfl
   · cases h
 · cases h
noncomputable def Fa:bY:=⟨68,fun args _=>Lu args,fun _ _ _ h _=>M1 h,aq Tryz.func68 (by kernel_rfl)⟩
noncomputable def ZE:List Nat:=[32,34,13,67,54,66,82,31,46,47]
noncomputable def oq:bS:=aV [53,22] [zN,G2,AN,FE,A7,Mm,F6,LG,Fa] ZE
theorem lp:bV Tryz.prog oq:=aD (by kernel_rfl)
def WS.mp (s:WS):Mp:=af s.w s.d s.h s.cells.length fun j=>s.cells.getD (0+j) false
def endV (l:bp) (s:WS) (v:SV) (more:List Row):Option aj:=some (.tuple [v,.slice 0 0 0 s.cells.length (some l.cc),.slice 0 0 0 s.spawns.length (some l.sc),(match l.pc with |none=>.nils |some c=>.slice 0 0 0 s.ps.length (some c)),(match l.hc with |none=>.nils |some c=>.slice 0 0 0 s.shots.length (some c))],.obj s::more)
theorem bT {C:WS→bp→Prop} (H:∀(w d h:Int) (cells:List Bool) (spawns:List V3) (now given fired:Int) (cc sc:Nat),
    (∀(shots:List Sh) (hc:Nat),C ⟨w,d,h,cells,spawns,now,[],shots,given,fired⟩ ⟨cc,sc,none,some hc⟩)∧C ⟨w,d,h,cells,spawns,now,[],[],given,fired⟩ ⟨cc,sc,none,none⟩∧
    (∀(c:Nat) (shots:List Sh) (hc:Nat),C ⟨w,d,h,cells,spawns,now,[],shots,given,fired⟩ ⟨cc,sc,some c,some hc⟩∧∀p1,(C ⟨w,d,h,cells,spawns,now,[p1],shots,given,fired⟩ ⟨cc,sc,some c,some hc⟩∧∀p2,(C ⟨w,d,h,cells,spawns,now,[p1,p2],shots,given,fired⟩ ⟨cc,sc,some c,some hc⟩∧∀p3,(C ⟨w,d,h,cells,spawns,now,[p1,p2,p3],shots,given,fired⟩ ⟨cc,sc,some c,some hc⟩∧∀p4,(C ⟨w,d,h,cells,spawns,now,[p1,p2,p3,p4],shots,given,fired⟩ ⟨cc,sc,some c,some hc⟩∧∀p5,(C ⟨w,d,h,cells,spawns,now,[p1,p2,p3,p4,p5],shots,given,fired⟩ ⟨cc,sc,some c,some hc⟩∧∀p6,(C ⟨w,d,h,cells,spawns,now,[p1,p2,p3,p4,p5,p6],shots,given,fired⟩ ⟨cc,sc,some c,some hc⟩∧∀p7,(C ⟨w,d,h,cells,spawns,now,[p1,p2,p3,p4,p5,p6,p7],shots,given,fired⟩ ⟨cc,sc,some c,some hc⟩∧∀p8,(C ⟨w,d,h,cells,spawns,now,[p1,p2,p3,p4,p5,p6,p7,p8],shots,given,fired⟩ ⟨cc,sc,some c,some hc⟩)))))))))∧
    (∀(c:Nat),C ⟨w,d,h,cells,spawns,now,[],[],given,fired⟩ ⟨cc,sc,some c,none⟩∧∀p1,(C ⟨w,d,h,cells,spawns,now,[p1],[],given,fired⟩ ⟨cc,sc,some c,none⟩∧∀p2,(C ⟨w,d,h,cells,spawns,now,[p1,p2],[],given,fired⟩ ⟨cc,sc,some c,none⟩∧∀p3,(C ⟨w,d,h,cells,spawns,now,[p1,p2,p3],[],given,fired⟩ ⟨cc,sc,some c,none⟩∧∀p4,(C ⟨w,d,h,cells,spawns,now,[p1,p2,p3,p4],[],given,fired⟩ ⟨cc,sc,some c,none⟩∧∀p5,(C ⟨w,d,h,cells,spawns,now,[p1,p2,p3,p4,p5],[],given,fired⟩ ⟨cc,sc,some c,none⟩∧∀p6,(C ⟨w,d,h,cells,spawns,now,[p1,p2,p3,p4,p5,p6],[],given,fired⟩ ⟨cc,sc,some c,none⟩∧∀p7,(C ⟨w,d,h,cells,spawns,now,[p1,p2,p3,p4,p5,p6,p7],[],given,fired⟩ ⟨cc,sc,some c,none⟩∧∀p8,(C ⟨w,d,h,cells,spawns,now,[p1,p2,p3,p4,p5,p6,p7,p8],[],given,fired⟩ ⟨cc,sc,some c,none⟩)))))))))) (s:WS) (l:bp) (ok:cB l s):C s l:=by
 obtain ⟨w,d,h,cells,spawns,now,ps,shots,given,fired⟩:=s
 obtain ⟨cc,sc,pc,hc⟩:=l
 obtain ⟨hp,hh,_,hf⟩:=ok
 obtain ⟨h1,h2,h3,h4⟩:=H w d h cells spawns now given fired cc sc
 have few:∀{D:List PL→Prop},(D []∧∀p1,(D [p1]∧∀p2,(D [p1,p2]∧∀p3,(D [p1,p2,p3]∧∀p4,(D [p1,p2,p3,p4]∧∀p5,(D [p1,p2,p3,p4,p5]∧∀p6,(D [p1,p2,p3,p4,p5,p6]∧∀p7,(D [p1,p2,p3,p4,p5,p6,p7]∧∀p8,(D [p1,p2,p3,p4,p5,p6,p7,p8])))))))))→D ps:=by
  intro D hD
  match ps,hf with
  |[],_=>exact hD.1
  |[_],_=>exact (hD.2 _).1
  |[_,_],_=>exact ((hD.2 _).2 _).1
  |[_,_,_],_=>exact (((hD.2 _).2 _).2 _).1
  |[_,_,_,_],_=>exact ((((hD.2 _).2 _).2 _).2 _).1
  |[_,_,_,_,_],_=>exact (((((hD.2 _).2 _).2 _).2 _).2 _).1
  |[_,_,_,_,_,_],_=>exact ((((((hD.2 _).2 _).2 _).2 _).2 _).2 _).1
  |[_,_,_,_,_,_,_],_=>exact (((((((hD.2 _).2 _).2 _).2 _).2 _).2 _).2 _).1
  |[_,_,_,_,_,_,_,_],_=>exact (((((((hD.2 _).2 _).2 _).2 _).2 _).2 _).2 _).2 _
  |_::_::_::_::_::_::_::_::_::_,hf=>simp at hf
 cases pc with
 |none=>
  obtain rfl:=hp rfl
  cases hc with
  |none=>obtain rfl:=hh rfl;exact h2
  |some hc=>exact h1 shots hc
 |some c=>
  cases hc with
  |none=>obtain rfl:=hh rfl;exact few (D:=fun ps=>C ⟨w,d,h,cells,spawns,now,ps,[],given,fired⟩ ⟨cc,sc,some c,none⟩) (h4 c)
  |some hc=>exact few (D:=fun ps=>C ⟨w,d,h,cells,spawns,now,ps,shots,given,fired⟩ ⟨cc,sc,some c,some hc⟩) (h3 c shots hc)
theorem ij {l:bp} {s:WS} (v:SV) (more:List Row) (ok:cB l s):ol (endV l s v more) v s more:=by
 refine ⟨_,_,_,_,rfl,⟨rfl,.inr rfl⟩,⟨rfl,.inr rfl⟩,?_,?_,ok.few⟩
 · cases hp:l.pc with
   |none=>simp [SV.firm,ok.pn hp]
   |some c=>exact ⟨rfl,.inr rfl⟩
 · cases hh:l.hc with
   |none=>simp [SV.firm,ok.hn hh]
   |some c=>exact ⟨rfl,.inr rfl⟩
def FQ (l:bp) (s:WS) (id:Int):List PL→Option aj
 |[]=>endV l s (.int .i64 0) []
 |p::ps=>bif p.p.id==id then endV l s (.int .i64 p.left) [] else FQ l s id ps
theorem GQ (id:Int):∀(s:WS) (l:bp),cB l s→bO oq (fun _ _=>none) 300 16 Tryz.f16 bD [.ptr 0 0 0 0,.int .i64 id] (s.rows l)=FQ l s id s.ps:=
 bT fun w d h cells spawns now given fired cc sc=>by repeat' (first |apply And.intro |intro _|kernel_rfl)
def lj (id:Int):List PL→Int
 |[]=>0
 |p::ps=>bif p.p.id==id then p.left else lj id ps
theorem A6 (l:bp) (s:WS) (id:Int):∀ps,FQ l s id ps=endV l s (.int .i64 (lj id ps)) []
 |[]=>rfl
 |p::ps=>by
  rw [FQ,lj,A6 l s id ps]
  cases p.p.id==id<;>rfl
theorem Oz:∀(s:WS) (l:bp),cB l s→bO oq (fun _ _=>none) 300 11 Tryz.f11 bD [.ptr 0 0 0 0] (s.rows l)=endV l s (.int .i64 s.now) []:=
 bT fun w d h cells spawns now given fired cc sc=>by repeat' (first |apply And.intro |intro _|kernel_rfl)
noncomputable def D7:bS:=aV [] []
theorem yc:bV Tryz.prog D7:=aD (by kernel_rfl)
def Kj (a b f:Int):Bool:=decide (max (IntKind.i64.wrap (a - b)) (IntKind.i64.wrap (b - a))≤f)
theorem Q7 (a b f:Int):Kj a b f=jg a b f:=by
 unfold Kj jg
 rw [Bool.eq_iff_iff,Bool.and_eq_true,decide_eq_true_eq,decide_eq_true_eq,decide_eq_true_eq]
 omega
def zD (p:Pl) (v:V3):Bool:=jg v.x p.pos.x 26214&&(jg v.y p.pos.y 26214&&jg v.z p.pos.z 58982)
theorem Pc (p:Pl) (v:V3):aH D7 (fun _ _=>none) 200 87 Tryz.f87 0 [.agg p.sv,.agg v.sv] []=
    some (.bool (nQ (nQ (Kj v.x p.pos.x 26214) (Kj v.y p.pos.y 26214)) (Kj v.z p.pos.z 58982)),[]):=by kernel_rfl
theorem QW (p:Pl) (v:V3):aH D7 (fun _ _=>none) 200 87 Tryz.f87 0 [.agg p.sv,.agg v.sv] []=some (.bool (zD p v),[]):=by
 rw [Pc]
 simp only [gv,Q7,zD,Bool.and_assoc]
def xI:List SV→Option aL
 |[.agg ds,.agg cs]=>match Jj ds,sd cs with
  |some p,some v=>some {val:=.bool (zD p v)}
  |_,_=>none
 |_=>none
theorem El {m:Nat→Option Row} {n:Nat} {args:List SV} {e:aL} (h:xI args=some e):aN Tryz.prog 87 args m n e:=by
 unfold xI at h
 split at h
 · split at h
   · rename_i p v hp hv
     cases h
     rw [iT hp,gl hv]
     obtain ⟨rows',hc,_⟩:=aC yc ag Tryz.func87 (QW p v)
     exact aM hc rfl rfl
   · cases h
 · cases h
noncomputable def Jl:bY:=⟨87,fun args _=>xI args,fun _ _ _ h _=>El h,aq Tryz.func87 (by kernel_rfl)⟩
end Go.Proofs.YtimkhidniolpeaaGreat
