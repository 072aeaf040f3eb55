/- Part of the proof. -/
import Derived.Test.YtimkhidniolpeaaGreatWoB
namespace Go.Proofs.YtimkhidniolpeaaGreat
set_option linter.unusedSimpArgs false
set_option linter.unusedVariables false
set_option maxRecDepth 100000
set_option maxHeartbeats 0
open Go.RowKit
theorem CW (w d h:Int) (len off:Nat) (xs:List Bool) (a:V3) (o:Int):aH XX (fun _ _=>none) 300 69 Tryz.f69 0 [bB w d h (.slice 0 1 off len none) .unk,.agg a.sv,.int .i64 o,.nils] [.vec true .bool xs]=some (.nils,[]):=by kernel_rfl
noncomputable def yk (args:List SV) (rows:List Row):Option aL:=match args with
 |[.agg [.int .i64 w,.int .i64 d,.int .i64 h,.slice id st off len _,sp],.agg [.int .i64 x,.int .i64 y,.int .i64 z],.int .i64 o,.nils]=>match rows[id]? with
  |some (.vec _ .bool _)=>bif Nat.beq st 1&&sp.one then some {val:=.nils,rd:=[id]} else none
  |_=>none
 |_=>mY args rows
theorem Dr {args:List SV} {rows:List Row} {e:aL} (h:yk args rows=some e) (hok:e.ok=true):aN Tryz.prog 69 args (rows[·]?) rows.length e:=by
 unfold yk at h
 split at h
 · rename_i w d hh id st off len cap sp x y z o
   split at h
   · rename_i ro xs hrow
     obtain ⟨hb,h⟩:=al h
     cases h
     exact iq su ag Tryz.func69 hb hrow rfl rfl (CW w d hh len off xs ⟨x,y,z⟩ o)
   · cases h
 · exact uB h hok
noncomputable def Hg:bY:=⟨69,yk,fun _ _ _ h hok=>Dr h hok,aq Tryz.func69 (by kernel_rfl)⟩
noncomputable def qP:bS:=aV [37] [zN,G2,AN,FE,A7,Mm,F6,Hg,Fa] ZE
theorem xq:bV Tryz.prog qP:=aD (by kernel_rfl)
def hO (s:WS) (l:bp):SV:=match l.hc with |none=>.nils |some c=>.slice 4 11 0 s.shots.length (some c)
def e9 (s:WS) (l:bp) (X:Option (Nat×List Sh)) (i:Int):List SV:=[.ptr 0 0 0 0,hX s X,hO s l,.int .i64 (s.shots.length:Int),.int .i64 i]
def e8 (s:WS) (l:bp) (X:Option (Nat×List Sh)):List Row:=gk s l (hO s l) (uY X)
noncomputable def qW (n0:Nat):List SV→List Row→Option aj:=bj qP (fun _ _=>none) 200 20 [0,1,0,1,1] (bg Tryz.f20 [0,1,0,1,1]) 81 n0 [0,2,18,19,20]
def Ye (s:WS) (i:Int):Sh:=s.shots.getD (0+i.toNat) aA.sh.dflt
def pw (B:List Pl):Nat→List PL→List PL
 |_,[]=>[]
 |k,p::ps=>⟨B.getD k aA.pl.dflt,p.left⟩::pw B (k+1) ps
noncomputable def kB (s:WS) (t:Sh):List Pl:=bZ (s.mp.brQ t.pos) t.owner (s.ps.map PL.p)
noncomputable def kE (s:WS) (t:Sh):WS:={s with ps:=pw (kB s t) 0 s.ps}
def Gn (t:Sh) (b k:Option aj):List PL→Option aj
 |[]=>k
 |p::ps=>bif tP t p.p then b else Gn t b k ps
def rf (s:WS) (t:Sh) (b:Option aj):Option aj:=match s.ps with
 |[]=>b
 |_=>bif js s.w s.d s.h 0 s.cells.length s.cells t.pos (s.ps.map PL.p) s.ps.length then b else none
def Rm (s:WS) (t:Sh) (b k:Option aj):Option aj:=
 bif aP s.w s.d s.h s.cells.length&&(aw t.pos&&decide (0+s.cells.length≤s.cells.length)) then
  (bif !(bf s.mp.at t).2 then Gn (bf s.mp.at t).1 (rf s (bf s.mp.at t).1 b) k s.ps else rf s (bf s.mp.at t).1 b) else none
def DW (ll:Nat) (xs:List Sh):Bool:=(decide (0<ll)||(none:Option Nat).isSome)&&(decide (ll≤xs.length)&&(decide (ll+1≤9223372036854775807)&&decide ((ll+1)*88≤140737488355328)))
def Y2 (s:WS) (l:bp) (X:Option (Nat×List Sh)) (i:Int):Option aj:=some (.tuple [.nilp,.tuple (e9 s l X (IntKind.i64.wrap (i+1)))],e8 s l X)
def O4 (s:WS) (l:bp) (X:Option (Nat×List Sh)) (i:Int) (t:Sh):Option aj:=match X with
 |none=>Y2 s l (some (1,[t])) i
 |some (ll,xs)=>bif DW ll xs then Y2 s l (some (ll+1,xs.take ll++[t])) i else none
noncomputable def bU (s:WS) (l:bp) (X:Option (Nat×List Sh)) (i:Int):Option aj:=
 bif decide (i<(s.shots.length:Int)) then (bif decide (0≤i)&&decide (i<(s.shots.length:Int)) then (bif decide (0+i.toNat<s.shots.length) then
  Rm s (Ye s i) (Y2 (kE s (bf s.mp.at (Ye s i)).1) l X i) (O4 s l X i (bf s.mp.at (Ye s i)).1) else none) else none)
 else some (.tuple [Gr (.exit 0),.tuple (e9 s l X i)],e8 s l X)
theorem VK (w d h:Int) (cells:List Bool) (spawns:List V3) (now given fired:Int) (cc sc:Nat) (shots:List Sh) (hc:Nat) (i:Int):qW (5+0) (e9 ⟨w,d,h,cells,spawns,now,[],shots,given,fired⟩ ⟨cc,sc,none,some hc⟩ none i) (e8 ⟨w,d,h,cells,spawns,now,[],shots,given,fired⟩ ⟨cc,sc,none,some hc⟩ none)=bU ⟨w,d,h,cells,spawns,now,[],shots,given,fired⟩ ⟨cc,sc,none,some hc⟩ none i:=by kernel_rfl
theorem W8 (w d h:Int) (cells:List Bool) (spawns:List V3) (now given fired:Int) (cc sc:Nat) (shots:List Sh) (hc:Nat) (i:Int) (ll:Nat) (xs:List Sh):qW (5+0) (e9 ⟨w,d,h,cells,spawns,now,[],shots,given,fired⟩ ⟨cc,sc,none,some hc⟩ (some (ll,xs)) i) (e8 ⟨w,d,h,cells,spawns,now,[],shots,given,fired⟩ ⟨cc,sc,none,some hc⟩ (some (ll,xs)))=bU ⟨w,d,h,cells,spawns,now,[],shots,given,fired⟩ ⟨cc,sc,none,some hc⟩ (some (ll,xs)) i:=by kernel_rfl
theorem Wq (w d h:Int) (cells:List Bool) (spawns:List V3) (now given fired:Int) (cc sc:Nat) (shots:List Sh) (hc:Nat) (i:Int) (c:Nat):qW (5+0) (e9 ⟨w,d,h,cells,spawns,now,[],shots,given,fired⟩ ⟨cc,sc,some c,some hc⟩ none i) (e8 ⟨w,d,h,cells,spawns,now,[],shots,given,fired⟩ ⟨cc,sc,some c,some hc⟩ none)=bU ⟨w,d,h,cells,spawns,now,[],shots,given,fired⟩ ⟨cc,sc,some c,some hc⟩ none i:=by kernel_rfl
theorem Xw (w d h:Int) (cells:List Bool) (spawns:List V3) (now given fired:Int) (cc sc:Nat) (shots:List Sh) (hc:Nat) (i:Int) (c:Nat) (ll:Nat) (xs:List Sh):qW (5+0) (e9 ⟨w,d,h,cells,spawns,now,[],shots,given,fired⟩ ⟨cc,sc,some c,some hc⟩ (some (ll,xs)) i) (e8 ⟨w,d,h,cells,spawns,now,[],shots,given,fired⟩ ⟨cc,sc,some c,some hc⟩ (some (ll,xs)))=bU ⟨w,d,h,cells,spawns,now,[],shots,given,fired⟩ ⟨cc,sc,some c,some hc⟩ (some (ll,xs)) i:=by kernel_rfl
theorem UU (w d h:Int) (cells:List Bool) (spawns:List V3) (now given fired:Int) (cc sc:Nat) (shots:List Sh) (hc:Nat) (i:Int) (c:Nat) (p1:PL):qW (5+1) (e9 ⟨w,d,h,cells,spawns,now,[p1],shots,given,fired⟩ ⟨cc,sc,some c,some hc⟩ none i) (e8 ⟨w,d,h,cells,spawns,now,[p1],shots,given,fired⟩ ⟨cc,sc,some c,some hc⟩ none)=bU ⟨w,d,h,cells,spawns,now,[p1],shots,given,fired⟩ ⟨cc,sc,some c,some hc⟩ none i:=by kernel_rfl
theorem UQ (w d h:Int) (cells:List Bool) (spawns:List V3) (now given fired:Int) (cc sc:Nat) (shots:List Sh) (hc:Nat) (i:Int) (c:Nat) (p1:PL) (ll:Nat) (xs:List Sh):qW (5+1) (e9 ⟨w,d,h,cells,spawns,now,[p1],shots,given,fired⟩ ⟨cc,sc,some c,some hc⟩ (some (ll,xs)) i) (e8 ⟨w,d,h,cells,spawns,now,[p1],shots,given,fired⟩ ⟨cc,sc,some c,some hc⟩ (some (ll,xs)))=bU ⟨w,d,h,cells,spawns,now,[p1],shots,given,fired⟩ ⟨cc,sc,some c,some hc⟩ (some (ll,xs)) i:=by kernel_rfl
theorem UN (w d h:Int) (cells:List Bool) (spawns:List V3) (now given fired:Int) (cc sc:Nat) (shots:List Sh) (hc:Nat) (i:Int) (c:Nat) (p1 p2:PL):qW (5+2) (e9 ⟨w,d,h,cells,spawns,now,[p1,p2],shots,given,fired⟩ ⟨cc,sc,some c,some hc⟩ none i) (e8 ⟨w,d,h,cells,spawns,now,[p1,p2],shots,given,fired⟩ ⟨cc,sc,some c,some hc⟩ none)=bU ⟨w,d,h,cells,spawns,now,[p1,p2],shots,given,fired⟩ ⟨cc,sc,some c,some hc⟩ none i:=by kernel_rfl
theorem Ur (w d h:Int) (cells:List Bool) (spawns:List V3) (now given fired:Int) (cc sc:Nat) (shots:List Sh) (hc:Nat) (i:Int) (c:Nat) (p1 p2:PL) (ll:Nat) (xs:List Sh):qW (5+2) (e9 ⟨w,d,h,cells,spawns,now,[p1,p2],shots,given,fired⟩ ⟨cc,sc,some c,some hc⟩ (some (ll,xs)) i) (e8 ⟨w,d,h,cells,spawns,now,[p1,p2],shots,given,fired⟩ ⟨cc,sc,some c,some hc⟩ (some (ll,xs)))=bU ⟨w,d,h,cells,spawns,now,[p1,p2],shots,given,fired⟩ ⟨cc,sc,some c,some hc⟩ (some (ll,xs)) i:=by kernel_rfl
theorem XD (w d h:Int) (cells:List Bool) (spawns:List V3) (now given fired:Int) (cc sc:Nat) (shots:List Sh) (hc:Nat) (i:Int) (c:Nat) (p1 p2 p3:PL):qW (5+3) (e9 ⟨w,d,h,cells,spawns,now,[p1,p2,p3],shots,given,fired⟩ ⟨cc,sc,some c,some hc⟩ none i) (e8 ⟨w,d,h,cells,spawns,now,[p1,p2,p3],shots,given,fired⟩ ⟨cc,sc,some c,some hc⟩ none)=bU ⟨w,d,h,cells,spawns,now,[p1,p2,p3],shots,given,fired⟩ ⟨cc,sc,some c,some hc⟩ none i:=by kernel_rfl
theorem Wx (w d h:Int) (cells:List Bool) (spawns:List V3) (now given fired:Int) (cc sc:Nat) (shots:List Sh) (hc:Nat) (i:Int) (c:Nat) (p1 p2 p3:PL) (ll:Nat) (xs:List Sh):qW (5+3) (e9 ⟨w,d,h,cells,spawns,now,[p1,p2,p3],shots,given,fired⟩ ⟨cc,sc,some c,some hc⟩ (some (ll,xs)) i) (e8 ⟨w,d,h,cells,spawns,now,[p1,p2,p3],shots,given,fired⟩ ⟨cc,sc,some c,some hc⟩ (some (ll,xs)))=bU ⟨w,d,h,cells,spawns,now,[p1,p2,p3],shots,given,fired⟩ ⟨cc,sc,some c,some hc⟩ (some (ll,xs)) i:=by kernel_rfl
theorem Xb (w d h:Int) (cells:List Bool) (spawns:List V3) (now given fired:Int) (cc sc:Nat) (shots:List Sh) (hc:Nat) (i:Int) (c:Nat) (p1 p2 p3 p4:PL):qW (5+4) (e9 ⟨w,d,h,cells,spawns,now,[p1,p2,p3,p4],shots,given,fired⟩ ⟨cc,sc,some c,some hc⟩ none i) (e8 ⟨w,d,h,cells,spawns,now,[p1,p2,p3,p4],shots,given,fired⟩ ⟨cc,sc,some c,some hc⟩ none)=bU ⟨w,d,h,cells,spawns,now,[p1,p2,p3,p4],shots,given,fired⟩ ⟨cc,sc,some c,some hc⟩ none i:=by kernel_rfl
theorem WF (w d h:Int) (cells:List Bool) (spawns:List V3) (now given fired:Int) (cc sc:Nat) (shots:List Sh) (hc:Nat) (i:Int) (c:Nat) (p1 p2 p3 p4:PL) (ll:Nat) (xs:List Sh):qW (5+4) (e9 ⟨w,d,h,cells,spawns,now,[p1,p2,p3,p4],shots,given,fired⟩ ⟨cc,sc,some c,some hc⟩ (some (ll,xs)) i) (e8 ⟨w,d,h,cells,spawns,now,[p1,p2,p3,p4],shots,given,fired⟩ ⟨cc,sc,some c,some hc⟩ (some (ll,xs)))=bU ⟨w,d,h,cells,spawns,now,[p1,p2,p3,p4],shots,given,fired⟩ ⟨cc,sc,some c,some hc⟩ (some (ll,xs)) i:=by kernel_rfl
theorem XJ (w d h:Int) (cells:List Bool) (spawns:List V3) (now given fired:Int) (cc sc:Nat) (shots:List Sh) (hc:Nat) (i:Int) (c:Nat) (p1 p2 p3 p4 p5:PL):qW (5+5) (e9 ⟨w,d,h,cells,spawns,now,[p1,p2,p3,p4,p5],shots,given,fired⟩ ⟨cc,sc,some c,some hc⟩ none i) (e8 ⟨w,d,h,cells,spawns,now,[p1,p2,p3,p4,p5],shots,given,fired⟩ ⟨cc,sc,some c,some hc⟩ none)=bU ⟨w,d,h,cells,spawns,now,[p1,p2,p3,p4,p5],shots,given,fired⟩ ⟨cc,sc,some c,some hc⟩ none i:=by kernel_rfl
theorem XI (w d h:Int) (cells:List Bool) (spawns:List V3) (now given fired:Int) (cc sc:Nat) (shots:List Sh) (hc:Nat) (i:Int) (c:Nat) (p1 p2 p3 p4 p5:PL) (ll:Nat) (xs:List Sh):qW (5+5) (e9 ⟨w,d,h,cells,spawns,now,[p1,p2,p3,p4,p5],shots,given,fired⟩ ⟨cc,sc,some c,some hc⟩ (some (ll,xs)) i) (e8 ⟨w,d,h,cells,spawns,now,[p1,p2,p3,p4,p5],shots,given,fired⟩ ⟨cc,sc,some c,some hc⟩ (some (ll,xs)))=bU ⟨w,d,h,cells,spawns,now,[p1,p2,p3,p4,p5],shots,given,fired⟩ ⟨cc,sc,some c,some hc⟩ (some (ll,xs)) i:=by kernel_rfl
theorem WI (w d h:Int) (cells:List Bool) (spawns:List V3) (now given fired:Int) (cc sc:Nat) (shots:List Sh) (hc:Nat) (i:Int) (c:Nat) (p1 p2 p3 p4 p5 p6:PL):qW (5+6) (e9 ⟨w,d,h,cells,spawns,now,[p1,p2,p3,p4,p5,p6],shots,given,fired⟩ ⟨cc,sc,some c,some hc⟩ none i) (e8 ⟨w,d,h,cells,spawns,now,[p1,p2,p3,p4,p5,p6],shots,given,fired⟩ ⟨cc,sc,some c,some hc⟩ none)=bU ⟨w,d,h,cells,spawns,now,[p1,p2,p3,p4,p5,p6],shots,given,fired⟩ ⟨cc,sc,some c,some hc⟩ none i:=by kernel_rfl
theorem XE (w d h:Int) (cells:List Bool) (spawns:List V3) (now given fired:Int) (cc sc:Nat) (shots:List Sh) (hc:Nat) (i:Int) (c:Nat) (p1 p2 p3 p4 p5 p6:PL) (ll:Nat) (xs:List Sh):qW (5+6) (e9 ⟨w,d,h,cells,spawns,now,[p1,p2,p3,p4,p5,p6],shots,given,fired⟩ ⟨cc,sc,some c,some hc⟩ (some (ll,xs)) i) (e8 ⟨w,d,h,cells,spawns,now,[p1,p2,p3,p4,p5,p6],shots,given,fired⟩ ⟨cc,sc,some c,some hc⟩ (some (ll,xs)))=bU ⟨w,d,h,cells,spawns,now,[p1,p2,p3,p4,p5,p6],shots,given,fired⟩ ⟨cc,sc,some c,some hc⟩ (some (ll,xs)) i:=by kernel_rfl
theorem Vw (w d h:Int) (cells:List Bool) (spawns:List V3) (now given fired:Int) (cc sc:Nat) (shots:List Sh) (hc:Nat) (i:Int) (c:Nat) (p1 p2 p3 p4 p5 p6 p7:PL):qW (5+7) (e9 ⟨w,d,h,cells,spawns,now,[p1,p2,p3,p4,p5,p6,p7],shots,given,fired⟩ ⟨cc,sc,some c,some hc⟩ none i) (e8 ⟨w,d,h,cells,spawns,now,[p1,p2,p3,p4,p5,p6,p7],shots,given,fired⟩ ⟨cc,sc,some c,some hc⟩ none)=bU ⟨w,d,h,cells,spawns,now,[p1,p2,p3,p4,p5,p6,p7],shots,given,fired⟩ ⟨cc,sc,some c,some hc⟩ none i:=by kernel_rfl
theorem V1 (w d h:Int) (cells:List Bool) (spawns:List V3) (now given fired:Int) (cc sc:Nat) (shots:List Sh) (hc:Nat) (i:Int) (c:Nat) (p1 p2 p3 p4 p5 p6 p7:PL) (ll:Nat) (xs:List Sh):qW (5+7) (e9 ⟨w,d,h,cells,spawns,now,[p1,p2,p3,p4,p5,p6,p7],shots,given,fired⟩ ⟨cc,sc,some c,some hc⟩ (some (ll,xs)) i) (e8 ⟨w,d,h,cells,spawns,now,[p1,p2,p3,p4,p5,p6,p7],shots,given,fired⟩ ⟨cc,sc,some c,some hc⟩ (some (ll,xs)))=bU ⟨w,d,h,cells,spawns,now,[p1,p2,p3,p4,p5,p6,p7],shots,given,fired⟩ ⟨cc,sc,some c,some hc⟩ (some (ll,xs)) i:=by kernel_rfl
theorem UP (w d h:Int) (cells:List Bool) (spawns:List V3) (now given fired:Int) (cc sc:Nat) (shots:List Sh) (hc:Nat) (i:Int) (c:Nat) (p1 p2 p3 p4 p5 p6 p7 p8:PL):qW (5+8) (e9 ⟨w,d,h,cells,spawns,now,[p1,p2,p3,p4,p5,p6,p7,p8],shots,given,fired⟩ ⟨cc,sc,some c,some hc⟩ none i) (e8 ⟨w,d,h,cells,spawns,now,[p1,p2,p3,p4,p5,p6,p7,p8],shots,given,fired⟩ ⟨cc,sc,some c,some hc⟩ none)=bU ⟨w,d,h,cells,spawns,now,[p1,p2,p3,p4,p5,p6,p7,p8],shots,given,fired⟩ ⟨cc,sc,some c,some hc⟩ none i:=by kernel_rfl
theorem VV (w d h:Int) (cells:List Bool) (spawns:List V3) (now given fired:Int) (cc sc:Nat) (shots:List Sh) (hc:Nat) (i:Int) (c:Nat) (p1 p2 p3 p4 p5 p6 p7 p8:PL) (ll:Nat) (xs:List Sh):qW (5+8) (e9 ⟨w,d,h,cells,spawns,now,[p1,p2,p3,p4,p5,p6,p7,p8],shots,given,fired⟩ ⟨cc,sc,some c,some hc⟩ (some (ll,xs)) i) (e8 ⟨w,d,h,cells,spawns,now,[p1,p2,p3,p4,p5,p6,p7,p8],shots,given,fired⟩ ⟨cc,sc,some c,some hc⟩ (some (ll,xs)))=bU ⟨w,d,h,cells,spawns,now,[p1,p2,p3,p4,p5,p6,p7,p8],shots,given,fired⟩ ⟨cc,sc,some c,some hc⟩ (some (ll,xs)) i:=by kernel_rfl
end Go.Proofs.YtimkhidniolpeaaGreat
