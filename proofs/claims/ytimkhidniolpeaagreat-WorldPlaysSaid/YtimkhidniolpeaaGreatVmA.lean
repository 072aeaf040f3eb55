/- Part of the proof. -/
import Derived.Test.YtimkhidniolpeaaGreatLaw
import Derived.Great.BuildSlice
import Derived.IntWalk
import Derived.ArgAppend
import Derived.Maps.AppendAt
namespace Go.Proofs.YtimkhidniolpeaaGreat
set_option linter.unusedSimpArgs false
set_option linter.unusedVariables false
set_option maxRecDepth 100000
set_option maxHeartbeats 0
open Go.RowKit
inductive SV where
 |top
 |unk
 |int (k:IntKind) (n:Int)
 |bool (b:Bool)
 |ptr (id st i j:Nat)
 |nilp
 |slice (id st off len:Nat) (cap:Option Nat)
 |nils
 |agg (xs:List SV)
 |tuple (xs:List SV)
 |fn (f:Nat) (caps:List SV)
structure uc where
 b:Nat
 base:Nat
 mine:Bool
 size:Nat
abbrev aR:=Nat→Option uc
mutual
def aE (ρ:aR):SV→Value→Prop
 |.top,_=>True
 |.unk,v=>v.oneCell'=true∧v.cells= #[v]
 |.int k n,v=>v=.int k n
 |.bool b,v=>v=.bool b
 |.ptr id st i j,v=>∃p,ρ id=some p∧v=.pointer (some ⟨p.b,p.base+i*st+j,none⟩)
 |.nilp,v=>v=.pointer none
 |.slice id st off len cap,v=>(∃p o c,ρ id=some p∧v=.slice (some ⟨p.b,o,none⟩) len c∧(∀c',cap=some c'→c=c')∧(o=p.base+off*st∨(len=0∧cap=none))∧len≤c∧(p.mine=true→o+c*st≤p.size))∨(len=0∧cap=none∧∃a c,v=.slice a 0 c)
 |.nils,v=>v=.slice none 0 0
 |.agg xs,v=>∃vs:List Value,v=.agg vs.toArray∧au ρ xs vs
 |.tuple xs,v=>∃vs:List Value,v=.tuple vs.toArray∧au ρ xs vs
 |.fn f caps,v=>∃vs:List Value,v=.func (.func f) #[] vs.toArray∧au ρ caps vs
def au (ρ:aR):List SV→List Value→Prop
 |[],vs=>vs=[]
 |x::xs,vs=>∃v vs',vs=v::vs'∧aE ρ x v∧au ρ xs vs'
end
def aR.le (ρ ρ':aR):Prop:=∀i p,ρ i=some p→ρ' i=some p
theorem aR.le.refl (ρ:aR):ρ.le ρ:=fun _ _ h=>h
theorem aR.le.trans {a b c:aR} (h:a.le b) (k:b.le c):a.le c:=fun i p hp=>k i p (h i p hp)
mutual
theorem aE.mono {ρ ρ':aR} (h:ρ.le ρ'):∀(s:SV) (v:Value),aE ρ s v→aE ρ' s v
 |.top,_,_=>by simp [aE]
 |.unk,_,r=>by simpa only [aE] using r
 |.int ..,_,r=>by simpa [aE] using r
 |.bool _,_,r=>by simpa [aE] using r
 |.nilp,_,r=>by simpa [aE] using r
 |.nils,_,r=>by simpa [aE] using r
 |.ptr ..,_,r=>by
  simp only [aE] at r ⊢
  obtain ⟨p,hp,hv⟩:=r
  exact ⟨p,h _ _ hp,hv⟩
 |.slice ..,_,r=>by
  simp only [aE] at r ⊢
  rcases r with ⟨p,o,c,hp,hv⟩|r
  · exact .inl ⟨p,o,c,h _ _ hp,hv⟩
  · exact .inr r
 |.agg xs,_,r=>by
  simp only [aE] at r ⊢
  obtain ⟨vs,hv,hr⟩:=r
  exact ⟨vs,hv,au.mono h xs vs hr⟩
 |.tuple xs,_,r=>by
  simp only [aE] at r ⊢
  obtain ⟨vs,hv,hr⟩:=r
  exact ⟨vs,hv,au.mono h xs vs hr⟩
 |.fn _ xs,_,r=>by
  simp only [aE] at r ⊢
  obtain ⟨vs,hv,hr⟩:=r
  exact ⟨vs,hv,au.mono h xs vs hr⟩
theorem au.mono {ρ ρ':aR} (h:ρ.le ρ'):∀(s:List SV) (v:List Value),au ρ s v→au ρ' s v
 |[],_,r=>by simpa [au] using r
 |x::xs,_,r=>by
  simp only [au] at r ⊢
  obtain ⟨v,vs,hv,h1,h2⟩:=r
  exact ⟨v,vs,hv,aE.mono h x v h1,au.mono h xs vs h2⟩
end
theorem ai {ρ:aR} {vs:List Value}:au ρ [] vs↔vs=[]:=by simp [au]
theorem aa {ρ:aR} {x:SV} {xs:List SV} {v:Value} {vs:List Value}:au ρ (x::xs) (v::vs)↔aE ρ x v∧au ρ xs vs:=by
 simp only [au]
 constructor
 · rintro ⟨v',vs',h,h1,h2⟩
   cases h
   exact ⟨h1,h2⟩
 · rintro ⟨h1,h2⟩
   exact ⟨v,vs,rfl,h1,h2⟩
theorem au.length {ρ:aR}:∀{xs:List SV} {vs:List Value},au ρ xs vs→xs.length=vs.length
 |[],vs,h=>by simp [au] at h;simp [h]
 |x::xs,[],h=>by simp [au] at h
 |x::xs,v::vs,h=>by
  rw [aa] at h
  simp [au.length h.2]
theorem au.get {ρ:aR}:∀{xs:List SV} {vs:List Value},au ρ xs vs→∀{i:Nat} {x:SV},xs[i]? =some x→∃v,vs[i]? =some v∧aE ρ x v
 |[],vs,h,i,x,hi=>by simp at hi
 |y::xs,[],h,i,x,hi=>by simp [au] at h
 |y::xs,v::vs,h,0,x,hi=>by
  rw [aa] at h
  simp at hi
  exact ⟨v,by simp,hi ▸ h.1⟩
 |y::xs,v::vs,h,i+1,x,hi=>by
  rw [aa] at h
  simpa using h.2.get (i:=i) (x:=x) (by simpa using hi)
theorem au.set {ρ:aR} {y:SV} {u:Value} (hy:aE ρ y u):∀{xs:List SV} {vs:List Value},au ρ xs vs→∀(i:Nat),au ρ (xs.set i y) (vs.set i u)
 |[],vs,h,i=>by simp [au] at h;simp [h,au]
 |x::xs,[],h,i=>by simp [au] at h
 |x::xs,v::vs,h,0=>by
  rw [aa] at h
  simp only [List.set_cons_zero,aa]
  exact ⟨hy,h.2⟩
 |x::xs,v::vs,h,i+1=>by
  rw [aa] at h
  simp only [List.set_cons_succ,aa]
  exact ⟨h.1,h.2.set hy i⟩
theorem au.append {ρ:aR}:∀{xs:List SV} {vs:List Value},au ρ xs vs→∀{ys:List SV} {us:List Value},au ρ ys us→au ρ (xs++ys) (vs++us)
 |[],vs,h,ys,us,k=>by simp [au] at h;simpa [h] using k
 |x::xs,[],h,ys,us,k=>by simp [au] at h
 |x::xs,v::vs,h,ys,us,k=>by
  rw [aa] at h
  simp only [List.cons_append,aa]
  exact ⟨h.1,h.2.append k⟩
theorem au.drop {ρ:aR}:∀{xs:List SV} {vs:List Value},au ρ xs vs→∀(n:Nat),au ρ (xs.drop n) (vs.drop n)
 |xs,vs,h,0=>by simpa using h
 |[],vs,h,n+1=>by simp [au] at h;simp [h,au]
 |x::xs,[],h,n+1=>by simp [au] at h
 |x::xs,v::vs,h,n+1=>by
  rw [aa] at h
  simpa using h.2.drop n
theorem au.take {ρ:aR}:∀{xs:List SV} {vs:List Value},au ρ xs vs→∀(n:Nat),au ρ (xs.take n) (vs.take n)
 |xs,vs,h,0=>by simp [au]
 |[],vs,h,n+1=>by simp [au] at h;simp [h,au]
 |x::xs,[],h,n+1=>by simp [au] at h
 |x::xs,v::vs,h,n+1=>by
  rw [aa] at h
  simp only [List.take_succ_cons,aa]
  exact ⟨h.1,h.2.take n⟩
theorem au.tops {ρ:aR}:∀(vs:List Value),au ρ (List.replicate vs.length .top) vs
 |[]=>by simp [au]
 |v::vs=>by
  simp only [List.length_cons,List.replicate_succ,aa]
  exact ⟨by simp [aE],au.tops vs⟩
def SV.ids1:SV→List Nat
 |.ptr id _ _ _=>[id]
 |.slice id _ _ _ _=>[id]
 |_=>[]
mutual
def SV.ids:SV→List Nat
 |.ptr id _ _ _=>[id]
 |.slice id _ _ _ _=>[id]
 |.agg xs=>SV.idsL xs
 |.tuple xs=>SV.idsL xs
 |.fn _ xs=>SV.idsL xs
 |_=>[]
def SV.idsL:List SV→List Nat
 |[]=>[]
 |x::xs=>x.ids++SV.idsL xs
end
mutual
theorem aE.only {ρ ρ':aR}:∀(s:SV) (v:Value),(∀i∈s.ids,∀p,ρ i=some p→ρ' i=some p)→aE ρ s v→aE ρ' s v
 |.top,_,_,_=>by simp [aE]
 |.unk,_,_,r=>by simpa only [aE] using r
 |.int ..,_,_,r=>by simpa [aE] using r
 |.bool _,_,_,r=>by simpa [aE] using r
 |.nilp,_,_,r=>by simpa [aE] using r
 |.nils,_,_,r=>by simpa [aE] using r
 |.ptr id _ _ _,_,h,r=>by
  simp only [aE] at r ⊢
  obtain ⟨p,hp,hv⟩:=r
  exact ⟨p,h id (by simp [SV.ids]) _ hp,hv⟩
 |.slice id _ _ _ _,_,h,r=>by
  simp only [aE] at r ⊢
  rcases r with ⟨p,o,c,hp,hv⟩|r
  · exact .inl ⟨p,o,c,h id (by simp [SV.ids]) _ hp,hv⟩
  · exact .inr r
 |.agg xs,_,h,r=>by
  simp only [aE] at r ⊢
  obtain ⟨vs,hv,hr⟩:=r
  exact ⟨vs,hv,au.only xs vs (fun i hi=>h i (by simpa [SV.ids] using hi)) hr⟩
 |.tuple xs,_,h,r=>by
  simp only [aE] at r ⊢
  obtain ⟨vs,hv,hr⟩:=r
  exact ⟨vs,hv,au.only xs vs (fun i hi=>h i (by simpa [SV.ids] using hi)) hr⟩
 |.fn _ xs,_,h,r=>by
  simp only [aE] at r ⊢
  obtain ⟨vs,hv,hr⟩:=r
  exact ⟨vs,hv,au.only xs vs (fun i hi=>h i (by simpa [SV.ids] using hi)) hr⟩
theorem au.only {ρ ρ':aR}:∀(s:List SV) (v:List Value),(∀i∈SV.idsL s,∀p,ρ i=some p→ρ' i=some p)→au ρ s v→au ρ' s v
 |[],_,_,r=>by simpa [au] using r
 |x::xs,_,h,r=>by
  simp only [au] at r ⊢
  obtain ⟨v,vs,hv,h1,h2⟩:=r
  exact ⟨v,vs,hv,aE.only x v (fun i hi=>h i (by simp [SV.idsL,hi])) h1,au.only xs vs (fun i hi=>h i (by simp [SV.idsL,hi])) h2⟩
end
theorem SV.mem_idsL {i:Nat}:∀{xs:List SV},i∈SV.idsL xs↔∃x∈xs,i∈x.ids
 |[]=>by simp [SV.idsL]
 |x::xs=>by simp [SV.idsL,SV.mem_idsL (xs:=xs)]
structure Sh where
 id:Int
 owner:Int
 kind:Int
 pos:V3
 vel:V3
 fuse:Int
 rest:Bool
 deriving DecidableEq
structure Pt where
 p:Int
 q:Int
 deriving DecidableEq
structure Cm where
 seq:Int
 buttons:Int
 dx:Int
 dy:Int
 ticks:Int
 deriving DecidableEq
structure gQ where
 kind:Int
 player:Int
 cmd:Cm
 shot:Int
 ahead:Int
 dir:V3
 deriving DecidableEq
inductive aA where
 |bool |i64 |u64 |vec |pl |pt |sh |cm |wop
 deriving DecidableEq
def V3.sv (a:V3):List SV:=[.int .i64 a.x,.int .i64 a.y,.int .i64 a.z]
def Pl.sv (p:Pl):List SV:=[.int .i64 p.id,.int .i64 p.pos.x,.int .i64 p.pos.y,.int .i64 p.pos.z,.int .i64 p.vel.x,.int .i64 p.vel.y,.int .i64 p.vel.z,.bool p.ground,.int .i64 p.health,.int .i64 p.armour,.int .i64 p.score,.int .i64 p.a0,.int .i64 p.a1,.int .i64 p.wait,.int .i64 p.dead]
def Sh.sv (s:Sh):List SV:=[.int .i64 s.id,.int .i64 s.owner,.int .i64 s.kind,.int .i64 s.pos.x,.int .i64 s.pos.y,.int .i64 s.pos.z,.int .i64 s.vel.x,.int .i64 s.vel.y,.int .i64 s.vel.z,.int .i64 s.fuse,.bool s.rest]
def Pt.sv (s:Pt):List SV:=[.int .i64 s.p,.int .i64 s.q]
def Cm.sv (s:Cm):List SV:=[.int .u16 s.seq,.int .u8 s.buttons,.int .i8 s.dx,.int .i8 s.dy,.int .i64 s.ticks]
def gQ.sv (s:gQ):List SV:=[.int .i64 s.kind,.int .i64 s.player,.int .u16 s.cmd.seq,.int .u8 s.cmd.buttons,.int .i8 s.cmd.dx,.int .i8 s.cmd.dy,.int .i64 s.cmd.ticks,.int .i64 s.shot,.int .i64 s.ahead,.int .i64 s.dir.x,.int .i64 s.dir.y,.int .i64 s.dir.z]
def aA.T:aA→Type
 |.bool=>Bool
 |.i64=>Int
 |.u64=>Int
 |.vec=>V3
 |.pl=>Pl
 |.pt=>Pt
 |.sh=>Sh
 |.cm=>Cm
 |.wop=>gQ
def aA.st:aA→Nat
 |.bool=>1
 |.i64=>1
 |.u64=>1
 |.vec=>3
 |.pl=>15
 |.pt=>2
 |.sh=>11
 |.cm=>5
 |.wop=>12
def aA.enc:(k:aA)→k.T→List SV
 |.bool,b=>[.bool b]
 |.i64,n=>[.int .i64 n]
 |.u64,n=>[.int .u64 n]
 |.vec,a=>V3.sv a
 |.pl,p=>Pl.sv p
 |.pt,p=>Pt.sv p
 |.sh,p=>Sh.sv p
 |.cm,p=>Cm.sv p
 |.wop,p=>gQ.sv p
def aA.dflt:(k:aA)→k.T
 |.bool=>false
 |.i64=>(0:Int)
 |.u64=>(0:Int)
 |.vec=>⟨0,0,0⟩
 |.pl=>⟨0,⟨0,0,0⟩,⟨0,0,0⟩,false,0,0,0,0,0,0,0⟩
 |.pt=>⟨0,0⟩
 |.sh=>⟨0,0,0,⟨0,0,0⟩,⟨0,0,0⟩,0,false⟩
 |.cm=>⟨0,0,0,0,0⟩
 |.wop=>⟨0,0,⟨0,0,0,0,0⟩,0,0,⟨0,0,0⟩⟩
def T3:List SV→Option Bool
 |[.bool b]=>some b
 |_=>none
def QV (k:IntKind):List SV→Option Int
 |[.int k' n]=>bif decide (k'=k) then some n else none
 |_=>none
def sd:List SV→Option V3
 |[.int .i64 x,.int .i64 y,.int .i64 z]=>some ⟨x,y,z⟩
 |_=>none
def ZP:List SV→Option Pt
 |[.int .i64 x,.int .i64 y]=>some ⟨x,y⟩
 |_=>none
def ic:List SV→Option (List Int)
 |[]=>some []
 |.int .i64 n::xs=>match ic xs with |some l=>some (n::l)|none=>none
 |_=>none
def Jj:List SV→Option Pl
 |a0::a1::a2::a3::a4::a5::a6:: .bool g::rest=>match ic [a0,a1,a2,a3,a4,a5,a6],ic rest with
  |some [id,px,py,pz,vx,vy,vz],some [h,ar,sc,m0,m1,wt,dd]=>some ⟨id,⟨px,py,pz⟩,⟨vx,vy,vz⟩,g,h,ar,sc,m0,m1,wt,dd⟩
  |_,_=>none
 |_=>none
def JQ:List SV→Option Sh
 |[a0,a1,a2,a3,a4,a5,a6,a7,a8,a9,.bool g]=>match ic [a0,a1,a2,a3,a4,a5,a6,a7,a8,a9] with
  |some [id,ow,kd,px,py,pz,vx,vy,vz,fu]=>some ⟨id,ow,kd,⟨px,py,pz⟩,⟨vx,vy,vz⟩,fu,g⟩
  |_=>none
 |_=>none
def aA.dec:(k:aA)→List SV→Option k.T
 |.bool,l=>T3 l
 |.i64,l=>QV .i64 l
 |.u64,l=>QV .u64 l
 |.vec,l=>sd l
 |.pl,l=>Jj l
 |.pt,l=>ZP l
 |.sh,l=>JQ l
 |.cm,_=>none
 |.wop,_=>none
theorem m9:∀{xs:List SV} {l:List Int},ic xs=some l→xs=l.map (.int .i64 ·)
 |[],l,h=>by simp [ic] at h;simp [←h]
 | .int .i64 n::xs,l,h=>by
  simp only [ic] at h
  split at h
  · rename_i l' hl
    cases h
    simp [m9 hl]
  · cases h
 |.int .i8 _::_,_,h=>by simp [ic] at h
 |.int .i16 _::_,_,h=>by simp [ic] at h
 |.int .i32 _::_,_,h=>by simp [ic] at h
 |.int .u8 _::_,_,h=>by simp [ic] at h
 |.int .u16 _::_,_,h=>by simp [ic] at h
 |.int .u32 _::_,_,h=>by simp [ic] at h
 |.int .u64 _::_,_,h=>by simp [ic] at h
 |.top::_,_,h=>by simp [ic] at h
 |.unk::_,_,h=>by simp [ic] at h
 |.bool _::_,_,h=>by simp [ic] at h
 |.ptr .. ::_,_,h=>by simp [ic] at h
 |.nilp::_,_,h=>by simp [ic] at h
 |.slice .. ::_,_,h=>by simp [ic] at h
 |.nils::_,_,h=>by simp [ic] at h
 |.agg _::_,_,h=>by simp [ic] at h
 |.tuple _::_,_,h=>by simp [ic] at h
 |.fn .. ::_,_,h=>by simp [ic] at h
theorem aA.enc_dec {k:aA} {l:List SV} {x:k.T} (h:k.dec l=some x):k.enc x=l:=by
 cases k with
 |bool=>simp only [aA.dec] at h;unfold T3 at h;split at h<;>first |(cases h;rfl)|cases h
 | i64=>
  simp only [aA.dec] at h;unfold QV at h;split at h
  · rename_i k' n
    by_cases hk:k'=.i64
    · subst hk;simp at h;cases h;rfl
    · simp [hk] at h
  · cases h
 | u64=>
  simp only [aA.dec] at h;unfold QV at h;split at h
  · rename_i k' n
    by_cases hk:k'=.u64
    · subst hk;simp at h;cases h;rfl
    · simp [hk] at h
  · cases h
 |vec=>simp only [aA.dec] at h;unfold sd at h;split at h<;>first |(cases h;rfl)|cases h
 |pt=>simp only [aA.dec] at h;unfold ZP at h;split at h<;>first |(cases h;rfl)|cases h
 | pl =>
  simp only [aA.dec] at h;unfold Jj at h;split at h
  · split at h
    · rename_i h1 h2
      cases h
      have e1:=m9 h1
      have e2:=m9 h2
      simp at e1
      obtain ⟨rfl,rfl,rfl,rfl,rfl,rfl,rfl⟩:=e1
      subst e2
      rfl
    · cases h
  · cases h
 | sh =>
  simp only [aA.dec] at h;unfold JQ at h;split at h
  · split at h
    · rename_i h1
      cases h
      have e1:=m9 h1
      simp at e1
      obtain ⟨rfl,rfl,rfl,rfl,rfl,rfl,rfl,rfl,rfl,rfl⟩:=e1
      rfl
    · cases h
  · cases h
 |cm=>simp [aA.dec] at h
 |wop=>simp [aA.dec] at h
theorem aA.enc_len (k:aA) (x:k.T):(k.enc x).length=k.st:=by cases k<;>rfl
def bK:SV→Value
 |.int k n=>.int k n
 |.bool b=>.bool b
 |_=>undef
def SV.isDat:SV→Bool
 |.int .. =>true
 |.bool _=>true
 |_=>false
theorem aA.enc_dat (k:aA) (x:k.T):∀s∈k.enc x,s.isDat=true:=by
 cases k<;>simp [aA.enc,V3.sv,Pl.sv,Pt.sv,Sh.sv,Cm.sv,gQ.sv,SV.isDat]
theorem mo {ρ:aR} {s:SV} {v:Value} (hs:s.isDat=true):aE ρ s v↔v=bK s:=by
 cases s<;>simp_all [SV.isDat,aE,bK]
theorem Sl {s:SV} (hs:s.isDat=true):s.ids=[]:=by cases s<;>simp_all [SV.isDat,SV.ids]
structure PL where
 p:Pl
 left:Int
structure WS where
 w:Int
 d:Int
 h:Int
 cells:List Bool
 spawns:List V3
 now:Int
 ps:List PL
 shots:List Sh
 given:Int
 fired:Int
inductive Row where
 |own (cells:List SV)
 |vec (ro:Bool) (k:aA) (xs:List k.T)
 |gone
 |pre (ro:Bool) (cells:List SV)
 |obj (s:WS)
def Row.live:Row→Bool
 |.gone=>false
 |.own _=>true
 |.vec ro _ xs=> !(ro&&xs.isEmpty)
 |.pre _ _=>true
 |.obj _=>false
def Row.isObj:Row→Bool
 |.obj _=>true
 |_=>false
def Row.idsR:Row→List Nat
 |.own cs=>SV.idsL cs
 |.pre _ cs=>SV.idsL cs
 |_=>[]
def bk (ρ:aR) (id:Nat):Row→World→Prop
 |.gone,_=>True
 |.obj _,_=>True
 |.pre ro cells,w=>∃(p:uc) (vs:List Value) (ty:TypeId),ρ id=some p∧p.base=0∧p.mine= !ro∧w.heap[p.b]? =some (.cells vs.toArray ty (0,0))∧(ro=false→vs.length=p.size)∧au ρ cells (vs.take cells.length)
 |.own cells,w=>∃(p:uc) (vs:List Value) (ty:TypeId),ρ id=some p∧p.base=0∧p.mine=true∧w.heap[p.b]? =some (.cells vs.toArray ty (0,0))∧au ρ cells vs
 | .vec ro k xs,w=>(ro=true∧xs=[])∨∃p:uc,ρ id=some p∧(ro=true→p.mine=false)∧(ro=false→p.mine=true∧p.base=0∧∃(vs:List Value) (ty:TypeId),w.heap[p.b]? =some (.cells vs.toArray ty (0,0))∧xs.length*k.st≤vs.length∧vs.length=p.size)∧
     ∀(i:Nat) (x:k.T),xs[i]? =some x→∀(j:Nat) (s:SV),(k.enc x)[j]? =some s→w.cell? ⟨p.b,p.base+i*k.st+j,none⟩=some (bK s)
def gK (ρ:aR) (w:World):Prop:=∀i p,ρ i=some p→p.b<w.heap.size
structure um (may:Nat→Prop) (w w':World):Prop where
 os:w'.os=w.os
 tape:w'.tape=w.tape
 output:w'.output=w.output
 size:w.heap.size≤w'.heap.size
 block:∀b,b<w.heap.size→ ¬ may b→w'.heap[b]? =w.heap[b]?
theorem um.refl (may:Nat→Prop) (w:World):um may w w:=⟨rfl,rfl,rfl,Nat.le_refl _,fun _ _ _=>rfl⟩
theorem um.trans {may may':Nat→Prop} {a b c:World} (h:um may a b) (k:um may' b c) (hm:∀x,x<a.heap.size→may' x→may x):um may a c:=
 ⟨k.os.trans h.os,k.tape.trans h.tape,k.output.trans h.output,Nat.le_trans h.size k.size,fun x hx hn=>
  (k.block x (Nat.lt_of_lt_of_le hx h.size) (fun hk=>hn (hm x hx hk))).trans (h.block x hx hn)⟩
theorem um.weaken {may may':Nat→Prop} {a b:World} (h:um may a b) (hm:∀x,x<a.heap.size→may x→may' x):um may' a b:=
 ⟨h.os,h.tape,h.output,h.size,fun x hx hn=>h.block x hx (fun hk=>hn (hm x hx hk))⟩
theorem bk.keep {ρ ρ':aR} {id:Nat} {row:Row} {w w':World} (h:bk ρ id row w) (hle:ρ.le ρ') (hb:∀p,ρ id=some p→w'.heap[p.b]? =w.heap[p.b]?):bk ρ' id row w':=by
 cases row with
 |gone=>trivial
 |obj _=>trivial
 |pre ro cells=>
  obtain ⟨p,vs,ty,hp,h0,hm,hg,hs,hr⟩:=h
  exact ⟨p,vs,ty,hle _ _ hp,h0,hm,(hb p hp).trans hg,hs,au.mono hle _ _ hr⟩
 |own cells=>
  obtain ⟨p,vs,ty,hp,h0,hm,hg,hr⟩:=h
  exact ⟨p,vs,ty,hle _ _ hp,h0,hm,(hb p hp).trans hg,au.mono hle _ _ hr⟩
 | vec ro k xs=>
  rcases h with h |⟨p,hp,hro',hown,hcells⟩
  · exact .inl h
  refine .inr ⟨p,hle _ _ hp,hro',fun hro=>?_,fun i x hx j s hs=>?_⟩
  · obtain ⟨h1,h2,vs,ty,hg,hl⟩:=hown hro
    exact ⟨h1,h2,vs,ty,(hb p hp).trans hg,hl⟩
  · rw [←hcells i x hx j s hs]
    exact World.cell?_of_block (w:=w) (hb p hp)
theorem bk.only {ρ ρ':aR} {id:Nat} {row:Row} {w:World} (h:bk ρ id row w) (h0:∀p,ρ id=some p→ρ' id=some p) (hr:∀i∈row.idsR,∀p,ρ i=some p→ρ' i=some p):bk ρ' id row w:=by
 cases row with
 |gone=>trivial
 |obj _=>trivial
 |pre ro cells=>
  obtain ⟨p,vs,ty,hp,hb,hm,hg,hs,hc⟩:=h
  exact ⟨p,vs,ty,h0 _ hp,hb,hm,hg,hs,au.only _ _ hr hc⟩
 |own cells=>
  obtain ⟨p,vs,ty,hp,hb,hm,hg,hc⟩:=h
  exact ⟨p,vs,ty,h0 _ hp,hb,hm,hg,au.only _ _ hr hc⟩
 |vec ro k xs=>
  rcases h with h |⟨p,hp,hro',hown,hcells⟩
  · exact .inl h
  exact .inr ⟨p,h0 _ hp,hro',hown,hcells⟩
inductive TD where
 |int (k:IntKind)
 |bool
 |ptr (e:Nat)
 |slice (e:Nat)
 |array (n e:Nat)
 |struct (fs:List (Nat×Nat))
 |other
def TD.isAgg:TD→Bool
 |.array .. =>true
 |.struct _=>true
 |_=>false
structure TI where
 td:TD
 size:Nat
 zero:List SV
 bytes:Nat
 knd:Option aA:=none
 eq:Bool:=false
def XU:SV→SV→SV→Option Bool
 |.int k _,.int k1 a,.int k2 b=>bif decide (k1=k)&&decide (k2=k) then some (a==b) else none
 |.bool _,.bool a,.bool b=>some (a==b)
 |_,_,_=>none
def oF:List SV→List SV→List SV→Option Bool
 |[],[],[]=>some true
 |z::zs,x::xs,y::ys=>match XU z x y,oF zs xs ys with
  |some a,some b=>some (a&&b)
  |_,_=>none
 |_,_,_=>none
structure bl (P:Program) (t:Nat) (ti:TI):Prop where
 size:(P.info? t).map (·.size)=some ti.size
 bytes:(P.info? t).map (·.bytes)=some ti.bytes
 td:match ti.td with
  |.int k=>P.underlying t=some (.int k)
  |.bool=>P.underlying t=some .bool
  |.ptr e=>P.underlying t=some (.pointer e)
  |.slice e=>P.underlying t=some (.slice e)
  |.array n e=>P.underlying t=some (.array n e)
  |.struct fs=>∃fields:Array Field,P.underlying t=some (.struct fields)∧fields.toList.map (fun f=>(f.offset,f.type))=fs
  |.other=>∃d,P.underlying t=some d∧(match d with |.struct _|.array _ _=>true |_=>false)=false
 zero:∃z:Value,(P.info? t).bind (·.zero)=some z∧au (fun _=>none) ti.zero z.cells.toList
 eq:ti.eq=true→P.eqGuardType P.depth t=false∧∀(xs ys:List SV) (r:Bool),oF ti.zero xs ys=some r→
  ∀w,(Op.equalIn 10000 t (.agg (xs.map bK).toArray) (.agg (ys.map bK).toArray)).run P w=.ok r w
structure aL where
 ok:Bool:=true
 val:SV
 rd:List Nat:=[]
 wr:List (Nat×Row):=[]
 nw:List Row:=[]
 obj:Bool:=false
structure bS where
 T:Nat→Option TI
 fn:Nat→Option Func
 call:Nat→List SV→List Row→Option aL
 ro:Nat→Bool:=fun _=>false
 z:Bool:=false
def gY (ρ:aR) (pres:Nat→Prop):Prop:=∀i j p q,pres i→pres j→i≠j→ρ i=some p→ρ j=some q→(p.mine||q.mine)=true→p.b≠q.b
def dg (pres:Nat→Prop) (n:Nat) (e:aL) (i:Nat):Prop:=(pres i∧∀x∈e.wr,x.1=i→x.2.live=true)∨((n≤i∧i<n+e.nw.length)∧∀row,e.nw[i - n]? =some row→row.live=true)
structure cv (ρ:aR) (pres:Nat→Prop) (n:Nat) (e:aL) (w:World) (v:Value) (ρ':aR) (w':World):Prop where
 le:ρ.le ρ'
 good:gK ρ' w'
 dom:∀i p,ρ' i=some p→ρ i=some p∨(n≤i∧i<n+e.nw.length)
 new:∀i p,n≤i→i<n+e.nw.length→ρ' i=some p→w.heap.size≤p.b∨∃j q,pres j∧(∃row,(j,row)∈e.wr)∧ρ j=some q∧q.mine=true∧q.b=p.b
 apart:gY ρ' (dg pres n e)
 val:aE ρ' e.val v
 wr:∀x∈e.wr,bk ρ' x.1 x.2 w'
 nw:∀j row,e.nw[j]? =some row→bk ρ' (n+j) row w'
 frm:um (fun b=>∃x∈e.wr,∃p,ρ x.1=some p∧p.mine=true∧p.b=b) w w'
def aN (P:Program) (f:Nat) (args:List SV) (m:Nat→Option Row) (n:Nat) (e:aL):Prop:=
 ∀(ρ:aR) (pres:Nat→Prop) (vargs:List Value) (w:World),au ρ args vargs→gK ρ w→gY ρ pres→
  (∀id∈e.rd,∀row,m id=some row→bk ρ id row w∧(row.live=true→pres id))→(∀j,n≤j→j<n+e.nw.length→ρ j=none∧ ¬ pres j)→
  Calls P f vargs.toArray w fun en w'=>∃v ρ',en=.returned v∧cv ρ pres n e w v ρ' w'
abbrev jM:=Nat→Option Row
def iB (m:jM):List (Nat×Row)→jM
 |[]=>m
 |(j,s)::l=>iB (fun i=>if i=j∧(m i).isSome=true then some s else m i) l
def iD (m:jM) (n:Nat) (nw:List Row):jM:=fun j=>if n≤j∧j<n+nw.length then nw[j - n]? else m j
def bq (m:jM) (i:Nat):Prop:=∃row,m i=some row∧row.live=true
def fZ (ρ:aR) (m:jM) (b:Nat):Prop:=∃i p,bq m i∧ρ i=some p∧p.mine=true∧p.b=b
structure bp where
 cc:Nat
 sc:Nat
 pc:Option Nat
 hc:Option Nat
def PL.sv (p:PL):List SV:=p.p.sv++[.int .i64 p.left]
def jt (k:Nat):Nat→List SV
 |0=>[]
 |n+1=>.ptr k 0 0 0::jt (k+1) n
def WS.cellsS (s:WS) (l:bp):List SV:=[.int .i64 s.w,.int .i64 s.d,.int .i64 s.h,.slice 1 1 0 s.cells.length (some l.cc),.slice 2 3 0 s.spawns.length (some l.sc),.int .i64 s.now,
 (match l.pc with |none=>.nils |some c=>.slice 3 1 0 s.ps.length (some c)),(match l.hc with |none=>.nils |some c=>.slice 4 11 0 s.shots.length (some c)),.int .i64 s.given,.int .i64 s.fired]
def WS.rows (s:WS) (l:bp):List Row:=.own (s.cellsS l):: .vec false .bool s.cells:: .vec false .vec s.spawns::
 (match l.pc with |none=>.gone |some _=>.pre false (jt 5 s.ps.length))::(match l.hc with |none=>.gone |some _=>.vec false .sh s.shots)::s.ps.map fun p=>.own p.sv
structure Pm (ρ:aR) (l:bp) (s:WS) (w:World):Prop where
 rows:∀i row,(s.rows l)[i]? =some row→bk ρ i row w
 good:gK ρ w
 apart:gY ρ (bq fun i=>(s.rows l)[i]?)
 free:∀i,(s.rows l).length≤i→ρ i=none
 pc:l.pc=none→ρ 3=none∧s.ps=[]
 hc:l.hc=none→ρ 4=none∧s.shots=[]
 few:s.ps.length≤8
def IK (w:World) (b:Nat) (s:WS):Prop:=∃ρ l p,Pm ρ l s w∧ρ 0=some p∧p.b=b
def ui (w:World) (b j:Nat):Option (Nat×Nat):=match w.cell? ⟨b,j,none⟩ with
 |some (.slice (some a) n _)=>some (a.block,n)
 |_=>none
def Uz (w:World) (b j:Nat):Option Nat:=match w.cell? ⟨b,j,none⟩ with
 |some (.pointer (some a))=>some a.block
 |_=>none
def c6 (w:World) (b x:Nat):Prop:=x=b∨(∃j n,(j=3∨j=4∨j=6∨j=7)∧ui w b j=some (x,n))∨∃y n k,ui w b 6=some (y,n)∧k<n∧Uz w y k=some x
structure zG (ρ:aR) (m:jM) (w:World):Prop where
 is:∀i s,m i=some (.obj s)→∃p,ρ i=some p∧p.base=0∧p.mine=true∧IK w p.b s
 out:∀i s p,m i=some (.obj s)→ρ i=some p→∀x,c6 w p.b x→∀j q,bq m j→ρ j=some q→q.b≠x
 two:∀i j s t p q,m i=some (.obj s)→m j=some (.obj t)→i≠j→ρ i=some p→ρ j=some q→∀x,c6 w p.b x→ ¬ c6 w q.b x
def CS (ρ:aR) (m:jM) (w:World) (b:Nat):Prop:=fZ ρ m b∨∃i s p,m i=some (.obj s)∧ρ i=some p∧c6 w p.b b
structure dE (ρ:aR) (m:jM) (w:World) (ρ':aR) (m':jM) (w':World):Prop where
 le:ρ.le ρ'
 keep:∀i,m' i=none→m i=none
 live:∀i,bq m' i→bq m i∨m i=none
 dom:∀i p,ρ' i=some p→ρ i=some p∨m i=none
 new:∀i p,m i=none→ρ' i=some p→w.heap.size≤p.b∨CS ρ m w p.b
 frm:um (CS ρ m w) w w'
 foot:∀i s p,m' i=some (.obj s)→ρ' i=some p→∀x,c6 w' p.b x→w.heap.size≤x∨CS ρ m w x
structure rP (ρ:aR) (m:jM) (w:World):Prop where
 good:gK ρ w
 rows:∀i row,m i=some row→bk ρ i row w
 apart:gY ρ (bq m)
 free:∀i,m i=none→ρ i=none
 obj:zG ρ m w
def dp (P:Program) (f:Nat) (args:List SV) (m:jM) (n:Nat) (e:aL):Prop:=
 ∀(ρ:aR) (m1:jM) (vargs:List Value) (w:World),(∀i∈e.rd,m1 i=m i)→(∀x∈e.wr,m1 x.1=m x.1)→(∀j,n≤j→j<n+e.nw.length→m1 j=none)→au ρ args vargs→rP ρ m1 w→
  Calls P f vargs.toArray w fun en w'=>∃v ρ',en=.returned v∧aE ρ' e.val v∧rP ρ' (iD (iB m1 e.wr) n e.nw) w'∧dE ρ m1 w ρ' (iD (iB m1 e.wr) n e.nw) w'
def As (P:Program) (f:Nat) (args:List SV) (e:aL):Prop:=e.obj=false∧e.rd=[]∧e.wr=[]∧e.nw=[]∧
 ∀(ρ:aR) (vargs:List Value) (w:World),au ρ args vargs→∃v,aE ρ e.val v∧(callFunc f vargs.toArray).run P w=.ok (.value v) w
structure bV (P:Program) (X:bS):Prop where
 mixed:P.follows .mixedOrders=true
 T:∀t ti,X.T t=some ti→bl P t ti
 fn:∀f fn,X.fn f=some fn→P.funcs[f]? =some fn∧(fn.name== "runtime.NumGoroutine" ||fn.body.isNone)=false
 call:∀f args rows e,X.call f args rows=some e→e.ok=true→As P f args e∨((bif e.obj then dp P f args (rows[·]?) rows.length e else aN P f args (rows[·]?) rows.length e)∧(∃fn,P.funcs[f]? =some fn∧(fn.name== "runtime.NumGoroutine" ||fn.body.isNone)=false))
def mJ (P:Program) (o:Oper) (ev:Operand→SV) (m:Nat→Option Row) (n:Nat) (e:aL):Prop:=
 ∀(ρ:aR) (pres:Nat→Prop) (a:Act) (w:World),(∀x∈o.op.operands,aE ρ (ev x) (a.eval x))→gK ρ w→gY ρ pres→
  (∀id∈e.rd,∀row,m id=some row→bk ρ id row w∧(row.live=true→pres id))→(∀j,n≤j→j<n+e.nw.length→ρ j=none∧ ¬ pres j)→
  ∀(K:Act→World→Prop) (Q:Exit→Act→World→Prop),(∀v ρ' w',cv ρ pres n e w v ρ' w'→K (a.put o.dst v) w')→o.wp P a w K Q
def Fr (P:Program) (o:Oper) (ev:Operand→SV) (m:jM) (n:Nat) (e:aL):Prop:=
 ∀(ρ:aR) (m1:jM) (a:Act) (w:World),(∀x∈o.op.operands,aE ρ (ev x) (a.eval x))→(∀i∈e.rd,m1 i=m i)→(∀x∈e.wr,m1 x.1=m x.1)→(∀j,n≤j→j<n+e.nw.length→m1 j=none)→rP ρ m1 w→
  ∀(K:Act→World→Prop) (Q:Exit→Act→World→Prop),(∀v ρ' w',aE ρ' e.val v→rP ρ' (iD (iB m1 e.wr) n e.nw) w'→dE ρ m1 w ρ' (iD (iB m1 e.wr) n e.nw) w'→K (a.put o.dst v) w')→o.wp P a w K Q
def SV.cells:SV→Option (List SV)
 |.agg xs=>some xs
 |.top=>none
 |.tuple _=>none
 |v=>some [v]
theorem SV.cells_rel {ρ:aR} {s:SV} {v:Value} {cs:List SV} (h:aE ρ s v) (hc:s.cells=some cs):au ρ cs v.cells.toList:=by
 cases s<;>simp only [SV.cells,Option.some.injEq,reduceCtorEq] at hc<;>subst hc
 case agg xs=>
  simp only [aE] at h
  obtain ⟨vs,rfl,hr⟩:=h
  simpa [Value.cells] using hr
 all_goals
  have h0:=h
  simp only [aE] at h
 case unk=>rw [h.2];simp only [aa,ai,aE];exact ⟨h,trivial⟩
 case int=>subst h;simp [Value.cells,aa,ai,aE]
 case bool=>subst h;simp [Value.cells,aa,ai,aE]
 case nilp=>subst h;simp [Value.cells,aa,ai,aE]
 case nils=>subst h;simp [Value.cells,aa,ai,aE]
 case ptr=>
  obtain ⟨p,hp,rfl⟩:=h
  simp only [Value.cells,aa,ai]
  exact ⟨h0,trivial⟩
 case slice=>
  rcases h with ⟨p,o,c,hp,rfl,_⟩|⟨_,_,_,_,rfl⟩
  · simp only [Value.cells,aa,ai]
    exact ⟨h0,trivial⟩
  · simp only [Value.cells,aa,ai]
    exact ⟨h0,trivial⟩
 case fn=>
  obtain ⟨vs,rfl,_⟩:=h
  simp only [Value.cells,aa,ai]
  exact ⟨h0,trivial⟩
def SV.one:SV→Bool
 |.agg _=>false
 |.tuple _=>false
 |.top=>false
 |_=>true
theorem SV.one_rel {ρ:aR} {s:SV} {v:Value} (h:aE ρ s v) (h1:s.one=true):v.oneCell'=true:=by
 cases s<;>simp only [SV.one,reduceCtorEq] at h1<;>simp only [aE] at h
 case unk=>exact h.1
 case int=>subst h;rfl
 case bool=>subst h;rfl
 case nilp=>subst h;rfl
 case nils=>subst h;rfl
 case ptr=>obtain ⟨p,_,rfl⟩:=h;rfl
 case slice=>rcases h with ⟨p,o,c,_,rfl,_⟩|⟨_,_,_,_,rfl⟩<;>rfl
 case fn=>obtain ⟨vs,rfl,_⟩:=h;rfl
theorem au.ones {ρ:aR}:∀{xs:List SV} {vs:List Value},au ρ xs vs→xs.all SV.one=true→vs.all (·.oneCell')=true
 |[],vs,h,_=>by simp [au] at h;simp [h]
 |x::xs,[],h,_=>by simp [au] at h
 |x::xs,v::vs,h,h1=>by
  rw [aa] at h
  simp only [List.all_cons,Bool.and_eq_true] at h1 ⊢
  exact ⟨SV.one_rel h.1 h1.1,h.2.ones h1.2⟩
def mK (cs:List SV) (i:Nat):List SV→List SV
 |[]=>cs
 |v::vs=>mK (cs.set i v) (i+1) vs
theorem ou {ρ:aR}:∀{xs:List SV} {us:List Value},au ρ xs us→∀{cs:List SV} {vs:Array Value} (i:Nat),au ρ cs vs.toList→au ρ (mK cs i xs) (cP vs i us).toList
 |[],us,h,cs,vs,i,hc=>by simp [au] at h;subst h;simpa [mK,cP] using hc
 |x::xs,[],h,_,_,_,_=>by simp [au] at h
 |x::xs,u::us,h,cs,vs,i,hc=>by
  rw [aa] at h
  simp only [mK,cP]
  refine ou h.2 (i+1) ?_
  simpa using hc.set h.1 i
def kO (place:Nat→Option (Nat×Nat)) (cells:List SV):List (Nat×SV)→Option (List SV)
 |[]=>some cells
 |(i,v)::rest=>match place i,v.cells with
  |some (off,size),some vc=>bif Nat.beq vc.length size&&Nat.ble (off+size) cells.length then kO place (mK cells off vc) rest else none
  |_,_=>none
theorem vJ (off:Nat):∀(us:List Value) (j:Nat) (vs:Array Value),(us.zipIdx j).foldl (fun cs (x:Value×Nat)=>cs.setIfInBounds (off+x.2) x.1) vs=cP vs (off+j) us
 |[],j,vs=>rfl
 |u::us,j,vs=>by
  simp only [List.zipIdx_cons,List.foldl_cons,cP]
  exact vJ off us (j+1) _
theorem jE {ρ:aR} (place:Nat→Option (Nat×Nat)):∀(parts:List (Nat×SV)) (vparts:List (Nat×Value)),parts.map (·.1)=vparts.map (·.1)→au ρ (parts.map (·.2)) (vparts.map (·.2))→
    ∀(cs:List SV) (vs:Array Value),au ρ cs vs.toList→∀out,kO place cs parts=some out→∃us,Instr.fill place vs vparts=some us∧au ρ out us.toList
 |[],[],_,_,cs,vs,hc,out,h=>by
  simp only [kO,Option.some.injEq] at h
  subst h
  exact ⟨vs,rfl,hc⟩
 |[],_::_,h,_,_,_,_,_,_=>by simp at h
 |_::_,[],h,_,_,_,_,_,_=>by simp at h
 | (i,v)::parts,(i',u)::vparts,hi,hr,cs,vs,hc,out,h=>by
  simp only [List.map_cons,List.cons.injEq] at hi
  obtain ⟨rfl,hi⟩:=hi
  simp only [List.map_cons,aa] at hr
  simp only [kO] at h
  cases hp:place i with
  |none=>simp [hp] at h
  | some os=>
   obtain ⟨off,size⟩:=os
   cases hv:v.cells with
   |none=>simp [hp,hv] at h
   | some vc=>
    simp only [hp,hv] at h
    cases hb:Nat.beq vc.length size&&Nat.ble (off+size) cs.length with
    |false=>simp [hb] at h
    |true=>
     simp only [hb,cond_true] at h
     rw [Bool.and_eq_true] at hb
     have hb1:=Nat.eq_of_beq_eq_true hb.1
     have hb2:=Nat.le_of_ble_eq_true hb.2
     have hvc:=SV.cells_rel hr.1 hv
     have hl:=hvc.length
     have hcl:=hc.length
     simp only [Array.length_toList] at hl hcl
     obtain ⟨us,h1,h2⟩:=jE place parts vparts hi hr.2 _ _ (ou hvc off hc) out h
     refine ⟨us,?_,h2⟩
     rw [Instr.fill,hp]
     simp only
     rw [if_neg (by simp;omega)]
     rw [←h1]
     congr 1
     have:=vJ off u.cells.toList 0 vs
     rw [←Array.foldl_toList]
     simpa using this
def xU:Value→SV
 |.int k n=>.int k n
 |.bool b=>.bool b
 |.pointer none=>.nilp
 |.slice none 0 0=>.nils
 |_=>.top
def ofValue:Value→SV
 |.int k n=>.int k n
 |.bool b=>.bool b
 |.pointer none=>.nilp
 |.slice none 0 0=>.nils
 |.func (.func f) ⟨[]⟩ ⟨[]⟩=>.fn f []
 |.tuple ⟨[]⟩=>.tuple []
 |.agg ⟨cs⟩=>.agg (cs.map xU)
 |_=>.top
theorem CH (ρ:aR) (v:Value):aE ρ (xU v) v:=by
 unfold xU
 split<;>simp [aE]
theorem qq (ρ:aR):∀vs:List Value,au ρ (vs.map xU) vs
 |[]=>by simp [au]
 |v::vs=>by simp only [List.map_cons,aa];exact ⟨CH ρ v,qq ρ vs⟩
theorem zV (ρ:aR) (v:Value):aE ρ (ofValue v) v:=by
 unfold ofValue
 split<;>simp [aE,au]
 exact qq ρ _
def wi (op:BinOp) (k:IntKind) (x y:Int):Option Int:=
 match op with
 |.and=>some (k.wrap ((BitVec.ofInt k.bits x&&&BitVec.ofInt k.bits y).toNat:Int))
 |.or=>some (k.wrap ((BitVec.ofInt k.bits x|||BitVec.ofInt k.bits y).toNat:Int))
 |.xor=>some (k.wrap ((BitVec.ofInt k.bits x ^^^ BitVec.ofInt k.bits y).toNat:Int))
 |.andNot=>some (k.wrap ((BitVec.ofInt k.bits x&&& ~~~(BitVec.ofInt k.bits y)).toNat:Int))
 |_=>none
def EJ (op:BinOp) (k:IntKind) (x y:Int):Option (Bool×SV):=
 match op with
 |.add=>some (true,.int k (k.wrap (x+y)))
 |.sub=>some (true,.int k (k.wrap (x - y)))
 |.mul=>some (true,.int k (k.wrap (x*y)))
 |.quo=>some (!decide (y=0),.int k (k.wrap (x.tdiv y)))
 |.rem=>some (!decide (y=0),.int k (x.tmod y))
 |.eql=>some (true,.bool (x==y))
 |.neq=>some (true,.bool (x !=y))
 |.lss=>some (true,.bool (decide (x<y)))
 |.leq=>some (true,.bool (decide (x≤y)))
 |.gtr=>some (true,.bool (decide (x>y)))
 |.geq=>some (true,.bool (decide (x≥y)))
 |op=>match wi op k x y with
  |some n=>some (true,.int k n)
  |none=>none
def Wh (T:Nat→Option TI) (op:BinOp) (t:Nat) (x y:SV):Option (Bool×SV):=
 match op,x,y with
 |.shl,.int k a,.int _ b=>some (!decide (b<0),.int k (k.wrap (a*2 ^ (min b.toNat k.bits))))
 |.shr,.int k a,.int _ b=>some (!decide (b<0),.int k (a.fdiv (2 ^ (min b.toNat k.bits))))
 |op,.int k a,.int k' b=>bif decide (k=k') then EJ op k a b else none
 |.eql,.bool a,.bool b=>match T t with
  |some ⟨.bool,_,_,_,_,_⟩=>some (true,.bool (a==b))
  |_=>none
 |.neq,.bool a,.bool b=>match T t with
  |some ⟨.bool,_,_,_,_,_⟩=>some (true,.bool (!(a==b)))
  |_=>none
 |.eql,.agg a,.agg b=>match T t with
  |some ti=>bif ti.eq then (match oF ti.zero a b with |some r=>some (true,.bool r)|none=>none) else none
  |_=>none
 |.neq,.agg a,.agg b=>match T t with
  |some ti=>bif ti.eq then (match oF ti.zero a b with |some r=>some (true,.bool (!r))|none=>none) else none
  |_=>none
 |.eql,.ptr ..,.nilp=>match T t with
  |some ⟨.ptr _,_,_,_,_,_⟩=>some (true,.bool false)
  |_=>none
 |.eql,.nilp,.nilp=>match T t with
  |some ⟨.ptr _,_,_,_,_,_⟩=>some (true,.bool true)
  |_=>none
 |.neq,.ptr ..,.nilp=>match T t with
  |some ⟨.ptr _,_,_,_,_,_⟩=>some (true,.bool true)
  |_=>none
 |.neq,.nilp,.nilp=>match T t with
  |some ⟨.ptr _,_,_,_,_,_⟩=>some (true,.bool false)
  |_=>none
 |.eql,.nils,.nils=>match T t with
  |some ⟨.slice _,_,_,_,_,_⟩=>some (true,.bool true)
  |_=>none
 |.eql,.slice _ _ _ len cap,.nils=>match T t with
  |some ⟨.slice _,_,_,_,_,_⟩=>some (cap.isSome||Nat.blt 0 len,.bool false)
  |_=>none
 |_,_,_=>none
def Ze (op:UnOp) (x:SV):Option SV:=
 match op,x with
 |.neg,.int k n=>some (.int k (k.wrap (0 - n)))
 |.xor,.int k n=>match wi .xor k (if k.signed then -1 else k.max) n with
  |some m=>some (.int k m)
  |none=>none
 |.not,.bool b=>some (.bool !b)
 |_,_=>none
def mM (ti:TI) (cs:List SV) (off:Nat):Option SV:=
 bif ti.td.isAgg then (bif Nat.ble (off+ti.size) cs.length then some (.agg ((cs.drop off).take ti.size)) else none) else cs[off]?
def M2 (k:IntKind) (x:Int):List SV→Option Int
 |[]=>some x
 |.int k' y::l=>bif decide (k'=k) then M2 k (max x y) l else none
 |_=>none
def Lz (k:IntKind) (x:Int):List SV→Option Int
 |[]=>some x
 |.int k' y::l=>bif decide (k'=k) then Lz k (min x y) l else none
 |_=>none
def mA (T:Nat→Option TI):List (Nat×Nat)→Option (List (Nat×Nat))
 |[]=>some []
 |f::fs=>match T f.2,mA T fs with
  |some ti,some l=>some ((f.1,ti.size)::l)
  |_,_=>none
def dm (cap:Option Nat) (len:Nat):Nat:=match cap with
 |some c=>c
 |none=>len
def fO (st id off len:Nat) (cap:Option Nat) (lo hi:Option Int):Bool×SV:=
 match lo,hi with
 |none,none=>(true,.slice id st off len cap)
 |none,some h=>(decide (0≤h)&&decide (h≤((dm cap len:Nat):Int)),.slice id st off h.toNat cap)
 |some l,none=>(decide (0≤l)&&decide (l≤(len:Int)),.slice id st (off+l.toNat) (len - l.toNat) none)
 |some l,some h=>(decide (0≤h)&&decide (h≤((dm cap len:Nat):Int))&&(decide (0≤l)&&decide (l≤h)),.slice id st (off+l.toNat) (h.toNat - l.toNat) none)
def sl:Option SV→Option (Option Int)
 |none=>some none
 |some (.int _ n)=>some (some n)
 |_=>none
def kJ (T:Nat→Option TI) (ev:Operand→SV):Op→Option (Bool×SV)
 |.move x=>some (true,ev x)
 |.assign x=>some (true,ev x)
 |.nilCheck x=>match ev x with
  |.ptr id st i j=>some (true,.ptr id st i j)
  |.fn f cs=>some (true,.fn f cs)
  |_=>none
 | .pick c x y=>match ev c with
  |.bool b=>match ev x,ev y with
   |.bool u,.bool v=>some (true,.bool (bif b then u else v))
   |.tuple [],v=>some (!b,v)
   |u,.tuple []=>some (b,u)
   |.int k m,.int k' n=>bif decide (k=k') then some (true,.int k (bif b then m else n)) else none
   |_,_=>none
  |_=>none
 |.binOp op t x y _=>Wh T op t (ev x) (ev y)
 |.unOp op _ x=>match Ze op (ev x) with
  |some v=>some (true,v)
  |none=>none
 |.convert src dst x=>match T src,T dst,ev x with
  |some _,some ⟨.int k,_,_,_,_,_⟩,.int _ n=>some (true,.int k (k.wrap n))
  |_,_,_=>none
 |.makeFunc (.func f) first captured=>bif Nat.beq first.size 0 then some (true,.fn f (captured.toList.map ev)) else none
 | .extract x i=>match ev x with
  |.tuple vs=>match vs[i]? with
   |some v=>some (true,v)
   |none=>none
  |_=>none
 | .field t x f=>match T t,ev x with
  | some ⟨.struct fs,_,_,_,_,_⟩,.agg cs=>match fs[f]? with
   | some (off,ft)=>match T ft with
    |some ti=>match mM ti cs off with
     |some v=>some (true,v)
     |none=>none
    |none=>none
   |none=>none
  |_,_=>none
 | .index t x i=>match T t,ev x,ev i with
  | some ⟨.array n e,_,_,_,_,_⟩,.agg cs,.int _ k=>match T e with
   |some ti=>match mM ti cs (k.toNat*ti.size) with
    |some v=>some (decide (0≤k)&&decide (k<(n:Int)),v)
    |none=>none
   |none=>none
  |_,_,_=>none
 | .fieldAddr t x f=>match T t,ev x with
  | some ⟨.struct fs,_,_,_,_,_⟩,.ptr id st i j=>match fs[f]? with
   |some (off,ft)=>match T ft with
    |some ti=>bif Nat.beq ti.size 0 then none else some (true,.ptr id st i (j+off))
    |none=>none
   |none=>none
  |_,_=>none
 | .indexAddr t x i=>match T t,ev x,ev i with
  |some ⟨.slice e,_,_,_,_,_⟩,.slice id st off len _,.int _ k=>match T e with
   |some ti=>bif Nat.beq ti.size st then some (decide (0≤k)&&decide (k<(len:Int)),.ptr id st (off+k.toNat) 0) else none
   |none=>none
  |some ⟨.array n e,_,_,_,_,_⟩,.ptr id st i j,.int _ k=>match T e with
   |some ti=>some (decide (0≤k)&&decide (k<(n:Int)),.ptr id st i (j+k.toNat*ti.size))
   |none=>none
  |_,_,_=>none
 | .slice t x lo hi none=>match T t,ev x,sl (lo.map ev),sl (hi.map ev) with
  |some ⟨.slice e,_,_,_,_,_⟩,.slice id st off len cap,some l,some h=>match T e with
   |some ti=>bif Nat.beq ti.size st then some (fO st id off len cap l h) else none
   |none=>none
  |some ⟨.slice e,_,_,_,_,_⟩,.nils,some none,some h=>match T e with
   |some _=>(match h with |none=>some (true,.nils)|some h=>some (decide (h=0),.nils))
   |none=>none
  |_,_,_,_=>none
 | .build t parts=>match T t with
  | some ⟨.struct fs,_,zero,_,_,_⟩=>match mA T fs with
   |some places=>match kO (places[·]?) zero (parts.toList.map fun p=>(p.1,ev p.2)) with
    |some cs=>some (true,.agg cs)
    |none=>none
   |none=>none
  | some ⟨.array _ e,_,zero,_,_,_⟩=>match T e with
   |some ti=>match kO (fun i=>some (i*ti.size,ti.size)) zero (parts.toList.map fun p=>(p.1,ev p.2)) with
    |some cs=>some (true,.agg cs)
    |none=>none
   |none=>none
  |_=>none
 | .call ⟨.builtin .len,args,ts⟩=>match args.toList,ts.toList with
  |[x],[t]=>match T t,ev x with
   |some ⟨.slice _,_,_,_,_,_⟩,.slice _ _ _ len _=>some (true,.int .i64 (len:Int))
   |some ⟨.slice _,_,_,_,_,_⟩,.nils=>some (true,.int .i64 0)
   |some ⟨.array n _,_,_,_,_,_⟩,_=>some (true,.int .i64 (n:Int))
   |_,_=>none
  |_,_=>none
 | .call ⟨.builtin .max,args,_⟩=>match args.toList.map ev with
  |.int k x::l=>match M2 k x l with
   |some n=>some (true,.int k n)
   |none=>none
  |_=>none
 | .call ⟨.builtin .min,args,_⟩=>match args.toList.map ev with
  |.int k x::l=>match Lz k x l with
   |some n=>some (true,.int k n)
   |none=>none
  |_=>none
 |_=>none
section
variable {P:Program} {T:Nat→Option TI} {ρ:aR} {w:World}
theorem fC {r:Sem Value} {s:SV} (hs:s.isDat=true) (h:r.run P w=.ok (bK s) w):∃rv,r.run P w=.ok rv w∧aE ρ s rv:=⟨_,h,(mo hs).2 rfl⟩
theorem bl.sizeOf {t:Nat} {ti:TI} (h:bl P t ti) (w:World):(sizeOf t).run P w=.ok ti.size w:=jY h.size w
theorem bl.isAgg {t:Nat} {ti:TI} (h:bl P t ti) (w:World):(isAgg t).run P w=.ok ti.td.isAgg w:=by
 have htd:=h.td
 unfold Go.isAgg
 rw [Sem.run_bind]
 cases hq:ti.td<;>simp only [hq] at htd
 case struct fs=>
  obtain ⟨fields,hu,_⟩:=htd
  rw [run_underlying hu w]
  simp [TD.isAgg]
 case other=>
  obtain ⟨d,hu,hd⟩:=htd
  rw [run_underlying hu w]
  cases d<;>simp_all [TD.isAgg]
 all_goals
  rw [run_underlying htd w]
  simp [TD.isAgg]
theorem bl.some_desc {t:Nat} {ti:TI} (h:bl P t ti):∃d,P.underlying t=some d:=by
 have htd:=h.td
 cases hq:ti.td<;>simp only [hq] at htd
 case struct fs=>obtain ⟨fields,hu,_⟩:=htd;exact ⟨_,hu⟩
 case other=>obtain ⟨d,hu,_⟩:=htd;exact ⟨_,hu⟩
 all_goals exact ⟨_,htd⟩
theorem xQ {xs:List SV} {vs:List Value} (h:au ρ xs vs) (off n:Nat):au ρ ((xs.drop off).take n) ((vs.toArray.extract off (off+n)).toList):=by
 have:=(h.drop off).take n
 simpa [List.extract_eq_take_drop] using this
theorem A3 {t:Nat} {ti:TI} (ht:bl P t ti) {cs:List SV} {vs:List Value} (h:au ρ cs vs) {off:Nat} {v:SV} (hp:mM ti cs off=some v) (w:World):
    ∃rv,(part t vs.toArray off).run P w=.ok rv w∧aE ρ v rv:=by
 unfold mM at hp
 unfold part
 rw [Sem.run_bind,ht.isAgg]
 cases hq:ti.td.isAgg with
 | true=>
  simp only [hq,cond_true] at hp
  cases hb:Nat.ble (off+ti.size) cs.length with
  |false=>simp [hb] at hp
  |true=>
   simp only [hb,cond_true,Option.some.injEq] at hp
   subst hp
   refine ⟨.agg (vs.toArray.extract off (off+ti.size)),by simp [Sem.run_bind,ht.sizeOf],?_⟩
   simp only [aE]
   exact ⟨(vs.toArray.extract off (off+ti.size)).toList,by simp,xQ h off ti.size⟩
 |false=>
  simp only [hq,cond_false] at hp
  obtain ⟨u,hu,hr⟩:=h.get hp
  exact ⟨u,by simp [hu],hr⟩
theorem uX {op:BinOp} {k:IntKind} {x y n:Int} (h:wi op k x y=some n) (w:World):(Op.intBits op k x y).run P w=.ok (.int k n) w:=by
 unfold wi at h
 unfold Op.intBits
 cases op<;>simp_all
theorem IN {t:TypeId} {op:BinOp} {k:IntKind} {x y:Int} {ok:Bool} {v:SV} (h:EJ op k x y=some (ok,v)) (hok:ok=true) (hs:op≠ .shl∧op≠ .shr) (w:World):
    ∃rv,(binOp op t (.int k x) (.int k y)).run P w=.ok rv w∧aE ρ v rv:=by
 subst hok
 cases op<;>simp only [EJ] at h
 case shl=>exact absurd rfl hs.1
 case shr=>exact absurd rfl hs.2
 case quo=>
  simp only [Option.some.injEq,Prod.mk.injEq,Bool.not_eq_true',decide_eq_false_iff_not] at h
  obtain ⟨h0,rfl⟩:=h
  refine ⟨.int k (k.wrap (x.tdiv y)),?_,by simp [aE]⟩
  simp [binOp,Op.intDiv,h0]
 case rem=>
  simp only [Option.some.injEq,Prod.mk.injEq,Bool.not_eq_true',decide_eq_false_iff_not] at h
  obtain ⟨h0,rfl⟩:=h
  refine ⟨.int k (x.tmod y),?_,by simp [aE]⟩
  simp [binOp,Op.intDiv,h0]
 case and |or |xor |andNot=>
  split at h
  · rename_i n hn
    simp only [Option.some.injEq,Prod.mk.injEq,true_and] at h
    subst h
    exact ⟨.int k n,by simp [binOp,uX hn],by simp [aE]⟩
  · cases h
 all_goals
  simp only [Option.some.injEq,Prod.mk.injEq,true_and] at h
  subst h
  exact fC rfl (by simp [binOp,Op.intArith,Op.intCmp,bK])
theorem Sc {z x y:SV} {r:Bool} (h:XU z x y=some r):x.isDat=true∧y.isDat=true:=by
 unfold XU at h
 split at h<;>simp_all [SV.isDat]
theorem xu:∀{zs xs ys:List SV} {r:Bool},oF zs xs ys=some r→(∀s∈xs,s.isDat=true)∧(∀s∈ys,s.isDat=true)
 |[],[],[],_,_=>by simp
 | z ::zs,x::xs,y::ys,r,h=>by
  simp only [oF] at h
  cases hc:XU z x y with
  |none=>simp [hc] at h
  | some a=>
   cases hl:oF zs xs ys with
   |none=>simp [hc,hl] at h
   | some b=>
    have h1:=Sc hc
    have h2:=xu hl
    refine ⟨fun s hs=>?_,fun s hs=>?_⟩
    · rcases List.mem_cons.1 hs with rfl |hs
      · exact h1.1
      · exact h2.1 s hs
    · rcases List.mem_cons.1 hs with rfl |hs
      · exact h1.2
      · exact h2.2 s hs
 |[],[],_::_,_,h=>by simp [oF] at h
 |[],_::_,_,_,h=>by simp [oF] at h
 |_::_,[],_,_,h=>by simp [oF] at h
 |_::_,_::_,[],_,h=>by simp [oF] at h
theorem jI:∀{xs:List SV} {vs:List Value},au ρ xs vs→(∀s∈xs,s.isDat=true)→vs=xs.map bK
 |[],vs,h,_=>by simpa [au] using h
 |x::xs,[],h,_=>by simp [au] at h
 |x::xs,v::vs,h,hd=>by
  rw [aa] at h
  rw [(mo (hd x (by simp))).1 h.1,jI h.2 (fun s hs=>hd s (by simp [hs]))]
  rfl
def nU (op:BinOp) (t:TypeId) (x y:Operand) (u v:Value):Sem Value:=do eqGuard op t x y u v;binOp op t u v
theorem cw {op:BinOp} {t:TypeId} {x y:Operand} {u v:Value} {r:Result Value} (hn:(match u,v with |.nilIface,.nilIface=>true |.agg _,.agg _=>true |_,_=>false)=false)
    (h:(binOp op t u v).run P w=r):(nU op t x y u v).run P w=r:=by
 subst h
 have :(eqGuard op t x y u v).run P w=.ok () w:=by
  unfold eqGuard
  cases u<;>cases v<;>simp at hn<;>(cases op<;>simp [Sem.run_bind])
 unfold nU
 rw [Sem.run_bind,this]
 rfl
theorem ec (w:World) (d:Nat) {t e:TypeId} (hu:P.underlying t=some (.pointer e)) (a:Option Addr):(Op.equalIn (d+1) t (.pointer a) (.pointer none)).run P w=.ok a.isNone w:=by
 unfold Op.equalIn
 rw [Sem.run_bind,run_underlying hu]
 cases a<;>simp
theorem jm (w:World) (d:Nat) {t e:TypeId} (hu:P.underlying t=some (.slice e)) (a:Option Addr) (n c:Nat):(Op.equalIn (d+1) t (.slice a n c) (.slice none 0 0)).run P w=.ok a.isNone w:=by
 unfold Op.equalIn
 rw [Sem.run_bind,run_underlying hu]
 cases a<;>simp
theorem Qj (hT:∀t ti,T t=some ti→bl P t ti) {op:BinOp} {t:TypeId} {a b:SV} {ok:Bool} {v:SV} (h:Wh T op t a b=some (ok,v)) (hok:ok=true) {x y:Operand} {u u':Value}
    (ha:aE ρ a u) (hb:aE ρ b u') (w:World):∃rv,(nU op t x y u u').run P w=.ok rv w∧aE ρ v rv:=by
 subst hok
 unfold Wh at h
 split at h
 · -- shl
   simp only [aE] at ha hb
   subst ha hb
   simp only [Option.some.injEq,Prod.mk.injEq,Bool.not_eq_true',decide_eq_false_iff_not] at h
   obtain ⟨h0,rfl⟩:=h
   exact ⟨_,cw rfl (by simp only [binOp,Op.shift,if_neg h0];rfl),by simp [aE]⟩
 · simp only [aE] at ha hb
   subst ha hb
   simp only [Option.some.injEq,Prod.mk.injEq,Bool.not_eq_true',decide_eq_false_iff_not] at h
   obtain ⟨h0,rfl⟩:=h
   exact ⟨_,cw rfl (by simp only [binOp,Op.shift,if_neg h0];rfl),by simp [aE]⟩
 · rename_i k m k' n hs1 hs2
   simp only [aE] at ha hb
   subst ha hb
   by_cases hk:k=k'
   · subst hk
     simp only [decide_true,cond_true] at h
     obtain ⟨rv,h1,h2⟩:=IN (P:=P) (ρ:=ρ) (t:=t) h rfl ⟨hs1,hs2⟩ w
     exact ⟨rv,cw rfl h1,h2⟩
   · simp [hk] at h
 · simp only [aE] at ha hb
   subst ha hb
   split at h
   · rename_i hq
     have hu:=(hT _ _ hq).td
     simp only at hu
     simp only [Option.some.injEq,Prod.mk.injEq,true_and] at h
     subst h
     exact fC rfl (cw rfl (by simp [binOp,Op.equal,Op.maxDepth,run_equalIn_bool w _ t _ _ hu,bK]))
   · cases h
 · simp only [aE] at ha hb
   subst ha hb
   split at h
   · rename_i hq
     have hu:=(hT _ _ hq).td
     simp only at hu
     simp only [Option.some.injEq,Prod.mk.injEq,true_and] at h
     subst h
     exact fC rfl (cw rfl (by simp [binOp,Op.equal,Op.maxDepth,run_equalIn_bool w _ t _ _ hu,bK]))
   · cases h
 · simp only [aE] at ha hb
   obtain ⟨vs,rfl,hr1⟩:=ha
   obtain ⟨us,rfl,hr2⟩:=hb
   split at h
   · rename_i ti hq
     cases heq:ti.eq with
     |false=>simp [heq] at h
     | true=>
      simp only [heq,cond_true] at h
      split at h
      · rename_i r hr
        simp only [Option.some.injEq,Prod.mk.injEq,true_and] at h
        subst h
        obtain ⟨hm,hlaw⟩:=(hT _ _ hq).eq heq
        obtain ⟨d1,d2⟩:=xu hr
        obtain rfl:=jI hr1 d1
        obtain rfl:=jI hr2 d2
        exact ⟨.bool r,by unfold nU;simp [Sem.run_bind,run_eqGuard_agg w .eql t x y _ _ hm,run_eql_struct,hlaw _ _ _ hr],by simp [aE]⟩
      · cases h
   · cases h
 · simp only [aE] at ha hb
   obtain ⟨vs,rfl,hr1⟩:=ha
   obtain ⟨us,rfl,hr2⟩:=hb
   split at h
   · rename_i ti hq
     cases heq:ti.eq with
     |false=>simp [heq] at h
     | true=>
      simp only [heq,cond_true] at h
      split at h
      · rename_i r hr
        simp only [Option.some.injEq,Prod.mk.injEq,true_and] at h
        subst h
        obtain ⟨hm,hlaw⟩:=(hT _ _ hq).eq heq
        obtain ⟨d1,d2⟩:=xu hr
        obtain rfl:=jI hr1 d1
        obtain rfl:=jI hr2 d2
        exact ⟨.bool (!r),by unfold nU;simp [Sem.run_bind,run_eqGuard_agg w .neq t x y _ _ hm,run_neq_struct,hlaw _ _ _ hr],by simp [aE]⟩
      · cases h
   · cases h
 all_goals first
  |(cases h;done)
  | (simp only [aE] at ha hb
     split at h
     · rename_i hq
       have hu:=(hT _ _ hq).td
       simp only at hu
       simp only [Option.some.injEq,Prod.mk.injEq,true_and,Bool.or_eq_true,Nat.blt_eq] at h
       first
        |subst h
        |(obtain ⟨hsome,rfl⟩:=h)
       first
        | (have hn:=@ec P w 9999 t _ hu
           obtain ⟨p,_,rfl⟩:=ha
           subst hb
           exact fC rfl (cw rfl (by simp [binOp,Op.equal,Op.maxDepth,ec w 9999 hu,bK])))
        | (have hn:=@ec P w 9999 t _ hu
           subst ha hb
           exact fC rfl (cw rfl (by simp [binOp,Op.equal,Op.maxDepth,ec w 9999 hu,bK])))
        | (subst ha hb
           exact fC rfl (cw rfl (by simp [binOp,Op.equal,Op.maxDepth,jm w 9999 hu,bK])))
        | (subst hb
           obtain ⟨b,n,c,rfl⟩:∃(b:Addr) (n c:Nat),u=.slice (some b) n c:=by
            rcases ha with ⟨p,o,c,_,rfl,_⟩|⟨h1,h2,_⟩
            · exact ⟨_,_,_,rfl⟩
            · subst h1 h2
              rcases hsome with h |h
              · cases h
              · omega
           exact fC rfl (cw rfl (by simp [binOp,Op.equal,Op.maxDepth,jm w 9999 hu,bK])))
     · cases h)
theorem Wy {op:UnOp} {a:SV} {v:SV} (h:Ze op a=some v) {u:Value} (ha:aE ρ a u) (w:World):∃rv,(Op.unary op u).run P w=.ok rv w∧aE ρ v rv:=by
 unfold Ze at h
 split at h
 · simp only [aE] at ha
   subst ha
   cases h
   exact fC rfl (by simp [Op.unary,Op.intArith,bK])
 · simp only [aE] at ha
   subst ha
   split at h
   · rename_i hm
     cases h
     exact fC rfl (by simp [Op.unary,uX hm,bK])
   · cases h
 · simp only [aE] at ha
   subst ha
   cases h
   exact fC rfl (by simp [Op.unary,bK])
 · cases h
theorem G5 {k:IntKind} (w:World):∀{l:List SV} {x n:Int} {vs:List Value},au ρ l vs→M2 k x l=some n→(vs.foldlM Builtin.max2 (.int k x)).run P w=.ok (.int k n) w
 |[],x,n,vs,h,hm=>by
  simp [au] at h
  simp only [M2,Option.some.injEq] at hm
  simp [h,hm]
 |s::l,x,n,[],h,_=>by simp [au] at h
 | s::l,x,n,v::vs,h,hm=>by
  rw [aa] at h
  cases s<;>simp only [M2,reduceCtorEq] at hm
  rename_i k' y
  by_cases hk:k'=k
  · subst hk
    simp only [decide_true,cond_true] at hm
    have hv:=h.1
    simp only [aE] at hv
    subst hv
    have ih:=G5 w h.2 hm
    have e:max x y=if y>x then y else x:=by rw [Int.max_def];split<;>split<;>omega
    rw [List.foldlM_cons,Sem.run_bind]
    simp only [Builtin.max2,Sem.run_pure,Result.andThen_ok]
    rw [←e]
    exact ih
  · simp [hk] at hm
theorem GB {k:IntKind} (w:World):∀{l:List SV} {x n:Int} {vs:List Value},au ρ l vs→Lz k x l=some n→(vs.foldlM Builtin.min2 (.int k x)).run P w=.ok (.int k n) w
 |[],x,n,vs,h,hm=>by
  simp [au] at h
  simp only [Lz,Option.some.injEq] at hm
  simp [h,hm]
 |s::l,x,n,[],h,_=>by simp [au] at h
 | s::l,x,n,v::vs,h,hm=>by
  rw [aa] at h
  cases s<;>simp only [Lz,reduceCtorEq] at hm
  rename_i k' y
  by_cases hk:k'=k
  · subst hk
    simp only [decide_true,cond_true] at hm
    have hv:=h.1
    simp only [aE] at hv
    subst hv
    have ih:=GB w h.2 hm
    have e:min x y=if y<x then y else x:=by rw [Int.min_def];split<;>split<;>omega
    rw [List.foldlM_cons,Sem.run_bind]
    simp only [Builtin.min2,Sem.run_pure,Result.andThen_ok]
    rw [←e]
    exact ih
  · simp [hk] at hm
theorem wc (hT:∀t ti,T t=some ti→bl P t ti):∀(fields:List Field) (places:List (Nat×Nat)),mA T (fields.map fun f=>(f.offset,f.type))=some places→fields.mapM (fun f=>(P.info? f.type).map fun i=>(f.offset,i.size))=some places
 |[],places,h=>by simpa [mA] using h
 | f ::fields,places,h=>by
  simp only [mA,List.map_cons] at h
  cases hf:T f.type with
  |none=>simp [hf] at h
  | some ti=>
   have hs:=(hT _ _ hf).size
   cases hi:P.info? f.type with
   |none=>simp [hi] at hs
   | some i=>
    simp [hi] at hs
    cases hr:mA T (fields.map fun f=>(f.offset,f.type)) with
    |none=>simp [hf,hr] at h
    |some rest=>
     have ih:=wc hT fields rest hr
     simp only [hf,hr,Option.some.injEq] at h
     subst h
     simp [List.mapM_cons,hi,ih,hs]
theorem O7 (hT:∀t ti,T t=some ti→bl P t ti) {ev:Operand→SV} {a:Act} {t:TypeId} {parts:Array (Nat×Operand)} {ok:Bool} {v:SV} (h:kJ T ev (.build t parts)=some (ok,v))
    (hev:∀x∈parts.toList.map (·.2),aE ρ (ev x) (a.eval x)):∃cs us,v=.agg cs∧P.built t (parts.map fun (i,x)=>(i,a.eval x)).toList=some us∧au ρ cs us.toList:=by
 have hparts:∀l:List (Nat×Operand),(∀x∈l.map (·.2),aE ρ (ev x) (a.eval x))→(l.map fun p=>(p.1,ev p.2)).map (·.1)=(l.map fun p=>(p.1,a.eval p.2)).map (·.1)∧au ρ ((l.map fun p=>(p.1,ev p.2)).map (·.2)) ((l.map fun p=>(p.1,a.eval p.2)).map (·.2)):=by
  intro l
  induction l with
  |nil=>intro _;simp [au]
  |cons p l ih=>
   intro hl
   obtain ⟨h1,h2⟩:=ih (fun x hx=>hl x (by simp at hx ⊢;exact .inr hx))
   simp only [List.map_cons,aa]
   exact ⟨by simp,hl p.2 (by simp),h2⟩
 obtain ⟨hp1,hp2⟩:=hparts parts.toList hev
 have hlist:(parts.map fun (i,x)=>(i,a.eval x)).toList=parts.toList.map fun p=>(p.1,a.eval p.2):=by simp
 rw [hlist]
 simp only [kJ] at h
 split at h
 · rename_i fs size z0 bytes knd eq hq
   have ht:=hT _ _ hq
   obtain ⟨z,hz,hzr⟩:=ht.zero
   have htd:=ht.td
   simp only at htd hzr
   obtain ⟨fields,hu,hfs⟩:=htd
   split at h
   · rename_i places hpl
     split at h
     · rename_i cs hcs
       cases h
       rw [←hfs] at hpl
       have hpo:=wc hT _ _ hpl
       obtain ⟨us,h1,h2⟩:=jE (places[·]?) _ _ hp1 hp2 z0 z.cells (au.mono (fun _ _ h=>by cases h) _ _ hzr) cs hcs
       refine ⟨cs,us,rfl,?_,h2⟩
       cases hi:P.info? t with
       |none=>simp [hi] at hz
       |some it=>
        simp [hi] at hz
        simp only [Program.built,hi,hu,hz,hpo]
        simpa using h1
     · cases h
   · cases h
 · rename_i n e size z0 bytes knd eq hq
   have ht:=hT _ _ hq
   obtain ⟨z,hz,hzr⟩:=ht.zero
   have hu:=ht.td
   simp only at hu hzr
   split at h
   · rename_i ti hti
     split at h
     · rename_i cs hcs
       cases h
       have hs:=(hT _ _ hti).size
       obtain ⟨us,h1,h2⟩:=jE (fun i=>some (i*ti.size,ti.size)) _ _ hp1 hp2 z0 z.cells (au.mono (fun _ _ h=>by cases h) _ _ hzr) cs hcs
       refine ⟨cs,us,rfl,?_,h2⟩
       cases hi:P.info? t with
       |none=>simp [hi] at hz
       | some it=>
        cases hie:P.info? e with
        |none=>simp [hie] at hs
        |some ie=>
         simp [hi] at hz
         simp [hie] at hs
         simp only [Program.built,hi,hu,hz,hie,hs]
         exact h1
     · cases h
   · cases h
 · cases h
theorem jl {ev:Operand→SV} {a:Act}:∀{l:List Operand},(∀x∈l,aE ρ (ev x) (a.eval x))→au ρ (l.map ev) (l.map a.eval)
 |[],_=>by simp [au]
 |x::l,h=>by
  simp only [List.map_cons,aa]
  exact ⟨h x (by simp),jl fun y hy=>h y (by simp [hy])⟩
theorem cM {k:IntKind} {i:Int} {y:Nat} (h0:0≤i) (h1:i≤y) (code:BoundsCode) (w:World):(Instr.sliceBound (.int k i) y code).run P w=.ok i.toNat w:=by
 unfold Instr.sliceBound
 simp [Sem.run_bind,asIntOf,h0,h1]
theorem IZ {t e:TypeId} {ti:TI} (hu:P.underlying t=some (.slice e)) (he:bl P e ti) {id off len:Nat} {cap:Option Nat} {lo hi:Option Int} {p:uc} {o c:Nat} (hp:ρ id=some p)
    (hc:∀c',cap=some c'→c=c') (ho:o=p.base+off*ti.size∨(len=0∧cap=none)) (hlc:len≤c) (hm:p.mine=true→o+c*ti.size≤p.size) {vlo vhi:Option Value}
    (hlo:vlo=lo.map (fun n=>Value.int .i64 n)∨∃k,vlo=lo.map (fun n=>Value.int k n)) (hhi:∃k,vhi=hi.map (fun n=>Value.int k n)) {v:SV} (h:fO ti.size id off len cap lo hi=(true,v)) (w:World):
    ∃rv,(Instr.sliceAt t (.slice (some ⟨p.b,o,none⟩) len c) vlo vhi none).run P w=.ok rv w∧aE ρ v rv:=by
 have hlo':∃k,vlo=lo.map (fun n=>Value.int k n):=by
  rcases hlo with h |h
  · exact ⟨_,h⟩
  · exact h
 obtain ⟨kl,rfl⟩:=hlo'
 obtain ⟨kh,rfl⟩:=hhi
 have hcap:dm cap len≤c:=by
  cases cap with
  |none=>exact hlc
  |some c'=>have:=hc _ rfl;simp [dm];omega
 have go:∀(l h:Nat),l≤h→h≤c→(Instr.sliceBounds true len c (lo.map (fun n=>Value.int kl n)) (hi.map (fun n=>Value.int kh n)) none).run P w=.ok (l,h,c) w→
     (Instr.sliceAt t (.slice (some ⟨p.b,o,none⟩) len c) (lo.map (fun n=>Value.int kl n)) (hi.map (fun n=>Value.int kh n)) none).run P w=.ok (.slice (some (if c=l then ⟨p.b,o,none⟩ else ⟨p.b,o+l*ti.size,none⟩)) (h - l) (c - l)) w:=by
  intro l h hlh hhc hb
  unfold Instr.sliceAt Instr.slice
  simp only [Sem.run_bind,run_underlying hu,Result.andThen_ok,hb,he.sizeOf,Sem.run_pure,Option.map_some,dw]
  by_cases hcl:c=l<;>simp [hcl]
 have bounds:∀(lz hz:Int),(lo=none→lz=0)→(∀n,lo=some n→lz=n)→(hi=none→hz=len)→(∀n,hi=some n→hz=n)→0≤lz→lz≤hz→hz≤(dm cap len:Nat)∨hz=len→
     (Instr.sliceBounds true len c (lo.map (fun n=>Value.int kl n)) (hi.map (fun n=>Value.int kh n)) none).run P w=.ok (lz.toNat,hz.toNat,c) w:=by
  intro lz hz l1 l2 h1 h2 l0 lh hb
  have hc':hz≤c:=by omega
  have h0:0≤hz:=by omega
  clear h go
  unfold Instr.sliceBounds
  cases hi with
  |none=>
   have e1:=h1 rfl
   cases lo with
   |none=>have e2:=l1 rfl;subst e1 e2;simp [Sem.run_bind]
   |some n=>have e2:=l2 n rfl;subst e1 e2;simp [Sem.run_bind,cM l0 lh]
  | some m=>
   have e1:=h2 m rfl
   subst e1
   cases lo with
   |none=>have e2:=l1 rfl;subst e2;simp [Sem.run_bind,cM h0 hc']
   |some n=>
    have e2:=l2 n rfl
    subst e2
    simp [Sem.run_bind,cM h0 hc',cM (y:=hz.toNat) l0 (by omega)]
 cases lo with
 | none=>cases hi with
  |none=>
   simp only [fO,Prod.mk.injEq,true_and] at h
   subst h
   refine ⟨_,go 0 len (by omega) hlc (by simpa using bounds 0 len (fun _=>rfl) (by simp) (fun _=>rfl) (by simp) (by omega) (by omega) (.inr rfl)),?_⟩
   simp only [aE]
   exact .inl ⟨p,o,c,hp,by split<;>simp,hc,ho,hlc,hm⟩
  | some h'=>
   simp only [fO,Prod.mk.injEq,Bool.and_eq_true,decide_eq_true_eq] at h
   obtain ⟨⟨h0,h1⟩,rfl⟩:=h
   refine ⟨_,go 0 h'.toNat (by omega) (by omega) (by simpa using bounds 0 h' (fun _=>rfl) (by simp) (by simp) (by simp) (by omega) h0 (.inl h1)),?_⟩
   simp only [aE]
   refine .inl ⟨p,o,c,hp,by split<;>simp,hc,?_,by omega,hm⟩
   rcases ho with ho |⟨ho,hn⟩
   · exact .inl ho
   · refine .inr ⟨?_,hn⟩
     subst hn
     simp only [dm] at h1
     omega
 | some l=>
  have tail:∀(h:Int),0≤l→l≤h→(h≤(dm cap len:Nat)∨h=len)→(Instr.sliceBounds true len c ((some l).map (fun n=>Value.int kl n)) (hi.map (fun n=>Value.int kh n)) none).run P w=.ok (l.toNat,h.toNat,c) w→
      ∃rv,(Instr.sliceAt t (.slice (some ⟨p.b,o,none⟩) len c) ((some l).map (fun n=>Value.int kl n)) (hi.map (fun n=>Value.int kh n)) none).run P w=.ok rv w∧aE ρ (.slice id ti.size (off+l.toNat) (h.toNat - l.toNat) none) rv:=by
   intro h l0 lh hb hrun
   have hc':h≤c:=by omega
   refine ⟨_,go l.toNat h.toNat (by omega) (by omega) hrun,?_⟩
   simp only [aE]
   refine .inl ⟨p,(if c=l.toNat then o else o+l.toNat*ti.size),c - l.toNat,hp,by split<;>rfl,by simp,?_,by omega,fun hmm=>?_⟩
   · by_cases hcl:c=l.toNat
     · exact .inr ⟨by omega,trivial⟩
     · rw [if_neg hcl]
       rcases ho with ho |⟨ho,hn⟩
       · exact .inl (by rw [ho,Nat.add_mul];omega)
       · refine .inr ⟨?_,trivial⟩
         subst hn
         simp only [dm] at hb
         omega
   · have hmm:=hm hmm
     have e:(c - l.toNat)*ti.size+l.toNat*ti.size=c*ti.size:=by rw [←Nat.add_mul];congr 1;omega
     split
     · omega
     · omega
  cases hi with
  |none=>
   simp only [fO,Prod.mk.injEq,Bool.and_eq_true,decide_eq_true_eq] at h
   obtain ⟨⟨l0,l1⟩,rfl⟩:=h
   exact tail len l0 l1 (.inr rfl) (bounds l len (by simp) (by simp) (fun _=>rfl) (by simp) l0 l1 (.inr rfl))
  |some h'=>
   simp only [fO,Prod.mk.injEq,Bool.and_eq_true,decide_eq_true_eq] at h
   obtain ⟨⟨⟨h0,h1⟩,l0,l1⟩,rfl⟩:=h
   exact tail h' l0 l1 (.inl h1) (bounds l h' (by simp) (by simp) (by simp) (by simp) l0 l1 (.inl h1))
theorem D1 {t e:TypeId} {ti:TI} (hu:P.underlying t=some (.slice e)) (he:bl P e ti) {id off len:Nat} {cap:Option Nat} {lo hi:Option Int} (h0:len=0) (hc:cap=none) {vlo vhi:Option Value}
    (hlo:∃k,vlo=lo.map (fun n=>Value.int k n)) (hhi:∃k,vhi=hi.map (fun n=>Value.int k n)) {v:SV} (h:fO ti.size id off len cap lo hi=(true,v)) (oa:Option Addr) (oc:Nat) (w:World):
    ∃rv,(Instr.sliceAt t (.slice oa 0 oc) vlo vhi none).run P w=.ok rv w∧aE ρ v rv:=by
 obtain ⟨kl,rfl⟩:=hlo
 obtain ⟨kh,rfl⟩:=hhi
 subst h0 hc
 have hadd:oa.map (fun a=>a.add 0)=oa:=by cases oa<;>simp [Addr.add]
 refine ⟨.slice oa 0 oc,?_,?_⟩
 · unfold Instr.sliceAt Instr.slice Instr.sliceBounds
   cases lo with
   | none=>cases hi with
    |none=>simp [Sem.run_bind,run_underlying hu,he.sizeOf,hadd]
    |some n=>
     simp only [fO,show dm none 0=0 from rfl,Prod.mk.injEq,Bool.and_eq_true,decide_eq_true_eq] at h
     have :n=0:=by omega
     subst this
     simp [Sem.run_bind,run_underlying hu,he.sizeOf,cM,hadd]
   | some l=>cases hi with
    |none=>
     simp only [fO,Prod.mk.injEq,Bool.and_eq_true,decide_eq_true_eq] at h
     have :l=0:=by omega
     subst this
     simp [Sem.run_bind,run_underlying hu,he.sizeOf,cM,hadd]
    |some n=>
     simp only [fO,show dm none 0=0 from rfl,Prod.mk.injEq,Bool.and_eq_true,decide_eq_true_eq] at h
     have e1:n=0:=by omega
     have e2:l=0:=by omega
     subst e1 e2
     simp [Sem.run_bind,run_underlying hu,he.sizeOf,cM,hadd]
 · cases lo with
   | none=>cases hi with
    |none=>simp only [fO,Prod.mk.injEq,true_and] at h;subst h;simp [aE]
    |some n=>
     simp only [fO,show dm none 0=0 from rfl,Prod.mk.injEq,Bool.and_eq_true,decide_eq_true_eq] at h
     obtain ⟨h1,rfl⟩:=h
     simp only [aE]
     exact .inr ⟨by omega,trivial,_,_,rfl⟩
   | some l=>cases hi with
    |none=>
     simp only [fO,Prod.mk.injEq,Bool.and_eq_true,decide_eq_true_eq] at h
     obtain ⟨h1,rfl⟩:=h
     simp only [aE]
     exact .inr ⟨by omega,trivial,_,_,rfl⟩
    |some n=>
     simp only [fO,show dm none 0=0 from rfl,Prod.mk.injEq,Bool.and_eq_true,decide_eq_true_eq] at h
     obtain ⟨h1,rfl⟩:=h
     simp only [aE]
     exact .inr ⟨by omega,trivial,_,_,rfl⟩
theorem mv {ev:Operand→SV} {a:Act} {x:Option Operand} (hx:∀y,x=some y→aE ρ (ev y) (a.eval y)) {n:Option Int} (h:sl (x.map ev)=some n):∃k,x.map a.eval=n.map (fun n=>Value.int k n):=by
 cases x with
 |none=>simp [sl] at h;subst h;exact ⟨.i64,rfl⟩
 | some y=>
  simp only [Option.map_some] at h
  have:=hx y rfl
  unfold sl at h
  split at h
  · rename_i hq;cases hq
  · rename_i k m hq
    cases h
    simp only [Option.some.injEq] at hq
    rw [hq] at this
    simp only [aE] at this
    exact ⟨k,by simp [this]⟩
  · cases h
theorem yG (hT:∀t ti,T t=some ti→bl P t ti) {o:Oper} {ev:Operand→SV} {ok:Bool} {v:SV} (h:kJ T ev o.op=some (ok,v)) (hok:ok=true) {a:Act} (hev:∀x∈o.op.operands,aE ρ (ev x) (a.eval x)) (w:World):
    ∃rv,(execOp a.eval o).run P w=.ok (.value rv) w∧aE ρ v rv:=by
 subst hok
 have lift:∀s:Sem Value,(∃rv,s.run P w=.ok rv w∧aE ρ v rv)→∃rv,(do pure (.value (←s)):Sem Next).run P w=.ok (.value rv) w∧aE ρ v rv:=by
  rintro s ⟨rv,h1,h2⟩
  exact ⟨rv,by rw [Sem.run_bind,h1];rfl,h2⟩
 obtain ⟨dst,op,type,pos,after,guard⟩:=o
 simp only at h hev
 cases op<;>simp only [kJ,reduceCtorEq] at h<;>unfold execOp<;>simp only
 case move x=>
  cases h
  exact ⟨_,rfl,hev x (by simp [Op.operands])⟩
 case assign x=>
  cases h
  exact ⟨_,rfl,hev x (by simp [Op.operands])⟩
 case binOp op t x y yt=>
  exact lift _ (Qj hT h rfl (hev x (by simp [Op.operands])) (hev y (by simp [Op.operands])) w)
 case unOp op t x=>
  split at h
  · rename_i u hu
    cases h
    exact lift _ (Wy hu (hev x (by simp [Op.operands])) w)
  · cases h
 case pick c x y=>
  have hc:=hev c (by simp [Op.operands])
  have hx:=hev x (by simp [Op.operands])
  have hy:=hev y (by simp [Op.operands])
  split at h
  · rename_i b hq
    rw [hq] at hc
    simp only [aE] at hc
    rw [hc]
    split at h
    · rename_i u v' h1 h2
      cases h
      rw [h1] at hx
      rw [h2] at hy
      simp only [aE] at hx hy
      rw [hx,hy]
      refine ⟨.bool (bif b then u else v'),?_,by simp [aE]⟩
      cases b<;>simp [asBool]
    · simp only [Option.some.injEq,Prod.mk.injEq,Bool.not_eq_true'] at h
      obtain ⟨rfl,rfl⟩:=h
      exact ⟨a.eval y,by simp [asBool],hy⟩
    · simp only [Option.some.injEq,Prod.mk.injEq] at h
      obtain ⟨rfl,rfl⟩:=h
      exact ⟨a.eval x,by simp [asBool],hx⟩
    · rename_i k m k' n h1 h2
      by_cases hk:k=k'
      · subst hk
        simp only [decide_true,cond_true,Option.some.injEq,Prod.mk.injEq,true_and] at h
        subst h
        rw [h1] at hx
        rw [h2] at hy
        simp only [aE] at hx hy
        rw [hx,hy]
        refine ⟨.int k (bif b then m else n),?_,by simp [aE]⟩
        cases b<;>simp [asBool]
      · simp [hk] at h
    · cases h
  · cases h
 case nilCheck x=>
  have hx:=hev x (by simp [Op.operands])
  split at h
  · rename_i id st i j hq
    cases h
    rw [hq] at hx
    have hx0:=hx
    simp only [aE] at hx
    obtain ⟨p,_,hv⟩:=hx
    rw [hv]
    exact ⟨_,rfl,hv ▸ hx0⟩
  · rename_i f cs hq
    cases h
    rw [hq] at hx
    have hx0:=hx
    simp only [aE] at hx
    obtain ⟨p,hv,_⟩:=hx
    rw [hv]
    exact ⟨_,rfl,hv ▸ hx0⟩
  · cases h
 case convert src dst x=>
  have hx:=hev x (by simp [Op.operands])
  split at h
  · rename_i ts size z0 bytes knd eq k k' n h1 h2 h3
    cases h
    rw [h3] at hx
    simp only [aE] at hx
    have hd:=(hT _ _ h2).td
    simp only at hd
    obtain ⟨d,hsrc⟩:=(hT _ _ h1).some_desc
    refine lift _ (fC rfl ?_)
    rw [hx]
    unfold Go.convert
    rw [Sem.run_bind,run_underlying hsrc]
    simp only [Result.andThen_ok]
    rw [Sem.run_bind,run_underlying hd]
    simp [Conv.intToInt,bK]
  · cases h
 case makeFunc fn first captured=>
  cases fn with
  | func f=>
   simp only at h
   cases hb:Nat.beq first.size 0 with
   |false=>simp [hb] at h
   | true=>
    simp only [hb,cond_true,Option.some.injEq,Prod.mk.injEq,true_and] at h
    subst h
    have h0:first= #[]:=by
     have:=Nat.eq_of_beq_eq_true hb
     exact Array.eq_empty_of_size_eq_zero this
    subst h0
    refine lift _ ⟨_,rfl,?_⟩
    simp only [aE]
    refine ⟨captured.toList.map a.eval,by congr 1<;>(apply Array.ext';simp),jl fun x hx=>hev x (by simp [Op.operands];simpa using hx)⟩
  |_=>simp at h
 case extract x i=>
  have hx:=hev x (by simp [Op.operands])
  split at h
  · rename_i vs hq
    split at h
    · rename_i u hu
      cases h
      rw [hq] at hx
      simp only [aE] at hx
      obtain ⟨us,hv,hr⟩:=hx
      obtain ⟨y,hy,hry⟩:=hr.get hu
      refine lift _ ⟨y,?_,hry⟩
      rw [hv]
      simp [Instr.extract,hy]
    · cases h
  · cases h
 case field t x f=>
  have hx:=hev x (by simp [Op.operands])
  split at h
  · rename_i fs size z0 bytes knd eq cs h1 h2
    split at h
    · rename_i off ft hf
      split at h
      · rename_i ti hti
        split at h
        · rename_i u hu
          cases h
          rw [h2] at hx
          simp only [aE] at hx
          obtain ⟨us,hv,hr⟩:=hx
          have htd:=(hT _ _ h1).td
          simp only at htd
          obtain ⟨fields,hun,hfs⟩:=htd
          obtain ⟨rv,g1,g2⟩:=A3 (hT _ _ hti) hr hu w
          rw [←hfs,List.getElem?_map] at hf
          cases hfd:fields.toList[f]? with
          |none=>simp [hfd] at hf
          |some fd=>
           simp [hfd] at hf
           obtain ⟨rfl,rfl⟩:=hf
           refine lift _ ⟨rv,?_,g2⟩
           rw [hv]
           unfold Instr.field
           rw [Sem.run_bind,run_underlying hun]
           have hfd':fields[f]? =some fd:=by simpa using hfd
           simp [hfd',asAgg,g1]
        · cases h
      · cases h
    · cases h
  · cases h
 case index t x i=>
  have hx:=hev x (by simp [Op.operands])
  have hi:=hev i (by simp [Op.operands])
  split at h
  · rename_i n e size z0 bytes knd eq cs k q h1 h2 h3
    split at h
    · rename_i ti hti
      split at h
      · rename_i u hu
        simp only [Option.some.injEq,Prod.mk.injEq,Bool.and_eq_true,decide_eq_true_eq] at h
        obtain ⟨⟨k0,k1⟩,rfl⟩:=h
        rw [h2] at hx
        rw [h3] at hi
        simp only [aE] at hx hi
        obtain ⟨us,hv,hr⟩:=hx
        have hun:=(hT _ _ h1).td
        simp only at hun
        obtain ⟨rv,g1,g2⟩:=A3 (hT _ _ hti) hr hu w
        refine lift _ ⟨rv,?_,g2⟩
        rw [hv,hi]
        unfold Instr.index
        simp [Sem.run_bind,asIntOf,run_underlying hun,k0,k1,(hT _ _ hti).sizeOf,g1]
      · cases h
    · cases h
  · cases h
 case fieldAddr t x f=>
  have hx:=hev x (by simp [Op.operands])
  split at h
  · rename_i fs size z0 bytes knd eq id st i j h1 h2
    split at h
    · rename_i off ft hf
      split at h
      · rename_i ti hti
        cases hb:Nat.beq ti.size 0 with
        |true=>simp [hb] at h
        | false=>
         simp only [hb,cond_false,Option.some.injEq,Prod.mk.injEq,true_and] at h
         subst h
         rw [h2] at hx
         simp only [aE] at hx
         obtain ⟨p,hp,hv⟩:=hx
         have htd:=(hT _ _ h1).td
         simp only at htd
         obtain ⟨fields,hun,hfs⟩:=htd
         rw [←hfs,List.getElem?_map] at hf
         cases hfd:fields.toList[f]? with
         |none=>simp [hfd] at hf
         | some fd=>
          simp [hfd] at hf
          obtain ⟨rfl,rfl⟩:=hf
          have hne:ti.size≠0:=Nat.ne_of_beq_eq_false hb
          have hfd':fields[f]? =some fd:=by simpa using hfd
          refine lift _ ⟨.pointer (some ⟨p.b,p.base+i*st+j+fd.offset,none⟩),?_,?_⟩
          · rw [hv]
            unfold Instr.fieldAt
            rw [Sem.run_bind,run_underlying hun]
            simp [hfd',Instr.sureAddr,fieldPlace,Sem.run_bind,(hT _ _ hti).sizeOf,hne,dw]
          · simp only [aE]
            exact ⟨p,hp,by simp [Nat.add_assoc]⟩
      · cases h
    · cases h
  · cases h
 case indexAddr t x i=>
  have hx:=hev x (by simp [Op.operands])
  have hi:=hev i (by simp [Op.operands])
  split at h
  · rename_i e size z0 bytes knd eq id st off len cap k q h1 h2 h3
    split at h
    · rename_i ti hti
      cases hb:Nat.beq ti.size st with
      |false=>simp [hb] at h
      | true=>
       simp only [hb,cond_true,Option.some.injEq,Prod.mk.injEq,Bool.and_eq_true,decide_eq_true_eq] at h
       obtain ⟨⟨k0,k1⟩,rfl⟩:=h
       have hst:=Nat.eq_of_beq_eq_true hb
       subst hst
       rw [h2] at hx
       rw [h3] at hi
       simp only [aE] at hx hi
       have hx2:∃p o c,ρ id=some p∧a.eval x=.slice (some ⟨p.b,o,none⟩) len c∧(o=p.base+off*ti.size∨len=0∧cap=none):=by
        rcases hx with ⟨p,o,c,hp,hv,_,ho,_⟩|⟨h0,_,_⟩
        · exact ⟨p,o,c,hp,hv,ho⟩
        · omega
       obtain ⟨p,o,c,hp,hv,ho⟩:=hx2
       have hun:=(hT _ _ h1).td
       simp only at hun
       have hoo:o=p.base+off*ti.size:=by
        rcases ho with ho |⟨h0,_⟩
        · exact ho
        · omega
       refine lift _ ⟨.pointer (some ⟨p.b,o+q.toNat*ti.size,none⟩),?_,?_⟩
       · rw [hv,hi]
         unfold Instr.indexAt
         simp [Sem.run_bind,asIntOf,run_underlying hun,k0,k1,(hT _ _ hti).sizeOf,dw]
       · simp only [aE]
         exact ⟨p,hp,by rw [hoo,Nat.add_mul];simp [Nat.add_assoc]⟩
    · cases h
  · rename_i n e size z0 bytes knd eq id st i' j k q h1 h2 h3
    split at h
    · rename_i ti hti
      simp only [Option.some.injEq,Prod.mk.injEq,Bool.and_eq_true,decide_eq_true_eq] at h
      obtain ⟨⟨k0,k1⟩,rfl⟩:=h
      rw [h2] at hx
      rw [h3] at hi
      simp only [aE] at hx hi
      obtain ⟨p,hp,hv⟩:=hx
      have hun:=(hT _ _ h1).td
      simp only at hun
      refine lift _ ⟨.pointer (some ⟨p.b,p.base+i'*st+j+q.toNat*ti.size,none⟩),?_,?_⟩
      · rw [hv,hi]
        unfold Instr.indexAt
        simp [Sem.run_bind,asIntOf,run_underlying hun,k0,k1,(hT _ _ hti).sizeOf,dw,Instr.sureAddr]
      · simp only [aE]
        exact ⟨p,hp,by simp [Nat.add_assoc]⟩
    · cases h
  · cases h
 case build t parts=>
  obtain ⟨cs,us,rfl,h1,h2⟩:=O7 (a:=a) hT h (fun x hx=>hev x (by simpa [Op.operands] using hx))
  refine lift _ ⟨.agg us,run_build w t _ us h1,?_⟩
  simp only [aE]
  exact ⟨us.toList,by simp,h2⟩
 case slice t x lo hi mx=>
  cases mx with
  |some m=>simp at h
  | none =>
   have hx:=hev x (by simp [Op.operands])
   simp only at h
   split at h
   · rename_i e size z0 bytes knd eq id st off len cap l hh h1 h2 h3 h4
     split at h
     · rename_i ti hti
       cases hb:Nat.beq ti.size st with
       |false=>simp [hb] at h
       | true=>
        simp only [hb,cond_true,Option.some.injEq] at h
        have hst:=Nat.eq_of_beq_eq_true hb
        subst hst
        rw [h2] at hx
        simp only [aE] at hx
        have hun:=(hT _ _ h1).td
        simp only at hun
        have hl:=mv (ρ:=ρ) (a:=a) (fun y hy=>hev y (by simp [Op.operands,hy])) h3
        have hhh:=mv (ρ:=ρ) (a:=a) (fun y hy=>hev y (by simp [Op.operands,hy])) h4
        rcases hx with ⟨p,o,c,hp,hv,hc,ho,hlc,hm⟩|⟨h0,hcn,oa,oc,hv⟩
        · rw [hv]
          exact lift _ (IZ hun (hT _ _ hti) hp hc ho hlc hm (.inr hl) hhh h w)
        · rw [hv]
          exact lift _ (D1 hun (hT _ _ hti) h0 hcn hl hhh h oa oc w)
     · cases h
   · rename_i e size z0 bytes knd eq hh h1 h2 h3 h4
     split at h
     · rename_i ti hti
       rw [h2] at hx
       simp only [aE] at hx
       have hun:=(hT _ _ h1).td
       simp only at hun
       obtain ⟨k,hl⟩:=mv (ρ:=ρ) (a:=a) (fun y hy=>hev y (by simp [Op.operands,hy])) h3
       obtain ⟨k',hhh⟩:=mv (ρ:=ρ) (a:=a) (fun y hy=>hev y (by simp [Op.operands,hy])) h4
       rw [hx,hl,hhh]
       have run:∀h':Option Int,(∀n,h'=some n→n=0)→(Instr.sliceAt t (.slice none 0 0) ((none:Option Int).map (fun n=>Value.int k n)) (h'.map (fun n=>Value.int k' n)) none).run P w=.ok (.slice none 0 0) w:=by
        intro h' hz
        unfold Instr.sliceAt Instr.slice Instr.sliceBounds
        cases h' with
        |none=>simp [Sem.run_bind,run_underlying hun,(hT _ _ hti).sizeOf]
        |some n=>have:=hz n rfl;subst this;simp [Sem.run_bind,run_underlying hun,(hT _ _ hti).sizeOf,cM]
       split at h
       · cases h
         exact lift _ ⟨_,run none (by simp),by simp [aE]⟩
       · rename_i n
         simp only [Option.some.injEq,Prod.mk.injEq,decide_eq_true_eq] at h
         obtain ⟨h0,rfl⟩:=h
         exact lift _ ⟨_,run (some n) (by simp [h0]),by simp [aE]⟩
     · cases h
   · cases h
 case call c=>
  obtain ⟨callee,args,ts⟩:=c
  cases callee with
  |value f=>simp at h
  |invoke r m=>simp at h
  | builtin b=>
   have hargs:au ρ (args.toList.map ev) (args.toList.map a.eval):=jl fun x hx=>hev x (by simpa [Op.operands,Call.operands] using hx)
   cases b<;>simp only [reduceCtorEq] at h
   case len=>
    split at h
    · rename_i x t h1 h2
      have e1:args= #[x]:=by apply Array.ext';simpa using h1
      have e2:ts= #[t]:=by apply Array.ext';simpa using h2
      subst e1 e2
      have hx:=hev x (by simp [Op.operands,Call.operands])
      split at h
      · rename_i e size z0 bytes knd eq id st off len cap g1 g2
        cases h
        rw [g2] at hx
        simp only [aE] at hx
        have hun:=(hT _ _ g1).td
        simp only at hun
        refine ⟨.int .i64 len,?_,by simp [aE]⟩
        rcases hx with ⟨p,o,c,hp,hv,_⟩|⟨h0,_,_,_,hv⟩
        · simp [resolve,invoke,builtin,Builtin.len_,Sem.run_bind,run_underlying hun,hv,goInt]
        · subst h0
          simp [resolve,invoke,builtin,Builtin.len_,Sem.run_bind,run_underlying hun,hv,goInt]
      · rename_i e size z0 bytes knd eq g1 g2
        cases h
        rw [g2] at hx
        simp only [aE] at hx
        have hun:=(hT _ _ g1).td
        simp only at hun
        refine ⟨.int .i64 0,?_,by simp [aE]⟩
        simp [resolve,invoke,builtin,Builtin.len_,Sem.run_bind,run_underlying hun,hx,goInt]
      · rename_i n e size z0 bytes knd eq g1
        cases h
        have hun:=(hT _ _ g1).td
        simp only at hun
        refine ⟨.int .i64 n,?_,by simp [aE]⟩
        simp [resolve,invoke,builtin,Builtin.len_,Sem.run_bind,run_underlying hun,goInt]
      · cases h
    · cases h
   case max=>
    split at h
    · rename_i k x l hq
      split at h
      · rename_i n hn
        cases h
        rw [hq] at hargs
        cases hvs:args.toList.map a.eval with
        |nil=>rw [hvs] at hargs;simp [au] at hargs
        |cons v vs=>
         rw [hvs,aa] at hargs
         have hv:=hargs.1
         simp only [aE] at hv
         subst hv
         have hm:=G5 (P:=P) w hargs.2 hn
         refine ⟨.int k n,?_,by simp [aE]⟩
         have hl:(args.map a.eval).toList=.int k x::vs:=by simpa using hvs
         simp only [resolve,invoke,builtin,Builtin.max_,Sem.run_bind,Sem.run_pure,Result.andThen_ok,hl,hm]
      · cases h
    · cases h
   case min=>
    split at h
    · rename_i k x l hq
      split at h
      · rename_i n hn
        cases h
        rw [hq] at hargs
        cases hvs:args.toList.map a.eval with
        |nil=>rw [hvs] at hargs;simp [au] at hargs
        |cons v vs=>
         rw [hvs,aa] at hargs
         have hv:=hargs.1
         simp only [aE] at hv
         subst hv
         have hm:=GB (P:=P) w hargs.2 hn
         refine ⟨.int k n,?_,by simp [aE]⟩
         have hl:(args.map a.eval).toList=.int k x::vs:=by simpa using hvs
         simp only [resolve,invoke,builtin,Builtin.min_,Sem.run_bind,Sem.run_pure,Result.andThen_ok,hl,hm]
      · cases h
    · cases h
end
def Fk:(k' k:aA)→List k'.T→Option (List k.T)
 |.bool,.bool,xs=>some xs
 |.i64,.i64,xs=>some xs
 |.u64,.u64,xs=>some xs
 |.vec,.vec,xs=>some xs
 |.pl,.pl,xs=>some xs
 |.pt,.pt,xs=>some xs
 |.sh,.sh,xs=>some xs
 |.cm,.cm,xs=>some xs
 |.wop,.wop,xs=>some xs
 |_,_,_=>none
theorem zm {k' k:aA} {xs:List k'.T} {ys:List k.T} (h:Fk k' k xs=some ys):∃e:k'=k,ys=e ▸ xs:=by
 cases k'<;>cases k<;>simp only [Fk,Option.some.injEq,reduceCtorEq] at h<;>exact ⟨rfl,h.symm⟩
def MU (k:aA) (rows:List Row):SV→Option (Bool×List Nat×Nat×List k.T)
 |.nils=>some (true,[],0,[])
 | .slice id st off m _=>match rows[id]? with
  |some (.vec _ k' ys)=>match Fk k' k ys with
   |some ys=>bif Nat.beq st k.st then some (decide (off+m≤ys.length),[id],m,(ys.drop off).take m) else none
   |none=>none
  |_=>none
 |_=>none
def gZ (z:Bool) (cap:Option Nat) (m:Nat):Option Nat:=bif z then (match cap with |some c=>bif Nat.beq m 0 then some c else none |none=>none) else none
theorem pG {z:Bool} {cap:Option Nat} {m c:Nat} (h:gZ z cap m=some c):m=0∧cap=some c:=by
 unfold gZ at h
 cases z with
 |false=>cases h
 | true=>
  cases cap with
  |none=>cases h
  |some c'=>
   cases hb:Nat.beq m 0 with
   |false=>simp [hb] at h
   |true=>simp [hb] at h;exact ⟨Nat.eq_of_beq_eq_true hb,by rw [h]⟩
def W1 (z:Bool) (k:aA) (bytes:Nat) (rows:List Row) (s x:SV):Option aL:=
 match MU k rows x with
 |none=>none
 | some (okx,rd,m,ys)=>match s with
  |.nils=>some {ok:=okx&&(decide (0<m)&&(decide (m≤9223372036854775807)&&decide (m*bytes≤140737488355328))),val:=.slice rows.length k.st 0 m none,rd:=rd,nw:=[.vec false k ys]}
  | .slice id st off len cap=>match rows[id]? with
   |some (.vec false k' xs)=>match Fk k' k xs with
    |some xs=>bif Nat.beq st k.st then some {ok:=okx&&(decide (off=0)&&((decide (0<len)||cap.isSome)&&(decide (len≤xs.length)&&(decide (len+m≤9223372036854775807)&&decide ((len+m)*bytes≤140737488355328))))),val:=.slice rows.length k.st 0 (len+m) (gZ z cap m),rd:=id::rd,wr:=[(id,.gone)],nw:=[.vec false k (xs.take len++ys)]} else none
    |none=>none
   |_=>none
  |_=>none
def dK (k:aA):List k.T→List SV
 |[]=>[]
 |x::xs=>k.enc x++dK k xs
theorem aA.st_pos (k:aA):0<k.st:=by cases k<;>decide
theorem jJ (k:aA):∀xs:List k.T,(dK k xs).length=xs.length*k.st
 |[]=>by simp [dK]
 |x::xs=>by rw [dK,List.length_append,k.enc_len,jJ k xs,List.length_cons,Nat.succ_mul];omega
theorem q8 (k:aA):∀xs ys:List k.T,dK k (xs++ys)=dK k xs++dK k ys
 |[],ys=>rfl
 |x::xs,ys=>by rw [List.cons_append,dK,dK,q8 k xs ys,List.append_assoc]
theorem wT (k:aA):∀(xs:List k.T) (i:Nat) (x:k.T) (j:Nat) (s:SV),xs[i]? =some x→(k.enc x)[j]? =some s→(dK k xs)[i*k.st+j]? =some s
 |[],i,x,j,s,h,_=>by simp at h
 |x0::xs,0,x,j,s,h,hs=>by
  simp at h
  subst h
  have hj:=(List.getElem?_eq_some_iff.1 hs).1
  rw [dK,Nat.zero_mul,Nat.zero_add,List.getElem?_append_left hj,hs]
 |x0::xs,i+1,x,j,s,h,hs=>by
  have:=wT k xs i x j s (by simpa using h) hs
  rw [dK,List.getElem?_append_right (by rw [k.enc_len,Nat.succ_mul];omega),k.enc_len,Nat.succ_mul,show i*k.st+k.st+j - k.st=i*k.st+j by omega]
  exact this
theorem Bx (k:aA) (xs:List k.T) (q:Nat) (s:SV) (h:(dK k xs)[q]? =some s):∃i j x,q=i*k.st+j∧j<k.st∧xs[i]? =some x∧(k.enc x)[j]? =some s:=by
 have hq:=(List.getElem?_eq_some_iff.1 h).1
 rw [jJ] at hq
 have hst:=k.st_pos
 have hi:q/k.st<xs.length:=Nat.div_lt_of_lt_mul (by rw [Nat.mul_comm];exact hq)
 have hj:=Nat.mod_lt q hst
 have he:q=q/k.st*k.st+q%k.st:=by rw [Nat.mul_comm];exact (Nat.div_add_mod q k.st).symm
 obtain ⟨x0,hx0⟩:∃x0,xs[q/k.st]? =some x0:=⟨_,List.getElem?_eq_getElem hi⟩
 obtain ⟨s',hs'⟩:∃s',(k.enc x0)[q%k.st]? =some s':=⟨_,List.getElem?_eq_getElem (by rw [k.enc_len];exact hj)⟩
 refine ⟨q/k.st,q%k.st,x0,he,hj,hx0,?_⟩
 have:=wT k xs _ _ _ _ hx0 hs'
 rw [←he,h] at this
 rw [hs',this]
theorem yD (k:aA) (xs:List k.T):∀s∈dK k xs,s.isDat=true:=by
 intro s hs
 obtain ⟨q,hq⟩:=List.getElem?_of_mem hs
 obtain ⟨i,j,x,_,_,_,h⟩:=Bx k xs q s hq
 exact k.enc_dat _ s (List.mem_of_getElem? h)
theorem AB {s:SV} (h:s.isDat=true):(bK s).oneCell'=true:=by cases s<;>simp_all [SV.isDat,bK,Value.oneCell']
theorem ke {ρ:aR} {id:Nat} {k:aA} {zs:List k.T} {w:World} {p:uc} {vs:List Value} {ty:TypeId} (hp:ρ id=some p) (hm:p.mine=true) (hb:p.base=0) (hh:w.heap[p.b]? =some (.cells vs.toArray ty (0,0))) (hs:vs.length=p.size)
    (ht:vs.take (zs.length*k.st)=(dK k zs).map bK):bk ρ id (.vec false k zs) w:=by
 have hl:zs.length*k.st≤vs.length:=by
  have:=congrArg List.length ht
  rw [List.length_take,List.length_map,jJ] at this
  omega
 refine .inr ⟨p,hp,fun h=>(by cases h),fun _=>⟨hm,hb,vs,ty,hh,hl,hs⟩,fun i x hx j s hs'=>?_⟩
 have h1:=wT k zs i x j s hx hs'
 have h2:((dK k zs).map bK)[i*k.st+j]? =some (bK s):=by rw [List.getElem?_map,h1];rfl
 rw [←ht] at h2
 have h3:=(List.getElem?_eq_some_iff.1 h2).1
 rw [List.length_take] at h3
 rw [List.getElem?_take_of_lt (by omega)] at h2
 rw [hb,cell_of_row w p.b _ _ ty _ hh,Nat.zero_add]
 simpa using h2
theorem vq {k:aA} {xs:List k.T} {w:World} {b base:Nat} (h:∀(i:Nat) (x:k.T),xs[i]? =some x→∀(j:Nat) (s:SV),(k.enc x)[j]? =some s→w.cell? ⟨b,base+i*k.st+j,none⟩=some (bK s)) (off m:Nat):
    ∀q v,((dK k ((xs.drop off).take m)).map bK)[q]? =some v→w.cell? ⟨b,base+off*k.st+q,none⟩=some v:=by
 intro q v hv
 rw [List.getElem?_map] at hv
 cases hf:(dK k ((xs.drop off).take m))[q]? with
 |none=>simp [hf] at hv
 | some s=>
  simp [hf] at hv
  subst hv
  obtain ⟨i,j,x,rfl,_,hx,hs⟩:=Bx k _ q s hf
  have hi:i<m:=by
   have:=(List.getElem?_eq_some_iff.1 hx).1
   rw [List.length_take] at this
   omega
  rw [List.getElem?_take_of_lt hi,List.getElem?_drop] at hx
  have:=h _ x hx j s hs
  rw [Nat.add_mul] at this
  rw [show base+off*k.st+(i*k.st+j)=base+(off*k.st+i*k.st)+j by omega]
  exact this
def s6 (k:aA):List (List SV)→Option (List k.T)
 |[]=>some []
 |c::cs=>match k.dec c,s6 k cs with
  |some x,some xs=>some (x::xs)
  |_,_=>none
def ss (i:Nat):List (Nat×SV)→Option (List (List SV))
 |[]=>some []
 |(j,v)::l=>bif Nat.beq i j then (match v.cells,ss (i+1) l with
  |some c,some cs=>some (c::cs)
  |_,_=>none) else none
def bS.knd (X:bS) (t:Nat):Option (Nat×TI×aA):=
 match X.T t with
 | some ⟨.slice e,_,_,_,_,_⟩=>match X.T e with
  |some ti=>match ti.knd with
   |some k=>bif Nat.beq ti.size k.st then some (e,ti,k) else none
   |none=>none
  |none=>none
 |_=>none
def bS.one (X:bS) (t:Nat):Option (Nat×TI):=
 match X.T t with
 |some ⟨.slice e,_,_,_,_,_⟩=>match X.T e with
  |some ti=>bif Nat.beq ti.size 1&&Nat.beq ti.zero.length 1 then some (e,ti) else none
  |none=>none
 |_=>none
def LK (rows:List Row):SV→Option (Nat×Nat×List SV)
 |.slice id st off m _=>match rows[id]? with
  |some (.own ys)=>bif Nat.beq st 1&&(Nat.ble (off+m) ys.length&&(Nat.blt 0 m&&((ys.drop off).take m).all SV.one)) then some (id,m,(ys.drop off).take m) else none
  |_=>none
 |_=>none
def Xr (bytes:Nat) (rows:List Row) (s x:SV):Option aL:=
 match LK rows x with
 |none=>none
 | some (xi,m,ys)=>match s with
  |.nils=>some {ok:=decide (m≤9223372036854775807)&&decide (m*bytes≤140737488355328),val:=.slice rows.length 1 0 m none,rd:=[xi],nw:=[.pre false ys]}
  |.slice id st off len cap=>match rows[id]? with
   |some (.pre false xs)=>bif Nat.beq st 1&&(Nat.beq off 0&&Nat.ble len xs.length) then some {ok:=(decide (0<len)||cap.isSome)&&(decide (len+m≤9223372036854775807)&&decide ((len+m)*bytes≤140737488355328)),val:=.slice rows.length 1 0 (len+m) none,rd:=[id,xi],wr:=[(id,.gone)],nw:=[.pre false (xs.take len++ys)]} else none
   |_=>none
  |_=>none
def M5 (z:List SV) (rows:List Row) (s:SV):Option aL:=match s,z with
 |.slice id st off len _,[z]=>match rows[id]? with
  |some (.pre false xs)=>bif Nat.beq st 1&&(Nat.ble (off+len) xs.length&&z.one) then some {val:=.tuple [],rd:=[id],wr:=[(id,.pre false (mK xs off (List.replicate len z)))]} else none
  |_=>none
 |_,_=>none
def fS (X:bS) (ev:Operand→SV) (rows:List Row):Op→Option aL
 | .load t a=>match ev a with
  | .ptr id st i j=>match X.T t,rows[id]? with
   |some ti,some (.own cells)=>match mM ti cells (i*st+j) with
    |some v=>some {val:=v,rd:=[id]}
    |none=>none
   |some ti,some (.pre _ cells)=>match mM ti cells (i*st+j) with
    |some v=>some {val:=v,rd:=[id]}
    |none=>none
   |some ti,some (.vec _ k xs)=>bif Nat.beq st k.st then (match mM ti (k.enc (xs.getD i k.dflt)) j with
    |some v=>some {ok:=decide (i<xs.length),val:=v,rd:=[id]}
    |none=>none) else none
   |_,_=>none
  |_=>none
 | .store t a x=>match ev a with
  | .ptr id st i j=>match X.T t,(ev x).cells,rows[id]? with
   | some ti,some vc,some (.own cells)=>bif Nat.beq vc.length ti.size&&(Nat.ble (i*st+j+ti.size) cells.length&&vc.all SV.one) then
       some {val:=.tuple [],rd:=[id],wr:=[(id,.own (mK cells (i*st+j) vc))]} else none
   | some ti,some vc,some (.pre false cells)=>bif Nat.beq vc.length ti.size&&(Nat.ble (i*st+j+ti.size) cells.length&&vc.all SV.one) then
       some {val:=.tuple [],rd:=[id],wr:=[(id,.pre false (mK cells (i*st+j) vc))]} else none
   |some ti,some vc,some (.vec false k xs)=>bif Nat.beq st k.st&&(Nat.beq vc.length ti.size&&(Nat.ble (j+ti.size) st&&vc.all SV.one)) then (match k.dec (mK (k.enc (xs.getD i k.dflt)) j vc) with
    |some x'=>some {ok:=decide (i<xs.length),val:=.tuple [],rd:=[id],wr:=[(id,.vec false k (xs.set i x'))]}
    |none=>none) else none
   |_,_,_=>none
  |_=>none
 |.alloc t=>match X.T t with
  |some ti=>some {val:=.ptr rows.length 0 0 0,nw:=[.own ti.zero]}
  |none=>none
 |.box _ x=>match (ev x).cells with
  |some cs=>some {val:=.ptr rows.length 0 0 0,nw:=[.own cs]}
  |none=>none
 | .buildSlice t len parts=>match X.knd t with
  | some (_,_,k)=>match ss 0 (parts.toList.map fun p=>(p.1,ev p.2)) with
   |some cs=>match s6 k cs with
    |some xs=>bif Nat.beq cs.length len&&Nat.ble (len*k.st) 16777216 then some {val:=.slice rows.length k.st 0 len (some len),nw:=[.vec false k xs]} else none
    |none=>none
   |none=>none
  | none=>match X.one t with
   |some _=>match kO (fun i=>some (i*1,1)) (List.replicate len .top) (parts.toList.map fun p=>(p.1,ev p.2)) with
    |some out=>bif Nat.ble len 16777216 then some {val:=.slice rows.length 1 0 len (some len),nw:=[.own out]} else none
    |none=>none
   |none=>none
 | .makeSlice t l c=>match X.knd t,ev l,ev c with
  |some (_,ti,k),.int .i64 n,.int .i64 m=>match k.dec ti.zero with
   |some z=>some {ok:=decide (0≤n)&&(decide (n≤9223372036854775807)&&(decide (ti.bytes*n≤2 ^ 48)&&decide (n=m))),val:=.slice rows.length k.st 0 n.toNat (some n.toNat),nw:=[.vec false k (List.replicate n.toNat z)]}
   |none=>none
  |_,_,_=>none
 |.call ⟨.value f,args,_⟩=>match ev f with
  |.fn fid caps=>X.call fid (args.toList.map ev++caps) rows
  |_=>none
 | .call ⟨.builtin .append,args,ts⟩=>match args.toList,ts.toList with
  | [s,x],[t1,t2]=>match X.knd t1 with
   |some (_,ti,k)=>bif Nat.beq t1 t2&&Nat.beq ti.zero.length k.st then W1 X.z k ti.bytes rows (ev s) (ev x) else none
   |none=>match X.one t1 with
    |some (_,ti)=>bif Nat.beq t1 t2 then Xr ti.bytes rows (ev s) (ev x) else none
    |none=>none
  |_,_=>none
 | .call ⟨.builtin .clear,args,ts⟩=>match args.toList,ts.toList with
  |[s],[t]=>match X.one t with
   |some (_,ti)=>M5 ti.zero rows (ev s)
   |none=>none
  |_,_=>none
 |_=>none
section
variable {P:Program} {X:bS} {ρ:aR} {w:World}
def aR.upd (ρ:aR) (n:Nat) (p:uc):aR:=fun i=>if i=n then some p else ρ i
theorem aR.le_upd {n:Nat} {p:uc} (h:ρ n=none):ρ.le (ρ.upd n p):=fun i q hq=>by
 unfold aR.upd
 split
 · rename_i hi;subst hi;rw [h] at hq;cases hq
 · exact hq
theorem cv.quiet {pres:Nat→Prop} {n:Nat} {e:aL} {v:Value} (hg:gK ρ w) (ha:gY ρ pres) (hv:aE ρ e.val v) (h1:e.wr=[]) (h2:e.nw=[]):cv ρ pres n e w v ρ w where
 le:=aR.le.refl ρ
 good:=hg
 dom:=fun _ _ h=>.inl h
 new:=fun i p h3 h4=>by simp [h2] at h4;omega
 apart:=fun i j p q hi hj=>by
  refine ha i j p q ?_ ?_
  · rcases hi with hi |hi
    · exact hi.1
    · simp [h2] at hi;omega
  · rcases hj with hj |hj
    · exact hj.1
    · simp [h2] at hj;omega
 val:=hv
 wr:=by simp [h1]
 nw:=by simp [h2]
 frm:=um.refl _ _
theorem cv.fresh {pres:Nat→Prop} {n:Nat} {e:aL} {v:Value} {row:Row} {cs:Array Value} {ty:TypeId} (hg:gK ρ w) (ha:gY ρ pres) (hfree:ρ n=none)
    (hv:aE (ρ.upd n ⟨w.heap.size,0,true,cs.size⟩) e.val v) (h1:e.wr=[]) (h2:e.nw=[row])
    (hrow:bk (ρ.upd n ⟨w.heap.size,0,true,cs.size⟩) n row (w.alloc (.cells cs ty))):cv ρ pres n e w v (ρ.upd n ⟨w.heap.size,0,true,cs.size⟩) (w.alloc (.cells cs ty)) where
 le:=aR.le_upd hfree
 good:=fun i p h=>by
  unfold aR.upd at h
  split at h
  · cases h;simp
  · have:=hg i p h;simp;omega
 dom:=fun i p h=>by
  unfold aR.upd at h
  split at h
  · rename_i hi;subst hi;right;simp [h2]
  · exact .inl h
 new:=fun i p h3 h4 h=>by
  simp [h2] at h4
  have :i=n:=by omega
  subst this
  simp [aR.upd] at h
  subst h
  exact .inl (Nat.le_refl _)
 apart:=fun i j p q hi hj hij hp hq hm=>by
  have key:∀i p,(ρ.upd n ⟨w.heap.size,0,true,cs.size⟩) i=some p→dg pres n e i→(i=n∧p.b=w.heap.size)∨(i≠n∧ρ i=some p∧pres i∧p.b<w.heap.size):=by
   intro i p h hpr
   unfold aR.upd at h
   split at h
   · rename_i hi;cases h;exact .inl ⟨hi,rfl⟩
   · rename_i hi
     refine .inr ⟨hi,h,?_,hg i p h⟩
     rcases hpr with hpr |hpr
     · exact hpr.1
     · simp [h2] at hpr;omega
  rcases key i p hp hi with ⟨h3,h4⟩|⟨h3,h4,h5,h6⟩<;>rcases key j q hq hj with ⟨k3,k4⟩|⟨k3,k4,k5,k6⟩
  · omega
  · omega
  · omega
  · exact ha i j p q h5 k5 hij h4 k4 hm
 val:=hv
 wr:=by simp [h1]
 nw:=fun j row' h=>by
  rw [h2] at h
  cases j with
  |zero=>simp at h;subst h;exact hrow
  |succ j=>simp at h
 frm:=⟨rfl,rfl,rfl,by simp,fun b hb _=>Below.heap_alloc _ _ _ hb⟩
theorem cv.wrote {pres:Nat→Prop} {n:Nat} {e:aL} {v:Value} {id:Nat} {row:Row} {p:uc} {cs:Array Value} (hg:gK ρ w) (ha:gY ρ pres) (hp:ρ id=some p) (hm:p.mine=true) (hv:aE ρ e.val v)
    (h1:e.wr=[(id,row)]) (h2:e.nw=[]) (hrow:bk ρ id row (w.setRow p.b cs)):cv ρ pres n e w v ρ (w.setRow p.b cs) where
 le:=aR.le.refl ρ
 good:=fun i p h=>by have:=hg i p h;simpa using this
 dom:=fun _ _ h=>.inl h
 new:=fun i p h3 h4=>by simp [h2] at h4;omega
 apart:=fun i j p q hi hj=>by
  refine ha i j p q ?_ ?_
  · rcases hi with hi |hi
    · exact hi.1
    · simp [h2] at hi;omega
  · rcases hj with hj |hj
    · exact hj.1
    · simp [h2] at hj;omega
 val:=hv
 wr:=by simp [h1];exact hrow
 nw:=by simp [h2]
 frm:=⟨rfl,rfl,rfl,by simp,fun b _ hn=>setRow_other w p.b b cs (fun hb=>hn ⟨(id,row),by simp [h1],p,hp,hm,hb.symm⟩)⟩
end
section
variable {P:Program} {X:bS}
theorem fo {o:Oper} {ev:Operand→SV} {m:Nat→Option Row} {n:Nat} {e:aL}
    (h:∀(ρ:aR) (pres:Nat→Prop) (a:Act) (w:World),(∀x∈o.op.operands,aE ρ (ev x) (a.eval x))→gK ρ w→gY ρ pres→
     (∀id∈e.rd,∀row,m id=some row→bk ρ id row w∧(row.live=true→pres id))→(∀j,n≤j→j<n+e.nw.length→ρ j=none∧ ¬ pres j)→
     ∃v ρ' w',((execOp a.eval o).run P w=.ok (.value v) w'∨(v=undef∧(execOp a.eval o).run P w=.ok .skip w'))∧cv ρ pres n e w v ρ' w'):mJ P o ev m n e:=by
 intro ρ pres a w hev hg ha hrd hfree K Q hK
 obtain ⟨v,ρ',w',hr,haft⟩:=h ρ pres a w hev hg ha hrd hfree
 unfold Oper.wp
 rcases hr with hr |⟨rfl,hr⟩
 · rw [hr];exact hK _ _ _ haft
 · rw [hr];exact hK _ _ _ haft
theorem gq {t:Nat} {ti:TI} (ht:bl P t ti) {ρ:aR} (w:World) (b off:Nat) {cs:List SV} {vs:List Value} (hr:au ρ cs vs) (hc:∀j v,vs[j]? =some v→w.cell? ⟨b,off+j,none⟩=some v) {j:Nat} {v:SV}
    (hp:mM ti cs j=some v):∃rv,(loadVar t ⟨b,off+j,none⟩).run P w=.ok rv w∧aE ρ v rv:=by
 unfold mM at hp
 unfold loadVar
 rw [Sem.run_bind,ht.isAgg]
 cases hq:ti.td.isAgg with
 | true=>
  simp only [hq,cond_true] at hp
  cases hb:Nat.ble (j+ti.size) cs.length with
  |false=>simp [hb] at hp
  | true=>
   simp only [hb,cond_true,Option.some.injEq] at hp
   subst hp
   have hlen:=hr.length
   have hble:=Nat.le_of_ble_eq_true hb
   have hl:=run_loadCells_list (P:=P) w ⟨b,off+j,none⟩ ((vs.drop j).take ti.size) (fun i u hu=>by
    rw [dw,Nat.add_assoc]
    refine hc _ _ ?_
    rw [List.getElem?_take] at hu
    split at hu
    · simpa using hu
    · cases hu)
   have hlen2:((vs.drop j).take ti.size).length=ti.size:=by simp;omega
   rw [hlen2] at hl
   refine ⟨.agg ((vs.drop j).take ti.size).toArray,by simp [Sem.run_bind,ht.sizeOf,hl],?_⟩
   simp only [aE]
   exact ⟨_,rfl,(hr.drop j).take ti.size⟩
 |false=>
  simp only [hq,cond_false] at hp
  obtain ⟨u,hu,hru⟩:=hr.get hp
  exact ⟨u,by simp [run_load,hc j u hu],hru⟩
theorem eb {w:World} {b:Nat} {vs:List Value} {ty:TypeId} {fr:Nat×Nat} (hg:w.heap[b]? =some (.cells vs.toArray ty fr)) (j:Nat):w.cell? ⟨b,j,none⟩=vs[j]? :=by
 rw [cell_of_row w b j _ ty fr hg];simp
theorem I8 {ρ:aR} {w:World} {k:aA} {x:k.T} {b off:Nat} (h:∀(j:Nat) (s:SV),(k.enc x)[j]? =some s→w.cell? ⟨b,off+j,none⟩=some (bK s)):
    au ρ (k.enc x) ((k.enc x).map bK)∧∀j v,((k.enc x).map bK)[j]? =some v→w.cell? ⟨b,off+j,none⟩=some v:=by
 constructor
 · have hd:=k.enc_dat x
   generalize k.enc x=l at hd
   clear h
   induction l with
   |nil=>simp [au]
   |cons s l ih=>
    simp only [List.map_cons,aa]
    exact ⟨(mo (hd s (by simp))).2 rfl,ih (fun s hs=>hd s (by simp [hs]))⟩
 · intro j v hv
   rw [List.getElem?_map] at hv
   cases hs:(k.enc x)[j]? with
   |none=>simp [hs] at hv
   |some s=>
    simp [hs] at hv
    subst hv
    exact h j s hs
theorem Qd (hX:bV P X) {o:Oper} {ev:Operand→SV} {rows:List Row} {t:TypeId} {x:Operand} (ho:o.op=.load t x) {e:aL} (h:fS X ev rows (.load t x)=some e) (hok:e.ok=true):
    mJ P o ev (rows[·]?) rows.length e:=by
 refine fo fun ρ pres a w hev hg ha hrd _=>?_
 simp only [fS] at h
 cases hx:ev x<;>simp only [hx,reduceCtorEq] at h
 rename_i id st i j
 cases hT:X.T t with
 |none=>simp [hT] at h
 | some ti =>
  have ht:=hX.T _ _ hT
  have hxv:=hev x (by simp [ho,Op.operands])
  rw [hx] at hxv
  simp only [aE] at hxv
  obtain ⟨p,hp,hxv⟩:=hxv
  cases hrow:rows[id]? with
  |none=>simp [hT,hrow] at h
  | some row=>
   cases row with
   |gone=>simp [hT,hrow] at h
   | own cells=>
    simp only [hT,hrow] at h
    split at h
    · rename_i v hv
      cases h
      obtain ⟨p',vs,ty,hp',hb,hm,hh,hr⟩:=(hrd id (by simp) _ hrow).1
      rw [hp] at hp';cases hp'
      obtain ⟨rv,h1,h2⟩:=gq ht w p.b 0 hr (fun j v hv=>by rw [Nat.zero_add,eb hh];exact hv) hv
      refine ⟨rv,ρ,w,.inl ?_,cv.quiet hg ha h2 rfl rfl⟩
      unfold execOp
      rw [ho]
      simp only [hxv]
      rw [Nat.zero_add] at h1
      rw [show p.base+i*st+j=i*st+j by omega]
      simp [Instr.loadAt,Instr.sureAddr,Sem.run_bind,h1]
    · cases h
   |obj _=>simp [hT,hrow] at h
   | pre ro cells=>
    simp only [hT,hrow] at h
    split at h
    · rename_i v hv
      cases h
      obtain ⟨p',vs,ty,hp',hb,hm,hh,hsz,hr⟩:=(hrd id (by simp) _ hrow).1
      rw [hp] at hp';cases hp'
      obtain ⟨rv,h1,h2⟩:=gq ht w p.b 0 hr (fun j v hv=>by
       rw [Nat.zero_add,eb hh]
       rw [List.getElem?_take] at hv
       split at hv
       · exact hv
       · cases hv) hv
      refine ⟨rv,ρ,w,.inl ?_,cv.quiet hg ha h2 rfl rfl⟩
      unfold execOp
      rw [ho]
      simp only [hxv]
      rw [Nat.zero_add] at h1
      rw [show p.base+i*st+j=i*st+j by omega]
      simp [Instr.loadAt,Instr.sureAddr,Sem.run_bind,h1]
    · cases h
   | vec ro k xs=>
    simp only [hT,hrow] at h
    cases hst:Nat.beq st k.st with
    |false=>simp [hst] at h
    | true =>
     simp only [hst,cond_true] at h
     have hst':st=k.st:=Nat.eq_of_beq_eq_true hst
     subst hst'
     split at h
     · rename_i v hv
       cases h
       simp only [decide_eq_true_eq] at hok
       obtain ⟨p',hp',_,_,hcells⟩:∃p:uc,ρ id=some p∧(ro=true→p.mine=false)∧(ro=false→p.mine=true∧p.base=0∧∃(vs:List Value) (ty:TypeId),w.heap[p.b]? =some (.cells vs.toArray ty (0,0))∧xs.length*k.st≤vs.length∧vs.length=p.size)∧
           ∀(i:Nat) (x:k.T),xs[i]? =some x→∀(j:Nat) (s:SV),(k.enc x)[j]? =some s→w.cell? ⟨p.b,p.base+i*k.st+j,none⟩=some (bK s):=by
        rcases (hrd id (by simp) _ hrow).1 with ⟨_,he⟩|h
        · rw [he] at hok;simp at hok
        · exact h
       rw [hp] at hp';cases hp'
       have hxi:xs[i]? =some (xs.getD i k.dflt):=by simp [List.getD,List.getElem?_eq_getElem hok]
       obtain ⟨hr,hc⟩:=I8 (ρ:=ρ) (hcells i _ hxi)
       obtain ⟨rv,h1,h2⟩:=gq ht w p.b (p.base+i*k.st) hr hc hv
       refine ⟨rv,ρ,w,.inl ?_,cv.quiet hg ha h2 rfl rfl⟩
       unfold execOp
       rw [ho]
       simp only [hxv]
       simp [Instr.loadAt,Instr.sureAddr,Sem.run_bind,h1]
     · cases h
theorem gz:∀(vs:List SV) (cs:List SV) (i:Nat),(mK cs i vs).length=cs.length
 |[],_,_=>rfl
 |v::vs,cs,i=>by rw [mK,gz vs];simp
theorem sN (vs:List SV):∀(cs:List SV) (i k:Nat),i+vs.length≤cs.length→(mK cs i vs)[k]? =if i≤k∧k<i+vs.length then vs[k - i]? else cs[k]? :=by
 induction vs with
 |nil=>intro cs i k _;rw [if_neg (by simp only [List.length_nil];omega)];rfl
 | cons v vs ih=>
  intro cs i k h
  simp only [List.length_cons] at h
  rw [mK,ih _ _ _ (by simp;omega)]
  by_cases h1:i+1≤k∧k<i+1+vs.length
  · rw [if_pos h1,if_pos (by simp only [List.length_cons];omega)]
    obtain ⟨j,rfl⟩:∃j,k=i+1+j:=⟨k - (i+1),by omega⟩
    rw [show i+1+j - (i+1)=j by omega,show i+1+j - i=j+1 by omega,List.getElem?_cons_succ]
  · rw [if_neg h1]
    by_cases h2:k=i
    · subst h2
      rw [if_pos (by simp only [List.length_cons];omega)]
      have :k<cs.length:=by omega
      simp [List.getElem?_set,this]
    · rw [if_neg (by simp only [List.length_cons];omega)]
      simp [List.getElem?_set,Ne.symm h2]
theorem t8:∀(us:List Value) (vs:Array Value) (i n:Nat),i+us.length≤n→(cP vs i us).toList.take n=(cP (vs.toList.take n).toArray i us).toList
 |[],vs,i,n,_=>by simp [cP]
 |u::us,vs,i,n,h=>by
  simp only [List.length_cons] at h
  rw [cP,cP,t8 us _ (i+1) n (by omega)]
  congr 2
  simp [List.take_set]
theorem zA {ρ:aR} {w:World} {id:Nat} {p:uc} {vs:List Value} {ty:TypeId} {cells xs:List SV} {us:List Value} {off:Nat} (hp:ρ id=some p) (hb:p.base=0) (hm:p.mine=true) (hh:w.heap[p.b]? =some (.cells vs.toArray ty (0,0)))
    (hs:vs.length=p.size) (hr:au ρ cells (vs.take cells.length)) (hx:au ρ xs us) (hfit:off+us.length≤cells.length):bk ρ id (.pre false (mK cells off xs)) (w.setRow p.b (cP vs.toArray off us)):=by
 refine ⟨p,(cP vs.toArray off us).toList,ty,hp,hb,hm,?_,fun _=>?_,?_⟩
 · rw [setRow_heap w p.b _ _ ty _ hh]
 · have:=tT us vs.toArray off
   simp at this ⊢
   omega
 · rw [gz,t8 _ _ _ _ hfit]
   exact ou hx off (by simpa using hr)
theorem Mk (hX : bV P X) {o:Oper} {ev:Operand→SV} {rows:List Row} {t:TypeId} {x y:Operand} (ho:o.op=.store t x y) {e:aL} (h:fS X ev rows (.store t x y)=some e) (hok:e.ok=true):
    mJ P o ev (rows[·]?) rows.length e:=by
 refine fo fun ρ pres a w hev hg ha hrd _=>?_
 simp only [fS] at h
 cases hx:ev x<;>simp only [hx,reduceCtorEq] at h
 rename_i id st i j
 cases hT:X.T t with
 |none=>simp [hT] at h
 | some ti =>
  have ht:=hX.T _ _ hT
  have hxv:=hev x (by simp [ho,Op.operands])
  rw [hx] at hxv
  simp only [aE] at hxv
  obtain ⟨p,hp,hxv⟩:=hxv
  cases hvc:(ev y).cells with
  |none=>simp [hT,hvc] at h
  | some vc =>
   have hyr:=SV.cells_rel (hev y (by simp [ho,Op.operands])) hvc
   cases hrow:rows[id]? with
   |none=>simp [hT,hvc,hrow] at h
   | some row =>
    cases row with
    |gone=>simp [hT,hvc,hrow] at h
    | own cells=>
     simp only [hT,hvc,hrow] at h
     cases hb:Nat.beq vc.length ti.size&&(Nat.ble (i*st+j+ti.size) cells.length&&vc.all SV.one) with
     |false=>simp [hb] at h
     | true=>
      simp only [hb,cond_true,Option.some.injEq] at h
      subst h
      rw [Bool.and_eq_true,Bool.and_eq_true] at hb
      obtain ⟨h1,h2,h3⟩:=hb
      have h1:=Nat.eq_of_beq_eq_true h1
      have h2:=Nat.le_of_ble_eq_true h2
      obtain ⟨p',vs,ty,hp',hb0,hm,hh,hr⟩:=(hrd id (by simp) _ hrow).1
      rw [hp] at hp';cases hp'
      have hl:=hr.length
      have hyl:=hyr.length
      have hst:=ks (P:=P) ht.size w p.b (i*st+j) vs.toArray ty (a.eval y) hh (by simp at hyl;omega) (hyr.ones h3) (by simp;omega)
      refine ⟨undef,ρ,_,.inr ⟨rfl,?_⟩,cv.wrote (cs:=cP vs.toArray (i*st+j) (a.eval y).cells.toList) hg ha hp hm (by simp [aE,au,undef]) rfl rfl ?_⟩
      · unfold execOp
        rw [ho]
        simp only [hxv]
        rw [show p.base+i*st+j=i*st+j by omega]
        simp [Instr.storeAt,Instr.sureAddr,Sem.run_bind,hst]
      · refine ⟨p,(cP vs.toArray (i*st+j) (a.eval y).cells.toList).toList,ty,hp,hb0,hm,?_,ou hyr _ (by simpa using hr)⟩
        rw [setRow_heap w p.b _ _ ty _ hh]
    |obj _=>simp [hT,hvc,hrow] at h
    | pre ro cells=>
     cases ro with
     |true=>simp [hT,hvc,hrow] at h
     |false=>
     simp only [hT,hvc,hrow] at h
     cases hb:Nat.beq vc.length ti.size&&(Nat.ble (i*st+j+ti.size) cells.length&&vc.all SV.one) with
     |false=>simp [hb] at h
     | true=>
      simp only [hb,cond_true,Option.some.injEq] at h
      subst h
      rw [Bool.and_eq_true,Bool.and_eq_true] at hb
      obtain ⟨h1,h2,h3⟩:=hb
      have h1:=Nat.eq_of_beq_eq_true h1
      have h2:=Nat.le_of_ble_eq_true h2
      obtain ⟨p',vs,ty,hp',hb0,hm,hh,hsz,hr⟩:=(hrd id (by simp) _ hrow).1
      rw [hp] at hp';cases hp'
      have hl:=hr.length
      rw [List.length_take] at hl
      have hyl:=hyr.length
      have hst:=ks (P:=P) ht.size w p.b (i*st+j) vs.toArray ty (a.eval y) hh (by simp at hyl;omega) (hyr.ones h3) (by simp;omega)
      refine ⟨undef,ρ,_,.inr ⟨rfl,?_⟩,cv.wrote (cs:=cP vs.toArray (i*st+j) (a.eval y).cells.toList) hg ha hp hm (by simp [aE,au,undef]) rfl rfl ?_⟩
      · unfold execOp
        rw [ho]
        simp only [hxv]
        rw [show p.base+i*st+j=i*st+j by omega]
        simp [Instr.storeAt,Instr.sureAddr,Sem.run_bind,hst]
      · exact zA hp hb0 hm hh (hsz rfl) hr hyr (by simp at hyl ⊢;omega)
    | vec ro k xs=>
     cases ro with
     |true=>simp [hT,hvc,hrow] at h
     | false =>
      simp only [hT,hvc,hrow] at h
      cases hb:Nat.beq st k.st&&(Nat.beq vc.length ti.size&&(Nat.ble (j+ti.size) st&&vc.all SV.one)) with
      |false=>simp [hb] at h
      | true =>
       simp only [hb,cond_true] at h
       split at h
       · rename_i x' hx'
         cases h
         simp only [decide_eq_true_eq] at hok
         rw [Bool.and_eq_true,Bool.and_eq_true,Bool.and_eq_true] at hb
         obtain ⟨h0,h1,h2,h3⟩:=hb
         obtain rfl:=Nat.eq_of_beq_eq_true h0
         have h1:=Nat.eq_of_beq_eq_true h1
         have h2:=Nat.le_of_ble_eq_true h2
         obtain ⟨p',hp',_,hown,hcells⟩:∃p:uc,ρ id=some p∧(false=true→p.mine=false)∧(false=false→p.mine=true∧p.base=0∧∃(vs:List Value) (ty:TypeId),w.heap[p.b]? =some (.cells vs.toArray ty (0,0))∧xs.length*k.st≤vs.length∧vs.length=p.size)∧
             ∀(i:Nat) (x:k.T),xs[i]? =some x→∀(j:Nat) (s:SV),(k.enc x)[j]? =some s→w.cell? ⟨p.b,p.base+i*k.st+j,none⟩=some (bK s):=by
          rcases (hrd id (by simp) _ hrow).1 with ⟨h,_⟩|h
          · cases h
          · exact h
         rw [hp] at hp';cases hp'
         obtain ⟨hm,hb0,vs,ty,hh,hlen,hsz⟩:=hown rfl
         have hyl:=hyr.length
         have hle:i*k.st+k.st≤xs.length*k.st:=by
          have:=Nat.mul_le_mul_right k.st (Nat.succ_le_of_lt hok)
          rw [Nat.succ_mul] at this
          exact this
         have hst:=ks (P:=P) ht.size w p.b (i*k.st+j) vs.toArray ty (a.eval y) hh (by simp at hyl;omega) (hyr.ones h3) (by simp;omega)
         refine ⟨undef,ρ,_,.inr ⟨rfl,?_⟩,cv.wrote (cs:=cP vs.toArray (i*k.st+j) (a.eval y).cells.toList) hg ha hp hm (by simp [aE,au,undef]) rfl rfl ?_⟩
         · unfold execOp
           rw [ho]
           simp only [hxv]
           rw [show p.base+i*k.st+j=i*k.st+j by omega]
           simp [Instr.storeAt,Instr.sureAddr,Sem.run_bind,hst]
         · have hnew:=setRow_heap w p.b _ (cP vs.toArray (i*k.st+j) (a.eval y).cells.toList) ty _ hh
           have hsize:=tT (a.eval y).cells.toList vs.toArray (i*k.st+j)
           refine .inr ⟨p,hp,fun h=>(by cases h),fun _=>⟨hm,hb0,(cP vs.toArray (i*k.st+j) (a.eval y).cells.toList).toList,ty,by simpa using hnew,by simp at hsize ⊢;omega,by simp at hsize ⊢;omega⟩,?_⟩
           intro i' x0 hx0 j' s hs
           rw [cell_of_row _ _ _ _ _ _ hnew,hb0]
           have hj':j'<k.st:=by
            have:=(List.getElem?_eq_some_iff.1 hs).1
            rw [k.enc_len] at this
            exact this
           have hlen2:(a.eval y).cells.toList.length=(a.eval y).cells.size:=Array.length_toList
           rw [vO _ _ _ _ (by simp at hyl ⊢;omega)]
           by_cases hi:i'=i
           · subst hi
             rw [List.getElem?_set_self hok] at hx0
             cases hx0
             have henc:=aA.enc_dec hx'
             have hsd:=k.enc_dat _ s (List.mem_of_getElem? hs)
             rw [henc,sN _ _ _ _ (by rw [k.enc_len];simp at hyl;omega)] at hs
             simp only [Array.length_toList] at hyl ⊢
             by_cases hin:j≤j'∧j'<j+vc.length
             · rw [if_pos hin] at hs
               rw [if_pos (by omega),show 0+i'*k.st+j' - (i'*k.st+j)=j' - j by omega]
               obtain ⟨u,hu,hur⟩:=hyr.get hs
               rw [hu,(mo hsd).1 hur]
             · rw [if_neg hin] at hs
               rw [if_neg (by omega)]
               have hxi:xs[i']? =some (xs.getD i' k.dflt):=by simp [List.getD,List.getElem?_eq_getElem hok]
               have hold:=hcells i' _ hxi j' s hs
               rw [cell_of_row _ _ _ _ _ _ hh,hb0] at hold
               exact hold
           · rw [List.getElem?_set_ne (Ne.symm hi)] at hx0
             have hold:=hcells i' x0 hx0 j' s hs
             rw [cell_of_row _ _ _ _ _ _ hh,hb0] at hold
             rw [if_neg]
             · exact hold
             · rintro ⟨g1,g2⟩
               simp at hyl
               rcases Nat.lt_or_gt_of_ne hi with hlt |hgt
               · have:=Nat.mul_le_mul_right k.st (Nat.succ_le_of_lt hlt)
                 rw [Nat.succ_mul] at this
                 omega
               · have:=Nat.mul_le_mul_right k.st (Nat.succ_le_of_lt hgt)
                 rw [Nat.succ_mul] at this
                 omega
       · cases h
theorem od {t:Nat} {ti:TI} (ht:bl P t ti) (w:World):∃z,(zeroValue t).run P w=.ok z w∧au (fun _=>none) ti.zero z.cells.toList:=by
 obtain ⟨z,hz,hr⟩:=ht.zero
 refine ⟨z,?_,hr⟩
 cases hq:P.info? t with
 |none=>simp [hq] at hz
 |some i=>simp [hq] at hz;simp [zeroValue,typeInfo,hq,hz]
theorem Lo (hX:bV P X) {o:Oper} {ev:Operand→SV} {rows:List Row} {t:TypeId} (ho:o.op=.alloc t) {e:aL} (h:fS X ev rows (.alloc t)=some e):mJ P o ev (rows[·]?) rows.length e:=by
 refine fo fun ρ pres a w hev hg ha hrd hfree=>?_
 simp only [fS] at h
 split at h
 · rename_i ti hT
   cases h
   obtain ⟨z,hz,hr⟩:=od (hX.T _ _ hT) w
   have hf:ρ rows.length=none:=(hfree rows.length (Nat.le_refl _) (by simp)).1
   refine ⟨.pointer (some ⟨w.heap.size,0,none⟩),_,_,.inl ?_,cv.fresh (cs:=z.cells) (ty:=t) (row:=.own ti.zero) hg ha hf ?_ rfl rfl ?_⟩
   · unfold execOp
     rw [ho]
     simp [Instr.alloc,Sem.run_bind,hz,newVar,newRow]
   · simp [aE,aR.upd]
   · refine ⟨⟨w.heap.size,0,true,z.cells.size⟩,z.cells.toList,t,by simp [aR.upd],rfl,rfl,?_,au.mono (fun _ _ h=>by cases h) _ _ hr⟩
     rw [Go.heap_alloc_new]
 · cases h
theorem Wt {o:Oper} {ev:Operand→SV} {rows:List Row} {t:TypeId} {x:Operand} (ho:o.op=.box t x) {e:aL} (h:fS X ev rows (.box t x)=some e):mJ P o ev (rows[·]?) rows.length e:=by
 refine fo fun ρ pres a w hev hg ha hrd hfree=>?_
 simp only [fS] at h
 split at h
 · rename_i cs hcs
   cases h
   have hr:=SV.cells_rel (hev x (by simp [ho,Op.operands])) hcs
   have hf:ρ rows.length=none:=(hfree rows.length (Nat.le_refl _) (by simp)).1
   refine ⟨.pointer (some ⟨w.heap.size,0,none⟩),_,_,.inl ?_,cv.fresh (cs:=(a.eval x).cells) (ty:=t) (row:=.own cs) hg ha hf ?_ rfl rfl ?_⟩
   · unfold execOp
     rw [ho]
     simp [Instr.box,Sem.run_bind,newVar,newRow]
   · simp [aE,aR.upd]
   · refine ⟨⟨w.heap.size,0,true,(a.eval x).cells.size⟩,(a.eval x).cells.toList,t,by simp [aR.upd],rfl,rfl,?_,au.mono (aR.le_upd hf) _ _ hr⟩
     rw [Go.heap_alloc_new]
 · cases h
theorem pL {o:Oper} {ev:Operand→SV} {m:Nat→Option Row} {n:Nat} {f:Operand} {args:Array Operand} {ts:Array TypeId} (ho:o.op=.call ⟨.value f,args,ts⟩) {fid:Nat} {caps:List SV} (hf:ev f=.fn fid caps) {e:aL}
    (hfn:aN P fid (args.toList.map ev++caps) m n e) {fn:Func} (hfu:P.funcs[fid]? =some fn) (hok2:(fn.name== "runtime.NumGoroutine" ||fn.body.isNone)=false):mJ P o ev m n e:=by
 intro ρ pres a w hev hg ha hrd hfree K Q hK
 have hfv:=hev f (by simp [ho,Op.operands,Call.operands])
 rw [hf] at hfv
 simp only [aE] at hfv
 obtain ⟨vs,hv,hr⟩:=hfv
 have hargs:au ρ (args.toList.map ev) (args.toList.map a.eval):=jl fun x hx=>hev x (by simp [ho,Op.operands,Call.operands];exact .inr (by simpa using hx))
 have hall:=hargs.append hr
 obtain ⟨h1,h2⟩:=Bool.or_eq_false_iff.1 hok2
 have hc:=hfn ρ pres _ w hall hg ha hrd hfree
 unfold Oper.wp
 have hrun:(execOp a.eval o).run P w=.ok (.enter fid (args.toList.map a.eval++vs).toArray) w:=by
  have hcall:∀us:Array Value,(callFunc fid us).run P w=.ok (.enter fid us) w:=by
   intro us
   unfold callFunc
   rw [Sem.run_bind]
   simp only [run_program,Result.andThen_ok,hfu,h1,h2]
   rfl
  unfold execOp
  rw [ho]
  simp only [resolve,hv,Deferred.ofValue,Sem.run_bind,Sem.run_pure,Result.andThen_ok,invoke,hcall]
  congr 2
  apply Array.ext'
  simp
 rw [hrun]
 exact hc.mono fun en w' ⟨v,ρ',he,haft⟩=>by subst he;exact hK _ _ _ haft
theorem NG {o:Oper} {ev:Operand→SV} {m:Nat→Option Row} {n:Nat} {f:Operand} {args:Array Operand} {ts:Array TypeId} (ho:o.op=.call ⟨.value f,args,ts⟩) {fid:Nat} {caps:List SV} (hf:ev f=.fn fid caps) {e:aL}
    (hx:As P fid (args.toList.map ev++caps) e):mJ P o ev m n e:=by
 intro ρ pres a w hev hg ha hrd hfree K Q hK
 have hfv:=hev f (by simp [ho,Op.operands,Call.operands])
 rw [hf] at hfv
 simp only [aE] at hfv
 obtain ⟨vs,hv,hr⟩:=hfv
 have hargs:au ρ (args.toList.map ev) (args.toList.map a.eval):=jl fun x hx=>hev x (by simp [ho,Op.operands,Call.operands];exact .inr (by simpa using hx))
 obtain ⟨_,_,h2,h3,hx⟩:=hx
 obtain ⟨v,hrel,hrun0⟩:=hx ρ _ w (hargs.append hr)
 unfold Oper.wp
 have hrun:(execOp a.eval o).run P w=.ok (.value v) w:=by
  rw [←hrun0]
  unfold execOp
  rw [ho]
  simp only [resolve,hv,Deferred.ofValue,Sem.run_bind,Sem.run_pure,Result.andThen_ok,invoke]
  congr 2
  apply Array.ext'
  simp
 rw [hrun]
 exact hK _ _ _ (cv.quiet hg ha hrel h2 h3)
theorem Pu (hX:bV P X) {o:Oper} {ev:Operand→SV} {rows:List Row} {f:Operand} {args:Array Operand} {ts:Array TypeId} (ho:o.op=.call ⟨.value f,args,ts⟩) {e:aL} (h:fS X ev rows (.call ⟨.value f,args,ts⟩)=some e) (hok:e.ok=true) (hob:e.obj=false):
    mJ P o ev (rows[·]?) rows.length e:=by
 simp only [fS] at h
 split at h
 · rename_i fid caps hf
   rcases hX.call _ _ _ _ h hok with hx |⟨hfn,fn,hfu,hok2⟩
   · exact NG ho hf hx
   rw [hob] at hfn
   exact pL ho hf hfn hfu hok2
 · cases h
theorem E6 {o:Oper} {ev:Operand→SV} {m:jM} {n:Nat} {f:Operand} {args:Array Operand} {ts:Array TypeId} (ho:o.op=.call ⟨.value f,args,ts⟩) {fid:Nat} {caps:List SV} (hf:ev f=.fn fid caps) {e:aL}
    (hfn:dp P fid (args.toList.map ev++caps) m n e) {fn:Func} (hfu:P.funcs[fid]? =some fn) (hok2:(fn.name== "runtime.NumGoroutine" ||fn.body.isNone)=false):Fr P o ev m n e:=by
 intro ρ m1 a w hev hrd hwr hfree hW K Q hK
 have hfv:=hev f (by simp [ho,Op.operands,Call.operands])
 rw [hf] at hfv
 simp only [aE] at hfv
 obtain ⟨vs,hv,hr⟩:=hfv
 have hargs:au ρ (args.toList.map ev) (args.toList.map a.eval):=jl fun x hx=>hev x (by simp [ho,Op.operands,Call.operands];exact .inr (by simpa using hx))
 have hall:=hargs.append hr
 obtain ⟨h1,h2⟩:=Bool.or_eq_false_iff.1 hok2
 have hc:=hfn ρ m1 _ w hrd hwr hfree hall hW
 unfold Oper.wp
 have hrun:(execOp a.eval o).run P w=.ok (.enter fid (args.toList.map a.eval++vs).toArray) w:=by
  have hcall:∀us:Array Value,(callFunc fid us).run P w=.ok (.enter fid us) w:=by
   intro us
   unfold callFunc
   rw [Sem.run_bind]
   simp only [run_program,Result.andThen_ok,hfu,h1,h2]
   rfl
  unfold execOp
  rw [ho]
  simp only [resolve,hv,Deferred.ofValue,Sem.run_bind,Sem.run_pure,Result.andThen_ok,invoke,hcall]
  congr 2
  apply Array.ext'
  simp
 rw [hrun]
 exact hc.mono fun en w' ⟨v,ρ',he,h3,h4,h5⟩=>by subst he;exact hK _ _ _ h3 h4 h5
theorem LY (hX:bV P X) {o:Oper} {ev:Operand→SV} {rows:List Row} {f:Operand} {args:Array Operand} {ts:Array TypeId} (ho:o.op=.call ⟨.value f,args,ts⟩) {e:aL} (h:fS X ev rows (.call ⟨.value f,args,ts⟩)=some e) (hok:e.ok=true) (hob:e.obj=true):
    Fr P o ev (rows[·]?) rows.length e:=by
 simp only [fS] at h
 split at h
 · rename_i fid caps hf
   rcases hX.call _ _ _ _ h hok with hx |⟨hfn,fn,hfu,hok2⟩
   · rw [hx.1] at hob
     cases hob
   rw [hob] at hfn
   exact E6 ho hf hfn hfu hok2
 · cases h
theorem Cg (hX:bV P X) {t e:Nat} {ti:TI} {k:aA} (h:X.knd t=some (e,ti,k)):P.underlying t=some (.slice e)∧bl P e ti∧ti.size=k.st∧X.T e=some ti:=by
 unfold bS.knd at h
 split at h
 · rename_i e' size z0 bytes knd eq hq
   have hu:=(hX.T _ _ hq).td
   simp only at hu
   split at h
   · rename_i ti' hti
     split at h
     · rename_i k' hk
       cases hb:Nat.beq ti'.size k'.st with
       |false=>simp [hb] at h
       |true=>
        simp only [hb,cond_true,Option.some.injEq,Prod.mk.injEq] at h
        obtain ⟨rfl,rfl,rfl⟩:=h
        exact ⟨hu,hX.T _ _ hti,Nat.eq_of_beq_eq_true hb,hti⟩
     · cases h
   · cases h
 · cases h
theorem iJ {n:Int} (h0:0≤n) (h1:n≤9223372036854775807):IntKind.i64.wrap n=n:=IntWalk.i64_in _ (by omega)
theorem CU (z:Array Value) (N q:Nat) (hq:q<N):((Array.range N).map (fun i=>z[i%z.size]!))[q]? =some (z[q%z.size]!):=by
 simp [Array.getElem?_map,hq]
theorem xl (hX:bV P X) {o:Oper} {ev:Operand→SV} {rows:List Row} {t:TypeId} {l c:Operand} (ho:o.op=.makeSlice t l c) {e:aL} (h:fS X ev rows (.makeSlice t l c)=some e) (hok:e.ok=true):
    mJ P o ev (rows[·]?) rows.length e:=by
 refine fo fun ρ pres a w hev hg ha hrd hfree=>?_
 simp only [fS] at h
 split at h
 · rename_i et ti k n m hk hl hc
   split at h
   · rename_i z hz
     cases h
     simp only [Bool.and_eq_true,decide_eq_true_eq] at hok
     obtain ⟨h0,h1,h2,rfl⟩:=hok
     obtain ⟨hu,hti,hsz,_⟩:=Cg hX hk
     have hlv:=hev l (by simp [ho,Op.operands])
     have hcv:=hev c (by simp [ho,Op.operands])
     rw [hl] at hlv
     rw [hc] at hcv
     simp only [aE] at hlv hcv
     have hf:ρ rows.length=none:=(hfree rows.length (Nat.le_refl _) (by simp)).1
     obtain ⟨zv,hzv,hzr⟩:=od hti w
     have hby:=hti.bytes
     have henc:=aA.enc_dec hz
     have hst:0<k.st:=by cases k<;>decide
     have hzl:zv.cells.size=k.st:=by have:=hzr.length;rw [←henc,k.enc_len] at this;simpa using this.symm
     have hrun:∀cs:Array Value,cs=(Array.range (n.toNat*k.st)).map (fun i=>zv.cells[i%zv.cells.size]!)→(execOp a.eval o).run P w=.ok (.value (.slice (some ⟨w.heap.size,0,none⟩) n.toNat n.toNat)) (w.alloc (.cells cs et)):=by
      intro cs hcs
      have hti2:(typeInfo et).run P w=.ok ((P.info? et).getD default) w:=by
       cases hi:P.info? et with
       |none=>simp [hi] at hby
       |some i=>simp [typeInfo,hi]
      have hb2:((P.info? et).getD default).bytes=ti.bytes:=by
       cases hi:P.info? et with
       |none=>simp [hi] at hby
       |some i=>simpa [hi] using hby
      unfold execOp
      rw [ho]
      unfold Instr.makeSlice
      simp only [hlv,hcv,Sem.run_bind,run_underlying hu,Result.andThen_ok,asInt,asIntOf,Sem.run_pure,hti2,hb2,iJ h0 h1]
      rw [if_neg (by simp;omega)]
      simp only [Sem.run_bind,run_askRoom,Result.andThen_ok,hti.sizeOf,hsz]
      by_cases hN:n.toNat*k.st=0
      · rw [if_pos hN]
        have r0:Array.range 0= #[]:=rfl
        have e0:cs= #[]:=by rw [hcs,hN,r0];simp
        simp [newRow,hN,e0,r0]
      · rw [if_neg hN]
        simp [Sem.run_bind,hzv,newRow,hcs]
     refine ⟨_,_,_,.inl (hrun _ rfl),cv.fresh (row:=.vec false k (List.replicate n.toNat z)) hg ha hf ?_ rfl rfl ?_⟩
     · simp only [aE]
       exact .inl ⟨_,0,n.toNat,by simp [aR.upd];rfl,rfl,by simp,.inl (by simp),Nat.le_refl _,fun _=>by simp⟩
     · refine .inr ⟨⟨w.heap.size,0,true,_⟩,by simp [aR.upd];rfl,fun h=>(by cases h),fun _=>⟨rfl,rfl,((Array.range (n.toNat*k.st)).map (fun i=>zv.cells[i%zv.cells.size]!)).toList,et,?_,?_,?_⟩,?_⟩
       · rw [Go.heap_alloc_new]
       · simp
       · simp
       · intro i x hx j s hs
         have hin:i<n.toNat:=by
          have:=(List.getElem?_eq_some_iff.1 hx).1
          simpa using this
         have hx':x=z:=by simp [List.getElem?_replicate,hin] at hx;exact hx.symm
         subst hx'
         have hj:j<k.st:=by
          have:=(List.getElem?_eq_some_iff.1 hs).1
          rw [k.enc_len] at this
          exact this
         have hle:i*k.st+k.st≤n.toNat*k.st:=by
          have:=Nat.mul_le_mul_right k.st (Nat.succ_le_of_lt hin)
          rw [Nat.succ_mul] at this
          exact this
         change (w.alloc _).cell? ⟨w.heap.size,0+i*k.st+j,none⟩=some (bK s)
         rw [eb (vs:=((Array.range (n.toNat*k.st)).map (fun i=>zv.cells[i%zv.cells.size]!)).toList) (by simp only [Array.toArray_toList];rw [Go.heap_alloc_new]),Array.getElem?_toList,CU _ _ _ (by omega)]
         have hmod:(0+i*k.st+j)%zv.cells.size=j:=by rw [hzl,Nat.zero_add,Nat.mul_comm,Nat.mul_add_mod];exact Nat.mod_eq_of_lt hj
         rw [hmod]
         rw [henc] at hs
         obtain ⟨u,hu1,hu2⟩:=hzr.get hs
         have hsd:=k.enc_dat _ s (List.mem_of_getElem? (by rw [henc];exact hs))
         rw [(mo hsd).1 hu2] at hu1
         rw [Array.getElem?_toList] at hu1
         have:=(Array.getElem?_eq_some_iff.1 hu1)
         obtain ⟨hlt,hval⟩:=this
         rw [getElem!_pos zv.cells j hlt,hval]
   · cases h
 · cases h
theorem u6 (st:Nat):∀(parts:List (Nat×SV)) (i0:Nat) (cs:List (List SV)) (cells:List SV),ss i0 parts=some cs→(∀c∈cs,c.length=st)→(i0+cs.length)*st≤cells.length→
    ∃out,kO (fun i=>some (i*st,st)) cells parts=some out∧out.length=cells.length∧(∀(q:Nat) (c:List SV),cs[q]? =some c→∀j,j<st→out[(i0+q)*st+j]? =c[j]?)∧(∀k,k<i0*st→out[k]? =cells[k]?)
 |[],i0,cs,cells,h,_,_=>by
  simp only [ss,Option.some.injEq] at h
  subst h
  exact ⟨cells,rfl,rfl,by simp,fun _ _=>rfl⟩
 | (j, v)::parts,i0,cs,cells,h,hlen,hsz=>by
  simp only [ss] at h
  cases hb:Nat.beq i0 j with
  |false=>simp [hb] at h
  | true=>
   simp only [hb,cond_true] at h
   have hj:=Nat.eq_of_beq_eq_true hb
   subst hj
   split at h
   · rename_i c cs' hc hcs
     cases h
     have hcl:c.length=st:=hlen c (by simp)
     have hmul:i0*st+st≤cells.length:=by
      have h1:(i0+1)*st≤(i0+(c::cs').length)*st:=Nat.mul_le_mul_right _ (by simp)
      rw [Nat.succ_mul] at h1
      omega
     obtain ⟨out,h1,h2,h3,h4⟩:=u6 st parts (i0+1) cs' (mK cells (i0*st) c) hcs (fun c hc=>hlen c (by simp [hc])) (by
      rw [gz]
      simp only [List.length_cons] at hsz
      rw [show i0+1+cs'.length=i0+(cs'.length+1) by omega]
      exact hsz)
     refine ⟨out,?_,by rw [h2,gz],?_,?_⟩
     · rw [kO]
       simp only [hc]
       rw [show (Nat.beq c.length st&&Nat.ble (i0*st+st) cells.length)=true by
        rw [Bool.and_eq_true]
        exact ⟨by rw [hcl];exact Nat.beq_refl st,Nat.ble_eq_true_of_le hmul⟩]
       exact h1
     · intro q c' hq j hj
       cases q with
       |zero=>
        simp only [List.getElem?_cons_zero,Option.some.injEq] at hq
        subst hq
        rw [Nat.add_zero,h4 _ (by rw [Nat.succ_mul];omega),sN _ _ _ _ (by omega),if_pos (by omega)]
        congr 1
        omega
       |succ q=>
        rw [show i0+(q+1)=i0+1+q by omega]
        exact h3 q c' (by simpa using hq) j hj
     · intro k hk
       rw [h4 k (by rw [Nat.succ_mul];omega),sN _ _ _ _ (by omega),if_neg (by omega)]
   · cases h
theorem qe {k:aA}:∀{cs:List (List SV)} {xs:List k.T},s6 k cs=some xs→cs=xs.map k.enc
 |[],xs,h=>by simp only [s6,Option.some.injEq] at h;subst h;rfl
 | c::cs,xs,h=>by
  simp only [s6] at h
  split at h
  · rename_i x xs' hx hxs
    cases h
    simp [aA.enc_dec hx,qe hxs]
  · cases h
theorem CC (hX:bV P X) {t e:Nat} {ti:TI} (h:X.one t=some (e,ti)):P.underlying t=some (.slice e)∧bl P e ti∧ti.size=1∧ti.zero.length=1:=by
 unfold bS.one at h
 split at h
 · rename_i e' size z0 bytes knd eq hq
   have hu:=(hX.T _ _ hq).td
   simp only at hu
   split at h
   · rename_i ti' hti
     cases hb:Nat.beq ti'.size 1&&Nat.beq ti'.zero.length 1 with
     |false=>simp [hb] at h
     |true=>
      simp only [hb,cond_true,Option.some.injEq,Prod.mk.injEq] at h
      obtain ⟨rfl,rfl⟩:=h
      rw [Bool.and_eq_true] at hb
      exact ⟨hu,hX.T _ _ hti,Nat.eq_of_beq_eq_true hb.1,Nat.eq_of_beq_eq_true hb.2⟩
   · cases h
 · cases h
theorem ot {place:Nat→Option (Nat×Nat)}:∀{parts:List (Nat×SV)} {cells out:List SV},kO place cells parts=some out→out.length=cells.length
 |[],cells,out,h=>by simp only [kO,Option.some.injEq] at h;rw [h]
 | (i,v)::parts,cells,out,h=>by
  simp only [kO] at h
  split at h
  · rename_i off size vc h1 h2
    cases hb:Nat.beq vc.length size&&Nat.ble (off+size) cells.length with
    |false=>simp [hb] at h
    |true=>
     simp only [hb,cond_true] at h
     rw [ot h,gz]
  · cases h
theorem uk (hX:bV P X) {o:Oper} {ev:Operand→SV} {rows:List Row} {t:TypeId} {len:Nat} {parts:Array (Nat×Operand)} (ho:o.op=.buildSlice t len parts) {e:aL} (h:fS X ev rows (.buildSlice t len parts)=some e):
    mJ P o ev (rows[·]?) rows.length e:=by
 refine fo fun ρ pres a w hev hg ha hrd hfree=>?_
 simp only [fS] at h
 split at h
 · rename_i et ti k hk
   split at h
   · rename_i cs hcs
     split at h
     · rename_i xs hxs
       cases hb:Nat.beq cs.length len&&Nat.ble (len*k.st) 16777216 with
       |false=>simp [hb] at h
       | true=>
        simp only [hb,cond_true,Option.some.injEq] at h
        subst h
        rw [Bool.and_eq_true] at hb
        have hlen:=Nat.eq_of_beq_eq_true hb.1
        have hbig:=Nat.le_of_ble_eq_true hb.2
        obtain ⟨hu,hti,hsz,_⟩:=Cg hX hk
        have hf:ρ rows.length=none:=(hfree rows.length (Nat.le_refl _) (by simp)).1
        obtain ⟨zv,hzv,hzr⟩:=od hti w
        have hdec:=qe hxs
        have hxl:xs.length=len:=by rw [←hlen,hdec];simp
        have hparts:∀l:List (Nat×Operand),(∀x∈l.map (·.2),aE ρ (ev x) (a.eval x))→(l.map fun p=>(p.1,ev p.2)).map (·.1)=(l.map fun p=>(p.1,a.eval p.2)).map (·.1)∧au ρ ((l.map fun p=>(p.1,ev p.2)).map (·.2)) ((l.map fun p=>(p.1,a.eval p.2)).map (·.2)):=by
         intro l
         induction l with
         |nil=>intro _;simp [au]
         |cons p l ih=>
          intro hl
          obtain ⟨h1,h2⟩:=ih (fun x hx=>hl x (by simp at hx ⊢;exact .inr hx))
          simp only [List.map_cons,aa]
          exact ⟨by simp,hl p.2 (by simp),h2⟩
        obtain ⟨hp1,hp2⟩:=hparts parts.toList (fun x hx=>hev x (by simp [ho,Op.operands];simpa using hx))
        obtain ⟨out,ho1,ho2,ho3,_⟩:=u6 k.st _ 0 cs (List.replicate (len*k.st) .top) hcs (by
         intro c hc
         rw [hdec] at hc
         obtain ⟨x,_,rfl⟩:=List.mem_map.1 hc
         exact k.enc_len x) (by simp [hlen])
        have fin:∀start:Array Value,start.size=len*k.st→∃us:Array Value,Instr.fill (fun i=>some (i*k.st,k.st)) start (parts.toList.map fun p=>(p.1,a.eval p.2))=some us∧au ρ out us.toList:=by
         intro start hs
         exact jE _ _ _ hp1 hp2 _ start (by
          have:=au.tops (ρ:=ρ) start.toList
          rw [Array.length_toList,hs] at this
          exact this) out ho1
        obtain ⟨us,hfill,hur⟩:∃us:Array Value,Instr.fill (fun i=>some (i*k.st,k.st)) ((Array.range (len*k.st)).map (fun i=>(if len*k.st=0 then #[] else zv.cells)[i%(if len*k.st=0 then #[] else zv.cells).size]!)) (parts.toList.map fun p=>(p.1,a.eval p.2))=some us∧au ρ out us.toList:=fin _ (by simp)
        have hus:us.size=len*k.st:=by have:=hur.length;simp [ho2] at this;omega
        have hrun:(execOp a.eval o).run P w=.ok (.value (.slice (some ⟨w.heap.size,0,none⟩) len len)) (w.alloc (.cells us et)):=by
         have hpl:(parts.map fun x=>(x.1,a.eval x.2)).toList=parts.toList.map fun p=>(p.1,a.eval p.2):=by simp
         unfold execOp
         rw [ho]
         unfold Instr.buildSlice
         simp only [Sem.run_bind,run_underlying hu,Result.andThen_ok,hti.sizeOf,hsz,hpl]
         rw [if_neg (by omega)]
         by_cases hN:len*k.st=0
         · simp only [if_pos hN] at hfill ⊢
           simp only [Sem.run_bind,Sem.run_pure,Result.andThen_ok,hfill,newRow,run_newObj_alloc]
         · simp only [if_neg hN] at hfill ⊢
           simp only [Sem.run_bind,hzv,Sem.run_pure,Result.andThen_ok,hfill,newRow,run_newObj_alloc]
        refine ⟨_,_,_,.inl hrun,cv.fresh (row:=.vec false k xs) hg ha hf ?_ rfl rfl ?_⟩
        · simp only [aE]
          exact .inl ⟨_,0,len,by simp [aR.upd];rfl,rfl,by simp,.inl (by simp),Nat.le_refl _,fun _=>by simp [hus]⟩
        · refine .inr ⟨⟨w.heap.size,0,true,_⟩,by simp [aR.upd];rfl,fun h=>(by cases h),fun _=>⟨rfl,rfl,us.toList,et,?_,?_,?_⟩,?_⟩
          · rw [Go.heap_alloc_new]
          · simp [hus,hxl]
          · simp
          · intro i x hx j s hs
            have hj:j<k.st:=by
             have:=(List.getElem?_eq_some_iff.1 hs).1
             rw [k.enc_len] at this
             exact this
            rw [eb (vs:=us.toList) (by rw [Go.heap_alloc_new])]
            have hq:=ho3 i (k.enc x) (by rw [hdec,List.getElem?_map,hx];rfl) j hj
            rw [hs] at hq
            obtain ⟨u,hu1,hu2⟩:=hur.get hq
            rw [show 0+i*k.st+j=(0+i)*k.st+j by simp,hu1]
            rw [(mo (k.enc_dat _ s (List.mem_of_getElem? hs))).1 hu2]
     · cases h
   · cases h
 · split at h
   · rename_i et_ti hone
     obtain ⟨et,ti⟩:=et_ti
     split at h
     · rename_i out hout
       cases hb:Nat.ble len 16777216 with
       |false=>simp [hb] at h
       | true=>
        simp only [hb,cond_true,Option.some.injEq] at h
        subst h
        have hbig:=Nat.le_of_ble_eq_true hb
        obtain ⟨hu,hti,hsz,_⟩:=CC hX hone
        have hf:ρ rows.length=none:=(hfree rows.length (Nat.le_refl _) (by simp)).1
        obtain ⟨zv,hzv,hzr⟩:=od hti w
        have hparts:∀l:List (Nat×Operand),(∀x∈l.map (·.2),aE ρ (ev x) (a.eval x))→(l.map fun p=>(p.1,ev p.2)).map (·.1)=(l.map fun p=>(p.1,a.eval p.2)).map (·.1)∧au ρ ((l.map fun p=>(p.1,ev p.2)).map (·.2)) ((l.map fun p=>(p.1,a.eval p.2)).map (·.2)):=by
         intro l
         induction l with
         |nil=>intro _;simp [au]
         |cons p l ih=>
          intro hl
          obtain ⟨h1,h2⟩:=ih (fun x hx=>hl x (by simp at hx ⊢;exact .inr hx))
          simp only [List.map_cons,aa]
          exact ⟨by simp,hl p.2 (by simp),h2⟩
        obtain ⟨hp1,hp2⟩:=hparts parts.toList (fun x hx=>hev x (by simp [ho,Op.operands];simpa using hx))
        have fin:∀start:Array Value,start.size=len*1→∃us:Array Value,Instr.fill (fun i=>some (i*1,1)) start (parts.toList.map fun p=>(p.1,a.eval p.2))=some us∧au ρ out us.toList:=by
         intro start hs
         exact jE _ _ _ hp1 hp2 _ start (by
          have:=au.tops (ρ:=ρ) start.toList
          rw [Array.length_toList,hs,Nat.mul_one] at this
          exact this) out hout
        obtain ⟨us,hfill,hur⟩:∃us:Array Value,Instr.fill (fun i=>some (i*1,1)) ((Array.range (len*1)).map (fun i=>(if len*1=0 then #[] else zv.cells)[i%(if len*1=0 then #[] else zv.cells).size]!)) (parts.toList.map fun p=>(p.1,a.eval p.2))=some us∧au ρ out us.toList:=fin _ (by simp)
        have hol:out.length=len*1:=by rw [ot hout,List.length_replicate,Nat.mul_one]
        have hus:us.size=len*1:=by have:=hur.length;simp at this;omega
        have hrun:(execOp a.eval o).run P w=.ok (.value (.slice (some ⟨w.heap.size,0,none⟩) len len)) (w.alloc (.cells us et)):=by
         have hpl:(parts.map fun x=>(x.1,a.eval x.2)).toList=parts.toList.map fun p=>(p.1,a.eval p.2):=by simp
         unfold execOp
         rw [ho]
         unfold Instr.buildSlice
         simp only [Sem.run_bind,run_underlying hu,Result.andThen_ok,hti.sizeOf,hsz,hpl]
         rw [if_neg (by omega)]
         by_cases hN:len*1=0
         · simp only [if_pos hN] at hfill ⊢
           simp only [Sem.run_bind,Sem.run_pure,Result.andThen_ok,hfill,newRow,run_newObj_alloc]
         · simp only [if_neg hN] at hfill ⊢
           simp only [Sem.run_bind,hzv,Sem.run_pure,Result.andThen_ok,hfill,newRow,run_newObj_alloc]
        refine ⟨_,_,_,.inl hrun,cv.fresh (row:=.own out) hg ha hf ?_ rfl rfl ?_⟩
        · simp only [aE]
          exact .inl ⟨_,0,len,by simp [aR.upd];rfl,rfl,by simp,.inl (by simp),Nat.le_refl _,fun _=>by simp [hus]⟩
        · refine ⟨⟨w.heap.size,0,true,us.size⟩,us.toList,et,by simp [aR.upd],rfl,rfl,?_,au.mono (aR.le_upd hf) _ _ hur⟩
          rw [Go.heap_alloc_new]
     · cases h
   · cases h
section
variable {P:Program} {X:bS} {ρ:aR} {w:World}
theorem cv.grew {pres:Nat→Prop} {n:Nat} {e:aL} {v:Value} {p':uc} {row:Row} {w':World} (hg:gK ρ w) (ha:gY ρ pres) (hf:ρ n=none) (hnp: ¬ pres n) (h2:e.nw=[row])
    (hwr:∀x∈e.wr,x.2=Row.gone) (hp':w.heap.size≤p'.b∨∃id q,(id,Row.gone)∈e.wr∧pres id∧ρ id=some q∧q.mine=true∧q.b=p'.b)
    (hb:p'.b<w'.heap.size) (hfrm:um (fun b=>∃x∈e.wr,∃p,ρ x.1=some p∧p.mine=true∧p.b=b) w w')
    (hv:aE (ρ.upd n p') e.val v) (hrow:bk (ρ.upd n p') n row w'):cv ρ pres n e w v (ρ.upd n p') w' where
 le:=aR.le_upd hf
 good:=fun i p h=>by
  unfold aR.upd at h
  split at h
  · cases h;exact hb
  · exact Nat.lt_of_lt_of_le (hg i p h) hfrm.size
 dom:=fun i p h=>by
  unfold aR.upd at h
  split at h
  · rename_i hi;subst hi;exact .inr ⟨Nat.le_refl _,by simp [h2]⟩
  · exact .inl h
 new:=fun i p h3 h4 h=>by
  have hi:i=n:=by simp [h2] at h4;omega
  subst hi
  simp [aR.upd] at h
  subst h
  rcases hp' with hp' |⟨id,q,q1,q2,q3,q4,q5⟩
  · exact .inl hp'
  · exact .inr ⟨id,q,q2,⟨_,q1⟩,q3,q4,q5⟩
 apart:=fun i j p q hi hj hij hp hq hm=>by
  have key:∀i p,(ρ.upd n p') i=some p→dg pres n e i→(i=n∧p=p')∨(i≠n∧ρ i=some p∧pres i∧∀id,(id,Row.gone)∈e.wr→i≠id):=by
   intro i p h hpr
   rcases hpr with ⟨h3,h4⟩|hpr
   · have hin:i≠n:=fun hi=>hnp (hi ▸ h3)
     simp only [aR.upd,if_neg hin] at h
     exact .inr ⟨hin,h,h3,fun id hid hi=>by have:=h4 _ hid hi.symm;simp [Row.live] at this⟩
   · have hi:i=n:=by simp [h2] at hpr;omega
     subst hi
     simp [aR.upd] at h
     exact .inl ⟨rfl,h.symm⟩
  have key2:∀i p,i≠n→ρ i=some p→pres i→(∀id,(id,Row.gone)∈e.wr→i≠id)→p.b≠p'.b:=by
   intro i p h1 h2 h3 h4
   rcases hp' with hp' |⟨id,q,q1,q2,q3,q4,q5⟩
   · have:=hg i p h2;omega
   · rw [←q5];exact ha i id p q h3 q2 (h4 id q1) h2 q3 (by simp [q4])
  rcases key i p hp hi with ⟨h3,h4⟩|⟨h3,h4,h5,h6⟩<;>rcases key j q hq hj with ⟨k3,k4⟩|⟨k3,k4,k5,k6⟩
  · omega
  · subst h4;exact fun h=>key2 j q k3 k4 k5 k6 h.symm
  · subst k4;exact key2 i p h3 h4 h5 h6
  · exact ha i j p q h5 k5 hij h4 k4 hm
 val:=hv
 wr:=fun x hx=>by rw [hwr x hx];trivial
 nw:=fun j row' h=>by
  rw [h2] at h
  cases j with
  |zero=>simp at h;subst h;exact hrow
  |succ j=>simp at h
 frm:=hfrm
theorem G8 {k:aA} {rows:List Row} {x:SV} {okx:Bool} {rd:List Nat} {m:Nat} {ys:List k.T} (h:MU k rows x=some (okx,rd,m,ys)) (hok:okx=true) {u:Value} (hr:aE ρ x u)
    (hrd:∀id∈rd,∀row,rows[id]? =some row→bk ρ id row w):ys.length=m∧∃xa xc,u=.slice xa m xc∧(0<m→∃b,xa=some b∧∀j v,((dK k ys).map bK)[j]? =some v→w.cell? (b.add j)=some v):=by
 unfold MU at h
 split at h
 · cases h
   simp only [aE] at hr
   exact ⟨rfl,none,0,hr,fun h=>absurd h (by omega)⟩
 · rename_i id st off m' cap
   split at h
   · rename_i ro k' ys0 hrow
     split at h
     · rename_i ys1 hc
       obtain ⟨rfl,rfl⟩:=zm hc
       cases hb:Nat.beq st k'.st with
       |false=>simp [hb] at h
       | true=>
        simp only [hb,cond_true,Option.some.injEq,Prod.mk.injEq] at h
        obtain ⟨rfl,rfl,rfl,rfl⟩:=h
        obtain rfl:=Nat.eq_of_beq_eq_true hb
        simp only [decide_eq_true_eq] at hok
        have hlen:((ys1.drop off).take m').length=m':=by rw [List.length_take,List.length_drop];omega
        refine ⟨hlen,?_⟩
        have hrow':=hrd id (by simp) _ hrow
        simp only [aE] at hr
        rcases hr with ⟨p,o,c,hp,rfl,_,ho,_,_⟩|⟨rfl,_,xa,xc,rfl⟩
        · refine ⟨_,_,rfl,fun hm=>⟨_,rfl,?_⟩⟩
          have ho:o=p.base+off*k'.st:=by rcases ho with ho |⟨ho,_⟩<;>omega
          subst ho
          rcases hrow' with ⟨_,he⟩|⟨q,hq,_,_,hcells⟩
          · rw [he] at hok;simp at hok;omega
          · rw [hp] at hq;cases hq
            intro j v hv
            rw [Addr.add_lit]
            exact vq hcells off m' j v hv
        · exact ⟨xa,xc,rfl,fun h=>absurd h (by omega)⟩
     · cases h
   · cases h
 · cases h
theorem kR (t ty e:TypeId) (i:TypeInfo) (ht:P.underlying t=some (.slice e)) (hi:P.info? e=some i)
    (g sLen sCap:Nat) (cur:Array Value) (tr:TypeId) (hg:w.heap[g]? =some (.cells cur tr (0,0)))
    (a:Addr) (m c:Nat) (news:List Value) (hl:news.length=m*i.size) (hnews:∀j u,news[j]? =some u→w.cell? (a.add j)=some u) (h1:∀u∈news,u.oneCell'=true)
    (hroom:sLen+m≤sCap) (hfit:sLen*i.size+news.length≤cur.size):
    (Builtin.append_ #[t,t] ty #[.slice (some ⟨g,0,none⟩) sLen sCap,.slice (some a) m c]).run P w=
     .ok (.slice (some ⟨g,0,none⟩) (sLen+m) sCap) (w.setRow g (cur.toList.take (sLen*i.size)++news++cur.toList.drop (sLen*i.size+news.length)).toArray):=by
 have hf:=run_firstCells_some (P:=P) w i.size m a m c news hl hnews
 have hst:=run_storeCells_at P g (sLen*i.size) tr news 0 cur w hg (by simpa using hfit) h1
 simp only [Nat.add_zero] at hst
 simp [Builtin.append_,run_underlying ht,sizeOf,typeInfo,hi,Builtin.lenOf,hroom,hf,Addr.add_lit,hst]
theorem qR (t ty e:TypeId) (i:TypeInfo) (ht:P.underlying t=some (.slice e)) (hi:P.info? e=some i) (s:Addr) (n cap:Nat) (xa:Option Addr) (c:Nat) (hn:n≤cap):
    (Builtin.append_ #[t,t] ty #[.slice (some s) n cap,.slice xa 0 c]).run P w=.ok (.slice (some s) n cap) w:=by
 cases xa<;>simp [Builtin.append_,run_underlying ht,sizeOf,typeInfo,hi,Builtin.lenOf,Builtin.firstCells,loadCells,loadCellsFrom,storeCells,hn]
theorem VF (hX :bV P X) {o:Oper} {ev:Operand→SV} {rows:List Row} {s x:Operand} {t et:TypeId} {ti:TI} {k:aA} {e:aL} (ho:o.op=.call ⟨.builtin .append, #[s,x], #[t,t]⟩) (hk:X.knd t=some (et,ti,k)) (hzn:ti.zero.length=k.st)
    (h:W1 X.z k ti.bytes rows (ev s) (ev x)=some e) (hok:e.ok=true):mJ P o ev (rows[·]?) rows.length e:=by
 refine fo fun ρ pres a w hev hg ha hrd hfree=>?_
 obtain ⟨hu,hti,hsz,_⟩:=Cg hX hk
 have hsv:=hev s (by simp [ho,Op.operands,Call.operands])
 have hxv:=hev x (by simp [ho,Op.operands,Call.operands])
 obtain ⟨i,hi,his,hib,z,hz,hzs⟩:∃i,P.info? et=some i∧i.size=k.st∧i.bytes=ti.bytes∧∃z,i.zero=some z∧z.cells.size=k.st:=by
  obtain ⟨z,hz,hzr⟩:=hti.zero
  have h1:=hti.size
  have h2:=hti.bytes
  cases hi:P.info? et with
  |none=>simp [hi] at hz
  |some i=>
   simp [hi] at h1 h2 hz
   refine ⟨i,rfl,by omega,h2,z,hz,?_⟩
   have:=hzr.length
   simp at this
   omega
 have hrun:∀v w',(Builtin.append_ #[t,t] o.type #[a.eval s,a.eval x]).run P w=.ok v w'→(execOp a.eval o).run P w=.ok (.value v) w':=by
  intro v w' hr
  unfold execOp
  simp only [ho,resolve,invoke,builtin,Sem.run_bind,Sem.run_pure,Result.andThen_ok,List.map_toArray,List.map_cons,List.map_nil,hr]
 unfold W1 at h
 split at h
 · cases h
 rename_i okx rd m ys hnews
 split at h
 · rename_i hs
   cases h
   rw [hs] at hsv
   simp only [aE] at hsv
   simp only [Bool.and_eq_true,decide_eq_true_eq] at hok
   obtain ⟨hox,hm,hm63,hm47⟩:=hok
   have hf:=hfree rows.length (Nat.le_refl _) (by simp)
   obtain ⟨hyl,xa,xc,hxa,hxc⟩:=G8 hnews hox hxv (fun id hid row hrow=>(hrd id hid row hrow).1)
   obtain ⟨b,rfl,hcell⟩:=hxc hm
   have hmax:maxLen=9223372036854775807:=rfl
   obtain ⟨v',w',hr,⟨hlen,hown⟩,hgrow,_,_⟩:=run_append_own_at (P:=P) w w.heap.size t o.type et i z k.st ti.bytes hu hi hz his hib hzs k.st_pos (.slice none 0 0) 0 [] (World.ownsRow_nil w _ et k.st) b m xc ((dK k ys).map bK)
    (by rw [List.length_map,jJ,hyl]) hcell (by
     intro u hu
     obtain ⟨s,hs,rfl⟩:=List.mem_map.1 hu
     exact AB (yD k ys s hs)) (by omega) (by rw [Nat.zero_add];exact hm47) (Nat.le_refl _)
   rw [←hsv,←hxa] at hr
   rcases hown with ⟨_,h0⟩|⟨g,cap,cur,rfl,hbg,hheap,hnc,hcm,hcs,htake⟩
   · omega
   · refine ⟨_,_,w',.inl (hrun _ _ hr),cv.grew (p':=⟨g,0,true,cur.size⟩) (row:=.vec false k ys) hg ha hf.1 hf.2 rfl (by simp) (.inl hbg) (Array.getElem?_eq_some_iff.1 hheap).1
      ⟨hgrow.os,hgrow.tape,hgrow.output,hgrow.size,fun b hb _=>hgrow.block b hb (by simp [Value.ownBlock])⟩ ?_ ?_⟩
     · simp only [aE,Nat.zero_add]
       refine .inl ⟨_,0,cap,by simp [aR.upd];rfl,rfl,by simp,.inl (by simp),by omega,fun _=>by simp;omega⟩
     · refine ke (p:=⟨g,0,true,cur.size⟩) (vs:=cur.toList) (ty:=et) (by simp [aR.upd]) rfl rfl (by simpa using hheap) (by simp) ?_
       rw [hyl]
       simpa using htake
 · rename_i id st off len cap hs
   split at h
   · rename_i k' xs0 hrow
     split at h
     · rename_i xs1 hc
       obtain ⟨rfl,rfl⟩:=zm hc
       cases hb:Nat.beq st k'.st with
       |false=>simp [hb] at h
       | true =>
        simp only [hb,cond_true,Option.some.injEq] at h
        subst h
        obtain rfl:=Nat.eq_of_beq_eq_true hb
        simp only [Bool.and_eq_true,Bool.or_eq_true,decide_eq_true_eq] at hok
        obtain ⟨hox,rfl,hpos,hlx,hm63,hm47⟩:=hok
        have hf:=hfree rows.length (Nat.le_refl _) (by simp)
        obtain ⟨hyl,xa,xc,hxa,hxc⟩:=G8 hnews hox hxv (fun id hid row hrow=>(hrd id (by simp [hid]) row hrow).1)
        rw [hs] at hsv
        simp only [aE] at hsv
        have hmax:maxLen=9223372036854775807:=rfl
        obtain ⟨p,o',c,hp,hsv,hcap,ho',hlc,hmine⟩:∃p o c,ρ id=some p∧a.eval s=.slice (some ⟨p.b,o,none⟩) len c∧(∀c',cap=some c'→c=c')∧(o=p.base+0*k'.st∨(len=0∧cap=none))∧len≤c∧(p.mine=true→o+c*k'.st≤p.size):=by
         rcases hsv with hsv |⟨h0,h1,_⟩
         · exact hsv
         · rcases hpos with hpos |hpos
           · omega
           · rw [h1] at hpos;cases hpos
        have hrw:=hrd id (by simp) _ hrow
        have hpres:=hrw.2 (by simp [Row.live])
        obtain ⟨p',hp',_,hown,hcells⟩:∃p:uc,ρ id=some p∧(false=true→p.mine=false)∧(false=false→p.mine=true∧p.base=0∧∃(vs:List Value) (ty:TypeId),w.heap[p.b]? =some (.cells vs.toArray ty (0,0))∧xs1.length*k'.st≤vs.length∧vs.length=p.size)∧
            ∀(i:Nat) (x:k'.T),xs1[i]? =some x→∀(j:Nat) (s:SV),(k'.enc x)[j]? =some s→w.cell? ⟨p.b,p.base+i*k'.st+j,none⟩=some (bK s):=by
         rcases hrw.1 with ⟨h,_⟩|h
         · cases h
         · exact h
        rw [hp] at hp';cases hp'
        obtain ⟨hm,hb0,vs,ty,hh,hlen,hvs⟩:=hown rfl
        have ho':o'=0:=by
         rcases ho' with ho' |⟨h0,h1⟩
         · omega
         · rcases hpos with hpos |hpos
           · omega
           · rw [h1] at hpos;cases hpos
        subst ho'
        have hfit:=hmine hm
        have hzl:(xs1.take len).length=len:=by rw [List.length_take];omega
        have holds:∀q v,((dK k' (xs1.take len)).map bK)[q]? =some v→w.cell? ⟨p.b,0+q,none⟩=some v:=by
         have:=vq hcells 0 len
         simp only [hb0,Nat.zero_mul,Nat.add_zero,List.drop_zero] at this
         exact this
        have hol:((dK k' (xs1.take len)).map bK).length=len*k'.st:=by rw [List.length_map,jJ,hzl]
        have hnl:((dK k' ys).map bK).length=m*k'.st:=by rw [List.length_map,jJ,hyl]
        have hlx':len*k'.st≤vs.length:=Nat.le_trans (Nat.mul_le_mul_right _ hlx) hlen
        have hold2:vs.take (len*k'.st)=(dK k' (xs1.take len)).map bK:=by
         refine List.ext_getElem? fun q=>?_
         by_cases hq:q<len*k'.st
         · obtain ⟨v,hv⟩:∃v,((dK k' (xs1.take len)).map bK)[q]? =some v:=⟨_,List.getElem?_eq_getElem (by rw [hol];exact hq)⟩
           rw [List.getElem?_take_of_lt hq,hv,←holds q v hv,cell_of_row w p.b _ _ ty _ hh,Nat.zero_add]
           simp
         · rw [List.getElem?_eq_none (by rw [List.length_take];omega),List.getElem?_eq_none (by omega)]
        have hones:∀u∈(dK k' ys).map bK,u.oneCell'=true:=by
         intro u hu
         obtain ⟨s,hs,rfl⟩:=List.mem_map.1 hu
         exact AB (yD k' ys s hs)
        have hbsz:p.b<w.heap.size:=(Array.getElem?_eq_some_iff.1 hh).1
        rw [hxa,hsv] at hrun
        have hzn':(xs1.take len++ys).length=len+m:=by rw [List.length_append,hzl,hyl]
        have hcat:(dK k' (xs1.take len++ys)).map bK=(dK k' (xs1.take len)).map bK++(dK k' ys).map bK:=by rw [q8,List.map_append]
        by_cases hroom:len+m≤c
        · have hcs:(len+m)*k'.st≤c*k'.st:=Nat.mul_le_mul_right _ hroom
          rw [Nat.add_mul] at hcs
          by_cases hm0:m=0
          · subst hm0
            have hy0:ys=[]:=List.length_eq_zero_iff.1 hyl
            subst hy0
            refine ⟨_,_,w,.inl (hrun _ _ (qR t o.type et i hu hi _ len c xa xc hlc)),cv.grew (p':=p) (row:=.vec false k' (xs1.take len++[])) hg ha hf.1 hf.2 rfl (by simp) (.inr ⟨id,p,by simp,hpres,hp,hm,rfl⟩) hbsz (um.refl _ _) ?_ ?_⟩
            · simp only [aE,Nat.add_zero]
              exact .inl ⟨p,0,c,by simp [aR.upd],rfl,fun c' hc'=>hcap c' (pG hc').2,.inl (by omega),hlc,fun _=>hfit⟩
            · refine ke (p:=p) (vs:=vs) (ty:=ty) (by simp [aR.upd]) hm hb0 hh hvs ?_
              rw [List.append_nil,hzl]
              exact hold2
          · obtain ⟨b,rfl,hcell⟩:=hxc (by omega)
            have hr:=kR (P:=P) (w:=w) t o.type et i hu hi p.b len c vs.toArray ty hh b m xc ((dK k' ys).map bK) (by rw [hnl,his]) hcell hones hroom (by rw [hnl,his];simp;omega)
            refine ⟨_,_,_,.inl (hrun _ _ hr),cv.grew (p':=p) (row:=.vec false k' (xs1.take len++ys)) hg ha hf.1 hf.2 rfl (by simp) (.inr ⟨id,p,by simp,hpres,hp,hm,rfl⟩) (by simp;exact hbsz)
             ⟨rfl,rfl,rfl,by simp,fun b' _ hn=>setRow_other w p.b b' _ (fun hb=>hn ⟨(id,.gone),by simp,p,hp,hm,hb.symm⟩)⟩ ?_ ?_⟩
            · simp only [aE]
              exact .inl ⟨p,0,c,by simp [aR.upd],rfl,fun c' hc'=>absurd (pG hc').1 hm0,.inl (by omega),hroom,fun _=>hfit⟩
            · refine ke (p:=p) (vs:=vs.take (len*i.size)++(dK k' ys).map bK++vs.drop (len*i.size+((dK k' ys).map bK).length)) (ty:=ty) (by simp [aR.upd]) hm hb0 ?_ ?_ ?_
              · rw [setRow_heap w p.b _ _ ty _ hh]
              · rw [List.length_append,List.length_append,List.length_take,List.length_drop,hnl,his];omega
              · rw [hzn',hcat,his,hold2,show (len+m)*k'.st=((dK k' (xs1.take len)).map bK++(dK k' ys).map bK).length by rw [List.length_append,hol,hnl,Nat.add_mul]]
                exact List.take_left
        · have hm0:0<m:=by omega
          obtain ⟨b,rfl,hcell⟩:=hxc hm0
          obtain ⟨v',w',hr,⟨hlen',hown'⟩,hgrow⟩:=run_append_arg_grows (P:=P) w t o.type et i z k'.st ti.bytes hu hi hz his hib hzs k'.st_pos ⟨p.b,0,none⟩ len c ((dK k' (xs1.take len)).map bK) hol
           (fun j u hj=>by rw [Addr.add_lit];exact holds j u hj) b m xc ((dK k' ys).map bK) hnl hcell (by omega) (by omega) hm47
          rcases hown' with ⟨_,h0⟩|⟨g,cap',cur,rfl,hbg,hheap,hnc,hcm,hcs,htake⟩
          · omega
          · refine ⟨_,_,w',.inl (hrun _ _ hr),cv.grew (p':=⟨g,0,true,cur.size⟩) (row:=.vec false k' (xs1.take len++ys)) hg ha hf.1 hf.2 rfl (by simp) (.inl hbg) (Array.getElem?_eq_some_iff.1 hheap).1
             ⟨hgrow.os,hgrow.tape,hgrow.output,hgrow.size,fun b hb _=>hgrow.block b hb (by simp)⟩ ?_ ?_⟩
            · simp only [aE]
              exact .inl ⟨_,0,cap',by simp [aR.upd];rfl,rfl,fun c' hc'=>absurd (pG hc').1 (by omega),.inl (by simp),hnc,fun _=>by simp;omega⟩
            · refine ke (p:=⟨g,0,true,cur.size⟩) (vs:=cur.toList) (ty:=et) (by simp [aR.upd]) rfl rfl (by simpa using hheap) (by simp) ?_
              rw [hzn',hcat]
              exact htake
     · cases h
   · cases h
 · cases h
end
section
variable {P:Program} {X:bS} {ρ:aR} {w:World}
theorem zt {rows:List Row} {x:SV} {xi m:Nat} {ys:List SV} (h:LK rows x=some (xi,m,ys)) {u:Value} (hr:aE ρ x u) (hrd:∀row,rows[xi]? =some row→bk ρ xi row w):
    0<m∧ys.length=m∧∃(b:Addr) (xc:Nat) (us:List Value),u=.slice (some b) m xc∧au ρ ys us∧(∀j v,us[j]? =some v→w.cell? (b.add j)=some v)∧∀v∈us,v.oneCell'=true:=by
 unfold LK at h
 split at h
 · rename_i id st off m' cap
   split at h
   · rename_i cs hrow
     cases hb:Nat.beq st 1&&(Nat.ble (off+m') cs.length&&(Nat.blt 0 m'&&((cs.drop off).take m').all SV.one)) with
     |false=>simp [hb] at h
     | true=>
      simp only [hb,cond_true,Option.some.injEq,Prod.mk.injEq] at h
      obtain ⟨rfl,rfl,rfl⟩:=h
      rw [Bool.and_eq_true,Bool.and_eq_true,Bool.and_eq_true] at hb
      obtain ⟨h1,h2,h3,h4⟩:=hb
      obtain rfl:=Nat.eq_of_beq_eq_true h1
      have h2:=Nat.le_of_ble_eq_true h2
      rw [Nat.blt_eq] at h3
      obtain ⟨p,vs,ty,hp,hb0,hm,hh,hrl⟩:=hrd _ hrow
      simp only [aE] at hr
      rcases hr with ⟨q,o,c,hq,rfl,_,ho,_,_⟩|⟨h0,_⟩
      · rw [hp] at hq;cases hq
        have ho:o=off:=by rcases ho with ho |⟨ho,_⟩<;>omega
        subst ho
        have hrel:=(hrl.drop o).take m'
        refine ⟨h3,by rw [List.length_take,List.length_drop];omega,_,_,_,rfl,hrel,fun j v hv=>?_,?_⟩
        · rw [Addr.add_lit,eb hh]
          rw [List.getElem?_take] at hv
          split at hv
          · rw [List.getElem?_drop] at hv;exact hv
          · cases hv
        · have:=hrel.ones h4
          exact fun v hv=>List.all_eq_true.1 this v hv
      · omega
   · cases h
 · cases h
theorem RW (hX:bV P X) {o:Oper} {ev:Operand→SV} {rows:List Row} {s x:Operand} {t et:TypeId} {ti:TI} {e:aL} (ho:o.op=.call ⟨.builtin .append, #[s,x], #[t,t]⟩) (hk:X.one t=some (et,ti))
    (h:Xr ti.bytes rows (ev s) (ev x)=some e) (hok:e.ok=true):mJ P o ev (rows[·]?) rows.length e:=by
 refine fo fun ρ pres a w hev hg ha hrd hfree=>?_
 obtain ⟨hu,hti,hsz,hzn⟩:=CC hX hk
 have hsv:=hev s (by simp [ho,Op.operands,Call.operands])
 have hxv:=hev x (by simp [ho,Op.operands,Call.operands])
 obtain ⟨i,hi,his,hib,z,hz,hzs⟩:∃i,P.info? et=some i∧i.size=1∧i.bytes=ti.bytes∧∃z,i.zero=some z∧z.cells.size=1:=by
  obtain ⟨z,hz,hzr⟩:=hti.zero
  have h1:=hti.size
  have h2:=hti.bytes
  cases hi:P.info? et with
  |none=>simp [hi] at hz
  |some i=>
   simp [hi] at h1 h2 hz
   refine ⟨i,rfl,by omega,h2,z,hz,?_⟩
   have:=hzr.length
   simp at this
   omega
 have hrun:∀v w',(Builtin.append_ #[t,t] o.type #[a.eval s,a.eval x]).run P w=.ok v w'→(execOp a.eval o).run P w=.ok (.value v) w':=by
  intro v w' hr
  unfold execOp
  simp only [ho,resolve,invoke,builtin,Sem.run_bind,Sem.run_pure,Result.andThen_ok,List.map_toArray,List.map_cons,List.map_nil,hr]
 have hmax:maxLen=9223372036854775807:=rfl
 unfold Xr at h
 split at h
 · cases h
 rename_i xi m ys hnews
 split at h
 · rename_i hs
   cases h
   rw [hs] at hsv
   simp only [aE] at hsv
   simp only [Bool.and_eq_true,decide_eq_true_eq] at hok
   obtain ⟨hm63,hm47⟩:=hok
   have hf:=hfree rows.length (Nat.le_refl _) (by simp)
   obtain ⟨hm,hyl,b,xc,us,hxa,hrel,hcell,hone⟩:=zt hnews hxv (fun row hrow=>(hrd xi (by simp) row hrow).1)
   have hul:us.length=m:=by rw [←hrel.length,hyl]
   obtain ⟨v',w',hr,⟨hlen,hown⟩,hgrow,_,_⟩:=run_append_own_at (P:=P) w w.heap.size t o.type et i z 1 ti.bytes hu hi hz his hib hzs (by omega) (.slice none 0 0) 0 [] (World.ownsRow_nil w _ et 1) b m xc us
    (by omega) hcell hone (by omega) (by rw [Nat.zero_add];exact hm47) (Nat.le_refl _)
   rw [←hsv,←hxa] at hr
   rcases hown with ⟨_,h0⟩|⟨g,cap,cur,rfl,hbg,hheap,hnc,hcm,hcs,htake⟩
   · omega
   · refine ⟨_,_,w',.inl (hrun _ _ hr),cv.grew (p':=⟨g,0,true,cur.size⟩) (row:=.pre false ys) hg ha hf.1 hf.2 rfl (by simp) (.inl hbg) (Array.getElem?_eq_some_iff.1 hheap).1
      ⟨hgrow.os,hgrow.tape,hgrow.output,hgrow.size,fun b hb _=>hgrow.block b hb (by simp [Value.ownBlock])⟩ ?_ ?_⟩
     · simp only [aE,Nat.zero_add]
       refine .inl ⟨_,0,cap,by simp [aR.upd];rfl,rfl,by simp,.inl (by simp),by omega,fun _=>by simp;omega⟩
     · refine ⟨⟨g,0,true,cur.size⟩,cur.toList,et,by simp [aR.upd],rfl,rfl,by simpa using hheap,fun _=>by simp,?_⟩
       have ht:cur.toList.take ys.length=us:=by rw [hyl];simpa using htake
       rw [ht]
       exact au.mono (aR.le_upd hf.1) _ _ hrel
 · rename_i id st off len cap hs
   split at h
   · rename_i xs1 hrow
     cases hb:Nat.beq st 1&&(Nat.beq off 0&&Nat.ble len xs1.length) with
     |false=>simp [hb] at h
     | true =>
      simp only [hb,cond_true,Option.some.injEq] at h
      subst h
      rw [Bool.and_eq_true,Bool.and_eq_true] at hb
      obtain ⟨hb1,hb2,hb3⟩:=hb
      obtain rfl:=Nat.eq_of_beq_eq_true hb1
      obtain rfl:=Nat.eq_of_beq_eq_true hb2
      have hlx:=Nat.le_of_ble_eq_true hb3
      simp only [Bool.and_eq_true,Bool.or_eq_true,decide_eq_true_eq] at hok
      obtain ⟨hpos,hm63,hm47⟩:=hok
      have hf:=hfree rows.length (Nat.le_refl _) (by simp)
      obtain ⟨hm0,hyl,b,xc,us,hxa,hrel,hcell,hone⟩:=zt hnews hxv (fun row hrow=>(hrd xi (by simp) row hrow).1)
      have hul:us.length=m:=by rw [←hrel.length,hyl]
      rw [hs] at hsv
      simp only [aE] at hsv
      obtain ⟨p,o',c,hp,hsv,hcap,ho',hlc,hmine⟩:∃p o c,ρ id=some p∧a.eval s=.slice (some ⟨p.b,o,none⟩) len c∧(∀c',cap=some c'→c=c')∧(o=p.base+0*1∨(len=0∧cap=none))∧len≤c∧(p.mine=true→o+c*1≤p.size):=by
       rcases hsv with hsv |⟨h0,h1,_⟩
       · exact hsv
       · rcases hpos with hpos |hpos
         · omega
         · rw [h1] at hpos;cases hpos
      have hrw:=hrd id (by simp) _ hrow
      have hpres:=hrw.2 (by simp [Row.live])
      obtain ⟨p',vs,ty,hp',hb0,hm,hh,hvs,hrl⟩:=hrw.1
      have hvs:=hvs rfl
      have hm:_=true:=hm
      rw [hp] at hp';cases hp'
      have ho':o'=0:=by
       rcases ho' with ho' |⟨h0,h1⟩
       · omega
       · rcases hpos with hpos |hpos
         · omega
         · rw [h1] at hpos;cases hpos
      subst ho'
      have hfit:=hmine hm
      have hxl:=hrl.length
      rw [List.length_take] at hxl
      have hlv:len≤vs.length:=by omega
      have hrlt:au ρ (xs1.take len) (vs.take len):=by
       have:=hrl.take len
       rw [List.take_take,Nat.min_eq_left hlx] at this
       exact this
      have holds:∀q v,(vs.take len)[q]? =some v→w.cell? ⟨p.b,0+q,none⟩=some v:=by
       intro q v hv
       rw [eb hh,Nat.zero_add]
       rw [List.getElem?_take] at hv
       split at hv
       · exact hv
       · cases hv
      have hol:(vs.take len).length=len*1:=by rw [List.length_take];omega
      have hbsz:p.b<w.heap.size:=(Array.getElem?_eq_some_iff.1 hh).1
      have hcl:(xs1.take len++ys).length=len+m:=by rw [List.length_append,List.length_take,hyl];omega
      have hcat:au (ρ.upd rows.length p) (xs1.take len++ys) (vs.take len++us):=au.mono (aR.le_upd hf.1) _ _ (hrlt.append hrel)
      rw [hxa,hsv] at hrun
      by_cases hroom:len+m≤c
      · have hr:=kR (P:=P) (w:=w) t o.type et i hu hi p.b len c vs.toArray ty hh b m xc us (by rw [his];omega) hcell hone hroom (by rw [his];simp;omega)
        refine ⟨_,_,_,.inl (hrun _ _ hr),cv.grew (p':=p) (row:=.pre false (xs1.take len++ys)) hg ha hf.1 hf.2 rfl (by simp) (.inr ⟨id,p,by simp,hpres,hp,hm,rfl⟩) (by simp;exact hbsz)
         ⟨rfl,rfl,rfl,by simp,fun b' _ hn=>setRow_other w p.b b' _ (fun hb=>hn ⟨(id,.gone),by simp,p,hp,hm,hb.symm⟩)⟩ ?_ ?_⟩
        · simp only [aE]
          exact .inl ⟨p,0,c,by simp [aR.upd],rfl,by simp,.inl (by omega),hroom,fun _=>hfit⟩
        · refine ⟨p,vs.take (len*i.size)++us++vs.drop (len*i.size+us.length),ty,by simp [aR.upd],hb0,hm,?_,fun _=>?_,?_⟩
          · rw [setRow_heap w p.b _ _ ty _ hh]
          · rw [List.length_append,List.length_append,List.length_take,List.length_drop,his];omega
          · rw [hcl,his,Nat.mul_one,show len+m=(vs.take len++us).length by rw [List.length_append,List.length_take];omega,List.take_left]
            exact hcat
      · obtain ⟨v',w',hr,⟨hlen',hown'⟩,hgrow⟩:=run_append_arg_grows (P:=P) w t o.type et i z 1 ti.bytes hu hi hz his hib hzs (by omega) ⟨p.b,0,none⟩ len c (vs.take len) hol
         (fun j u hj=>by rw [Addr.add_lit];exact holds j u hj) b m xc us (by omega) hcell (by omega) (by omega) hm47
        rcases hown' with ⟨_,h0⟩|⟨g,cap',cur,rfl,hbg,hheap,hnc,hcm,hcs,htake⟩
        · omega
        · refine ⟨_,_,w',.inl (hrun _ _ hr),cv.grew (p':=⟨g,0,true,cur.size⟩) (row:=.pre false (xs1.take len++ys)) hg ha hf.1 hf.2 rfl (by simp) (.inl hbg) (Array.getElem?_eq_some_iff.1 hheap).1
           ⟨hgrow.os,hgrow.tape,hgrow.output,hgrow.size,fun b hb _=>hgrow.block b hb (by simp)⟩ ?_ ?_⟩
          · simp only [aE]
            exact .inl ⟨_,0,cap',by simp [aR.upd];rfl,rfl,by simp,.inl (by simp),hnc,fun _=>by simp;omega⟩
          · refine ⟨⟨g,0,true,cur.size⟩,cur.toList,et,by simp [aR.upd],rfl,rfl,by simpa using hheap,fun _=>by simp,?_⟩
            have ht:cur.toList.take (xs1.take len++ys).length=vs.take len++us:=by rw [hcl];simpa using htake
            rw [ht]
            exact au.mono (aR.le_upd hf.1) _ _ (hrlt.append hrel)
   · cases h
 · cases h
theorem NS (hX : bV P X) {o:Oper} {ev:Operand→SV} {rows:List Row} {args:Array Operand} {ts:Array TypeId} (ho:o.op=.call ⟨.builtin .clear,args,ts⟩) {e:aL} (h:fS X ev rows (.call ⟨.builtin .clear,args,ts⟩)=some e):
    mJ P o ev (rows[·]?) rows.length e:=by
 obtain ⟨args⟩:=args
 obtain ⟨ts⟩:=ts
 refine fo fun ρ pres a w hev hg ha hrd hfree=>?_
 simp only [fS] at h
 split at h
 · rename_i s t
   split at h
   · rename_i et ti hk
     obtain ⟨hu,hti,hsz,hzn⟩:=CC hX hk
     obtain ⟨zv,hzv,hzr⟩:=od hti w
     have hsv:=hev s (by simp [ho,Op.operands,Call.operands])
     unfold M5 at h
     split at h
     · rename_i id st off len cap z hs hz
       split at h
       · rename_i xs hrow
         cases hb:Nat.beq st 1&&(Nat.ble (off+len) xs.length&&z.one) with
         |false=>simp [hb] at h
         | true =>
          simp only [hb,cond_true,Option.some.injEq] at h
          subst h
          rw [Bool.and_eq_true,Bool.and_eq_true] at hb
          obtain ⟨hb1,hb2,hb3⟩:=hb
          obtain rfl:=Nat.eq_of_beq_eq_true hb1
          have hlx:=Nat.le_of_ble_eq_true hb2
          obtain ⟨p,vs,ty,hp,hb0,hm,hh,hvs,hrl⟩:=(hrd id (by simp) _ hrow).1
          have hvs:=hvs rfl
          have hm:_=true:=hm
          have hxl:=hrl.length
          rw [List.length_take] at hxl
          rw [hs] at hsv
          simp only [aE] at hsv
          have hrun:∀w',(Builtin.clear_ #[t] o.type #[a.eval s]).run P w=.ok (.tuple #[]) w'→(execOp a.eval o).run P w=.ok (.value (.tuple #[])) w':=by
           intro w' hr
           unfold execOp
           simp only [ho,resolve,invoke,builtin,Sem.run_bind,Sem.run_pure,Result.andThen_ok,List.map_toArray,List.map_cons,List.map_nil,hr]
          by_cases h0:len=0
          · subst h0
            obtain ⟨ab,cc,hav⟩:∃ab cc,a.eval s=.slice ab 0 cc:=by
             rcases hsv with ⟨_,_,_,_,hv,_⟩|⟨_,_,_,_,hv⟩<;>exact ⟨_,_,hv⟩
            have hr:(Builtin.clear_ #[t] o.type #[a.eval s]).run P w=.ok (.tuple #[]) w:=by
             rw [hav]
             cases ab<;>simp [Builtin.clear_,Sem.run_bind,run_underlying hu]
            refine ⟨_,_,_,.inl (hrun _ hr),⟨aR.le.refl ρ,hg,fun _ _ h=>.inl h,fun i p h3 h4=>by simp at h4;omega,?_,by simp [aE,au],?_,by simp,um.refl _ _⟩⟩
            · intro i j p q hi hj
              refine ha i j p q ?_ ?_
              · rcases hi with hi |hi
                · exact hi.1
                · simp at hi;omega
              · rcases hj with hj |hj
                · exact hj.1
                · simp at hj;omega
            · simp only [List.mem_singleton,forall_eq,List.replicate_zero,mK]
              exact ⟨p,vs,ty,hp,hb0,hm,hh,fun _=>hvs,hrl⟩
          · obtain ⟨c,hav⟩:∃c,a.eval s=.slice (some ⟨p.b,off,none⟩) len c:=by
             rcases hsv with ⟨q,o',c,hq,hv,_,ho',_⟩|⟨h1,_⟩
             · rw [hp] at hq;cases hq
               have :o'=off:=by rcases ho' with h |⟨h,_⟩<;>omega
               subst this
               exact ⟨c,hv⟩
             · exact absurd h1 h0
            have hzl:zv.cells.size=1:=by have:=hzr.length;simp at this;omega
            obtain ⟨zc,hzc⟩:∃zc,zv.cells= #[zc]:=by
             have:=zv.cells
             rcases hq:zv.cells with ⟨l⟩
             rw [hq] at hzl
             match l,hzl with
             |[zc],_=>exact ⟨zc,rfl⟩
            have hzr2:aE ρ z zc:=by
             rw [hz,hzc] at hzr
             simp only [aa] at hzr
             exact aE.mono (fun _ _ h=>by cases h) _ _ hzr.1
            have hzs:Builtin.zeroCells zv.cells len=(List.replicate len zc).toArray:=by
             rw [hzc]
             unfold Builtin.zeroCells
             apply Array.ext
             · simp
             · intro i h1 h2
               simp [Nat.mod_one]
            have hst:=run_storeCells_at P p.b off ty (List.replicate len zc) 0 vs.toArray w hh (by simp;omega) (fun u hu=>by rw [(List.mem_replicate.1 hu).2];exact SV.one_rel hzr2 hb3)
            simp only [Nat.add_zero] at hst
            have hset:∀(us:List Value) (k:Nat) (arr:Array Value),off+k+us.length≤arr.size→(arr.toList.take (off+k)++us++arr.toList.drop (off+k+us.length)).toArray=cP arr (off+k) us:=by
             intro us k arr hle
             apply Array.ext'
             apply List.ext_getElem?
             intro q
             have h1:=vO us arr (off+k) q (by simpa using hle)
             rw [Array.getElem?_toList,Array.getElem?_toList,h1]
             simp only [List.getElem?_toArray]
             by_cases hq1:q<off+k
             · rw [List.append_assoc,List.getElem?_append_left (by rw [List.length_take,Array.length_toList];omega),List.getElem?_take_of_lt hq1,if_neg (by omega),Array.getElem?_toList]
             · by_cases hq2:q<off+k+us.length
               · rw [List.getElem?_append_left (by rw [List.length_append,List.length_take,Array.length_toList];omega),List.getElem?_append_right (by rw [List.length_take,Array.length_toList];omega),if_pos ⟨by omega,hq2⟩]
                 congr 1
                 rw [List.length_take,Array.length_toList];omega
               · rw [List.getElem?_append_right (by rw [List.length_append,List.length_take,Array.length_toList];omega),List.getElem?_drop,if_neg (by omega),←Array.getElem?_toList]
                 congr 1
                 have :(arr.toList.take (off+k)++us).length=off+k+us.length:=by rw [List.length_append,List.length_take,Array.length_toList];omega
                 rw [this]
                 omega
            have hr:(Builtin.clear_ #[t] o.type #[a.eval s]).run P w=.ok (.tuple #[]) (w.setRow p.b (cP vs.toArray off (List.replicate len zc))):=by
             rw [hav]
             have hne:len≠0:=h0
             obtain ⟨n,rfl⟩:∃n,len=n+1:=⟨len - 1,by omega⟩
             have h3:=hset (List.replicate (n+1) zc) 0 vs.toArray (by simp;omega)
             simp only [Nat.add_zero] at h3
             have hst':(storeCells ⟨p.b,off,none⟩ (List.replicate (n+1) zc)).run P w=.ok () (w.setRow p.b (cP vs.toArray off (List.replicate (n+1) zc))):=by rw [hst,←h3]
             generalize List.replicate (n+1) zc=r at hst' hzs ⊢
             simp [Builtin.clear_,Sem.run_bind,run_underlying hu,hzv,hzs,hst']
            refine ⟨_,_,_,.inl (hrun _ hr),cv.wrote (cs:=cP vs.toArray off (List.replicate len zc)) hg ha hp hm (by simp [aE,au]) rfl rfl ?_⟩
            refine zA hp hb0 hm hh hvs hrl ?_ (by simp;omega)
            clear hst hr hset hzs
            generalize len=n
            induction n with
            |zero=>simp [au]
            |succ n ih=>simp only [List.replicate_succ,aa];exact ⟨hzr2,ih⟩
       · cases h
     · cases h
   · cases h
 · cases h
end
section
variable {P:Program} {X:bS}
theorem Ji (hX:bV P X) {o:Oper} {ev:Operand→SV} {rows:List Row} {args:Array Operand} {ts:Array TypeId} (ho:o.op=.call ⟨.builtin .append,args,ts⟩) {e:aL} (h:fS X ev rows (.call ⟨.builtin .append,args,ts⟩)=some e) (hok:e.ok=true):
    mJ P o ev (rows[·]?) rows.length e:=by
 obtain ⟨args⟩:=args
 obtain ⟨ts⟩:=ts
 simp only [fS] at h
 split at h
 · rename_i s x t1 t2
   split at h
   · rename_i et ti k hk
     cases hb:Nat.beq t1 t2&&Nat.beq ti.zero.length k.st with
     |false=>simp [hb] at h
     |true=>
      simp only [hb,cond_true] at h
      rw [Bool.and_eq_true] at hb
      obtain rfl:=Nat.eq_of_beq_eq_true hb.1
      exact VF hX ho hk (Nat.eq_of_beq_eq_true hb.2) h hok
   · split at h
     · rename_i et ti hk
       cases hb:Nat.beq t1 t2 with
       |false=>simp [hb] at h
       |true=>
        simp only [hb,cond_true] at h
        obtain rfl:=Nat.eq_of_beq_eq_true hb
        exact RW hX ho hk h hok
     · cases h
 · cases h
end
theorem FC (hX:bV P X) {o:Oper} {ev:Operand→SV} {rows:List Row} {e:aL} (h:fS X ev rows o.op=some e) (hok:e.ok=true) (hob:e.obj=false):mJ P o ev (rows[·]?) rows.length e:=by
 cases hop:o.op with
 |load t a=>exact Qd hX hop (hop ▸ h) hok
 |store t a x=>exact Mk hX hop (hop ▸ h) hok
 |alloc t=>exact Lo hX hop (hop ▸ h)
 |box t x=>exact Wt hop (hop ▸ h)
 |buildSlice t l p=>exact uk hX hop (hop ▸ h)
 |makeSlice t l c=>exact xl hX hop (hop ▸ h) hok
 | call c=>
  obtain ⟨callee,args,ts⟩:=c
  cases callee with
  |value f=>exact Pu hX hop (hop ▸ h) hok hob
  |invoke r m=>rw [hop] at h;simp [fS] at h
  |builtin b=>
   cases b with
   |append=>exact Ji hX hop (hop ▸ h) hok
   |clear=>exact NS hX hop (hop ▸ h)
   |_=>rw [hop] at h;simp [fS] at h
 |_=>rw [hop] at h;simp [fS] at h
def Tx:Op→Bool
 |.call ⟨.value _,_,_⟩=>true
 |_=>false
theorem OQ (hX:bV P X) {o:Oper} {ev:Operand→SV} {rows:List Row} {e:aL} (h:fS X ev rows o.op=some e) (hok:e.ok=true) (hob:e.obj=true) (hv:Tx o.op=true):Fr P o ev (rows[·]?) rows.length e:=by
 cases hop:o.op with
 |call c=>
  obtain ⟨callee,args,ts⟩:=c
  cases callee with
  |value f=>exact LY hX hop (hop ▸ h) hok hob
  |_=>rw [hop] at hv;cases hv
 |_=>rw [hop] at hv;cases hv
end
end Go.Proofs.YtimkhidniolpeaaGreat
