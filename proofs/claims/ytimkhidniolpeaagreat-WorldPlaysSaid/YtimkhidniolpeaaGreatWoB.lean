/- Part of the proof. -/
import Derived.Test.YtimkhidniolpeaaGreatVmStp
namespace Go.Proofs.YtimkhidniolpeaaGreat
set_option linter.unusedSimpArgs false
set_option linter.unusedVariables false
set_option maxRecDepth 100000
set_option maxHeartbeats 0
open Go.RowKit
def WL (n b:Nat):Bool:=decide (0+n≤n)&&(decide (0+n≤9223372036854775807)&&decide ((0+n)*b≤140737488355328))
def NX (l:bp) (s:WS):Option aj:=match l.hc with
 |none=>endV l s .nils []
 |some _=>bif WL s.shots.length 88 then endV l s (.slice 0 11 0 (0+s.shots.length) none) [.vec false .sh (s.shots.take s.shots.length)] else none
theorem Dh:∀(s:WS) (l:bp),cB l s→bO oq (fun _ _=>none) 300 15 Tryz.f15 uI [.ptr 0 0 0 0] (s.rows l)=NX l s:=
 bT fun w d h cells spawns now given fired cc sc=>by repeat' (first |apply And.intro |intro _|kernel_rfl)
def yR (l:bp) (s:WS):Option aj:=match s.ps with
 |[]=>endV l s .nils []
 |p::ps=>endV l s (.slice 0 15 0 (ps.length+1) none) [.vec false .pl (p.p::ps.map PL.p)]
theorem y8:∀(s:WS) (l:bp),cB l s→bO oq (fun _ _=>none) 300 13 Tryz.f13 uI [.ptr 0 0 0 0] (s.rows l)=yR l s:=
 bT fun w d h cells spawns now given fired cc sc=>by repeat' (first |apply And.intro |intro _|kernel_rfl)
def jR (l:bp) (s:WS) (v P H:SV):Option aj:=some (.tuple [v,.slice 0 0 0 s.cells.length (some l.cc),.slice 0 0 0 s.spawns.length (some l.sc),P,H],[.obj s])
def pS (l:bp) (n:Nat):SV:=match l.pc with
 |none=>.nils
 |some c=>.slice 0 0 0 n (some c)
def hS (l:bp) (n:Nat):SV:=match l.hc with
 |none=>.nils
 |some c=>.slice 0 0 0 n (some c)
def yy (c:Cm):Bool:=bif ((bif (decide (c.ticks<1)==false) then (bif false then true else decide (c.ticks>8)) else true)==false) then (bif false then true else decide (c.buttons>3)) else true
noncomputable def YL (l:bp) (s:WS) (id:Int) (c:Cm) (pre:List PL):List PL→Option aj
 |[]=>jR l s (.int .i64 6) (pS l s.ps.length) (hS l s.shots.length)
 | p ::ps=>bif p.p.id==id then
     (bif yy c then jR l s (.int .i64 1) (pS l s.ps.length) (hS l s.shots.length) else bif decide (c.ticks>p.left) then jR l s (.int .i64 8) (pS l s.ps.length) (hS l s.shots.length) else
      bif aP s.w s.d s.h s.cells.length&&(aw p.p.pos&&decide (0+s.cells.length≤s.cells.length)) then jR l {s with ps:=pre++⟨fe s.mp.slide p.p c,IntKind.i64.wrap (p.left - c.ticks)⟩::ps} (.int .i64 0) (pS l s.ps.length) (hS l s.shots.length) else none)
  else YL l s id c (pre++[p]) ps
theorem SR (id:Int) (c:Cm):∀(s:WS) (l:bp),cB l s→bO oq (fun _ _=>none) 300 24 Tryz.f24 bD [.ptr 0 0 0 0,.int .i64 id,.agg c.sv] (s.rows l)=YL l s id c [] s.ps:=
 bT fun w d h cells spawns now given fired cc sc=>by repeat' (first |apply And.intro |intro _|kernel_rfl)
def gc (s:WS) (id:Int):Int:=(IntKind.i64.wrap (id - 1)).tmod (s.spawns.length:Int)
def rl (s:WS) (id:Int) (k:Option aj):Option aj:=bif !decide ((s.spawns.length:Int)=0) then (bif decide (0≤gc s id)&&decide (gc s id<(s.spawns.length:Int)) then (bif decide (0+(gc s id).toNat<s.spawns.length) then k else none) else none) else none
def WS.place (s:WS) (id:Int):V3:=s.spawns.getD (0+(gc s id).toNat) ⟨0,0,0⟩
def vo (s:WS):WS:={s with ps:=s.ps++[⟨eU (IntKind.i64.wrap (s.given+1)) (s.place (IntKind.i64.wrap (s.given+1))),8⟩],given:=IntKind.i64.wrap (s.given+1)}
def Tf (l:bp) (s:WS):Option aj:=bif Nat.beq s.ps.length 8 then jR l s (.tuple [.int .i64 0,.int .i64 5]) (pS l s.ps.length) (hS l s.shots.length) else
 rl s (IntKind.i64.wrap (s.given+1)) (jR l (vo s) (.tuple [.int .i64 (IntKind.i64.wrap (s.given+1)),.int .i64 0]) (.slice 0 0 0 (s.ps.length+1) none) (hS l s.shots.length))
theorem JH:∀(s:WS) (l:bp),cB l s→bO oq (fun _ _=>none) 300 18 Tryz.f18 bD [.ptr 0 0 0 0] (s.rows l)=Tf l s:=
 bT fun w d h cells spawns now given fired cc sc=>by repeat' (first |apply And.intro |intro _|kernel_rfl)
def SP:PL:=⟨⟨0,⟨0,0,0⟩,⟨0,0,0⟩,false,0,0,0,0,0,0,0⟩,0⟩
def hX (s:WS) (X:Option (Nat×List Sh)):SV:=match X with
 |none=>.nils
 |some (ll,_)=>.slice (5+s.ps.length) 11 0 ll none
def uY (X:Option (Nat×List Sh)):List Row:=match X with
 |none=>[]
 |some (_,xs)=>[.vec false .sh xs]
def pX (s:WS) (l:bp):SV:=match l.pc with |none=>.nils |some c=>.slice 3 1 0 s.ps.length (some c)
def tk (s:WS) (l:bp) (X:Option (Nat×List Sh)):List Row:=
 .own [.int .i64 s.w,.int .i64 s.d,.int .i64 s.h,.slice 1 1 0 s.cells.length (some l.cc),.slice 2 3 0 s.spawns.length (some l.sc),.int .i64 s.now,pX s l,hX s X,.int .i64 s.given,.int .i64 s.fired]:: .vec false .bool s.cells:: .vec false .vec s.spawns::
 (match l.pc with |none=>.gone |some _=>.pre false (jt 5 s.ps.length))::(match l.hc with |none=>.gone |some _=>.vec false .sh s.shots)::(s.ps.map (fun p=>.own p.sv)++uY X)
def tO (s:WS) (l:bp) (i:Nat):List SV:=[.ptr 0 0 0 0,pX s l,.int .i64 (s.ps.length:Int),.int .i64 (i:Int)]
noncomputable def Ws (n0:Nat):List SV→List Row→Option aj:=bj oq (fun _ _=>none) 100 20 [0,1,1,1,1,1] (bg Tryz.f20 [0,1,1,1,1,1]) 81 n0 [0,38,39,40]
def pm (s:WS) (i:Nat) (p:PL):WS:={s with ps:=s.ps.set i p}
def ZI (s:WS) (l:bp) (X:Option (Nat×List Sh)) (i:Nat) (q:Pl):Option aj:=some (.tuple [.nilp,.tuple (tO s l (i+1))],tk (pm s i ⟨q,min (IntKind.i64.wrap ((s.ps.getD i SP).left+1)) 16⟩) l X)
def DF (s:WS) (l:bp) (X:Option (Nat×List Sh)) (i:Nat):Option aj:=
 bif (s.ps.getD i SP).p.dead==1 then rl s (s.ps.getD i SP).p.id (ZI s l X i (sW (dC (s.ps.getD i SP).p) (s.place (s.ps.getD i SP).p.id))) else ZI s l X i (dC (s.ps.getD i SP).p)
theorem MQ:∀(s:WS) (l:bp),cB l s→∀(X:Option (Nat×List Sh)) (i:Nat),i<s.ps.length→Ws (tk s l X).length (tO s l i) (tk s l X)=DF s l X i:=
 bT fun w d h cells spawns now given fired cc sc=>by
  refine ⟨fun shots hc X i hi=>absurd hi (by simp),fun X i hi=>absurd hi (by simp),fun c shots hc=>?_,fun c=>?_⟩
  all_goals
   repeat' (first |apply And.intro |intro _)
   all_goals
    rename_i X i hi
    rcases X with _|⟨ll,xs⟩<;>rcases i with _|_|_|_|_|_|_|_|i<;>first |(exfalso;simp only [List.length_cons,List.length_nil] at hi;omega)|kernel_rfl
theorem X9:∀(s:WS) (l:bp),cB l s→∀(X:Option (Nat×List Sh)),Ws (tk s l X).length (tO s l s.ps.length) (tk s l X)=some (.tuple [Gr (.exit 2),.tuple (tO s l s.ps.length)],tk s l X):=
 bT fun w d h cells spawns now given fired cc sc=>by
  repeat' (first |apply And.intro |intro _)
  all_goals
   rename_i X
   rcases X with _|⟨ll,xs⟩<;>kernel_rfl
def gk (s:WS) (l:bp) (H:SV) (more:List Row):List Row:=
 .own [.int .i64 s.w,.int .i64 s.d,.int .i64 s.h,.slice 1 1 0 s.cells.length (some l.cc),.slice 2 3 0 s.spawns.length (some l.sc),.int .i64 s.now,pX s l,H,.int .i64 s.given,.int .i64 s.fired]:: .vec false .bool s.cells:: .vec false .vec s.spawns::
 (match l.pc with |none=>.gone |some _=>.pre false (jt 5 s.ps.length))::(match l.hc with |none=>.gone |some _=>.vec false .sh s.shots)::(s.ps.map (fun p=>.own p.sv)++more)
def du (k:Nat):Nat→List SV→Bool
 |0,[]=>true
 |n+1,.ptr id 0 0 0::l=>Nat.beq id k&&du (k+1) n l
 |_,_=>false
theorem qc:∀{n k:Nat} {l:List SV},du k n l=true→l=jt k n
 |0,k,[],_=>rfl
 |n+1,k,.ptr id 0 0 0::l,h=>by
  simp only [du,Bool.and_eq_true] at h
  rw [jt,qc h.2,Nat.eq_of_beq_eq_true h.1]
 |0,_,_::_,h=>by simp [du] at h
 |n+1,_,[],h=>by simp [du] at h
 |n+1,_,.ptr _ (_+1) _ _::_,h=>by simp [du] at h
 |n+1,_,.ptr _ 0 (_+1) _::_,h=>by simp [du] at h
 |n+1,_,.ptr _ 0 0 (_+1)::_,h=>by simp [du] at h
 |n+1,_,.top::_,h=>by simp [du] at h
 |n+1,_,.unk::_,h=>by simp [du] at h
 |n+1,_,.int .. ::_,h=>by simp [du] at h
 |n+1,_,.bool _::_,h=>by simp [du] at h
 |n+1,_,.nilp::_,h=>by simp [du] at h
 |n+1,_,.slice .. ::_,h=>by simp [du] at h
 |n+1,_,.nils::_,h=>by simp [du] at h
 |n+1,_,.agg _::_,h=>by simp [du] at h
 |n+1,_,.tuple _::_,h=>by simp [du] at h
 |n+1,_,.fn .. ::_,h=>by simp [du] at h
def Mg:SV→Row→Option (Nat×Option Nat)
 |.nils,.gone=>some (0,none)
 |.slice 3 1 0 n (some c),.pre false cs=>bif du 5 n cs&&Nat.ble n 8 then some (n,some c) else none
 |_,_=>none
def Zh (n:Nat) (pc:Option Nat):Bool:=match pc with
 |none=>true
 |some c=>Nat.ble n c
def TX:Row→Option (Option Nat×List Sh)
 |.gone=>some (none,[])
 |.vec false .sh xs=>some (some 0,xs)
 |_=>none
def u9:Nat→List Row→Option (List PL×List Row)
 |0,l=>some ([],l)
 |n+1,.own cs::l=>match Z3 cs,u9 n l with
  |some p,some (ps,more)=>some (p::ps,more)
  |_,_=>none
 |_,_=>none
structure GK where
 s:WS
 l:bp
 H:SV
 more:List Row
 ok:Bool
def Bc (R:List Row):Option GK:=match R with
 | .own [.int .i64 w,.int .i64 d,.int .i64 h,.slice 1 1 0 la (some cc),.slice 2 3 0 lb (some sc),.int .i64 now,P,H,.int .i64 given,.int .i64 fired]:: .vec false .bool cells:: .vec false .vec spawns::r3::r4::rest=>
  match Mg P r3,TX r4 with
  |some (n,pc),some (hc,shots)=>match u9 n rest with
   |some (ps,more)=>some ⟨⟨w,d,h,cells,spawns,now,ps,shots,given,fired⟩,⟨cc,sc,pc,hc⟩,H,more,(Nat.beq la cells.length&&Nat.beq lb spawns.length)&&Zh n pc⟩
   |none=>none
  |_,_=>none
 |_=>none
theorem qd:∀{n:Nat} {l:List Row} {ps:List PL} {more:List Row},u9 n l=some (ps,more)→l=ps.map (fun p=>.own p.sv)++more∧ps.length=n
 |0,l,ps,more,h=>by
  simp only [u9,Option.some.injEq,Prod.mk.injEq] at h
  obtain ⟨rfl,rfl⟩:=h
  exact ⟨rfl,rfl⟩
 | n +1,l,ps,more,h=>by
  unfold u9 at h
  split at h
  · rename_i heq;cases heq
  · rename_i n' cs l' heq
    cases heq
    split at h
    · rename_i p ps' more' hp hr
      cases h
      obtain ⟨h1,h2⟩:=qd hr
      exact ⟨by rw [AS hp,h1];rfl,by simp [h2]⟩
    · cases h
  · cases h
theorem Cb {P:SV} {r:Row} {n:Nat} {pc:Option Nat} (h:Mg P r=some (n,pc)):(pc=none∧n=0∧P=.nils∧r=.gone)∨∃c,pc=some c∧n≤8∧P=.slice 3 1 0 n (some c)∧r=.pre false (jt 5 n):=by
 unfold Mg at h
 split at h
 · cases h;exact .inl ⟨rfl,rfl,rfl,rfl⟩
 · obtain ⟨hb,h⟩:=al h
   cases h
   rw [Bool.and_eq_true] at hb
   exact .inr ⟨_,rfl,Nat.le_of_ble_eq_true hb.2,rfl,by rw [qc hb.1]⟩
 · cases h
theorem ny {R:List Row} {g:GK} (h:Bc R=some g) (hok:g.ok=true):R=gk g.s g.l g.H g.more∧cB g.l g.s:=by
 unfold Bc at h
 split at h
 · rename_i w d hh la cc lb sc now P H given fired cells spawns r3 r4 rest
   split at h
   · rename_i n pc hc shots hp hr4
     split at h
     · rename_i ps more hps
       cases h
       rw [Bool.and_eq_true,Bool.and_eq_true] at hok
       have h1:=Nat.eq_of_beq_eq_true hok.1.1
       have h2:=Nat.eq_of_beq_eq_true hok.1.2
       have h5:=hok.2
       subst h1 h2
       obtain ⟨rfl,rfl⟩:=qd hps
       have h4:(hc=none∧shots=[]∧r4=.gone)∨(hc=some 0∧r4=.vec false .sh shots):=by
        unfold TX at hr4
        split at hr4
        · cases hr4;exact .inl ⟨rfl,rfl,rfl⟩
        · cases hr4;exact .inr ⟨rfl,rfl⟩
        · cases hr4
       rcases Cb hp with ⟨rfl,hn,rfl,rfl⟩|⟨c,rfl,h6,rfl,rfl⟩
       · have hps0:ps=[]:=List.length_eq_zero_iff.1 hn
         subst hps0
         rcases h4 with ⟨rfl,rfl,rfl⟩|⟨rfl,rfl⟩<;>exact ⟨rfl,⟨fun _=>rfl,(fun h=>by first |rfl |cases h),(fun _ h=>by cases h),by simp⟩⟩
       · rcases h4 with ⟨rfl,rfl,rfl⟩|⟨rfl,rfl⟩<;>exact ⟨rfl,⟨(fun h=>by cases h),(fun h=>by first |rfl |cases h),(fun c' h=>by cases h;exact Nat.le_of_ble_eq_true h5),h6⟩⟩
     · cases h
   · cases h
 · cases h
def iF (s:WS) (id:Int):Bool:= !decide ((s.spawns.length:Int)=0)&&((decide (0≤gc s id)&&decide (gc s id<(s.spawns.length:Int)))&&decide (0+(gc s id).toNat<s.spawns.length))
theorem oB {s:WS} {id:Int} {k:Option aj} (h:iF s id=true):rl s id k=k:=by
 unfold iF at h
 rw [Bool.and_eq_true,Bool.and_eq_true] at h
 unfold rl
 rw [h.1,h.2.1,h.2.2]
 rfl
def Ee (s:WS) (p:PL):Bool:= !(p.p.dead==1)||iF s p.p.id
def cx (s:WS) (p:PL):PL:=⟨bif p.p.dead==1 then sW (dC p.p) (s.place p.p.id) else dC p.p,min (IntKind.i64.wrap (p.left+1)) 16⟩
theorem Ih {s:WS} {l:bp} {X:Option (Nat×List Sh)} {i:Nat} {p:PL} (hp:s.ps[i]? =some p) (h:Ee s p=true):DF s l X i=some (.tuple [.nilp,.tuple (tO s l (i+1))],tk (pm s i (cx s p)) l X):=by
 have hg:s.ps.getD i SP=p:=by simp [List.getD,hp]
 unfold DF ZI
 rw [hg]
 unfold Ee at h
 unfold cx
 cases hd:p.p.dead==1 with
 |true=>
  rw [hd] at h
  simp only [cond_true]
  rw [oB (by simpa using h)]
 |false=>rfl
theorem CT (s:WS) (l:bp) (X:Option (Nat×List Sh)):(tk s l X).length=5+s.ps.length+(uY X).length:=by
 simp [tk];omega
theorem Fd (l:bp) (X:Option (Nat×List Sh)):∀(post pre:List PL) (s:WS),s.ps=pre++post→cB l s→(∀p∈post,Ee s p=true)→
    aJ (Ws (5+s.ps.length+(uY X).length)) (tO s l pre.length) (tk s l X) (.exit 2) (tO s l s.ps.length) (tk {s with ps:=pre++post.map (cx s)} l X)
 | [],pre,s,hs,ok,_=>by
  have he:({s with ps:=pre++[].map (cx s)}:WS)=s:=by
   obtain ⟨_,_,_,_,_,_,ps,_,_,_⟩:=s
   simp only [List.map_nil,List.append_nil] at hs ⊢
   rw [hs]
  have hl:pre.length=s.ps.length:=by rw [hs,List.append_nil]
  rw [he,hl]
  refine .done ?_ (by simp)
  rw [←CT s l X]
  exact X9 s l ok X
 | p::post,pre,s,hs,ok,hp=>by
  have hi:s.ps[pre.length]? =some p:=by rw [hs];simp
  have hlt:pre.length<s.ps.length:=by rw [hs];simp
  have hr:=MQ s l ok X pre.length hlt
  rw [CT,Ih hi (hp p (by simp))] at hr
  have hps:(pm s pre.length (cx s p)).ps=(pre++[cx s p])++post:=by
   simp [pm,hs]
  have hlen:(pm s pre.length (cx s p)).ps.length=s.ps.length:=by simp [pm]
  have ok':cB l (pm s pre.length (cx s p)):=⟨fun h=>by
   have:=ok.pn h
   rw [this] at hlt;simp at hlt,ok.hn,fun c hc=>by rw [hlen];exact ok.pc c hc,by rw [hlen];exact ok.few⟩
  have ih:=Fd l X post (pre++[cx s p]) (pm s pre.length (cx s p)) hps ok' (fun q hq=>hp q (by simp [hq]))
  have hv:∀k,tO (pm s pre.length (cx s p)) l k=tO s l k:=by
   intro k
   unfold tO pX
   rw [hlen]
  rw [hlen,hv,hv] at ih
  rw [show (pre++[cx s p]).length=pre.length+1 by simp] at ih
  refine .more hr ?_
  have hsame:({pm s pre.length (cx s p) with ps:=pre++[cx s p]++post.map (cx (pm s pre.length (cx s p)))}:WS)={s with ps:=pre++(p::post).map (cx s)}:=by
   have :cx (pm s pre.length (cx s p))=cx s:=rfl
   rw [this]
   simp [pm]
  rw [hsame] at ih
  exact ih
def LR (n:Nat):SV→List Row→Option (Option (Nat×List Sh))
 |.nils,[]=>some none
 |.slice id 11 0 ll none,[.vec false .sh xs]=>bif Nat.beq id (5+n) then some (some (ll,xs)) else none
 |_,_=>none
theorem Ds {s:WS} {l:bp} {H:SV} {more:List Row} {X:Option (Nat×List Sh)} (h:LR s.ps.length H more=some X):gk s l H more=tk s l X:=by
 unfold LR at h
 split at h
 · cases h;rfl
 · obtain ⟨hid,h⟩:=al h
   cases h
   rw [Nat.eq_of_beq_eq_true hid]
   rfl
 · cases h
def eJ (s:WS):WS:={s with ps:=s.ps.map (cx s)}
noncomputable def TN (v:List SV) (R:List Row) (k:Ex→List SV→List Row→Option aj):Option aj:=match v,Bc R with
 | [.ptr 0 0 0 0,P,.int .i64 n,.int .i64 i],some g=>match LR g.s.ps.length g.H g.more with
  | some X=>bif g.ok&&(decide (i=0)&&(decide (n=(g.s.ps.length:Int))&&(match g.l.pc with
      |none=>(match P with |.nils=>true |_=>false)
      |some c=>(match P with |.slice 3 1 0 m (some c')=>Nat.beq m g.s.ps.length&&Nat.beq c c' |_=>false)))) then
      (bif g.s.ps.all (Ee g.s) then k (.exit 2) (tO g.s g.l g.s.ps.length) (tk (eJ g.s) g.l X) else none) else none
  |none=>none
 |_,_=>none
theorem Mz:da 20 [0,1,1,1,1,1] (bG 81 [0,38,39,40] TN):=by
 intro b hat s K r h
 have:=aZ Tryz.func20 hat
 subst this
 refine aQ (fuel:=100) lp ag hat (fun v R k r hr=>?_) h
 unfold TN at hr
 split at hr
 · rename_i P n i g hg
   split at hr
   · rename_i X hXr
     obtain ⟨hb,hr⟩:=al hr
     obtain ⟨hall,hrk⟩:=al hr
     rw [Bool.and_eq_true,Bool.and_eq_true,Bool.and_eq_true,decide_eq_true_eq,decide_eq_true_eq] at hb
     obtain ⟨hok,rfl,rfl,hP⟩:=hb
     obtain ⟨hR,hl⟩:=ny hg hok
     have hPx:P=pX g.s g.l:=by
      unfold pX
      split at hP
      · rename_i hpc
        try simp only [hpc]
        split at hP
        · rfl
        · cases hP
      · rename_i c hpc
        try simp only [hpc]
        split at hP
        · rw [Bool.and_eq_true] at hP
          rw [Nat.eq_of_beq_eq_true hP.1,Nat.eq_of_beq_eq_true hP.2]
        · cases hP
     subst hPx
     have hRt:R=tk g.s g.l X:=by
      rw [hR]
      exact Ds hXr
     refine ⟨_,_,_,hrk,?_⟩
     have hlp:=Fd g.l X g.s.ps [] g.s rfl hl (fun p hp=>List.all_eq_true.1 hall p hp)
     rw [hRt,CT]
     exact hlp
   · cases hr
 · cases hr
noncomputable def T1:jh:=⟨_,_,_,Mz⟩
end Go.Proofs.YtimkhidniolpeaaGreat
