/- Part of the proof. -/
import Derived.Test.YtimkhidniolpeaaGreatWoG
namespace Go.Proofs.YtimkhidniolpeaaGreat
set_option linter.unusedSimpArgs false
set_option linter.unusedVariables false
set_option maxRecDepth 100000
set_option maxHeartbeats 0
open Go.RowKit
theorem Bt:∀(s:WS) (l:bp),cB l s→l.hc≠none→∀(X:Option (Nat×List Sh)) (i:Int),qW (5+s.ps.length) (e9 s l X i) (e8 s l X)=bU s l X i:=
 bT fun w d h cells spawns now given fired cc sc=>by
  refine ⟨fun shots hc hh X i=>?_,fun hh=>absurd rfl hh,fun c shots hc=>?_,fun c=>⟨fun h=>absurd rfl h,fun _=>⟨fun h=>absurd rfl h,fun _=>⟨fun h=>absurd rfl h,fun _=>⟨fun h=>absurd rfl h,fun _=>⟨fun h=>absurd rfl h,fun _=>⟨fun h=>absurd rfl h,fun _=>⟨fun h=>absurd rfl h,fun _=>⟨fun h=>absurd rfl h,fun _ h=>absurd rfl h⟩⟩⟩⟩⟩⟩⟩⟩⟩
  · rcases X with _|⟨ll,xs⟩
    · exact VK ..
    · exact W8 ..
  · exact ⟨(fun _ X i=>match X with |none=>Wq .. |some (ll,xs)=>Xw ..),fun p1=>⟨(fun _ X i=>match X with |none=>UU .. |some (ll,xs)=>UQ ..),fun p2=>⟨(fun _ X i=>match X with |none=>UN .. |some (ll,xs)=>Ur ..),fun p3=>⟨(fun _ X i=>match X with |none=>XD .. |some (ll,xs)=>Wx ..),fun p4=>⟨(fun _ X i=>match X with |none=>Xb .. |some (ll,xs)=>WF ..),fun p5=>⟨(fun _ X i=>match X with |none=>XJ .. |some (ll,xs)=>XI ..),fun p6=>⟨(fun _ X i=>match X with |none=>WI .. |some (ll,xs)=>XE ..),fun p7=>⟨(fun _ X i=>match X with |none=>Vw .. |some (ll,xs)=>V1 ..),fun p8=>(fun _ X i=>match X with |none=>UP .. |some (ll,xs)=>VV ..)⟩⟩⟩⟩⟩⟩⟩⟩
noncomputable def mF (t:Sh):List PL→Bool
 |[]=>false
 |p::ps=>tP t p.p||mF t ps
noncomputable def bN (s:WS) (t:Sh):WS×Sh×Bool:=bif (bf s.mp.at t).2||mF (bf s.mp.at t).1 s.ps then (kE s (bf s.mp.at t).1,(bf s.mp.at t).1,false) else (s,(bf s.mp.at t).1,true)
def o9 (s:WS) (t:Sh):Bool:=match s.ps with
 |[]=>true
 |_=>js s.w s.d s.h 0 s.cells.length s.cells t.pos (s.ps.map PL.p) s.ps.length
noncomputable def vt (s:WS) (t:Sh):Bool:=(aP s.w s.d s.h s.cells.length&&(aw t.pos&&decide (0+s.cells.length≤s.cells.length)))&&o9 s (bf s.mp.at t).1
theorem yh {s:WS} {t:Sh} {b:Option aj} (h:o9 s t=true):rf s t b=b:=by
 unfold o9 at h
 unfold rf
 split at h
 · rename_i hp;simp [hp]
 · split
   · rfl
   · rw [h];rfl
theorem Ar (t:Sh) (b k:Option aj):∀ps:List PL,Gn t b k ps=bif mF t ps then b else k
 |[]=>rfl
 |p::ps=>by
  rw [Gn,mF,Ar t b k ps]
  cases tP t p.p<;>rfl
theorem ET {s:WS} {t:Sh} {b k:Option aj} (h:vt s t=true):Rm s t b k=bif (bN s t).2.2 then k else b:=by
 unfold vt at h
 rw [Bool.and_eq_true] at h
 unfold Rm bN
 rw [h.1,cond_true,yh h.2,Ar]
 cases (bf s.mp.at t).2<;>cases mF (bf s.mp.at t).1 s.ps<;>rfl
theorem nD (B:List Pl):∀(k:Nat) (ps:List PL),(pw B k ps).length=ps.length
 |_,[]=>rfl
 |k,p::ps=>by rw [pw,List.length_cons,List.length_cons,nD B (k+1) ps]
theorem lc (s:WS) (t:Sh):(bN s t).1.ps.length=s.ps.length:=by
 unfold bN
 cases (bf s.mp.at t).2||mF (bf s.mp.at t).1 s.ps with
 |true=>exact nD _ _ _
 |false=>rfl
theorem jL (s:WS) (t:Sh):(bN s t).1={s with ps:=(bN s t).1.ps}:=by
 unfold bN
 cases (bf s.mp.at t).2||mF (bf s.mp.at t).1 s.ps<;>rfl
noncomputable def aW:WS→List Sh→List Sh→WS×List Sh
 |s,left,[]=>(s,left)
 |s,left,t::ts=>aW (bN s t).1 (bif (bN s t).2.2 then left++[(bN s t).2.1] else left) ts
noncomputable def kF:WS→List Sh→Bool
 |_,[]=>true
 |s,t::ts=>vt s t&&kF (bN s t).1 ts
def uj (left:List Sh):Option (Nat×List Sh):=match left with
 |[]=>none
 |_=>some (left.length,left)
theorem EU (l:bp) (hhc:l.hc≠none):∀(ts left:List Sh) (s:WS) (i:Nat),cB l s→s.shots.drop i=ts→i+ts.length=s.shots.length→s.shots.length≤1000→left.length≤i→kF s ts=true→
    aJ (qW (5+s.ps.length)) (e9 s l (uj left) (i:Int)) (e8 s l (uj left)) (.exit 0) (e9 (aW s left ts).1 l (uj (aW s left ts).2) (s.shots.length:Int)) (e8 (aW s left ts).1 l (uj (aW s left ts).2))
 |[],left,s,i,ok,hd,hl,hL,hli,_=>by
  have hi:i=s.shots.length:=by simpa using hl
  subst hi
  refine .done ?_ (by simp)
  rw [Bt s l ok hhc]
  unfold bU
  rw [show decide ((s.shots.length:Int)<(s.shots.length:Int))=false by simp]
  rfl
 | t ::ts,left,s,i,ok,hd,hl,hL,hli,hf=>by
  have hlt:i<s.shots.length:=by simp at hl;omega
  have ht:Ye s (i:Int)=t:=by
   have h1:s.shots[i]? =some t:=by
    have:=congrArg List.head? hd
    rw [List.head?_drop] at this
    exact this
   simp only [Ye,List.getD,Int.toNat_natCast,Nat.zero_add,h1]
   rfl
  simp only [kF,Bool.and_eq_true] at hf
  have hw:IntKind.i64.wrap ((i:Int)+1)=((i+1:Nat):Int):=by
   rw [iJ (by omega) (by omega)];omega
  have hlen:=lc s t
  have hsame:=jL s t
  have hsh:(bN s t).1.shots=s.shots:=by rw [hsame]
  have ok':cB l (bN s t).1:=⟨fun h=>by
      have:=ok.pn h
      rw [this] at hlen
      exact List.length_eq_zero_iff.1 hlen,fun h=>absurd h hhc,fun c hc=>by rw [hlen];exact ok.pc c hc,by rw [hlen];exact ok.few⟩
  have hr:=Bt s l ok hhc (uj left) (i:Int)
  unfold bU at hr
  rw [show decide ((i:Int)<(s.shots.length:Int))=true by simp;omega,show decide (0≤(i:Int))=true by simp,show decide (0+(i:Int).toNat<s.shots.length)=true by simp;omega,ht] at hr
  simp only [cond_true,Bool.and_self] at hr
  rw [ET hf.1] at hr
  have ih:=EU l hhc ts (bif (bN s t).2.2 then left++[(bN s t).2.1] else left) (bN s t).1 (i+1) ok' (by
      rw [hsh,←List.drop_drop,hd];rfl) (by rw [hsh];simp at hl;omega) (by rw [hsh];exact hL) (by cases (bN s t).2.2<;>simp<;>omega) hf.2
  rw [hlen,hsh] at ih
  have hgo:∀(s':WS) (X:Option (Nat×List Sh)),Y2 s' l X (i:Int)=some (.tuple [.nilp,.tuple (e9 s' l X ((i+1:Nat):Int))],e8 s' l X):=by
   intro s' X
   unfold Y2
   rw [hw]
  refine .more (hr.trans ?_) ih
  cases hb:(bN s t).2.2 with
  | false=>
   simp only [cond_false]
   rw [hgo]
   have :kE s (bf s.mp.at t).1=(bN s t).1:=by
    unfold bN at hb ⊢
    cases hc:(bf s.mp.at t).2||mF (bf s.mp.at t).1 s.ps with
    |true=>rfl
    |false=>rw [hc] at hb;cases hb
   rw [this]
  | true=>
   simp only [cond_true]
   have h1:(bN s t).1=s∧(bN s t).2.1=(bf s.mp.at t).1:=by
    unfold bN at hb ⊢
    cases hc:(bf s.mp.at t).2||mF (bf s.mp.at t).1 s.ps with
    |true=>rw [hc] at hb;cases hb
    |false=>exact ⟨rfl,rfl⟩
   rw [h1.1,h1.2]
   cases left with
   |nil=>
    simp only [uj,O4,List.nil_append]
    rw [hgo]
    rfl
   | cons x xs=>
    simp only [uj,O4]
    have hg:DW (x::xs).length (x::xs)=true:=by
     simp only [DW,Bool.and_eq_true,Bool.or_eq_true,decide_eq_true_eq]
     simp only [List.length_cons] at hli ⊢
     refine ⟨.inl (by omega),Nat.le_refl _,by omega,by omega⟩
    rw [hg,cond_true,hgo,List.take_length]
    simp
theorem e7:∀(ts:List Sh) (s:WS) (left:List Sh),(aW s left ts).1.ps.length=s.ps.length∧(aW s left ts).1={s with ps:=(aW s left ts).1.ps}
 |[],s,left=>⟨rfl,rfl⟩
 |t::ts,s,left=>by
  obtain ⟨h1,h2⟩:=e7 ts (bN s t).1 (bif (bN s t).2.2 then left++[(bN s t).2.1] else left)
  rw [aW]
  refine ⟨h1.trans (lc s t),?_⟩
  rw [h2]
  rw [jL s t]
def SQ (n:Nat) (s:WS):WS:={s with ps:=(List.range n).map fun i=>s.ps.getD i SP}
theorem qV {n:Nat} {s:WS} (h:s.ps.length=n):SQ n s=s:=by
 unfold SQ
 have :(List.range n).map (fun i=>s.ps.getD i SP)=s.ps:=by
  refine List.ext_getElem? fun i=>?_
  rw [List.getElem?_map]
  by_cases hi:i<n
  · simp [List.getElem?_range hi,List.getD,List.getElem?_eq_getElem (show i<s.ps.length by omega)]
  · rw [List.getElem?_eq_none (by simpa using hi),List.getElem?_eq_none (by omega)]
    rfl
 rw [this]
def ZH (hc:Option Nat) (len:Nat):SV→SV→Bool
 |.nils,.nils=>hc.isNone
 |.slice 4 11 0 m (some c),.slice 4 11 0 m' (some c')=>hc.isSome&&(Nat.beq m len&&(Nat.beq m' m&&Nat.beq c' c))
 |_,_=>false
noncomputable def tS (g:GK) (H:SV) (n i:Int):Bool:=(g.ok&&decide (i=0))&&(decide (n=(g.s.shots.length:Int))&&(decide (g.s.shots.length≤1000)&&(ZH g.l.hc g.s.shots.length g.H H&&kF g.s g.s.shots)))
noncomputable def cU (s:WS):WS:=SQ s.ps.length (aW s [] s.shots).1
noncomputable def dT (s:WS):List Sh:=(aW s [] s.shots).2
noncomputable def Y5 (v:List SV) (R:List Row) (k:Ex→List SV→List Row→Option aj):Option aj:=match v,Bc R with
 | [.ptr 0 0 0 0,.nils,H,.int .i64 n,.int .i64 i],some g=>match g.more with
  | []=>bif tS g H n i then (bif (dT g.s).isEmpty then k (.exit 0) [.ptr 0 0 0 0,.nils,H,.int .i64 n,.int .i64 n] (gk (cU g.s) g.l H []) else
      k (.exit 0) [.ptr 0 0 0 0,hX (cU g.s) (some ((dT g.s).length,dT g.s)),H,.int .i64 n,.int .i64 n] (gk (cU g.s) g.l H (uY (some ((dT g.s).length,dT g.s))))) else none
  |_=>none
 |_,_=>none
theorem QJ:∀(s:WS) (l:bp),cB l s→l.hc=none→qW (5+s.ps.length) (e9 s l none 0) (e8 s l none)=some (.tuple [Gr (.exit 0),.tuple (e9 s l none 0)],e8 s l none):=
 bT fun w d h cells spawns now given fired cc sc=>by
  refine ⟨fun shots hc hh=>(by cases hh),fun _=>by kernel_rfl,fun c shots hc=>?_,fun c=>?_⟩
  · exact ⟨fun h=>(by cases h),fun _=>⟨fun h=>(by cases h),fun _=>⟨fun h=>(by cases h),fun _=>⟨fun h=>(by cases h),fun _=>⟨fun h=>(by cases h),fun _=>⟨fun h=>(by cases h),fun _=>⟨fun h=>(by cases h),fun _=>⟨fun h=>(by cases h),fun _ h=>(by cases h)⟩⟩⟩⟩⟩⟩⟩⟩
  · repeat' (first |apply And.intro |intro _)
    all_goals kernel_rfl
theorem N7 (s:WS) (l:bp) (H:SV) (more:List Row):(gk s l H more).length=5+s.ps.length+more.length:=by
 simp [gk];omega
theorem Qt:da 20 [0,1,0,1,1] (bG 81 [0,2,18,19,20] Y5):=by
 intro b hat s K r h
 have:=aZ Tryz.func20 hat
 subst this
 refine aQ (fuel:=200) xq ag hat (fun v R k r hr=>?_) h
 unfold Y5 at hr
 split at hr
 · rename_i H n i g hg
   split at hr
   · rename_i hmore
     obtain ⟨hb,hr2⟩:=al hr
     clear hr
     unfold tS at hb
     rw [Bool.and_eq_true,Bool.and_eq_true,Bool.and_eq_true,Bool.and_eq_true,Bool.and_eq_true,decide_eq_true_eq,decide_eq_true_eq,decide_eq_true_eq] at hb
     obtain ⟨⟨hok,hi0⟩,hn,hL,hH,hf⟩:=hb
     obtain ⟨hR,hl⟩:=ny hg hok
     rw [hmore] at hR
     have hlen:(aW g.s [] g.s.shots).1.ps.length=g.s.ps.length:=(e7 g.s.shots g.s []).1
     have haft:cU g.s=(aW g.s [] g.s.shots).1:=qV hlen
     have hshots:(cU g.s).shots=g.s.shots:=by rw [haft,(e7 g.s.shots g.s []).2]
     -- the layout with the shots' room
     obtain ⟨l',hl',hHO,hgH,hgk,hpX⟩:∃l':bp,cB l' g.s∧H=hO g.s l'∧g.H=H∧(∀s H more,gk s l' H more=gk s g.l H more)∧(l'.hc=none↔H=.nils):=by
      unfold ZH at hH
      split at hH
      · rename_i e1
        have hnone:g.l.hc=none:=by simpa using hH
        exact ⟨g.l,hl,by unfold hO;rw [hnone],e1,fun _ _ _=>rfl,by simp [hnone]⟩
      · rename_i m c m' c' e1
        rw [Bool.and_eq_true,Bool.and_eq_true,Bool.and_eq_true] at hH
        obtain ⟨h1,h2,h3,h4⟩:=hH
        have h2:=Nat.eq_of_beq_eq_true h2
        have h3:=Nat.eq_of_beq_eq_true h3
        have h4:=Nat.eq_of_beq_eq_true h4
        obtain ⟨c0,hc0⟩:=Option.isSome_iff_exists.1 h1
        refine ⟨{g.l with hc:=some c},⟨hl.pn,(fun h=>by cases h),hl.pc,hl.few⟩,by rw [h3,h4,h2];rfl,by rw [e1,h3,h4],fun s H more=>?_,by simp⟩
        unfold gk pX
        rw [hc0]
      · cases hH
     rw [hgH] at hR
     have hRs:R=e8 g.s l' none:=by
      rw [hR]
      unfold e8
      rw [hgk,←hHO]
      rfl
     have hRl:R.length=5+g.s.ps.length:=by rw [hR,N7];rfl
     have hv:([.ptr 0 0 0 0,.nils,H,.int .i64 n,.int .i64 i]:List SV)=e9 g.s l' none 0:=by
      unfold e9
      rw [←hHO,hn,hi0]
      rfl
     rw [hv,hRl,hRs]
     have main:aJ (qW (5+g.s.ps.length)) (e9 g.s l' none 0) (e8 g.s l' none) (.exit 0) (e9 (cU g.s) l' (uj (dT g.s)) (g.s.shots.length:Int)) (e8 (cU g.s) l' (uj (dT g.s))):=by
      by_cases hnone:l'.hc=none
      · have h0:=hl'.hn hnone
        have e1:cU g.s=g.s:=by rw [haft,h0];rfl
        have e2:dT g.s=[]:=by unfold dT;rw [h0];rfl
        rw [e1,e2,h0]
        exact .done (QJ g.s l' hl' hnone) (by simp)
      · have:=EU l' hnone g.s.shots [] g.s 0 hl' rfl (by simp) hL (by simp) hf
        rw [haft]
        exact this
     have hHO':hO (cU g.s) l'=H:=by rw [hHO];unfold hO;rw [hshots]
     have key1:∀X,e8 (cU g.s) l' X=gk (cU g.s) g.l H (uY X):=fun X=>by unfold e8;rw [hHO',hgk]
     have key2:∀X,e9 (cU g.s) l' X (g.s.shots.length:Int)=[.ptr 0 0 0 0,hX (cU g.s) X,H,.int .i64 n,.int .i64 n]:=fun X=>by unfold e9;rw [hHO',hshots,hn]
     cases he:(dT g.s).isEmpty with
     |true=>
      rw [he,cond_true] at hr2
      have e2:dT g.s=[]:=List.isEmpty_iff.1 he
      refine ⟨_,_,_,hr2,?_⟩
      rw [e2,key1,key2] at main
      exact main
     | false=>
      rw [he,cond_false] at hr2
      refine ⟨_,_,_,hr2,?_⟩
      have e2:uj (dT g.s)=some ((dT g.s).length,dT g.s):=by
       cases hq:dT g.s with
       |nil=>rw [hq] at he;cases he
       |cons x xs=>rfl
      rw [e2,key1,key2] at main
      exact main
   · cases hr
 · cases hr
noncomputable def YF:jh:=⟨_,_,_,Qt⟩
def XR (l:bp) (s:WS):Bool:=(Nat.beq s.cells.length s.cells.length&&Nat.beq s.spawns.length s.spawns.length)&&Zh s.ps.length l.pc
def KU (l:bp) (n:Nat):Bool:=match l.pc with
 |none=>true
 |some c=>Nat.beq n n&&Nat.beq c c
def ST (l:bp) (s:WS) (X:Option (Nat×List Sh)):Option aj:=bif XR l s&&(decide ((0:Int)=0)&&(decide ((s.ps.length:Int)=(s.ps.length:Int))&&KU l s.ps.length)) then
 (bif s.ps.all (Ee s) then jR l {eJ s with shots:=(match X with |none=>[]|some (_,xs)=>xs)} (.tuple []) (pS l s.ps.length) (match X with |none=>.nils |some (ll,_)=>.slice 0 0 0 ll none) else none) else none
def nowS (s:WS):WS:={s with now:=IntKind.i64.wrap (s.now+1)}
def XV (l:bp) (s:WS):Option Nat:=match l.hc with
 |none=>none
 |some _=>some 0
noncomputable def TR (l:bp) (s:WS):Option aj:=bif tS ⟨nowS s,⟨l.cc,l.sc,l.pc,XV l s⟩,hO s l,[],XR l s⟩ (hO s l) (s.shots.length:Int) 0 then
 (bif (dT (nowS s)).isEmpty then ST l (cU (nowS s)) none else ST l (cU (nowS s)) (some ((dT (nowS s)).length,dT (nowS s)))) else none
theorem Du:∀(s:WS) (l:bp),cB l s→bO qP (aF [YF,T1]) 300 20 Tryz.f20 bD [.ptr 0 0 0 0] (s.rows l)=TR l s:=
 bT fun w d h cells spawns now given fired cc sc=>by repeat' (first |apply And.intro |intro _|kernel_rfl)
end Go.Proofs.YtimkhidniolpeaaGreat
