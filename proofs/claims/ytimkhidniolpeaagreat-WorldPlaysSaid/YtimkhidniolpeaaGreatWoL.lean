/- Part of the proof. -/
import Derived.Test.YtimkhidniolpeaaGreatWoK
import Derived.Test.YtimkhidniolpeaaGreatWoH
namespace Go.Proofs.YtimkhidniolpeaaGreat
set_option linter.unusedSimpArgs false
set_option linter.unusedVariables false
set_option maxRecDepth 100000
set_option maxHeartbeats 0
open Go.RowKit
theorem z7:∀(s:WS) (l:bp),cB l s→∀(a:V3) (t:Sh) (q:Pl) (b i:Int),ud (8+s.ps.length) (cK s 0 b i) (eZ s l a t q)=cN s l a t q b i:=
 bT fun w d h cells spawns now given fired cc sc=>by
  refine ⟨fun shots hc a t q b i=>Wl ..,fun a t q b i=>Vq ..,fun c shots hc=>?_,fun c=>?_⟩
  · exact ⟨(fun a t q b i=>Xi ..),fun p1=>⟨(fun a t q b i=>UR ..),fun p2=>⟨(fun a t q b i=>UD ..),fun p3=>⟨(fun a t q b i=>V6 ..),fun p4=>⟨(fun a t q b i=>VZ ..),fun p5=>⟨(fun a t q b i=>Xf ..),fun p6=>⟨(fun a t q b i=>W0 ..),fun p7=>⟨(fun a t q b i=>XH ..),fun p8=>(fun a t q b i=>Xy ..)⟩⟩⟩⟩⟩⟩⟩⟩
  · exact ⟨(fun a t q b i=>Wz ..),fun p1=>⟨(fun a t q b i=>Wb ..),fun p2=>⟨(fun a t q b i=>UW ..),fun p3=>⟨(fun a t q b i=>Xn ..),fun p4=>⟨(fun a t q b i=>W6 ..),fun p5=>⟨(fun a t q b i=>Wg ..),fun p6=>⟨(fun a t q b i=>Vt ..),fun p7=>⟨(fun a t q b i=>UO ..),fun p8=>(fun a t q b i=>WC ..)⟩⟩⟩⟩⟩⟩⟩⟩
noncomputable def cr:Nat→Int→WS→Sh→WS×Sh×Bool×Int
 |0,i,s,t=>(s,t,true,i)
 |k+1,i,s,t=>bif (bN s t).2.2 then cr k (i+1) (bN s t).1 (bN s t).2.1 else ((bN s t).1,(bN s t).2.1,false,i)
noncomputable def gB:Nat→WS→Sh→Bool
 |0,_,_=>true
 |k+1,s,t=>vt s t&&(bif (bN s t).2.2 then gB k (bN s t).1 (bN s t).2.1 else true)
theorem Eb {s:WS} {t:Sh} (h:(bN s t).2.2=true):(bN s t).1=s∧(bN s t).2.1=(bf s.mp.at t).1:=by
 unfold bN at h ⊢
 cases hc:(bf s.mp.at t).2||mF (bf s.mp.at t).1 s.ps with
 |true=>rw [hc] at h;cases h
 |false=>exact ⟨rfl,rfl⟩
theorem Jg {s:WS} {t:Sh} (h:(bN s t).2.2=false):bN s t=(kE s (bf s.mp.at t).1,(bf s.mp.at t).1,false):=by
 unfold bN at h ⊢
 cases hc:(bf s.mp.at t).2||mF (bf s.mp.at t).1 s.ps with
 |true=>rfl
 |false=>rw [hc] at h;cases h
theorem iQ:∀(k:Nat) (i:Int) (s:WS) (t:Sh),(cr k i s t).1.ps.length=s.ps.length∧(cr k i s t).1={s with ps:=(cr k i s t).1.ps}
 |0,i,s,t=>⟨rfl,rfl⟩
 | k+1,i,s,t=>by
  rw [cr]
  cases hb:(bN s t).2.2 with
  |true=>
   obtain ⟨h1,h2⟩:=iQ k (i+1) (bN s t).1 (bN s t).2.1
   simp only [cond_true]
   refine ⟨h1.trans (lc s t),?_⟩
   rw [h2,jL s t]
  |false=>exact ⟨lc s t,jL s t⟩
def Xq (z:WS×Sh×Bool×Int):Ex:=bif z.2.2.1 then .exit 1 else .ret
def rF (z:WS×Sh×Bool×Int):Int:=bif z.2.2.1 then 0 else z.1.fired
theorem Fp (l:bp) (a:V3) (q:Pl) (b:Int):∀(k:Nat) (i:Int) (s:WS) (t:Sh),cB l s→i+k=b→0≤i→b≤1000→gB k s t=true→
    aJ (ud (8+s.ps.length)) (cK s 0 b i) (eZ s l a t q) (Xq (cr k i s t)) (cK (cr k i s t).1 (rF (cr k i s t)) b (cr k i s t).2.2.2) (eZ (cr k i s t).1 l a (cr k i s t).2.1 q)
 |0,i,s,t,ok,hi,h0,hb,_=>by
  have :i=b:=by omega
  subst this
  refine .done ?_ (by simp [Xq,cr])
  rw [z7 s l ok]
  unfold cN
  rw [show decide (i<i)=false by simp]
  rfl
 | k+1,i,s,t,ok,hi,h0,hb,hf=>by
  simp only [gB,Bool.and_eq_true] at hf
  have hr:=z7 s l ok a t q b i
  unfold cN at hr
  rw [show decide (i<b)=true by simp;omega,cond_true,ET hf.1] at hr
  rw [cr]
  cases hlv:(bN s t).2.2 with
  |true=>
   rw [hlv,cond_true] at hr
   obtain ⟨h1,h2⟩:=Eb hlv
   have h3:=hf.2
   rw [hlv,cond_true] at h3
   simp only [cond_true]
   rw [h1,h2] at h3 ⊢
   rw [iJ (by omega) (by omega)] at hr
   exact .more hr (Fp l a q b k (i+1) s _ ok (by omega) (by omega) hb h3)
  |false=>
   rw [hlv,cond_false] at hr
   simp only [cond_false]
   rw [Jg hlv]
   have hlen:(kE s (bf s.mp.at t).1).ps.length=s.ps.length:=nD _ _ _
   refine .done (hr.trans ?_) (by simp [Xq])
   unfold cK Xq rF
   rw [hlen]
   rfl
def Rq (hc:Option Nat) (len:Nat):SV→Bool
 |.nils=>hc.isNone
 |.slice 4 11 0 m (some _)=>hc.isSome&&Nat.beq m len
 |_=>false
noncomputable def tF (g:GK) (id:Nat) (t:Sh) (b i r e:Int):Bool:=g.ok&&(Nat.beq id (6+g.s.ps.length)&&((decide (i=0)&&(decide (r=0)&&decide (e=0)))&&((decide (0≤b)&&decide (b≤8))&&(Rq g.l.hc g.s.shots.length g.H&&gB b.toNat g.s t))))
noncomputable def zF (s:WS) (t:Sh) (b:Int):WS×Sh×Bool×Int:=cr b.toNat 0 s t
noncomputable def eY (s:WS) (t:Sh) (b:Int):WS:=SQ s.ps.length (zF s t b).1
noncomputable def Y4 (v:List SV) (R:List Row) (k:Ex→List SV→List Row→Option aj):Option aj:=match v,Bc R with
 | [.ptr 0 0 0 0,.int .i64 r,.int .i64 e,.ptr id 0 0 0,.int .i64 b,.int .i64 i],some g=>match g.more with
  | [.own ca,.own ct,.own cq]=>match sd ca,JQ ct,Jj cq with
   | some a,some t,some q=>bif tF g id t b i r e then
       (bif (zF g.s t b).2.2.1 then k (.exit 1) (cK (eY g.s t b) 0 b (zF g.s t b).2.2.2) (gk (eY g.s t b) g.l g.H [.own a.sv,.own (zF g.s t b).2.1.sv,.own q.sv])
        else k .ret (cK (eY g.s t b) (zF g.s t b).1.fired b (zF g.s t b).2.2.2) (gk (eY g.s t b) g.l g.H [.own a.sv,.own (zF g.s t b).2.1.sv,.own q.sv])) else none
   |_,_,_=>none
  |_=>none
 |_,_=>none
theorem Qm:da 19 [0,1,0,1,1,1,1,1,1,1,1,1] (bG 99 [0,10,11,13,74,75] Y4):=by
 intro bd hat s K r0 h
 have:=aZ Tryz.func19 hat
 subst this
 refine aQ (fuel:=200) xq ag hat (fun v R k r1 hr=>?_) h
 unfold Y4 at hr
 split at hr
 · rename_i r e id b i g hg
   split at hr
   · rename_i ca ct cq hmore
     split at hr
     · rename_i a t q ha ht hq
       obtain ⟨hb,hr2⟩:=al hr
       clear hr
       rw [gl ha,fE ht,iT hq] at hmore
       unfold tF at hb
       rw [Bool.and_eq_true,Bool.and_eq_true,Bool.and_eq_true,Bool.and_eq_true,Bool.and_eq_true,Bool.and_eq_true,Bool.and_eq_true,Bool.and_eq_true,decide_eq_true_eq,decide_eq_true_eq,decide_eq_true_eq,decide_eq_true_eq,decide_eq_true_eq] at hb
       obtain ⟨hok,hid,⟨hi0,hr0,he0⟩,⟨hb0,hb8⟩,hH,hf⟩:=hb
       have hid:=Nat.eq_of_beq_eq_true hid
       obtain ⟨hR,hl⟩:=ny hg hok
       rw [hmore] at hR
       obtain ⟨hlen,hsame⟩:=iQ b.toNat 0 g.s t
       have haft:eY g.s t b=(zF g.s t b).1:=qV hlen
       have hshots:(zF g.s t b).1.shots=g.s.shots:=by
        show (cr b.toNat 0 g.s t).1.shots=_
        rw [hsame]
       obtain ⟨l',hl',hHO,hgk⟩:∃l':bp,cB l' g.s∧g.H=hO g.s l'∧(∀s H more,gk s l' H more=gk s g.l H more):=by
        unfold Rq at hH
        split at hH
        · rename_i e1
          have hnone:g.l.hc=none:=by simpa using hH
          exact ⟨g.l,hl,by rw [e1];unfold hO;rw [hnone],fun _ _ _=>rfl⟩
        · rename_i m c e1
          rw [Bool.and_eq_true] at hH
          have h2:=Nat.eq_of_beq_eq_true hH.2
          obtain ⟨c0,hc0⟩:=Option.isSome_iff_exists.1 hH.1
          refine ⟨{g.l with hc:=some c},⟨hl.pn,(fun h=>by cases h),hl.pc,hl.few⟩,by rw [e1,h2];rfl,fun s H more=>?_⟩
          unfold gk pX
          rw [hc0]
        · cases hH
       have hRs:R=eZ g.s l' a t q:=by
        rw [hR]
        unfold eZ
        rw [hgk,←hHO]
       have hRl:R.length=8+g.s.ps.length:=by
        rw [hR,N7]
        simp only [List.length_cons,List.length_nil]
        omega
       have hv:([.ptr 0 0 0 0,.int .i64 r,.int .i64 e,.ptr id 0 0 0,.int .i64 b,.int .i64 i]:List SV)=cK g.s 0 b 0:=by
        unfold cK
        rw [hid,hi0,hr0,he0]
       rw [hv,hRl,hRs]
       have main:=Fp l' a q b b.toNat 0 g.s t hl' (by omega) (by omega) (by omega) hf
       have key:eZ (zF g.s t b).1 l' a (zF g.s t b).2.1 q=gk (eY g.s t b) g.l g.H [.own a.sv,.own (zF g.s t b).2.1.sv,.own q.sv]:=by
        unfold eZ
        rw [hgk,haft,hHO]
        unfold hO
        rw [hshots]
       change aJ _ _ _ (Xq (zF g.s t b)) (cK (zF g.s t b).1 (rF (zF g.s t b)) b (zF g.s t b).2.2.2) (eZ (zF g.s t b).1 l' a (zF g.s t b).2.1 q) at main
       rw [key,←haft] at main
       cases hz:(zF g.s t b).2.2.1 with
       |true=>
        rw [hz,cond_true] at hr2
        unfold Xq rF at main
        rw [hz] at main
        exact ⟨_,_,_,hr2,main⟩
       |false=>
        rw [hz,cond_false] at hr2
        unfold Xq rF at main
        rw [hz] at main
        exact ⟨_,_,_,hr2,main⟩
     · cases hr
   · cases hr
 · cases hr
noncomputable def iZ:jh:=⟨_,_,_,Qm⟩
end Go.Proofs.YtimkhidniolpeaaGreat
