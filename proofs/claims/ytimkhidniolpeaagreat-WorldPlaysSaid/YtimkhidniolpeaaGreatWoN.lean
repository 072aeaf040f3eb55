/- Part of the proof. -/
import Derived.Test.YtimkhidniolpeaaGreatWoH
import Derived.Test.YtimkhidniolpeaaGreatWoM
import Derived.Test.YtimkhidniolpeaaGreatWoD
import Derived.Test.YtimkhidniolpeaaGreatVmDp
import Derived.Test.YtimkhidniolpeaaGreatVmR
import Derived.Test.YtimkhidniolpeaaGreatVmRgd
import Derived.Test.YtimkhidniolpeaaGreatVmStp
import Derived.Test.YtimkhidniolpeaaGreatVmFh
import Derived.Test.YtimkhidniolpeaaGreatVmI
namespace Go.Proofs.YtimkhidniolpeaaGreat
set_option linter.unusedSimpArgs false
set_option linter.unusedVariables false
set_option maxRecDepth 100000
set_option maxHeartbeats 0
open Go.RowKit
theorem cA {l:bp} {s:WS} {v P H:SV} (hP:P.firm s.ps.length) (hH:H.firm s.shots.length) (hf:s.ps.length≤8):ol (jR l s v P H) v s []:=
 ⟨_,_,_,_,rfl,⟨rfl,.inr rfl⟩,⟨rfl,.inr rfl⟩,hP,hH,hf⟩
theorem hJ {l:bp} {s:WS} {n:Nat} (ok:cB l s) (h:n=s.ps.length):(pS l n).firm n:=by
 unfold pS
 cases hp:l.pc with
 |none=>rw [ok.pn hp] at h;simp [SV.firm,h]
 |some c=>exact ⟨rfl,.inr rfl⟩
theorem gw {l:bp} {s:WS} {n:Nat} (ok:cB l s) (h:n=s.shots.length):(hS l n).firm n:=by
 unfold hS
 cases hh:l.hc with
 |none=>rw [ok.hn hh] at h;simp [SV.firm,h]
 |some c=>exact ⟨rfl,.inr rfl⟩
noncomputable def Lj (args:List SV) (rows:List Row):Option aL:=match args with
 |[.ptr g 0 0 0]=>match rows[g]? with
  |some (.obj s)=>some {val:=.int .i64 s.now,rd:=[g],wr:=[(g,.obj s)]}
  |_=>none
 |_=>none
theorem L8 {args:List SV} {rows:List Row} {e:aL} (h:Lj args rows=some e) (hok:e.ok=true):dp Tryz.prog 11 args (rows[·]?) rows.length e:=by
 unfold Lj at h
 split at h
 · split at h
   · rename_i s hs
     cases h
     exact eX lp ag Tryz.func11 (ds:=[]) rfl rfl (fun l ok=>by rw [Oz s l ok];exact ij _ _ ok) hs
   · cases h
 · cases h
noncomputable def FY:mL:=⟨11,Lj,fun _ _ _ h hok=>L8 h hok,aq Tryz.func11 (by kernel_rfl)⟩
noncomputable def D4 (args:List SV) (rows:List Row):Option aL:=match args with
 |[.ptr g 0 0 0,.int .i64 id]=>match rows[g]? with
  |some (.obj s)=>some {val:=.int .i64 (lj id s.ps),rd:=[g],wr:=[(g,.obj s)]}
  |_=>none
 |_=>none
theorem HV {args:List SV} {rows:List Row} {e:aL} (h:D4 args rows=some e) (hok:e.ok=true):dp Tryz.prog 16 args (rows[·]?) rows.length e:=by
 unfold D4 at h
 split at h
 · rename_i g id
   split at h
   · rename_i s hs
     cases h
     exact eX lp ag Tryz.func16 (ds:=[.int .i64 id]) rfl rfl (fun l ok=>by rw [GQ id s l ok,A6];exact ij _ _ ok) hs
   · cases h
 · cases h
noncomputable def P4:mL:=⟨16,D4,fun _ _ _ h hok=>HV h hok,aq Tryz.func16 (by kernel_rfl)⟩
noncomputable def pN (args:List SV) (rows:List Row):Option aL:=match args with
 |[.ptr g 0 0 0]=>match rows[g]? with
  |some (.obj s)=>some {val:=.slice rows.length 15 0 (s.ps.map PL.p).length none,rd:=[g],wr:=[(g,.obj s)],nw:=[.vec true .pl (s.ps.map PL.p)]}
  |_=>none
 |_=>none
theorem yf {args:List SV} {rows:List Row} {e:aL} (h:pN args rows=some e) (hok:e.ok=true):dp Tryz.prog 13 args (rows[·]?) rows.length e:=by
 unfold pN at h
 split at h
 · split at h
   · rename_i s hs
     cases h
     refine qu (fuel:=300) (k:=.pl) (xs:=s.ps.map PL.p) lp ag Tryz.func13 (ds:=[]) rfl (fun l ok=>?_) hs
     rw [y8 s l ok]
     unfold yR
     cases hp:s.ps with
     |nil=>exact .inl ⟨rfl,ij _ _ ok⟩
     | cons p ps=>
      refine .inr ⟨none,?_⟩
      have key:∀(ys:List Pl) (n:Nat),p.p::ps.map PL.p=ys→ps.length+1=n→ol (endV l s (.slice 0 15 0 (ps.length+1) none) [.vec false .pl (p.p::ps.map PL.p)]) (.slice 0 15 0 n none) s [.vec false .pl ys]:=by
       rintro _ _ rfl rfl
       exact ij _ _ ok
      exact key _ _ rfl (show ps.length+1=((p::ps).map PL.p:List Pl).length by simp)
   · cases h
 · cases h
noncomputable def qk:mL:=⟨13,pN,fun _ _ _ h hok=>yf h hok,aq Tryz.func13 (by kernel_rfl)⟩
theorem W3 {n:Nat} (h:n≤1000):WL n 88=true:=by
 simp only [WL,Bool.and_eq_true,decide_eq_true_eq]
 omega
noncomputable def xt (args:List SV) (rows:List Row):Option aL:=match args with
 |[.ptr g 0 0 0]=>match rows[g]? with
  |some (.obj s)=>some {ok:=decide (s.shots.length≤1000),val:=.slice rows.length 11 0 s.shots.length none,rd:=[g],wr:=[(g,.obj s)],nw:=[.vec true .sh s.shots]}
  |_=>none
 |_=>none
theorem EB {args:List SV} {rows:List Row} {e:aL} (h:xt args rows=some e) (hok:e.ok=true):dp Tryz.prog 15 args (rows[·]?) rows.length e:=by
 unfold xt at h
 split at h
 · split at h
   · rename_i s hs
     cases h
     rw [decide_eq_true_eq] at hok
     refine qu (fuel:=300) (k:=.sh) (xs:=s.shots) lp ag Tryz.func15 (ds:=[]) rfl (fun l ok=>?_) hs
     rw [Dh s l ok]
     unfold NX
     cases hh:l.hc with
     |none=>exact .inl ⟨ok.hn hh,ij _ _ ok⟩
     | some c=>
      refine .inr ⟨none,?_⟩
      simp only
      rw [W3 hok,cond_true]
      have key:∀(ys:List Sh) (n:Nat),ys=s.shots→n=s.shots.length→ol (endV l s (.slice 0 11 0 n none) [.vec false .sh ys]) (.slice 0 11 0 s.shots.length none) s [.vec false .sh s.shots]:=by
       rintro _ _ rfl rfl
       exact ij _ _ ok
      exact key _ _ List.take_length (Nat.zero_add _)
   · cases h
 · cases h
noncomputable def vi:mL:=⟨15,xt,fun _ _ _ h hok=>EB h hok,aq Tryz.func15 (by kernel_rfl)⟩
noncomputable def og (s:WS) (id:Int) (c:Cm):List PL→Int×List PL
 |[]=>(6,[])
 |p::ps=>bif p.p.id==id then (bif yy c then (1,p::ps) else bif decide (c.ticks>p.left) then (8,p::ps) else (0,⟨fe s.mp.slide p.p c,IntKind.i64.wrap (p.left - c.ticks)⟩::ps))
  else ((og s id c ps).1,p::(og s id c ps).2)
def DH (s:WS):Bool:=aP s.w s.d s.h s.cells.length&&s.ps.all fun p=>aw p.p.pos
noncomputable def doS (s:WS) (id:Int) (c:Cm):WS:={s with ps:=(og s id c s.ps).2}
theorem oe (s:WS) (id:Int) (c:Cm):∀ps,(og s id c ps).2.length=ps.length
 |[]=>rfl
 | p::ps=>by
  rw [og]
  cases p.p.id==id
  · simp [oe s id c ps]
  · cases yy c
    · cases decide (c.ticks>p.left)<;>rfl
    · rfl
theorem Mc (l:bp) (s:WS) (id:Int) (c:Cm) (hm:aP s.w s.d s.h s.cells.length=true):∀(ps pre:List PL),s.ps=pre++ps→(∀p∈ps,aw p.p.pos=true)→
    YL l s id c pre ps=jR l {s with ps:=pre++(og s id c ps).2} (.int .i64 (og s id c ps).1) (pS l s.ps.length) (hS l s.shots.length)
 |[],pre,hs,_=>by
  rw [YL,og]
  simp only
  rw [←hs]
 | p ::ps,pre,hs,hf=>by
  rw [YL,og]
  cases p.p.id==id with
  | true=>
   simp only [cond_true]
   cases yy c with
   |true=>simp only [cond_true];rw [←hs]
   | false=>
    simp only [cond_false]
    cases decide (c.ticks>p.left) with
    |true=>simp only [cond_true];rw [←hs]
    |false=>
     simp only [cond_false]
     rw [hm,hf p (by simp)]
     simp
  |false=>
   simp only [cond_false]
   rw [Mc l s id c hm ps (pre++[p]) (by simp [hs]) (fun q hq=>hf q (by simp [hq]))]
   simp
def Zt:List SV→Option Cm
 |[.int .u16 a,.int .u8 b,.int .i8 c,.int .i8 d,.int .i64 e]=>some ⟨a,b,c,d,e⟩
 |_=>none
theorem Ww {l:List SV} {c:Cm} (h:Zt l=some c):l=c.sv:=by
 unfold Zt at h
 split at h
 · cases h;rfl
 · cases h
noncomputable def XB (args:List SV) (rows:List Row):Option aL:=match args with
 |[.ptr g 0 0 0,.int .i64 id,.agg cs]=>match rows[g]?,Zt cs with
  |some (.obj s),some c=>some {ok:=DH s,val:=.int .i64 (og s id c s.ps).1,rd:=[g],wr:=[(g,.obj (doS s id c))]}
  |_,_=>none
 |_=>none
theorem PD {args:List SV} {rows:List Row} {e:aL} (h:XB args rows=some e) (hok:e.ok=true):dp Tryz.prog 24 args (rows[·]?) rows.length e:=by
 unfold XB at h
 split at h
 · rename_i g id cs
   split at h
   · rename_i s c hs hc
     cases h
     rw [Ww hc]
     unfold DH at hok
     rw [Bool.and_eq_true,List.all_eq_true] at hok
     refine eX (fuel:=300) lp ag Tryz.func24 (ds:=[.int .i64 id,.agg c.sv]) rfl rfl (fun l ok=>?_) hs
     rw [SR id c s l ok,Mc l s id c hok.1 s.ps [] rfl hok.2]
     have hl:(doS s id c).ps.length=s.ps.length:=oe s id c s.ps
     refine cA ?_ (gw ok rfl) ?_
     · show (pS l s.ps.length).firm (og s id c s.ps).2.length
       rw [oe]
       exact hJ ok rfl
     · show (og s id c s.ps).2.length≤8
       rw [oe]
       exact ok.few
   · cases h
 · cases h
noncomputable def VJ:mL:=⟨24,XB,fun _ _ _ h hok=>PD h hok,aq Tryz.func24 (by kernel_rfl)⟩
def bI (s:WS):Bool:=Nat.beq s.ps.length 8
def eh (s:WS):WS:=bif bI s then s else vo s
def zO (s:WS):Bool:=bI s||iF s (IntKind.i64.wrap (s.given+1))
noncomputable def DJ (args:List SV) (rows:List Row):Option aL:=match args with
 |[.ptr g 0 0 0]=>match rows[g]? with
  |some (.obj s)=>some {ok:=zO s,val:=.tuple [.int .i64 (bif bI s then 0 else IntKind.i64.wrap (s.given+1)),.int .i64 (bif bI s then 5 else 0)],rd:=[g],wr:=[(g,.obj (eh s))]}
  |_=>none
 |_=>none
theorem JL {args:List SV} {rows:List Row} {e:aL} (h:DJ args rows=some e) (hok:e.ok=true):dp Tryz.prog 18 args (rows[·]?) rows.length e:=by
 unfold DJ at h
 split at h
 · split at h
   · rename_i s hs
     cases h
     refine eX (fuel:=300) lp ag Tryz.func18 (ds:=[]) rfl rfl (fun l ok=>?_) hs
     rw [JH s l ok]
     unfold Tf eh
     unfold zO bI at hok
     unfold bI
     cases hf:Nat.beq s.ps.length 8 with
     |true=>
      simp only [cond_true]
      exact cA (hJ ok rfl) (gw ok rfl) ok.few
     |false=>
      rw [hf,Bool.false_or] at hok
      simp only [cond_false]
      rw [oB hok]
      have hne:s.ps.length≠8:=fun h=>by rw [h] at hf;cases hf
      have hf8:=ok.few
      refine cA ⟨by simp [vo],.inl (by omega)⟩ (gw ok rfl) ?_
      simp only [vo,List.length_append,List.length_cons,List.length_nil]
      omega
   · cases h
 · cases h
noncomputable def Bm:mL:=⟨18,DJ,fun _ _ _ h hok=>JL h hok,aq Tryz.func18 (by kernel_rfl)⟩
noncomputable def cL (s:WS):WS:=eJ {(aW (nowS s) [] s.shots).1 with shots:=(aW (nowS s) [] s.shots).2}
noncomputable def dQ (s:WS):Bool:=decide (s.shots.length≤1000)&&(kF (nowS s) s.shots&&(aW (nowS s) [] s.shots).1.ps.all (Ee (aW (nowS s) [] s.shots).1))
noncomputable def BQ (args:List SV) (rows:List Row):Option aL:=match args with
 |[.ptr g 0 0 0]=>match rows[g]? with
  |some (.obj s)=>some {ok:=dQ s,val:=.tuple [],rd:=[g],wr:=[(g,.obj (cL s))]}
  |_=>none
 |_=>none
theorem sf {l:bp} {s s0:WS} (ok:cB l s0) (h:s.ps.length=s0.ps.length):XR l s=true:=by
 unfold XR Zh
 simp only [Bool.and_eq_true]
 refine ⟨⟨Nat.beq_refl _,Nat.beq_refl _⟩,?_⟩
 cases hp:l.pc with
 |none=>rfl
 |some c=>exact Nat.ble_eq_true_of_le (h ▸ ok.pc c hp)
theorem Eq (l:bp) (n:Nat):KU l n=true:=by
 unfold KU
 cases l.pc with
 |none=>rfl
 |some c=>simp only [Bool.and_eq_true];exact ⟨Nat.beq_refl _,Nat.beq_refl _⟩
theorem GW {args:List SV} {rows:List Row} {e:aL} (h:BQ args rows=some e) (hok:e.ok=true):dp Tryz.prog 20 args (rows[·]?) rows.length e:=by
 unfold BQ at h
 split at h
 · split at h
   · rename_i s hs
     cases h
     unfold dQ at hok
     rw [Bool.and_eq_true,Bool.and_eq_true,decide_eq_true_eq] at hok
     obtain ⟨h1,h2,h3⟩:=hok
     refine eX (fuel:=300) xq (aG (l:=[YF,T1])) Tryz.func20 (ds:=[]) rfl rfl (fun l ok=>?_) hs
     rw [Du s l ok]
     unfold TR
     have hlen:=(e7 s.shots (nowS s) []).1
     have haft:cU (nowS s)=(aW (nowS s) [] s.shots).1:=qV hlen
     have hsh:((aW (nowS s) [] s.shots).1).ps.length=s.ps.length:=hlen
     have hts:tS ⟨nowS s,⟨l.cc,l.sc,l.pc,XV l s⟩,hO s l,[],XR l s⟩ (hO s l) (s.shots.length:Int) 0=true:=by
      unfold tS
      simp only [Bool.and_eq_true,decide_eq_true_eq]
      refine ⟨⟨sf ok rfl,by first |rfl |trivial⟩,by first |rfl |trivial,h1,?_,h2⟩
      unfold hO XV
      cases l.hc with
      |none=>rfl
      |some c=>
       simp only [ZH,Bool.and_eq_true]
       exact ⟨rfl,Nat.beq_refl _,Nat.beq_refl _,Nat.beq_refl _⟩
     rw [hts,cond_true]
     have hfin:∀X:Option (Nat×List Sh),ST l (cU (nowS s)) X=jR l {eJ (cU (nowS s)) with shots:=(match X with |none=>[]|some (_,xs)=>xs)} (.tuple []) (pS l (cU (nowS s)).ps.length) (match X with |none=>.nils |some (ll,_)=>.slice 0 0 0 ll none):=by
      intro X
      unfold ST
      rw [sf ok (by rw [haft];exact hsh),Eq,haft,h3]
      cases X<;>simp
     have hps:(pS l (cU (nowS s)).ps.length).firm (cL s).ps.length:=by
      have e1:(cU (nowS s)).ps.length=s.ps.length:=by rw [haft];exact hsh
      have e2:(cL s).ps.length=s.ps.length:=by
       unfold cL eJ
       simp only [List.length_map]
       exact hsh
      rw [e1,e2]
      exact hJ ok rfl
     have hfew:(cL s).ps.length≤8:=by
      unfold cL eJ
      simp only [List.length_map]
      rw [hsh]
      exact ok.few
     have hW:({eJ (cU (nowS s)) with shots:=dT (nowS s)}:WS)=cL s:=by
      rw [haft];rfl
     cases he:(dT (nowS s)).isEmpty with
     |true=>
      rw [cond_true,hfin]
      have e3:dT (nowS s)=[]:=List.isEmpty_iff.1 he
      have hW':=hW
      rw [e3] at hW'
      simp only
      rw [hW']
      refine cA hps ?_ hfew
      have :(cL s).shots=[]:=by rw [←hW']
      rw [this]
      rfl
     |false=>
      rw [cond_false,hfin]
      simp only
      rw [hW]
      refine cA hps ?_ hfew
      have :(cL s).shots=dT (nowS s):=by rw [←hW]
      rw [this]
      refine ⟨rfl,.inl ?_⟩
      cases hq:dT (nowS s) with
      |nil=>rw [hq] at he;cases he
      |cons x xs=>simp
   · cases h
 · cases h
noncomputable def BI:mL:=⟨20,BQ,fun _ _ _ h hok=>GW h hok,aq Tryz.func20 (by kernel_rfl)⟩
noncomputable def tM (s:WS) (t:Sh) (b:Int):WS×Int×Int:=bif (zF s t b).2.2.1 then ({(zF s t b).1 with shots:=s.shots++[(zF s t b).2.1]},(zF s t b).1.fired,0) else ((zF s t b).1,(zF s t b).1.fired,0)
noncomputable def zy (s:WS) (pre:List PL) (p:PL) (ps:List PL) (id k:Int) (d:V3) (ahead:Int):WS×Int×Int:=
 bif iU k d !=0 then (s,0,iU k d) else bif (c9 p.p k).2 !=0 then (s,0,(c9 p.p k).2) else bif (s.shots.length:Int)==64 then (s,0,5) else tM (cH s pre p ps k) (cZ s p id k d) (kM ahead)
noncomputable def jd (s:WS) (id k:Int) (d:V3) (ahead:Int) (pre:List PL):List PL→WS×Int×Int
 |[]=>(s,0,6)
 |p::ps=>bif p.p.id==id then zy s pre p ps id k d ahead else jd s id k d ahead (pre++[p]) ps
noncomputable def eu (s:WS) (id k:Int) (d:V3) (ahead:Int):WS×Int×Int:=jd s id k d ahead [] s.ps
noncomputable def xO (s:WS) (pre:List PL) (p:PL) (ps:List PL) (id k:Int) (d:V3) (ahead:Int):Bool:=
 bif iU k d !=0 then true else bif (c9 p.p k).2 !=0 then true else bif (s.shots.length:Int)==64 then true else gB (kM ahead).toNat (cH s pre p ps k) (cZ s p id k d)
noncomputable def mg (s:WS) (id k:Int) (d:V3) (ahead:Int) (pre:List PL):List PL→Bool
 |[]=>true
 |p::ps=>bif p.p.id==id then xO s pre p ps id k d ahead else mg s id k d ahead (pre++[p]) ps
noncomputable def kc (s:WS) (id k:Int) (d:V3) (ahead:Int):Bool:=decide (s.shots.length≤1000)&&mg s id k d ahead [] s.ps
theorem Hn {l:bp} {s s1:WS} (h:s1.shots.length=s.shots.length):Rq (XV l s1) s1.shots.length (hO s l)=true:=by
 unfold hO XV
 cases l.hc with
 |none=>rfl
 |some c=>
  simp only [Rq,Bool.and_eq_true]
  exact ⟨rfl,by rw [h];exact Nat.beq_refl _⟩
theorem BP {l:bp} {s s1:WS} {d:V3} {t:Sh} {q:Pl} {b:Int} (ok:cB l s) (hps:s1.ps.length=s.ps.length) (hsh:s1.shots=s.shots) (hL:s.shots.length≤1000) (hb:0≤b∧b≤8) (hf:gB b.toNat s1 t=true):
    ol (N1 l s1 d t q b) (.tuple [.int .i64 (tM s1 t b).2.1,.int .i64 (tM s1 t b).2.2]) (tM s1 t b).1 []:=by
 have hO1:hO s1 l=hO s l:=by unfold hO;rw [hsh]
 have htf:tF (Nb l s1 d t q) (6+s1.ps.length) t b 0 0 0=true:=by
  unfold tF Nb
  simp only [Bool.and_eq_true,decide_eq_true_eq]
  refine ⟨sf ok hps,Nat.beq_refl _,⟨by first |rfl |trivial,by first |rfl |trivial,by first |rfl |trivial⟩,hb,?_,hf⟩
  rw [hO1]
  exact Hn (by rw [hsh])
 obtain ⟨hlen,hsame⟩:=iQ b.toNat 0 s1 t
 have haft:eY s1 t b=(zF s1 t b).1:=qV hlen
 have hzl:(zF s1 t b).1.ps.length=s.ps.length:=hlen.trans hps
 have hzs:(zF s1 t b).1.shots=s.shots:=by
  show (cr b.toNat 0 s1 t).1.shots=_
  rw [hsame]
  exact hsh
 have hP:(pS l s1.ps.length).firm s.ps.length:=by rw [hps];exact hJ ok rfl
 unfold N1
 rw [htf,cond_true,haft]
 unfold tM
 cases hz:(zF s1 t b).2.2.1 with
 | true=>
  simp only [cond_true]
  cases hc:l.hc with
  | none=>
   have h0:=ok.hn hc
   simp only
   have e:s1.shots++[(zF s1 t b).2.1]=[(zF s1 t b).2.1]:=by rw [hsh,h0];rfl
   rw [e]
   refine cA ?_ ⟨rfl,.inl (by omega)⟩ ?_
   · show (pS l s1.ps.length).firm (zF s1 t b).1.ps.length
     rw [hzl];exact hP
   · show (zF s1 t b).1.ps.length≤8
     rw [hzl];exact ok.few
  | some c=>
   simp only
   have hg:Kx s1.shots.length (zF s1 t b).1.shots=true:=by
    simp only [Kx,Bool.or_true,Bool.true_and,Bool.and_eq_true,decide_eq_true_eq]
    rw [hzs,hsh]
    omega
   rw [hg,cond_true,hzs,hsh,List.take_length]
   refine cA ?_ ⟨by simp,.inl (by omega)⟩ ?_
   · show (pS l s1.ps.length).firm (zF s1 t b).1.ps.length
     rw [hzl];exact hP
   · show (zF s1 t b).1.ps.length≤8
     rw [hzl];exact ok.few
 | false=>
  simp only [cond_false]
  have fin:∀S:WS,S=(zF s1 t b).1→ol (jR l S (.tuple [.int .i64 (zF s1 t b).1.fired,.int .i64 0]) (pS l s1.ps.length) (hS l s1.shots.length)) (.tuple [.int .i64 (zF s1 t b).1.fired,.int .i64 0]) (zF s1 t b).1 []:=by
   rintro _ rfl
   refine cA ?_ ?_ ?_
   · rw [hzl];exact hP
   · rw [hzs,hsh];exact gw ok rfl
   · rw [hzl];exact ok.few
  refine fin _ ?_
  cases hc:l.hc with
  |none=>
   have h0:=ok.hn hc
   have h1:(zF s1 t b).1.shots=[]:=by rw [hzs,h0]
   simp only
   rw [←h1]
  |some c=>rfl
theorem s9 {l:bp} {s:WS} (ok:cB l s) {id k:Int} {d:V3} {ahead:Int} (hL:s.shots.length≤1000):∀(ps pre:List PL),s.ps=pre++ps→mg s id k d ahead pre ps=true→
    ol (cC l s id k d ahead pre ps) (.tuple [.int .i64 (jd s id k d ahead pre ps).2.1,.int .i64 (jd s id k d ahead pre ps).2.2]) (jd s id k d ahead pre ps).1 []
 |[],pre,_,_=>by
  rw [cC,jd]
  exact cA (hJ ok rfl) (gw ok rfl) ok.few
 | p :: ps,pre,hs,hf=>by
  rw [cC,jd]
  rw [mg] at hf
  cases hid:p.p.id==id with
  |false=>
   rw [hid,cond_false] at hf
   simp only [cond_false]
   exact s9 ok hL ps (pre++[p]) (by simp [hs]) hf
  | true=>
   rw [hid,cond_true] at hf
   simp only [cond_true]
   unfold zy
   unfold xO at hf
   cases hn:iU k d !=0 with
   |true=>
    simp only [cond_true]
    exact cA (hJ ok rfl) (gw ok rfl) ok.few
   | false=>
    rw [hn,cond_false] at hf
    simp only [cond_false]
    have hbad:dZ k d=false:=by
     unfold iU at hn
     cases hb:dZ k d with
     |true=>rw [hb] at hn;cases hn
     |false=>rfl
    have hk:(k==0||k==1)=true:=by
     rcases (fP hbad).1 with h |h<;>subst h<;>rfl
    rw [hk,cond_true]
    cases he:(c9 p.p k).2 !=0 with
    |true=>
     simp only [cond_true]
     exact cA (hJ ok rfl) (gw ok rfl) ok.few
    | false=>
     rw [he,cond_false] at hf
     simp only [cond_false]
     cases h64:(s.shots.length:Int)==64 with
     | true=>
      simp only [cond_true]
      have hne:s.shots≠[]:=fun h=>by rw [h] at h64;cases h64
      unfold GA
      cases hc:l.hc with
      |none=>exact absurd (ok.hn hc) hne
      | some c=>
       simp only
       rw [h64,cond_true]
       exact cA (hJ ok rfl) (by
        have:=gw ok (rfl:s.shots.length=s.shots.length)
        exact this) ok.few
     | false=>
      rw [h64,cond_false] at hf
      simp only [cond_false]
      have hfull:∀y n:Option aj,GA l s y n=n:=by
       intro y n
       unfold GA
       cases l.hc with
       |none=>rfl
       |some c=>simp only;rw [h64];rfl
      rw [hfull]
      refine BP ok ?_ rfl hL ⟨?_,?_⟩ hf
      · simp only [cH]
        rw [hs]
        simp
      · unfold kM;omega
      · unfold kM;omega
noncomputable def Cc (args:List SV) (rows:List Row):Option aL:=match args with
 |[.ptr g 0 0 0,.int .i64 id,.int .i64 k,.agg cs,.int .i64 ahead]=>match rows[g]?,sd cs with
  |some (.obj s),some d=>some {ok:=kc s id k d ahead,val:=.tuple [.int .i64 (eu s id k d ahead).2.1,.int .i64 (eu s id k d ahead).2.2],rd:=[g],wr:=[(g,.obj (eu s id k d ahead).1)]}
  |_,_=>none
 |_=>none
theorem IF (id k ahead:Int) (d:V3):∀(s:WS) (l:bp),cB l s→bO qP (aF [iZ]) 400 19 Tryz.f19 bD [.ptr 0 0 0 0,.int .i64 id,.int .i64 k,.agg d.sv,.int .i64 ahead] (s.rows l)=cC l s id k d ahead [] s.ps:=
 bT fun w dd h cells spawns now given fired cc sc=>by
  refine ⟨fun shots hc=>Xd ..,UH ..,fun c shots hc=>?_,fun c=>?_⟩
  · exact ⟨Wo ..,fun p1=>⟨V9 ..,fun p2=>⟨Ut ..,fun p3=>⟨Vm ..,fun p4=>⟨Xj ..,fun p5=>⟨VW ..,fun p6=>⟨Uv ..,fun p7=>⟨VN ..,fun p8=>UK ..⟩⟩⟩⟩⟩⟩⟩⟩
  · exact ⟨WN ..,fun p1=>⟨Vg ..,fun p2=>⟨Up ..,fun p3=>⟨Wv ..,fun p4=>⟨VD ..,fun p5=>⟨Wr ..,fun p6=>⟨UA ..,fun p7=>⟨WO ..,fun p8=>Wc ..⟩⟩⟩⟩⟩⟩⟩⟩
theorem Hk {args:List SV} {rows:List Row} {e:aL} (h:Cc args rows=some e) (hok:e.ok=true):dp Tryz.prog 19 args (rows[·]?) rows.length e:=by
 unfold Cc at h
 split at h
 · rename_i g id k cs ahead
   split at h
   · rename_i s d hs hd
     cases h
     rw [gl hd]
     unfold kc at hok
     rw [Bool.and_eq_true,decide_eq_true_eq] at hok
     refine eX (fuel:=400) xq (aG (l:=[iZ])) Tryz.func19 (ds:=[.int .i64 id,.int .i64 k,.agg d.sv,.int .i64 ahead]) rfl rfl (fun l ok=>?_) hs
     rw [IF id k ahead d s l ok]
     exact s9 ok hok.1 s.ps [] rfl hok.2
   · cases h
 · cases h
noncomputable def zC:mL:=⟨19,Cc,fun _ _ _ h hok=>Hk h hok,aq Tryz.func19 (by kernel_rfl)⟩
theorem CE (id:Int):∀(s:WS) (l:bp),cB l s→bO oq (fun _ _=>none) 400 25 Tryz.f25 bD [.ptr 0 0 0 0,.int .i64 id] (s.rows l)=cE l s id 0 [] s.ps:=
 bT fun w d h cells spawns now given fired cc sc=>by
  refine ⟨fun shots hc=>UB ..,Vc ..,fun c shots hc=>?_,fun c=>?_⟩
  · exact ⟨Xg ..,fun p1=>⟨Uu ..,fun p2=>⟨Vi ..,fun p3=>⟨Xa ..,fun p4=>⟨W4 ..,fun p5=>⟨UL ..,fun p6=>⟨VB ..,fun p7=>⟨Xm ..,fun p8=>X8 ..⟩⟩⟩⟩⟩⟩⟩⟩
  · exact ⟨VG ..,fun p1=>⟨WT ..,fun p2=>⟨V8 ..,fun p3=>⟨Wi ..,fun p4=>⟨UM ..,fun p5=>⟨Xo ..,fun p6=>⟨Xx ..,fun p7=>⟨X5 ..,fun p8=>VP ..⟩⟩⟩⟩⟩⟩⟩⟩
def de (id:Int) (ps:List PL):Bool:=ps.any fun p=>p.p.id==id
def dF (s:WS) (id:Int):WS:={s with ps:=s.ps.filter fun p=> !(p.p.id==id)}
theorem ph {l:bp} {s:WS} (ok:cB l s) {id:Int} (hne:s.ps≠[]):∀(ps acc:List PL) (i:Nat),acc.length=i→i+ps.length≤s.ps.length→
    ol (JK l s id i acc ps) (.int .i64 0) {s with ps:=acc++ps.filter fun p=> !(p.p.id==id)} []
 | [],acc,i,hi,hl=>by
  rw [JK]
  obtain ⟨c,hc⟩:∃c,l.pc=some c:=by
   cases hp:l.pc with
   |none=>exact absurd (ok.pn hp) hne
   |some c=>exact ⟨c,rfl⟩
  have h1:=ok.pc c hc
  have h8:=ok.few
  simp only [List.length_nil,Nat.add_zero] at hl
  have :(decide (0≤(i:Int))&&decide ((i:Int)≤((dm l.pc s.ps.length:Nat):Int)))=true:=by
   rw [hc]
   rw [Bool.and_eq_true]
   have hic:i≤c:=by omega
   exact ⟨decide_eq_true (by omega),decide_eq_true (show (i:Int)≤(c:Int) by omega)⟩
  rw [this,cond_true,List.filter_nil,List.append_nil]
  refine cA ?_ (gw ok rfl) ?_
  · show (pS l i).firm acc.length
    unfold pS
    rw [hc]
    exact ⟨hi.symm,.inr rfl⟩
  · show acc.length≤8
    omega
 | p::ps,acc,i,hi,hl=>by
  rw [JK]
  simp only [List.length_cons] at hl
  cases hp:p.p.id==id with
  |true=>
   simp only [Bool.not_true,cond_false]
   have:=ph (id:=id) ok hne ps acc i hi (by omega)
   rw [List.filter_cons,hp]
   exact this
  |false=>
   simp only [Bool.not_false,cond_true]
   have:=ph (id:=id) ok hne ps (acc++[p]) (i+1) (by simp [hi]) (by omega)
   rw [List.filter_cons,hp]
   simpa using this
theorem q6 {l:bp} {s:WS} (ok:cB l s) {id:Int}:∀(ps acc:List PL) (i:Nat),s.ps=acc++ps→acc.length=i→
    ol (cE l s id i acc ps) (.int .i64 (bif de id ps then 0 else 6)) {s with ps:=acc++ps.filter fun p=> !(p.p.id==id)} []
 | [],acc,i,hs,hi=>by
  rw [cE]
  have :({s with ps:=acc++[].filter fun p=> !(p.p.id==id)}:WS)=s:=by
   rw [List.filter_nil,←hs]
  rw [this]
  exact cA (hJ ok rfl) (gw ok rfl) ok.few
 | p::ps,acc,i,hs,hi=>by
  rw [cE]
  have hlen:acc.length+(ps.length+1)=s.ps.length:=by rw [hs];simp
  cases hp:p.p.id==id with
  |true=>
   simp only [cond_true]
   have:=ph (l:=l) ok (id:=id) (by rw [hs];simp) ps acc i hi (by omega)
   rw [List.filter_cons,hp]
   unfold de
   rw [List.any_cons,hp]
   exact this
  |false=>
   simp only [cond_false]
   have:=q6 ok (id:=id) ps (acc++[p]) (i+1) (by simp [hs]) (by simp [hi])
   rw [List.filter_cons,hp]
   unfold de at this ⊢
   rw [List.any_cons,hp]
   simpa using this
noncomputable def wW (args:List SV) (rows:List Row):Option aL:=match args with
 |[.ptr g 0 0 0,.int .i64 id]=>match rows[g]? with
  |some (.obj s)=>some {val:=.int .i64 (bif de id s.ps then 0 else 6),rd:=[g],wr:=[(g,.obj (dF s id))]}
  |_=>none
 |_=>none
theorem DR {args:List SV} {rows:List Row} {e:aL} (h:wW args rows=some e) (hok:e.ok=true):dp Tryz.prog 25 args (rows[·]?) rows.length e:=by
 unfold wW at h
 split at h
 · rename_i g id
   split at h
   · rename_i s hs
     cases h
     refine eX (fuel:=400) lp ag Tryz.func25 (ds:=[.int .i64 id]) rfl rfl (fun l ok=>?_) hs
     rw [CE id s l ok]
     exact q6 ok s.ps [] 0 rfl rfl
   · cases h
 · cases h
noncomputable def GP:mL:=⟨25,wW,fun _ _ _ h hok=>DR h hok,aq Tryz.func25 (by kernel_rfl)⟩
noncomputable def Zd:bS:=aV [22] [An] ZE
theorem Wk:bV Tryz.prog Zd:=aD (by kernel_rfl)
def newC (w d h:Int) (len off:Nat) (xs:List Bool) (ls off2:Nat) (sp:List V3):Bool:=aP w d h len&&(decide (off+len≤xs.length)&&(decide (off2+ls≤sp.length)&&(decide (ls≤9223372036854775807)&&sp.all aw)))
noncomputable def l9 (w d h:Int) (len off:Nat) (xs:List Bool) (ls off2:Nat) (sp:List V3):Bool:=(af w d h len fun j=>xs.getD (off+j) false).right (gf sp off2) ls
def HW (off len n b:Nat):Bool:=decide (off+len≤n)&&(decide (0+len≤9223372036854775807)&&decide ((0+len)*b≤140737488355328))
def lY (w d h:Int) (len off:Nat) (xs:List Bool) (ls off2:Nat) (sp:List V3):WS:=⟨w,d,h,(xs.drop off).take len,(sp.drop off2).take ls,0,[],[],0,0⟩
noncomputable def UJ (w d h:Int) (len off:Nat) (xs:List Bool) (ls off2:Nat) (sp:List V3):Option aj:=
 bif newC w d h len off xs ls off2 sp then (bif kf (l9 w d h len off xs ls off2 sp) !=0 then some (.tuple [.nilp,.int .i64 (kf (l9 w d h len off xs ls off2 sp))],[]) else
  bif (none:Option Nat).isSome||Nat.blt 0 len then (bif HW off len xs.length 1 then (bif (none:Option Nat).isSome||Nat.blt 0 ls then (bif HW off2 ls sp.length 24 then
   some (.tuple [.int .i64 0,.slice 0 0 0 (0+len) none,.slice 0 0 0 (0+ls) none],[.obj (lY w d h len off xs ls off2 sp)]) else none) else none) else none) else none) else none
theorem IW (w d h:Int) (len off:Nat) (xs:List Bool) (ls off2:Nat) (sp:List V3):bO Zd (fun _ _=>none) 300 6 Tryz.f6 A4 [.agg [.int .i64 w,.int .i64 d,.int .i64 h,.slice 0 1 off len none,.slice 1 3 off2 ls none]] [.vec true .bool xs,.vec true .vec sp]=UJ w d h len off xs ls off2 sp:=by kernel_rfl
theorem Jp {m:Mp} (h:m.sized=true):1≤m.len∧m.len≤32768:=by
 obtain ⟨⟨⟨a1,a2⟩,⟨b1,b2⟩,⟨c1,c2⟩⟩,hl⟩:=mc.1 h
 have h1:1≤m.w*m.d:=by
  have:=Int.mul_le_mul a1 b1 (by omega) (by omega)
  simpa using this
 have h2:m.w*m.d≤32*32:=Int.mul_le_mul a2 b2 (by omega) (by omega)
 have h3:1≤m.w*m.d*m.h:=by
  have:=Int.mul_le_mul h1 c1 (by omega) (by omega)
  simpa using this
 have h4:m.w*m.d*m.h≤32*32*32:=Int.mul_le_mul h2 c2 (by omega) (by omega)
 omega
theorem K9 {w d h:Int} {len off:Nat} {xs:List Bool} {ls off2:Nat} {sp:List V3} (hc:newC w d h len off xs ls off2 sp=true) (hv:l9 w d h len off xs ls off2 sp=true):
    rz (UJ w d h len off xs ls off2 sp) (lY w d h len off xs ls off2 sp):=by
 have hv':=hv
 unfold l9 Mp.right at hv'
 simp only [Bool.and_eq_true,Bool.not_eq_true',beq_eq_false_iff_ne,decide_eq_false_iff_not] at hv'
 obtain ⟨⟨hs,h1,h2⟩,_⟩:=hv'
 have hl:=Jp hs
 have hl1:1≤len:=hl.1
 have hl2:len≤32768:=hl.2
 have hc':=hc
 unfold newC at hc'
 simp only [Bool.and_eq_true,decide_eq_true_eq] at hc'
 obtain ⟨_,g1,g2,g3,_⟩:=hc'
 have b1:Nat.blt 0 len=true:=by rw [Nat.blt_eq];omega
 have b2:Nat.blt 0 ls=true:=by rw [Nat.blt_eq];omega
 have a1:HW off len xs.length 1=true:=by simp only [HW,Bool.and_eq_true,decide_eq_true_eq];omega
 have a2:HW off2 ls sp.length 24=true:=by simp only [HW,Bool.and_eq_true,decide_eq_true_eq];omega
 unfold UJ
 rw [hc,hv,b1,b2,a1,a2]
 refine ⟨_,_,_,_,rfl,?_,.inl (by omega),?_,.inl (by omega)⟩
 · simp only [lY,List.length_take,List.length_drop];omega
 · simp only [lY,List.length_take,List.length_drop];omega
theorem dp.weak {P:Program} {f:Nat} {args args':List SV} {m:jM} {n:Nat} {e:aL} (h:dp P f args m n e) (ha:∀ρ vs,au ρ args' vs→au ρ args vs):dp P f args' m n e:=
 fun ρ m1 vargs w h1 h2 h3 h4 h5=>h ρ m1 vargs w h1 h2 h3 (ha ρ vargs h4) h5
noncomputable def Ao (args:List SV) (rows:List Row):Option aL:=match args with
 |[.agg [.int .i64 w,.int .i64 d,.int .i64 h,.slice id 1 off len _,.slice id2 3 off2 ls _]]=>match rows[id]?,rows[id2]? with
  |some (.vec _ .bool xs),some (.vec _ .vec sp)=>some {ok:=newC w d h len off xs ls off2 sp&&l9 w d h len off xs ls off2 sp,val:=.tuple [.ptr rows.length 0 0 0,.int .i64 0],rd:=[id,id2],nw:=[.obj (lY w d h len off xs ls off2 sp)]}
  |_,_=>none
 |_=>none
theorem Ae {args:List SV} {rows:List Row} {e:aL} (h:Ao args rows=some e) (hok:e.ok=true):dp Tryz.prog 6 args (rows[·]?) rows.length e:=by
 unfold Ao at h
 split at h
 · rename_i w d hh id off len c1 id2 off2 ls c2
   split at h
   · rename_i r1 xs r2 sp h1 h2
     cases h
     rw [Bool.and_eq_true] at hok
     have hn:rz (bO Zd (fun _ _=>none) 300 6 Tryz.f6 A4 [.agg [.int .i64 w,.int .i64 d,.int .i64 hh,.slice 0 1 off len none,.slice 1 3 off2 ls none]] [.vec true .bool xs,.vec true .vec sp]) (lY w d hh len off xs ls off2 sp):=
      (IW w d hh len off xs ls off2 sp) ▸ K9 hok.1 hok.2
     have:=IM (n:=rows.length) (ok:=newC w d hh len off xs ls off2 sp&&l9 w d hh len off xs ls off2 sp) Wk ag Tryz.func6 hn (by simp [SV.idsL,SV.ids]) h1 h2
     refine this.weak fun ρ vs hr=>?_
     match vs,hr with
     | [v],hr=>
      simp only [d8,gj,aa,ai,and_true] at hr ⊢
      simp only [aE] at hr ⊢
      obtain ⟨us,rfl,hr⟩:=hr
      refine ⟨us,rfl,?_⟩
      match us,hr with
      |[u0,u1,u2,u3,u4],hr=>
       simp only [aa,ai,and_true] at hr ⊢
       obtain ⟨a0,a1,a2,a3,a4⟩:=hr
       exact ⟨a0,a1,a2,bP a3,bP a4⟩
      |[],hr=>exact absurd hr.length (by simp)
      |[_],hr=>exact absurd hr.length (by simp)
      |[_,_],hr=>exact absurd hr.length (by simp)
      |[_,_,_],hr=>exact absurd hr.length (by simp)
      |[_,_,_,_],hr=>exact absurd hr.length (by simp)
      |_::_::_::_::_::_::_,hr=>exact absurd hr.length (by simp)
     |[],hr=>exact absurd hr.length (by simp)
     |_::_::_,hr=>exact absurd hr.length (by simp)
   · cases h
 · cases h
noncomputable def Sa:mL:=⟨6,Ao,fun _ _ _ h hok=>Ae h hok,aq Tryz.func6 (by kernel_rfl)⟩
theorem HF {P:Program} {f:Nat} {ds:List SV} {s s':WS} {v:SV} {rows':List Row} {ok:Bool} (hds:SV.idsL ds=[]) (hc:kx P f (.ptr 0 0 0 0::ds) [.obj s] v rows') (h0:rows'[0]? =some (.obj s')) (hv:v.ids=[])
    {m:jM} {n g:Nat} (hm:m g=some (.obj s)):dp P f (.ptr g 0 0 0::ds) m n {ok:=ok,val:=v,rd:=[g],wr:=[(g,.obj s')]}:=by
 intro ρ m1 vargs w hrd _ hfree hargs hW
 have hm1:m1 g=some (.obj s):=by rw [hrd g (by simp),hm]
 obtain ⟨p,hp,hb0,hmi,his⟩:=hW.obj.is g s hm1
 let ρ0:aR:=fun i=>if i=0 then ρ g else none
 have h00:ρ0 0=some p:=by simp only [ρ0,if_pos];exact hp
 have hz:∀i q,ρ0 i=some q→i=0∧q=p:=by
  intro i q h
  simp only [ρ0] at h
  split at h
  · rw [hp] at h;cases h;exact ⟨by assumption,rfl⟩
  · cases h
 have hone:∀i (row:Row),([.obj s]:List Row)[i]? =some row→i=0∧row=.obj s:=by
  intro i row hi
  match i,hi with
  |0,hi=>simp at hi;exact ⟨rfl,hi.symm⟩
  |i+1,hi=>simp at hi
 have hnl:∀i, ¬ bq (fun i=>([.obj s]:List Row)[i]?) i:=by
  rintro i ⟨row,h1,h2⟩
  obtain ⟨_,rfl⟩:=hone i row h1
  simp [Row.live] at h2
 have hW0:rP ρ0 (fun i=>([.obj s]:List Row)[i]?) w:=by
  refine ⟨fun i q h=>?_,fun i row hi=>?_,fun i j _ _ hi=>absurd hi (hnl i),fun i hi=>?_,⟨fun i t hi=>?_,fun i t q _ _ x _ j _ hj=>absurd hj (hnl j),fun i j t u _ _ hi hj hij=>?_⟩⟩
  · obtain ⟨_,rfl⟩:=hz i q h;exact hW.good g q hp
  · obtain ⟨_,rfl⟩:=hone i row hi;trivial
  · simp only [ρ0]
    rw [if_neg (fun h=>by subst h;simp at hi)]
  · obtain ⟨rfl,he⟩:=hone i _ hi
    cases he
    exact ⟨p,h00,hb0,hmi,his⟩
  · obtain ⟨rfl,_⟩:=hone i _ hi
    obtain ⟨rfl,_⟩:=hone j _ hj
    exact absurd rfl hij
 have hargs0:au ρ0 (.ptr 0 0 0 0::ds) vargs:=by
  match vargs,hargs with
  |v0::vs,hargs=>
   rw [aa] at hargs ⊢
   refine ⟨?_,au.only _ _ (fun i hi=>by rw [hds] at hi;cases hi) hargs.2⟩
   have:=hargs.1
   simp only [aE] at this ⊢
   obtain ⟨q,hq,hv⟩:=this
   rw [hp] at hq;cases hq
   exact ⟨p,h00,hv⟩
  |[],hargs=>simp [au] at hargs
 refine (hc ρ0 vargs w hargs0 hW0).mono ?_
 rintro en w' ⟨u,ρ1,rfl,hu,hW1,hp1⟩
 have h10:=hp1.le 0 p h00
 obtain ⟨p1,hp1',_,_,his'⟩:=hW1.obj.is 0 s' h0
 rw [h10] at hp1';cases hp1'
 have hmay:∀b,CS ρ0 (fun i=>([.obj s]:List Row)[i]?) w b→c6 w p.b b:=by
  rintro b (⟨i,q,hl,_⟩|⟨i,t,q,hi,hq,hx⟩)
  · exact absurd hl (hnl i)
  · obtain ⟨_,rfl⟩:=hz i q hq;exact hx
 obtain ⟨g1,g2⟩:=ky (n:=n) (nw:=[]) (ρn:=fun _=>none) hW hm1 hp (hp1.frm.weaken fun b _ hb=>hmay b hb) his' (fun x hx=>(hp1.foot 0 s' p h0 h10 x hx).symm.imp (hmay x) id) hfree (by simp) (by simp) (fun _ _ h=>by cases h) (fun _ _ _ _ _ h=>by cases h)
 exact ⟨u,_,rfl,aE.only _ _ (fun i hi=>by rw [hv] at hi;cases hi) hu,g1,g2⟩
noncomputable def Zj:bS:=xS [] [] [VJ,zC,BI,Bm,GP]
theorem W5:bV Tryz.prog Zj:=pI (by kernel_rfl)
theorem I9 (s:WS) (o:gQ):bO Zj (fun _ _=>none) 300 8 Tryz.f8 (fun v rows=>some (v,rows.take 1)) [.ptr 0 0 0 0,.agg o.sv] [.obj s]=
 bif o.kind==0 then
 bif o.kind==0 then
 bif DH s then some (SV.agg [.int .i64 0,.int .i64 (og s o.player o.cmd s.ps).fst],[Row.obj (doS s o.player (Cm.mk o.cmd.seq o.cmd.buttons o.cmd.dx o.cmd.dy o.cmd.ticks))])
 else none
 else
 bif o.kind==2 then
 bif o.kind==2 then
 bif kc s o.player o.shot o.dir o.ahead then
 some
 (SV.agg [.int .i64 (eu s o.player o.shot o.dir o.ahead).snd.fst,.int .i64 (eu s o.player o.shot o.dir o.ahead).snd.snd],
 [Row.obj (eu s o.player o.shot (V3.mk o.dir.x o.dir.y o.dir.z) o.ahead).fst])
 else none
 else
 bif o.kind==4 then
 bif o.kind==4 then bif dQ s then some (SV.agg [.int .i64 0,.int .i64 0],[Row.obj (cL s)]) else none
 else
 bif o.kind==7 then
 bif zO s then some (SV.agg [.int .i64 (bif bI s then 0 else IntKind.i64.wrap (s.given+1)),.int .i64 (bif bI s then 5 else 0)],[Row.obj (eh s)]) else none
 else
 bif o.kind==8 then some (SV.agg [.int .i64 0,.int .i64 (bif de o.player s.ps then 0 else 6)],[Row.obj (dF s o.player)])
 else some (SV.agg [.int .i64 0,.int .i64 0],[Row.obj s])
 else
 bif o.kind==5 then
 bif o.kind==5 then bif dQ s then some (SV.agg [.int .i64 0,.int .i64 0],[Row.obj (cL s)]) else none
 else
 bif o.kind==7 then
 bif zO s then some (SV.agg [.int .i64 (bif bI s then 0 else IntKind.i64.wrap (s.given+1)),.int .i64 (bif bI s then 5 else 0)],[Row.obj (eh s)])
 else none
 else
 bif o.kind==8 then some (SV.agg [.int .i64 0,.int .i64 (bif de o.player s.ps then 0 else 6)],[Row.obj (dF s o.player)])
 else some (SV.agg [.int .i64 0,.int .i64 0],[Row.obj s])
 else
 bif o.kind==6 then bif dQ s then some (SV.agg [.int .i64 0,.int .i64 0],[Row.obj (cL s)]) else none
 else
 bif o.kind==7 then
 bif zO s then some (SV.agg [.int .i64 (bif bI s then 0 else IntKind.i64.wrap (s.given+1)),.int .i64 (bif bI s then 5 else 0)],[Row.obj (eh s)])
 else none
 else
 bif o.kind==8 then some (SV.agg [.int .i64 0,.int .i64 (bif de o.player s.ps then 0 else 6)],[Row.obj (dF s o.player)])
 else some (SV.agg [.int .i64 0,.int .i64 0],[Row.obj s])
 else
 bif o.kind==3 then
 bif kc s o.player o.shot o.dir o.ahead then
 some
 (SV.agg [.int .i64 (eu s o.player o.shot o.dir o.ahead).snd.fst,.int .i64 (eu s o.player o.shot o.dir o.ahead).snd.snd],
 [Row.obj (eu s o.player o.shot (V3.mk o.dir.x o.dir.y o.dir.z) o.ahead).fst])
 else none
 else
 bif o.kind==4 then
 bif o.kind==4 then bif dQ s then some (SV.agg [.int .i64 0,.int .i64 0],[Row.obj (cL s)]) else none
 else
 bif o.kind==7 then
 bif zO s then some (SV.agg [.int .i64 (bif bI s then 0 else IntKind.i64.wrap (s.given+1)),.int .i64 (bif bI s then 5 else 0)],[Row.obj (eh s)]) else none
 else
 bif o.kind==8 then some (SV.agg [.int .i64 0,.int .i64 (bif de o.player s.ps then 0 else 6)],[Row.obj (dF s o.player)])
 else some (SV.agg [.int .i64 0,.int .i64 0],[Row.obj s])
 else
 bif o.kind==5 then
 bif o.kind==5 then bif dQ s then some (SV.agg [.int .i64 0,.int .i64 0],[Row.obj (cL s)]) else none
 else
 bif o.kind==7 then
 bif zO s then some (SV.agg [.int .i64 (bif bI s then 0 else IntKind.i64.wrap (s.given+1)),.int .i64 (bif bI s then 5 else 0)],[Row.obj (eh s)])
 else none
 else
 bif o.kind==8 then some (SV.agg [.int .i64 0,.int .i64 (bif de o.player s.ps then 0 else 6)],[Row.obj (dF s o.player)])
 else some (SV.agg [.int .i64 0,.int .i64 0],[Row.obj s])
 else
 bif o.kind==6 then bif dQ s then some (SV.agg [.int .i64 0,.int .i64 0],[Row.obj (cL s)]) else none
 else
 bif o.kind==7 then
 bif zO s then some (SV.agg [.int .i64 (bif bI s then 0 else IntKind.i64.wrap (s.given+1)),.int .i64 (bif bI s then 5 else 0)],[Row.obj (eh s)])
 else none
 else
 bif o.kind==8 then some (SV.agg [.int .i64 0,.int .i64 (bif de o.player s.ps then 0 else 6)],[Row.obj (dF s o.player)])
 else some (SV.agg [.int .i64 0,.int .i64 0],[Row.obj s])
 else
 bif o.kind==1 then
 bif DH s then some (SV.agg [.int .i64 0,.int .i64 (og s o.player o.cmd s.ps).fst],[Row.obj (doS s o.player (Cm.mk o.cmd.seq o.cmd.buttons o.cmd.dx o.cmd.dy o.cmd.ticks))])
 else none
 else
 bif o.kind==2 then
 bif o.kind==2 then
 bif kc s o.player o.shot o.dir o.ahead then
 some
 (SV.agg [.int .i64 (eu s o.player o.shot o.dir o.ahead).snd.fst,.int .i64 (eu s o.player o.shot o.dir o.ahead).snd.snd],
 [Row.obj (eu s o.player o.shot (V3.mk o.dir.x o.dir.y o.dir.z) o.ahead).fst])
 else none
 else
 bif o.kind==4 then
 bif o.kind==4 then bif dQ s then some (SV.agg [.int .i64 0,.int .i64 0],[Row.obj (cL s)]) else none
 else
 bif o.kind==7 then
 bif zO s then some (SV.agg [.int .i64 (bif bI s then 0 else IntKind.i64.wrap (s.given+1)),.int .i64 (bif bI s then 5 else 0)],[Row.obj (eh s)]) else none
 else
 bif o.kind==8 then some (SV.agg [.int .i64 0,.int .i64 (bif de o.player s.ps then 0 else 6)],[Row.obj (dF s o.player)])
 else some (SV.agg [.int .i64 0,.int .i64 0],[Row.obj s])
 else
 bif o.kind==5 then
 bif o.kind==5 then bif dQ s then some (SV.agg [.int .i64 0,.int .i64 0],[Row.obj (cL s)]) else none
 else
 bif o.kind==7 then
 bif zO s then some (SV.agg [.int .i64 (bif bI s then 0 else IntKind.i64.wrap (s.given+1)),.int .i64 (bif bI s then 5 else 0)],[Row.obj (eh s)])
 else none
 else
 bif o.kind==8 then some (SV.agg [.int .i64 0,.int .i64 (bif de o.player s.ps then 0 else 6)],[Row.obj (dF s o.player)])
 else some (SV.agg [.int .i64 0,.int .i64 0],[Row.obj s])
 else
 bif o.kind==6 then bif dQ s then some (SV.agg [.int .i64 0,.int .i64 0],[Row.obj (cL s)]) else none
 else
 bif o.kind==7 then
 bif zO s then some (SV.agg [.int .i64 (bif bI s then 0 else IntKind.i64.wrap (s.given+1)),.int .i64 (bif bI s then 5 else 0)],[Row.obj (eh s)])
 else none
 else
 bif o.kind==8 then some (SV.agg [.int .i64 0,.int .i64 (bif de o.player s.ps then 0 else 6)],[Row.obj (dF s o.player)])
 else some (SV.agg [.int .i64 0,.int .i64 0],[Row.obj s])
 else
 bif o.kind==3 then
 bif kc s o.player o.shot o.dir o.ahead then
 some
 (SV.agg [.int .i64 (eu s o.player o.shot o.dir o.ahead).snd.fst,.int .i64 (eu s o.player o.shot o.dir o.ahead).snd.snd],
 [Row.obj (eu s o.player o.shot (V3.mk o.dir.x o.dir.y o.dir.z) o.ahead).fst])
 else none
 else
 bif o.kind==4 then
 bif o.kind==4 then bif dQ s then some (SV.agg [.int .i64 0,.int .i64 0],[Row.obj (cL s)]) else none
 else
 bif o.kind==7 then
 bif zO s then some (SV.agg [.int .i64 (bif bI s then 0 else IntKind.i64.wrap (s.given+1)),.int .i64 (bif bI s then 5 else 0)],[Row.obj (eh s)]) else none
 else
 bif o.kind==8 then some (SV.agg [.int .i64 0,.int .i64 (bif de o.player s.ps then 0 else 6)],[Row.obj (dF s o.player)])
 else some (SV.agg [.int .i64 0,.int .i64 0],[Row.obj s])
 else
 bif o.kind==5 then
 bif o.kind==5 then bif dQ s then some (SV.agg [.int .i64 0,.int .i64 0],[Row.obj (cL s)]) else none
 else
 bif o.kind==7 then
 bif zO s then some (SV.agg [.int .i64 (bif bI s then 0 else IntKind.i64.wrap (s.given+1)),.int .i64 (bif bI s then 5 else 0)],[Row.obj (eh s)])
 else none
 else
 bif o.kind==8 then some (SV.agg [.int .i64 0,.int .i64 (bif de o.player s.ps then 0 else 6)],[Row.obj (dF s o.player)])
 else some (SV.agg [.int .i64 0,.int .i64 0],[Row.obj s])
 else
 bif o.kind==6 then bif dQ s then some (SV.agg [.int .i64 0,.int .i64 0],[Row.obj (cL s)]) else none
 else
 bif o.kind==7 then
 bif zO s then some (SV.agg [.int .i64 (bif bI s then 0 else IntKind.i64.wrap (s.given+1)),.int .i64 (bif bI s then 5 else 0)],[Row.obj (eh s)])
 else none
 else
 bif o.kind==8 then some (SV.agg [.int .i64 0,.int .i64 (bif de o.player s.ps then 0 else 6)],[Row.obj (dF s o.player)])
 else some (SV.agg [.int .i64 0,.int .i64 0],[Row.obj s]):=by kernel_rfl
noncomputable def Gu (s:WS) (o:gQ):WS×Int×Int:=
 bif o.kind==0||o.kind==1 then (doS s o.player o.cmd,0,(og s o.player o.cmd s.ps).1) else
 bif o.kind==2||o.kind==3 then eu s o.player o.shot o.dir o.ahead else
 bif o.kind==4||(o.kind==5||o.kind==6) then (cL s,0,0) else
 bif o.kind==7 then (eh s,(bif bI s then 0 else IntKind.i64.wrap (s.given+1)),bif bI s then 5 else 0) else
 bif o.kind==8 then (dF s o.player,0,bif de o.player s.ps then 0 else 6) else (s,0,0)
noncomputable def Jb (s:WS) (o:gQ):Bool:=
 bif o.kind==0||o.kind==1 then DH s else
 bif o.kind==2||o.kind==3 then kc s o.player o.shot o.dir o.ahead else
 bif o.kind==4||(o.kind==5||o.kind==6) then dQ s else
 bif o.kind==7 then zO s else true
theorem Kw {s:WS} {o:gQ} (h:Jb s o=true):bO Zj (fun _ _=>none) 300 8 Tryz.f8 (fun v rows=>some (v,rows.take 1)) [.ptr 0 0 0 0,.agg o.sv] [.obj s]=
    some (.agg [.int .i64 (Gu s o).2.1,.int .i64 (Gu s o).2.2],[.obj (Gu s o).1]):=by
 rw [I9]
 unfold Jb at h
 unfold Gu
 cases h0:o.kind==0 with
 |true=>rw [h0] at h;simp only [Bool.true_or,cond_true] at h ⊢;rw [h];rfl
 |false=>
 cases h1:o.kind==1 with
 |true=>rw [h0,h1] at h;simp only [Bool.or_true,cond_true,cond_false] at h ⊢;rw [h];rfl
 |false=>
 cases h2:o.kind==2 with
 |true=>rw [h0,h1,h2] at h;simp only [Bool.true_or,Bool.or_self,cond_true,cond_false] at h ⊢;rw [h];rfl
 |false=>
 cases h3:o.kind==3 with
 |true=>rw [h0,h1,h2,h3] at h;simp only [Bool.or_true,Bool.or_self,cond_true,cond_false] at h ⊢;rw [h];rfl
 |false=>
 cases h4:o.kind==4 with
 |true=>rw [h0,h1,h2,h3,h4] at h;simp only [Bool.true_or,Bool.or_self,cond_true,cond_false] at h ⊢;rw [h];rfl
 |false=>
 cases h5:o.kind==5 with
 |true=>rw [h0,h1,h2,h3,h4,h5] at h;simp only [Bool.true_or,Bool.or_true,Bool.false_or,Bool.or_self,cond_true,cond_false] at h ⊢;rw [h];rfl
 |false=>
 cases h6:o.kind==6 with
 |true=>rw [h0,h1,h2,h3,h4,h5,h6] at h;simp only [Bool.or_true,Bool.or_self,cond_true,cond_false] at h ⊢;rw [h];rfl
 |false=>
 cases h7:o.kind==7 with
 |true=>rw [h0,h1,h2,h3,h4,h5,h6,h7] at h;simp only [Bool.or_self,cond_true,cond_false] at h ⊢;rw [h];rfl
 |false=>
 cases h8:o.kind==8 with
 |true=>simp only [Bool.or_self,cond_true,cond_false]
 |false=>simp only [Bool.or_self,cond_false]
def Qw:List SV→Option gQ
 |[.int .i64 k,.int .i64 p,.int .u16 a,.int .u8 b,.int .i8 c,.int .i8 d,.int .i64 e,.int .i64 sh,.int .i64 ah,.int .i64 x,.int .i64 y,.int .i64 z]=>some ⟨k,p,⟨a,b,c,d,e⟩,sh,ah,⟨x,y,z⟩⟩
 |_=>none
theorem Ff {l:List SV} {o:gQ} (h:Qw l=some o):l=o.sv:=by
 unfold Qw at h
 split at h
 · cases h;rfl
 · cases h
noncomputable def KI (args:List SV) (rows:List Row):Option aL:=match args with
 |[.ptr g 0 0 0,.agg cs]=>match rows[g]?,Qw cs with
  |some (.obj s),some o=>some {ok:=Jb s o,val:=.agg [.int .i64 (Gu s o).2.1,.int .i64 (Gu s o).2.2],rd:=[g],wr:=[(g,.obj (Gu s o).1)]}
  |_,_=>none
 |_=>none
theorem L3 {args:List SV} {rows:List Row} {e:aL} (h:KI args rows=some e) (hok:e.ok=true):dp Tryz.prog 8 args (rows[·]?) rows.length e:=by
 unfold KI at h
 split at h
 · rename_i g cs
   split at h
   · rename_i s o hs ho
     cases h
     rw [Ff ho]
     obtain ⟨v,rows',hk,hc⟩:=mq W5 ag Tryz.func8 (Kw hok)
     simp only [Option.some.injEq,Prod.mk.injEq] at hk
     obtain ⟨rfl,hk⟩:=hk
     refine HF (ds:=[.agg o.sv]) rfl hc ?_ rfl hs
     have :(rows'.take 1)[0]? =some (.obj (Gu s o).1):=by rw [hk];rfl
     rw [List.getElem?_take] at this
     simpa using this
   · cases h
 · cases h
noncomputable def Q8:mL:=⟨8,KI,fun _ _ _ h hok=>L3 h hok,aq Tryz.func8 (by kernel_rfl)⟩
def RS.same (r q:RS):Prop:=r.w=q.w∧r.d=q.d∧r.h=q.h∧r.len=q.len∧r.ls=q.ls∧r.xs=q.xs∧r.sp=q.sp
theorem RS.same.rfl' (r:RS):r.same r:=⟨rfl,rfl,rfl,rfl,rfl,rfl,rfl⟩
theorem RS.same.trans {a b c:RS} (h:a.same b) (k:b.same c):a.same c:=⟨h.1.trans k.1,h.2.1.trans k.2.1,h.2.2.1.trans k.2.2.1,h.2.2.2.1.trans k.2.2.2.1,h.2.2.2.2.1.trans k.2.2.2.2.1,h.2.2.2.2.2.1.trans k.2.2.2.2.2.1,h.2.2.2.2.2.2.trans k.2.2.2.2.2.2⟩
theorem RS.same.rowsX {r q:RS} (h:r.same q) (v:Vr):r.rowsX q v=r.rows v:=by
 unfold RS.rowsX RS.rows
 rw [h.2.2.2.2.2.1,h.2.2.2.2.2.2]
theorem rH:∀(ts left:List Sh) (r:RS),(bv r left ts).1.same r
 |[],_,r=>.rfl' r
 |t::ts,left,r=>by
  rw [bv]
  exact (rH ts _ _).trans ⟨rfl,rfl,rfl,rfl,rfl,rfl,rfl⟩
theorem rU:∀(k:Nat) (n:Int) (r:RS) (t:Sh),(fliesN k n r t).1.same r
 |0,_,r,_=>.rfl' r
 |k+1,n,r,t=>by
  rw [fliesN]
  cases (bM r t).2.2 with
  |true=>exact (rU k _ _ _).trans ⟨rfl,rfl,rfl,rfl,rfl,rfl,rfl⟩
  |false=>exact ⟨rfl,rfl,rfl,rfl,rfl,rfl,rfl⟩
theorem vG (r:RS) (v:Vr):(ff r v).1.same r:=by
 cases v with
 |n=>exact ⟨rfl,rfl,rfl,rfl,rfl,rfl,rfl⟩
 |s=>exact ⟨rfl,rfl,rfl,rfl,rfl,rfl,rfl⟩
 |f=>
  unfold ff
  have h:=rH r.nowR.shs [] r.nowR
  simp only
  cases (bv r.nowR [] r.nowR.shs).2.isEmpty with
  |true=>exact h
  |false=>exact h
theorem vb (r:RS) (v:Vr) (id kind a:Int) (d:V3):(dB r v id kind a d).1.same r:=by
 unfold dB
 cases decide (aI id r.ps 0<0) with
 |true=>exact .rfl' r
 | false=>
  rw [cond_false]
  unfold sP
  cases iU kind d !=0 with
  |true=>exact .rfl' r
  |false=>
  cases (c9 (r.ps.getD (0+(aI id r.ps 0).toNat) aA.pl.dflt) kind).2 !=0 with
  |true=>exact .rfl' r
  |false=>
  cases jA r v with
  |true=>exact .rfl' r
  | false=>
   simp only [cond_false]
   unfold pQ
   generalize r.shot id kind (r.ps.getD (0+(aI id r.ps 0).toNat) aA.pl.dflt) d=t
   have h:=rU (cg a) 0 (r.shoots kind (aI id r.ps 0) (r.ps.getD (0+(aI id r.ps 0).toNat) aA.pl.dflt)) t
   cases (fliesN (cg a) 0 (r.shoots kind (aI id r.ps 0) (r.ps.getD (0+(aI id r.ps 0).toNat) aA.pl.dflt)) t).2.2.1 with
   |true=>
    simp only [cond_true]
    cases v<;>exact h
   |false=>exact h
theorem uK (r:RS) (v:Vr):(cX r v).1.same r:=by
 cases v with
 |n=>exact ⟨rfl,rfl,rfl,rfl,rfl,rfl,rfl⟩
 |s=>unfold cX;simp only;cases decide ((r.np:Int)≥8)<;>exact ⟨rfl,rfl,rfl,rfl,rfl,rfl,rfl⟩
 |f=>unfold cX;simp only;cases decide ((r.np:Int)≥8)<;>exact ⟨rfl,rfl,rfl,rfl,rfl,rfl,rfl⟩
theorem tp (r:RS) (i:Int):(ek r i).1.same r:=by
 unfold ek
 cases decide (i<0)<;>exact ⟨rfl,rfl,rfl,rfl,rfl,rfl,rfl⟩
theorem FI (r:RS) (c:Cm) (i:Int) (p:Pl):(AX r c i p).1.same r:=by
 unfold AX
 cases decide (i<0)<;>cases Db c<;>cases decide (c.ticks>r.lf.getD (0+i.toNat) 0)<;>exact ⟨rfl,rfl,rfl,rfl,rfl,rfl,rfl⟩
def JP {α:Type} (k:Int) (A B C D E F:α):α:=bif k==0||k==1 then A else bif k==2||k==3 then B else bif k==4||(k==5||k==6) then C else bif k==7 then D else bif k==8 then E else F
theorem X7 {α:Type} (k:Int) (A B C D E F:α):ZG k A B C D E F=JP k A B C D E F:=by
 unfold ZG JP
 generalize (k==0)=k0
 generalize (k==1)=k1
 generalize (k==2)=k2
 generalize (k==3)=k3
 generalize (k==4)=k4
 generalize (k==5)=k5
 generalize (k==6)=k6
 cases k0<;>cases k1<;>cases k2<;>cases k3<;>cases k4<;>cases k5<;>cases k6<;>rfl
theorem QE {α β:Type} (k:Int) (A B C D E F:α→β) (x:α):JP k A B C D E F x=JP k (A x) (B x) (C x) (D x) (E x) (F x):=by
 unfold JP
 cases k==0||k==1<;>cases k==2||k==3<;>cases k==4||(k==5||k==6)<;>cases k==7<;>cases k==8<;>rfl
theorem rq {α β γ:Type} {Q:α→β→γ→Prop} (k:Int) {a b c d e f:α} {a' b' c' d' e' f':β} {a1 b1 c1 d1 e1 f1:γ} (hA:Q a a' a1) (hB:Q b b' b1) (hC:Q c c' c1) (hD:Q d d' d1) (hE:Q e e' e1) (hF:Q f f' f1):
    Q (JP k a b c d e f) (JP k a' b' c' d' e' f') (JP k a1 b1 c1 d1 e1 f1):=by
 unfold JP
 cases k==0||k==1 with
 |true=>exact hA
 |false=>
 cases k==2||k==3 with
 |true=>exact hB
 |false=>
 cases k==4||(k==5||k==6) with
 |true=>exact hC
 |false=>
 cases k==7 with
 |true=>exact hD
 |false=>
 cases k==8 with
 |true=>exact hE
 |false=>exact hF
noncomputable def oC (r:RS) (v:Vr) (o:gQ):RS×Vr×Int×Int:=
 JP o.kind ((AX r o.cmd (aI o.player r.ps 0) (r.ps.getD (0+(aI o.player r.ps 0).toNat) aA.pl.dflt)).1,v,0,(AX r o.cmd (aI o.player r.ps 0) (r.ps.getD (0+(aI o.player r.ps 0).toNat) aA.pl.dflt)).2)
  (dB r v o.player o.shot o.ahead o.dir) ((ff r v).1,(ff r v).2,0,0) ((cX r v).1,v.join,(cX r v).2.2.1,(cX r v).2.2.2) ((ek r (aI o.player r.ps 0)).1,v,0,(ek r (aI o.player r.ps 0)).2) (r,v,0,0)
noncomputable def B8 (r:RS) (v:Vr) (o:gQ):Bool:=
 JP o.kind (qh r o.cmd (aI o.player r.ps 0) (r.ps.getD (0+(aI o.player r.ps 0).toNat) aA.pl.dflt)) (j7 r v o.player o.shot o.ahead o.dir) (gx r v) (fK r v) (iV r (aI o.player r.ps 0)) true
theorem Vr.eqB_refl (v:Vr):v.eqB v=true:=by cases v<;>rfl
def Yq (ok:Bool) (z:RS×Vr×Int×Int) (rt:Vr→Option aj):Prop:=ok=true→rt z.2.1=some (.agg [.int .i64 z.2.2.1,.int .i64 z.2.2.2],z.1.rows z.2.1)
theorem QT {r:RS} {v w:Vr} {o:gQ} (h:B8 r v o=true) (hw:(oC r v o).2.1=w):wJ r v w o=some (.agg [.int .i64 (oC r v o).2.2.1,.int .i64 (oC r v o).2.2.2],(oC r v o).1.rows w):=by
 subst hw
 unfold wJ
 rw [X7]
 rw [←QE o.kind (fun _=>_) (fun w=>bif j7 r v o.player o.shot o.ahead o.dir&&(dB r v o.player o.shot o.ahead o.dir).2.1.eqB w then some (SV.agg [.int .i64 (dB r v o.player o.shot o.ahead o.dir).2.2.1,.int .i64 (dB r v o.player o.shot o.ahead o.dir).2.2.2],(dB r v o.player o.shot o.ahead o.dir).1.rowsX r w) else none)
  (fun w=>bif gx r v&&(ff r v).2.eqB w then some (SV.agg [.int .i64 0,.int .i64 0],(ff r v).1.rowsX r w) else none) (fun _=>_) (fun _=>_) (fun _=>_) ((oC r v o).2.1)]
 refine rq (Q:=Yq) o.kind (a:=qh r o.cmd (aI o.player r.ps 0) (r.ps.getD (0+(aI o.player r.ps 0).toNat) aA.pl.dflt)) ?_ ?_ ?_ ?_ ?_ ?_ h
 · intro h;simp only;rw [h,cond_true,(FI _ _ _ _).rowsX]
 · intro h;simp only;rw [h,Vr.eqB_refl,Bool.and_self,cond_true,(vb _ _ _ _ _ _).rowsX]
 · intro h;simp only;rw [h,Vr.eqB_refl,Bool.and_self,cond_true,(vG _ _).rowsX]
 · intro h;simp only;rw [h,cond_true,(uK _ _).rowsX]
 · intro h;simp only;rw [h,cond_true,(tp _ _).rowsX]
 · intro _;rfl
noncomputable def Cq (w:Vr) (args:List SV) (rows:List Row):Option aL:=match args with
 |[.ptr g 0 0 0,.agg cs]=>match cW rows g,Qw cs with
  |some (r,v,σ),some o=>some (ji σ rows.length ((B8 r v o&&goes v w)&&(oC r v o).2.1.eqB w) (.agg [.int .i64 (oC r v o).2.2.1,.int .i64 (oC r v o).2.2.2]) (oC r v o).1 w)
  |_,_=>none
 |_=>none
theorem HP {w:Vr} {args:List SV} {rows:List Row} {e:aL} (h:Cq w args rows=some e) (hok:e.ok=true):aN Tryz.prog 9 args (rows[·]?) rows.length e:=by
 unfold Cq at h
 split at h
 · rename_i g cs
   split at h
   · rename_i r v σ o hr ho
     cases h
     rw [Ff ho]
     have hw:=hok
     unfold ji at hw
     simp only [Bool.and_eq_true] at hw
     obtain ⟨_,⟨h1,h2⟩,h3⟩:=hw
     have h3:=Vr.eqB_eq h3
     have hn:=(im hr).eq
     have key:=QT h1 h3
     refine rM (X:=x8 w) (L:=fun _ _=>none) (Ri w) ag Tryz.func9 (ds:=[.agg o.sv]) (v:=v) (v':=(oC r v o).2.1) (fun _=>?_) rfl rfl hr hok
     have t:=Qy r o v w h2
     rw [hn] at t
     rw [h3,t,key]
   · cases h
 · cases h
noncomputable def K3 (w:Vr):bY:=⟨9,Cq w,fun _ _ _ h hok=>HP h hok,aq Tryz.func9 (by kernel_rfl)⟩
structure WS.Inv (k:Nat) (s:WS):Prop where
 map:aP s.w s.d s.h s.cells.length=true
 sp:1≤s.spawns.length∧s.spawns.length≤64
 spf:∀a∈s.spawns,a.fits
 few:s.ps.length≤8
 shots:s.shots.length≤64
 given:0≤s.given∧s.given≤k
 fired:0≤s.fired∧s.fired≤k
 ps:∀p∈s.ps,1≤p.p.id∧p.p.id≤s.given∧p.p.pos.fits
 sh:∀t∈s.shots,t.pos.fits
theorem pO (p:Pl) (n:Int):(jb p n).id=p.id∧(jb p n).pos=p.pos:=by
 unfold jb
 cases decide (p.dead>0)||decide (n<1)
 · cases decide (o1 p n≤0)<;>exact ⟨rfl,rfl⟩
 · exact ⟨rfl,rfl⟩
theorem oL (o s:Int) (q:Pl):(cG o s q).id=q.id∧(cG o s q).pos=q.pos:=by
 unfold cG
 cases q.id==o<;>exact ⟨rfl,rfl⟩
theorem E8 {F:Pl→Pl} {o:Int} {ps:List Pl} {i:Nat} {p:Pl} (h:ps[i]? =some p):(bZ F o ps)[i]? =some (cG o (jC F o ps 0) (F p)):=by
 unfold bZ
 rw [List.getElem?_map,List.getElem?_map,h]
 rfl
theorem Aw {B:List Pl}:∀{ps:List PL} {k i:Nat} {q:PL},(pw B k ps)[i]? =some q→∃p,ps[i]? =some p∧q=⟨B.getD (k+i) aA.pl.dflt,p.left⟩
 |[],_,_,_,h=>by simp [pw] at h
 |p::ps,k,0,q,h=>by
  simp [pw] at h
  exact ⟨p,by simp,h.symm⟩
 |p::ps,k,i+1,q,h=>by
  rw [pw,List.getElem?_cons_succ] at h
  obtain ⟨p',h1,h2⟩:=Aw h
  exact ⟨p',by simpa using h1,by rw [h2,show k+1+i=k+(i+1) by omega]⟩
theorem Ek {s:WS} {t:Sh} {q:PL} (h:q∈(kE s t).ps):∃p∈s.ps,∃sc,q=⟨cG t.owner sc (s.mp.brQ t.pos p.p),p.left⟩:=by
 obtain ⟨i,hi⟩:=List.getElem?_of_mem h
 obtain ⟨p,hp,rfl⟩:=Aw hi
 refine ⟨p,List.mem_of_getElem? hp,jC (s.mp.brQ t.pos) t.owner (s.ps.map PL.p) 0,?_⟩
 have h1:(s.ps.map PL.p)[i]? =some p.p:=by rw [List.getElem?_map,hp];rfl
 have h2:=E8 (F:=s.mp.brQ t.pos) (o:=t.owner) h1
 unfold kB
 simp only [Nat.zero_add,List.getD,h2]
 rfl
theorem Dq {s:WS} {t:Sh} {q:PL} (h:q∈(kE s t).ps):∃p∈s.ps,q.p.id=p.p.id∧q.p.pos=p.p.pos∧q.left=p.left:=by
 obtain ⟨p,hp,sc,rfl⟩:=Ek h
 refine ⟨p,hp,?_,?_,rfl⟩
 · show (cG t.owner sc (s.mp.brQ t.pos p.p)).id=_
   rw [(oL _ _ _).1]
   exact (pO _ _).1
 · show (cG t.owner sc (s.mp.brQ t.pos p.p)).pos=_
   rw [(oL _ _ _).2]
   exact (pO _ _).2
structure WS.Fl (s:WS):Prop where
 map:aP s.w s.d s.h s.cells.length=true
 few:s.ps.length≤8
 ps:∀p∈s.ps,p.p.pos.fits
theorem BF {s:WS} {t:Sh} (h:s.Fl) (ht:t.pos.fits):vt s t=true:=by
 have h1:decide (0+s.cells.length≤s.cells.length)=true:=by simp
 unfold vt
 rw [h.map,aB.2 ht,h1]
 simp only [Bool.and_self,Bool.true_and]
 unfold o9
 split
 · rfl
 · unfold js
   rw [h.map,aB.2 (kD ht),h1]
   simp only [Bool.and_self,Bool.true_and,Bool.and_eq_true,List.all_eq_true,decide_eq_true_eq,List.length_map,List.mem_map]
   refine ⟨?_,trivial,by have:=h.few;omega⟩
   rintro q ⟨p,hp,rfl⟩
   exact aB.2 (h.ps p hp)
theorem dM {s:WS} {t:Sh} (ht:t.pos.fits):(bN s t).2.1.pos.fits∧∀q∈(bN s t).1.ps,∃p∈s.ps,q.p.id=p.p.id∧q.p.pos=p.p.pos∧q.left=p.left:=by
 unfold bN
 cases (bf s.mp.at t).2||mF (bf s.mp.at t).1 s.ps with
 |true=>exact ⟨kD ht,fun q hq=>Dq hq⟩
 |false=>exact ⟨kD ht,fun q hq=>⟨q,hq,rfl,rfl,rfl⟩⟩
theorem nH {s:WS} {t:Sh} (h:s.Fl) (ht:t.pos.fits):(bN s t).1.Fl:=by
 have hs:=jL s t
 refine ⟨by rw [hs];exact h.map,by rw [lc];exact h.few,fun q hq=>?_⟩
 obtain ⟨p,hp,_,h2,_⟩:=(dM ht).2 q hq
 rw [h2]
 exact h.ps p hp
theorem kp:∀(ts:List Sh) (s:WS) (left:List Sh),s.Fl→(∀t∈ts,t.pos.fits)→kF s ts=true∧(aW s left ts).1.Fl∧(∀q∈(aW s left ts).1.ps,∃p∈s.ps,q.p.id=p.p.id∧q.p.pos=p.p.pos∧q.left=p.left)∧
    ((∀t∈left,t.pos.fits)→∀t∈(aW s left ts).2,t.pos.fits)∧(aW s left ts).2.length≤left.length+ts.length
 |[],s,left,h,_=>⟨rfl,h,fun q hq=>⟨q,hq,rfl,rfl,rfl⟩,fun h=>h,by simp [aW]⟩
 | t ::ts,s,left,h,ht=>by
  have h1:=ht t (by simp)
  have hf:=nH h h1
  obtain ⟨g1,g2,g3,g4,g5⟩:=kp ts (bN s t).1 (bif (bN s t).2.2 then left++[(bN s t).2.1] else left) hf (fun t' ht'=>ht t' (by simp [ht']))
  rw [aW,kF,BF h h1,g1]
  refine ⟨rfl,g2,fun q hq=>?_,fun hl=>g4 ?_,?_⟩
  · obtain ⟨p,hp,e1,e2,e3⟩:=g3 q hq
    obtain ⟨p',hp',e1',e2',e3'⟩:=(dM h1).2 p hp
    exact ⟨p',hp',e1.trans e1',e2.trans e2',e3.trans e3'⟩
  · cases (bN s t).2.2 with
    |false=>exact hl
    |true=>
     intro t' ht'
     simp only [cond_true,List.mem_append,List.mem_singleton] at ht'
     rcases ht' with ht' |rfl
     · exact hl t' ht'
     · exact (dM h1).1
  · cases hb:(bN s t).2.2<;>rw [hb] at g5<;>simp at g5 ⊢ <;>omega
theorem oh:∀(k:Nat) (i:Int) (s:WS) (t:Sh),s.Fl→t.pos.fits→gB k s t=true∧(cr k i s t).1.Fl∧(∀q∈(cr k i s t).1.ps,∃p∈s.ps,q.p.id=p.p.id∧q.p.pos=p.p.pos∧q.left=p.left)∧(cr k i s t).2.1.pos.fits
 |0,i,s,t,h,ht=>⟨rfl,h,fun q hq=>⟨q,hq,rfl,rfl,rfl⟩,ht⟩
 | k+1,i,s,t,h,ht=>by
  rw [gB,cr,BF h ht]
  cases hb:(bN s t).2.2 with
  |true=>
   obtain ⟨g1,g2,g3,g4⟩:=oh k (i+1) (bN s t).1 (bN s t).2.1 (nH h ht) (dM ht).1
   refine ⟨by simpa using g1,g2,fun q hq=>?_,g4⟩
   obtain ⟨p,hp,e1,e2,e3⟩:=g3 q hq
   obtain ⟨p',hp',e1',e2',e3'⟩:=(dM ht).2 p hp
   exact ⟨p',hp',e1.trans e1',e2.trans e2',e3.trans e3'⟩
  |false=>exact ⟨rfl,nH h ht,(dM ht).2,(dM ht).1⟩
theorem WS.Inv.more {k:Nat} {s:WS} (h:s.Inv k):s.Inv (k+1):=
 ⟨h.map,h.sp,h.spf,h.few,h.shots,⟨h.given.1,by have:=h.given.2;omega⟩,⟨h.fired.1,by have:=h.fired.2;omega⟩,h.ps,h.sh⟩
theorem lM {s:WS} {id:Int} (hs:1≤s.spawns.length∧s.spawns.length≤64) (h1:1≤id) (h2:id≤1000000):iF s id=true∧s.place id∈s.spawns:=by
 have hw:IntKind.i64.wrap (id - 1)=id - 1:=iJ (by omega) (by omega)
 have hi:gc s id=(id - 1)%(s.spawns.length:Int):=by
  unfold gc
  rw [hw,Int.tmod_eq_emod_of_nonneg (by omega)]
 have h3:0≤gc s id:=by rw [hi];exact Int.emod_nonneg _ (by omega)
 have h4:gc s id<(s.spawns.length:Int):=by rw [hi];exact Int.emod_lt_of_pos _ (by omega)
 have h5:0+(gc s id).toNat<s.spawns.length:=by omega
 refine ⟨?_,?_⟩
 · unfold iF
   simp only [Bool.and_eq_true,decide_eq_true_eq,Bool.not_eq_true',decide_eq_false_iff_not]
   exact ⟨by omega,⟨h3,h4⟩,h5⟩
 · unfold WS.place
   rw [List.getD_eq_getElem?_getD,List.getElem?_eq_getElem h5]
   exact List.getElem_mem _
theorem sA {p q:Pl} (h:fv p q):q.id=p.id:=by
 unfold fv at h
 rw [h]
theorem uF {s:WS} {id:Int} {c:Cm}:∀{ps:List PL} {q:PL},q∈(og s id c ps).2→(∀p∈ps,p.p.pos.fits)→∃p∈ps,q.p.id=p.p.id∧q.p.pos.fits
 |[],_,h,_=>by simp [og] at h
 | p ::ps,q,h,hf=>by
  rw [og] at h
  cases hid:p.p.id==id with
  | false=>
   rw [hid] at h
   simp only [cond_false,List.mem_cons] at h
   rcases h with rfl |h
   · exact ⟨_,by simp,rfl,hf _ (by simp)⟩
   · obtain ⟨p',h1,h2⟩:=uF h (fun p hp=>hf p (by simp [hp]))
     exact ⟨p',by simp [h1],h2⟩
  | true=>
   rw [hid] at h
   have old:q∈p::ps→∃p'∈p::ps,q.p.id=p'.p.id∧q.p.pos.fits:=fun hq=>⟨q,hq,rfl,hf q hq⟩
   cases hb:yy c with
   |true=>rw [hb] at h;exact old h
   | false=>
    rw [hb] at h
    cases hl:decide (c.ticks>p.left) with
    |true=>rw [hl] at h;exact old h
    |false=>
     rw [hl] at h
     simp only [cond_true,cond_false,List.mem_cons] at h
     rcases h with rfl |h
     · exact ⟨p,by simp,sA (rL s.mp c p.p),DU (hf p (by simp))⟩
     · exact old (by simp [h])
theorem WS.Inv.doS {k:Nat} {s:WS} (h:s.Inv k) (id:Int) (c:Cm):DH s=true∧(doS s id c).Inv k:=by
 refine ⟨?_,h.map,h.sp,h.spf,?_,h.shots,h.given,h.fired,fun q hq=>?_,h.sh⟩
 · unfold DH
   rw [h.map,Bool.true_and,List.all_eq_true]
   exact fun p hp=>aB.2 (h.ps p hp).2.2
 · show (og s id c s.ps).2.length≤8
   rw [oe]
   exact h.few
 · obtain ⟨p,hp,h1,h2⟩:=uF (s:=s) (id:=id) (c:=c) hq (fun p hp=>(h.ps p hp).2.2)
   rw [h1]
   exact ⟨(h.ps p hp).1,(h.ps p hp).2.1,h2⟩
theorem WS.Inv.nowS {k:Nat} {s:WS} (h:s.Inv k):(nowS s).Fl:=⟨h.map,h.few,fun p hp=>(h.ps p hp).2.2⟩
theorem WS.Inv.tick {k:Nat} {s:WS} (h:s.Inv k) (hk:k≤1000):dQ s=true∧(cL s).Inv k:=by
 obtain ⟨g1,g2,g3,g4,g5⟩:=kp s.shots (Go.Proofs.YtimkhidniolpeaaGreat.nowS s) [] h.nowS h.sh
 have hlen:=(e7 s.shots (Go.Proofs.YtimkhidniolpeaaGreat.nowS s) []).1
 have hsame:=(e7 s.shots (Go.Proofs.YtimkhidniolpeaaGreat.nowS s) []).2
 have hid:∀q∈(aW (Go.Proofs.YtimkhidniolpeaaGreat.nowS s) [] s.shots).1.ps,1≤q.p.id∧q.p.id≤s.given:=by
  intro q hq
  obtain ⟨p,hp,e1,_,_⟩:=g3 q hq
  rw [e1]
  exact ⟨(h.ps p hp).1,(h.ps p hp).2.1⟩
 have hgk:=h.given.2
 have hpl:∀q∈(aW (Go.Proofs.YtimkhidniolpeaaGreat.nowS s) [] s.shots).1.ps,iF (aW (Go.Proofs.YtimkhidniolpeaaGreat.nowS s) [] s.shots).1 q.p.id=true∧(aW (Go.Proofs.YtimkhidniolpeaaGreat.nowS s) [] s.shots).1.place q.p.id∈s.spawns:=by
  intro q hq
  have:=lM (s:=s) h.sp (hid q hq).1 (by have:=(hid q hq).2;omega)
  rw [hsame]
  exact this
 refine ⟨?_,?_⟩
 · unfold dQ
   rw [g1]
   simp only [Bool.true_and,Bool.and_eq_true,decide_eq_true_eq,List.all_eq_true]
   refine ⟨by have:=h.shots;omega,fun q hq=>?_⟩
   unfold Ee
   rw [(hpl q hq).1,Bool.or_true]
 · have e:cL s={s with now:=IntKind.i64.wrap (s.now+1),ps:=(aW (Go.Proofs.YtimkhidniolpeaaGreat.nowS s) [] s.shots).1.ps.map (cx (aW (Go.Proofs.YtimkhidniolpeaaGreat.nowS s) [] s.shots).1),shots:=(aW (Go.Proofs.YtimkhidniolpeaaGreat.nowS s) [] s.shots).2}:=by
    unfold cL eJ
    rw [hsame]
    rfl
   rw [e]
   refine ⟨h.map,h.sp,h.spf,?_,?_,h.given,h.fired,fun q hq=>?_,?_⟩
   · simp only [List.length_map]
     rw [hlen]
     exact h.few
   · simpa using Nat.le_trans g5 (by simpa using h.shots)
   · simp only [List.mem_map] at hq
     obtain ⟨p,hp,rfl⟩:=hq
     unfold cx
     cases hd:p.p.dead==1 with
     |true=>exact ⟨(hid p hp).1,(hid p hp).2,h.spf _ (hpl p hp).2⟩
     |false=>exact ⟨(hid p hp).1,(hid p hp).2,g2.ps p hp⟩
   · exact g4 (by simp)
theorem WS.Inv.join {k:Nat} {s:WS} (h:s.Inv k) (hk:k≤1000):zO s=true∧(eh s).Inv (k+1):=by
 have hg:=h.given
 have hw:IntKind.i64.wrap (s.given+1)=s.given+1:=iJ (by omega) (by omega)
 have hp:=lM (s:=s) (id:=s.given+1) h.sp (by omega) (by omega)
 unfold zO eh
 cases hf:bI s with
 |true=>exact ⟨rfl,h.more⟩
 | false=>
  rw [hw,hp.1]
  refine ⟨rfl,h.map,h.sp,h.spf,?_,h.shots,?_,⟨h.fired.1,by have:=h.fired.2;show s.fired≤_;omega⟩,fun q hq=>?_,h.sh⟩
  · have h8:=h.few
    have :s.ps.length≠8:=fun e=>by unfold bI at hf;rw [e] at hf;cases hf
    simp only [cond_false,vo,List.length_append,List.length_cons,List.length_nil]
    omega
  · show 0≤IntKind.i64.wrap (s.given+1)∧IntKind.i64.wrap (s.given+1)≤_
    rw [hw]
    omega
  · simp only [cond_false,vo,List.mem_append,List.mem_singleton] at hq ⊢
    rw [hw] at hq ⊢
    rcases hq with hq |rfl
    · have:=h.ps q hq
      exact ⟨this.1,by omega,this.2.2⟩
    · exact ⟨by show 1≤s.given+1;omega,Int.le_refl _,h.spf _ hp.2⟩
theorem WS.Inv.leave {k:Nat} {s:WS} (h:s.Inv k) (id:Int):(dF s id).Inv k:=
 ⟨h.map,h.sp,h.spf,Nat.le_trans (List.length_filter_le ..) h.few,h.shots,h.given,h.fired,fun q hq=>h.ps q (List.mem_filter.1 hq).1,h.sh⟩
theorem kr (p:Pl) (k:Int):(c9 p k).1.id=p.id∧(c9 p k).1.pos=p.pos:=by
 unfold c9 qi
 cases k==0<;>cases decide (p.dead>0)<;>cases decide (p.wait>0)<;>first |(cases decide (p.a0≤0)<;>exact ⟨rfl,rfl⟩)|(cases decide (p.a1≤0)<;>exact ⟨rfl,rfl⟩)
theorem q9 {k:Nat} {s:WS} (h:s.Inv k) (hk:k≤1000) {id kd:Int} {d:V3} {ahead:Int}:∀(ps pre:List PL),s.ps=pre++ps→mg s id kd d ahead pre ps=true∧(jd s id kd d ahead pre ps).1.Inv (k+1)
 |[],pre,_=>⟨rfl,h.more⟩
 | p ::ps,pre,hs=>by
  rw [mg,jd]
  cases hid:p.p.id==id with
  |false=>exact q9 h hk ps (pre++[p]) (by simp [hs])
  | true=>
   simp only [cond_true]
   unfold xO zy
   cases hn:iU kd d !=0 with
   |true=>exact ⟨rfl,h.more⟩
   |false=>
   cases he:(c9 p.p kd).2 !=0 with
   |true=>exact ⟨rfl,h.more⟩
   |false=>
   cases h64:(s.shots.length:Int)==64 with
   |true=>exact ⟨rfl,h.more⟩
   | false=>
    simp only [cond_false]
    have hp:p∈s.ps:=by rw [hs];simp
    have hw:IntKind.i64.wrap (s.fired+1)=s.fired+1:=iJ (by have:=h.fired.1;omega) (by have:=h.fired.2;omega)
    have hmem:∀q∈(cH s pre p ps kd).ps,∃p'∈s.ps,q.p.id=p'.p.id∧q.p.pos=p'.p.pos:=by
     intro q hq
     simp only [cH,List.mem_append,List.mem_cons] at hq
     rcases hq with hq |rfl |hq
     · exact ⟨q,by rw [hs];simp [hq],rfl,rfl⟩
     · exact ⟨p,hp,(kr p.p kd).1,(kr p.p kd).2⟩
     · exact ⟨q,by rw [hs];simp [hq],rfl,rfl⟩
    have hlen:(cH s pre p ps kd).ps.length=s.ps.length:=by rw [hs];simp [cH]
    have hF:(cH s pre p ps kd).Fl:=⟨h.map,by rw [hlen];exact h.few,fun q hq=>by
     obtain ⟨p',h1,_,h2⟩:=hmem q hq
     rw [h2]
     exact (h.ps p' h1).2.2⟩
    have hT:(cZ s p id kd d).pos.fits:=by
     unfold cZ wo
     cases dZ kd d with
     |true=>exact (by unfold V3.fits aU;decide:(⟨0,0,0⟩:V3).fits)
     |false=>exact (h.ps p hp).2.2
    obtain ⟨g1,g2,g3,g4⟩:=oh (kM ahead).toNat 0 (cH s pre p ps kd) (cZ s p id kd d) hF hT
    obtain ⟨l1,l2⟩:=iQ (kM ahead).toNat 0 (cH s pre p ps kd) (cZ s p id kd d)
    refine ⟨g1,?_⟩
    have base:(zF (cH s pre p ps kd) (cZ s p id kd d) (kM ahead)).1.Inv (k+1):=by
     unfold zF
     rw [l2]
     refine ⟨h.map,h.sp,h.spf,?_,h.shots,⟨h.given.1,by have:=h.given.2;show s.given≤_;omega⟩,?_,fun q hq=>?_,h.sh⟩
     · show (cr (kM ahead).toNat 0 (cH s pre p ps kd) (cZ s p id kd d)).1.ps.length≤8
       rw [l1,hlen]
       exact h.few
     · show 0≤IntKind.i64.wrap (s.fired+1)∧IntKind.i64.wrap (s.fired+1)≤_
       rw [hw]
       have:=h.fired
       omega
     · obtain ⟨p1,hp1,e1,e2,_⟩:=g3 q hq
       obtain ⟨p2,hp2,e1',e2'⟩:=hmem p1 hp1
       rw [e1,e1',e2,e2']
       exact h.ps p2 hp2
    unfold tM
    cases hz:(zF (cH s pre p ps kd) (cZ s p id kd d) (kM ahead)).2.2.1 with
    |false=>exact base
    | true=>
     refine ⟨base.map,base.sp,base.spf,base.few,?_,base.given,base.fired,base.ps,fun t ht=>?_⟩
     · have h1:=h.shots
       have h2:s.shots.length≠64:=fun e=>by rw [e] at h64;cases h64
       show (s.shots++[_]).length≤64
       simp only [List.length_append,List.length_cons,List.length_nil]
       omega
     · have ht:t∈s.shots++[(zF (cH s pre p ps kd) (cZ s p id kd d) (kM ahead)).2.1]:=ht
       simp only [List.mem_append,List.mem_singleton] at ht
       rcases ht with ht |rfl
       · exact h.sh t ht
       · exact g4
theorem WS.Inv.fire {k:Nat} {s:WS} (h:s.Inv k) (hk:k≤1000) (id kd:Int) (d:V3) (ahead:Int):kc s id kd d ahead=true∧(eu s id kd d ahead).1.Inv (k+1):=by
 obtain ⟨h1,h2⟩:=q9 h hk (id:=id) (kd:=kd) (d:=d) (ahead:=ahead) s.ps [] rfl
 refine ⟨?_,h2⟩
 unfold kc
 rw [h1,Bool.and_true,decide_eq_true_eq]
 have:=h.shots
 omega
theorem WS.Inv.op {k:Nat} {s:WS} (h:s.Inv k) (hk:k≤1000) (o:gQ):Jb s o=true∧(Gu s o).1.Inv (k+1):=by
 unfold Jb Gu
 cases o.kind==0||o.kind==1 with
 |true=>exact ⟨(h.doS o.player o.cmd).1,(h.doS o.player o.cmd).2.more⟩
 |false=>
 cases o.kind==2||o.kind==3 with
 |true=>exact h.fire hk o.player o.shot o.dir o.ahead
 |false=>
 cases o.kind==4||(o.kind==5||o.kind==6) with
 |true=>exact ⟨(h.tick hk).1,(h.tick hk).2.more⟩
 |false=>
 cases o.kind==7 with
 |true=>exact h.join hk
 |false=>
 cases o.kind==8 with
 |true=>exact ⟨rfl,(h.leave o.player).more⟩
 |false=>exact ⟨rfl,h.more⟩
structure d7 (s:WS) (r:RS):Prop where
 map:r.w=s.w∧r.d=s.d∧r.h=s.h∧r.len=s.cells.length∧r.ls=s.spawns.length∧r.xs=s.cells∧r.sp=s.spawns
 ps:r.ps=s.ps.map PL.p
 lf:r.lf=s.ps.map PL.left
 np:r.np=s.ps.length
 nl:r.nl=s.ps.length
 num:r.now=s.now∧r.given=s.given∧r.fired=s.fired
structure mH (s:WS) (r:RS) (v:Vr):Prop where
 to:d7 s r
 sh:r.shs=s.shots
 nh:r.nh=s.shots.length
 vr:match v with
  |.n=>s.ps=[]∧s.shots=[]
  |.s=>s.shots=[]
  |.f=>s.shots≠[]
def ey (l:List Pl):Prop:=(l.map Pl.id).Nodup∧∀p∈l,aU p.wait∧aU p.dead
section
variable {s:WS} {r:RS}
theorem d7.mp (h:d7 s r):r.mp=s.mp:=by
 obtain ⟨h1,h2,h3,h4,_,h6,_⟩:=h.map
 unfold RS.mp WS.mp
 rw [h1,h2,h3,h4,h6]
theorem d7.len (h:d7 s r):r.ps.length=s.ps.length:=by rw [h.ps,List.length_map]
theorem d7.len2 (h:d7 s r):r.lf.length=s.ps.length:=by rw [h.lf,List.length_map]
theorem d7.okLen (h:d7 s r) (hf:s.ps.length≤8):okLen r=true:=by
 unfold Go.Proofs.YtimkhidniolpeaaGreat.okLen
 rw [h.np,h.len,decide_eq_true rfl,decide_eq_true (by omega)]
 rfl
theorem FM (t:Sh):∀ps:List PL,mF t ps=yj t (ps.map PL.p)
 |[]=>rfl
 |p::ps=>by rw [mF,List.map_cons,yj,FM t ps]
theorem Mb (B:List Pl):∀(ps:List PL) (k:Nat),B.length=k+ps.length→(pw B k ps).map PL.p=B.drop k∧(pw B k ps).map PL.left=ps.map PL.left
 |[],k,h=>by
  rw [List.drop_eq_nil_of_le (by simpa using Nat.le_of_eq h)]
  exact ⟨rfl,rfl⟩
 | p::ps,k,h=>by
  simp only [List.length_cons] at h
  obtain ⟨h1,h2⟩:=Mb B ps (k+1) (by omega)
  have hk:k<B.length:=by omega
  simp only [pw,List.map_cons]
  rw [h1,h2]
  refine ⟨?_,rfl⟩
  have e:B.getD k aA.pl.dflt=B[k]:=by
   simp only [List.getD,List.getElem?_eq_getElem hk]
   rfl
  exact (congrArg (· ::List.drop (k+1) B) e).trans (List.drop_eq_getElem_cons hk).symm
theorem d7.hit (h:d7 s r) (t:Sh):r.hit t=((bf s.mp.at t).2||mF (bf s.mp.at t).1 s.ps):=by
 unfold RS.hit
 rw [h.mp,h.ps,FM]
theorem C8 (t:Sh):(kB s t).length=s.ps.length:=by unfold kB;rw [jr,List.length_map]
theorem d7.burst (h:d7 s r) (t:Sh):d7 (kE s t) (r.burst t):=by
 have hb:=Mb (kB s t) s.ps 0 (by rw [C8];omega)
 have e:(r.burst t).ps=kB s t:=by
  unfold RS.burst kB
  rw [h.mp,h.ps]
 have hl:(pw (kB s t) 0 s.ps).length=s.ps.length:=nD _ _ _
 refine ⟨h.map,?_,?_,?_,?_,h.num⟩
 · rw [e];exact hb.1.symm
 · exact h.lf.trans hb.2.symm
 · show (bZ (r.mp.brQ t.pos) t.owner r.ps).length=(pw (kB s t) 0 s.ps).length
   rw [hl,jr,h.len]
 · exact h.nl.trans hl.symm
theorem d7.fly (h:d7 s r) (hF:s.Fl) {t:Sh} (ht:t.pos.fits):iK r t=true∧d7 (bN s t).1 (bM r t).1∧(bM r t).2=(bN s t).2:=by
 obtain ⟨m1,m2,m3,m4,m5,m6,m7⟩:=h.map
 have hh:=h.hit t
 refine ⟨?_,?_⟩
 · unfold iK
   have e1:r.sok t=true:=by
    unfold RS.sok
    rw [aB.2 ht,m4,m6]
    simp
   have e2:r.bok (bf r.mp.at t).1=true:=by
    unfold RS.bok js
    rw [m1,m2,m3,m4,m6,hF.map,aB.2 (kD ht),h.np,h.ps,List.length_map]
    simp only [Bool.and_self,Bool.true_and,Bool.and_eq_true,List.all_eq_true,decide_eq_true_eq,List.mem_map]
    refine ⟨by omega,?_,trivial,by have:=hF.few;omega⟩
    rintro q ⟨p,hp,rfl⟩
    exact aB.2 (hF.ps p hp)
   rw [e1,h.okLen hF.few,e2]
   simp
 · unfold bN bM
   cases hc:(bf s.mp.at t).2||mF (bf s.mp.at t).1 s.ps with
   |true=>
    rw [hc] at hh
    rw [kt hh,hh,h.mp]
    exact ⟨h.burst _,rfl⟩
   |false=>
    rw [hc] at hh
    rw [ja hh,hh,h.mp]
    exact ⟨h,rfl⟩
theorem d7.flies:∀(ts left:List Sh) {s:WS} {r:RS},d7 s r→s.Fl→(∀t∈ts,t.pos.fits)→gF r ts=true∧d7 (aW s left ts).1 (bv r left ts).1∧(bv r left ts).2=(aW s left ts).2
 |[],_,_,_,h,_,_=>⟨rfl,h,rfl⟩
 |t::ts,left,s,r,h,hF,ht=>by
  obtain ⟨h1,h2,h3⟩:=h.fly hF (ht t (by simp))
  obtain ⟨g1,g2,g3⟩:=d7.flies ts (bif (bN s t).2.2 then left++[(bN s t).2.1] else left) h2 (nH hF (ht t (by simp))) (fun t' h'=>ht t' (by simp [h']))
  rw [gF,bv,aW,h1,h3]
  exact ⟨g1,g2,g3⟩
theorem d7.fliesN:∀(k:Nat) (i n:Int) {s:WS} {r:RS} {t:Sh},d7 s r→s.Fl→t.pos.fits→eC k r t=true∧d7 (cr k i s t).1 (Go.Proofs.YtimkhidniolpeaaGreat.fliesN k n r t).1∧(Go.Proofs.YtimkhidniolpeaaGreat.fliesN k n r t).2.1=(cr k i s t).2.1∧(Go.Proofs.YtimkhidniolpeaaGreat.fliesN k n r t).2.2.1=(cr k i s t).2.2.1
 |0,_,_,_,_,_,h,_,_=>⟨rfl,h,rfl,rfl⟩
 | k+1,i,n,s,r,t,h,hF,ht=>by
  obtain ⟨h1,h2,h3⟩:=h.fly hF ht
  rw [eC,Go.Proofs.YtimkhidniolpeaaGreat.fliesN,cr,h1,h3]
  cases hb:(bN s t).2.2 with
  |true=>
   obtain ⟨g1,g2,g3,g4⟩:=d7.fliesN k (i+1) (n+1) h2 (nH hF ht) (dM ht).1
   exact ⟨by simpa using g1,g2,g3,g4⟩
  |false=>exact ⟨rfl,h2,rfl,rfl⟩
theorem qE:∀(k:Nat) (n:Int) (r:RS) (t:Sh),(Go.Proofs.YtimkhidniolpeaaGreat.fliesN k n r t).1.nh=r.nh∧(Go.Proofs.YtimkhidniolpeaaGreat.fliesN k n r t).1.shs=r.shs
 |0,_,_,_=>⟨rfl,rfl⟩
 |k+1,n,r,t=>by
  rw [Go.Proofs.YtimkhidniolpeaaGreat.fliesN]
  cases (bM r t).2.2 with
  |true=>exact qE k _ _ _
  |false=>exact ⟨rfl,rfl⟩
theorem II {t:Sh} (h:ey r.ps):ey (r.burst t).ps:=by
 have hb:(r.burst t).ps=bZ (r.mp.brQ t.pos) t.owner r.ps:=rfl
 have hm:∀p:Pl,(cG t.owner (jC (r.mp.brQ t.pos) t.owner r.ps 0) (r.mp.brQ t.pos p)).id=p.id:=fun p=>by rw [(oL _ _ _).1];exact (pO _ _).1
 refine ⟨?_,fun q hq=>?_⟩
 · rw [hb]
   unfold bZ
   rw [List.map_map,List.map_map,show (Pl.id∘cG t.owner (jC (r.mp.brQ t.pos) t.owner r.ps 0))∘r.mp.brQ t.pos=Pl.id from funext hm]
   exact h.1
 · rw [hb] at hq
   unfold bZ at hq
   rw [List.map_map,List.mem_map] at hq
   obtain ⟨p,hp,rfl⟩:=hq
   have hw:=h.2 p hp
   have h30:aU 30:=by unfold aU;omega
   have e:∀n,aU (jb p n).wait∧aU (jb p n).dead:=fun n=>by
    unfold jb
    cases decide (p.dead>0)||decide (n<1)
    · cases decide (o1 p n≤0)
      · exact hw
      · exact ⟨hw.1,h30⟩
    · exact hw
   have e2:=e (r.mp.hurt t.pos p)
   simp only [Function.comp]
   unfold cG
   cases (r.mp.brQ t.pos p).id==t.owner
   · exact e2
   · exact e2
theorem sO {t:Sh} (h:ey r.ps):ey (bM r t).1.ps:=by
 unfold bM
 cases hh:r.hit t with
 |true=>rw [kt hh];exact II h
 |false=>rw [ja hh];exact h
theorem th:∀(ts left:List Sh) (r:RS),ey r.ps→ey (bv r left ts).1.ps
 |[],_,_,h=>h
 |t::ts,left,r,h=>by rw [bv];exact th ts _ _ (sO h)
theorem tI:∀(k:Nat) (n:Int) (r:RS) (t:Sh),ey r.ps→ey (Go.Proofs.YtimkhidniolpeaaGreat.fliesN k n r t).1.ps
 |0,_,_,_,h=>h
 |k+1,n,r,t,h=>by
  rw [Go.Proofs.YtimkhidniolpeaaGreat.fliesN]
  cases (bM r t).2.2 with
  |true=>exact tI k _ _ _ (sO h)
  |false=>exact sO h
theorem rS (h:ey r.ps):ey r.tickP.ps:=by
 have w64:∀x:Int,aU (IntKind.i64.wrap x):=fun x=>ap.1 (mi x)
 have h0:aU 0:=by unfold aU;omega
 refine ⟨?_,fun q hq=>?_⟩
 · show ((r.ps.map (j4 r)).map Pl.id).Nodup
   rw [List.map_map,show Pl.id∘j4 r=Pl.id from funext fun p=>by simp only [Function.comp];unfold j4;cases p.dead==1<;>rfl]
   exact h.1
 · have hq:q∈r.ps.map (j4 r):=hq
   obtain ⟨p,hp,rfl⟩:=List.mem_map.1 hq
   unfold j4
   cases p.dead==1 with
   |true=>exact ⟨h0,h0⟩
   |false=>exact ⟨w64 _,w64 _⟩
theorem d7.place (h:d7 s r) (id:Int):fF r id=s.place id∧dX r id=iF s id:=by
 obtain ⟨m1,m2,m3,m4,m5,m6,m7⟩:=h.map
 unfold fF WS.place dX iF oG gc
 rw [m5,m7]
 refine ⟨rfl,?_⟩
 cases !decide ((s.spawns.length:Int)=0)<;>simp [Bool.and_assoc]
theorem d7.step (h:d7 s r):d7 (eJ s) r.tickP:=by
 refine ⟨h.map,?_,?_,?_,?_,h.num⟩
 · show r.ps.map (j4 r)=(s.ps.map (cx s)).map PL.p
   rw [h.ps,List.map_map,List.map_map]
   congr 1
   funext p
   simp only [Function.comp,cx,j4]
   rw [(h.place _).1]
   rfl
 · show r.lf.map yd=(s.ps.map (cx s)).map PL.left
   rw [h.lf,List.map_map,List.map_map]
   rfl
 · rw [show r.tickP.np=r.np from rfl,h.np];exact (List.length_map _).symm
 · rw [show r.tickP.nl=r.nl from rfl,h.nl];exact (List.length_map _).symm
theorem d7.okU (h:d7 s r) (hf:s.ps.length≤8) (hx:ey r.ps) (hp:∀p∈s.ps,iF s p.p.id=true):Go.Proofs.YtimkhidniolpeaaGreat.okU r=true:=by
 unfold Go.Proofs.YtimkhidniolpeaaGreat.okU
 rw [h.np,h.nl,h.len,h.len2,decide_eq_true rfl,decide_eq_true (by omega)]
 simp only [Bool.true_and,List.all_eq_true]
 intro p hm
 unfold Gw
 have h2:=hx.2 p hm
 rw [ap.2 h2.1,ap.2 h2.2]
 rw [h.ps,List.mem_map] at hm
 obtain ⟨q,hq,rfl⟩:=hm
 have e:dX r (dC q.p).id=true:=by rw [(h.place _).2];exact hp q hq
 rw [e]
 simp
theorem d7.now (h:d7 s r):d7 (nowS s) r.nowR:=⟨h.map,h.ps,h.lf,h.np,h.nl,by have:=h.num;exact ⟨congrArg (fun x=>IntKind.i64.wrap (x+1)) this.1,this.2⟩⟩
theorem mH.tick {v:Vr} {k:Nat} (h:mH s r v) (hi:s.Inv k) (hk:k≤1000) (hx:ey r.ps):gx r v=true∧goes v (ff r v).2=true∧mH (cL s) (ff r v).1 (ff r v).2∧ey (ff r v).1.ps:=by
 obtain ⟨g1,g2,g3,_,g5⟩:=kp s.shots (nowS s) [] hi.nowS hi.sh
 have hlen:=(e7 s.shots (nowS s) []).1
 have hsame:=(e7 s.shots (nowS s) []).2
 obtain ⟨f1,f2,f3⟩:=h.to.now.flies s.shots [] hi.nowS hi.sh
 have hgk:=hi.given.2
 have hpl:∀q∈(aW (nowS s) [] s.shots).1.ps,iF (aW (nowS s) [] s.shots).1 q.p.id=true:=by
  intro q hq
  obtain ⟨p,hp,e1,_,_⟩:=g3 q hq
  rw [e1]
  have:=hi.ps p hp
  have:=lM (s:=s) hi.sp (id:=p.p.id) this.1 (by omega)
  rw [hsame]
  exact this.1
 have hfew:(aW (nowS s) [] s.shots).1.ps.length≤8:=by rw [hlen];exact hi.few
 have hF:∀{s':WS} {r':RS},d7 s' r'→s'.shots=s.shots→d7 {s' with shots:=(aW (nowS s) [] s.shots).2} r':=fun h _=>⟨h.map,h.ps,h.lf,h.np,h.nl,h.num⟩
 have hR:∀{s':WS} {r':RS} (nh:Nat) (shs:List Sh),d7 s' r'→d7 s' {r' with nh:=nh,shs:=shs}:=fun _ _ h=>⟨h.map,h.ps,h.lf,h.np,h.nl,h.num⟩
 have hS:∀{s':WS} {r':RS} (shs:List Sh),d7 s' r'→d7 {s' with shots:=shs} r':=fun _ h=>⟨h.map,h.ps,h.lf,h.np,h.nl,h.num⟩
 have hvr:=h.vr
 have eR:r.nowR.shs=s.shots:=h.sh
 cases v with
 | n=>
  refine ⟨rfl,rfl,?_,hx⟩
  obtain ⟨e1,e2⟩:=hvr
  have eT:cL s={s with now:=IntKind.i64.wrap (s.now+1)}:=by
   unfold cL eJ
   rw [e2]
   simp only [aW,nowS]
   rw [e1]
   simp [e2]
  rw [eT]
  exact ⟨h.to.now,h.sh,h.nh,⟨e1,e2⟩⟩
 | s=>
  have e2:s.shots=[]:=hvr
  have e3:aW (nowS s) [] s.shots=(nowS s,[]):=by rw [e2];rfl
  have hT:cL s={eJ (nowS s) with shots:=[]}:=by unfold cL;rw [e3];rfl
  refine ⟨?_,rfl,?_,rS (r:=r.nowR) hx⟩
  · unfold gx
    refine h.to.now.okU hi.few hx fun p hp=>?_
    have:=hi.ps p hp
    exact (lM (s:=s) hi.sp (id:=p.p.id) this.1 (by omega)).1
  · rw [hT]
    exact ⟨hS [] h.to.now.step,by show r.shs=[];rw [h.sh,e2],by show r.nh=0;rw [h.nh,e2];rfl,rfl⟩
 | f=>
  have e2:s.shots≠[]:=hvr
  have hpos:0<s.shots.length:=List.length_pos_iff.2 e2
  have hk1:IL r.nowR=true:=by
   unfold IL
   have a1:r.nowR.nh=s.shots.length:=h.nh
   rw [a1,eR,decide_eq_true rfl,decide_eq_true (by have:=hi.shots;omega),decide_eq_true hpos,f1]
   rfl
  have hext:=th s.shots [] r.nowR hx
  have hTW:cL s=eJ {(aW (nowS s) [] s.shots).1 with shots:=(aW (nowS s) [] s.shots).2}:=rfl
  unfold gx ff
  simp only [hk1,Bool.true_and]
  rw [eR,f3]
  cases hb:(aW (nowS s) [] s.shots).2.isEmpty with
  |true=>
   have hb':=List.isEmpty_iff.1 hb
   simp only [cond_true]
   have hs:=hR 0 [] (hS (aW (nowS s) [] s.shots).2 f2)
   refine ⟨hs.okU hfew hext hpl,rfl,?_,rS (r:={(bv r.nowR [] s.shots).1 with nh:=0,shs:=[]}) hext⟩
   rw [hTW]
   exact ⟨hs.step,hb'.symm,by show 0=(aW (nowS s) [] s.shots).2.length;rw [hb'];rfl,hb'⟩
  | false=>
   simp only [cond_false]
   have eF:r.flownAll={(bv r.nowR [] s.shots).1 with nh:=(aW (nowS s) [] s.shots).2.length,shs:=(aW (nowS s) [] s.shots).2}:=by
    unfold RS.flownAll
    rw [eR,f3]
   have hs:=hR (aW (nowS s) [] s.shots).2.length (aW (nowS s) [] s.shots).2 (hS (aW (nowS s) [] s.shots).2 f2)
   rw [eF]
   refine ⟨hs.okU hfew hext hpl,rfl,?_,rS (r:={(bv r.nowR [] s.shots).1 with nh:=(aW (nowS s) [] s.shots).2.length,shs:=(aW (nowS s) [] s.shots).2}) hext⟩
   rw [hTW]
   refine ⟨hs.step,rfl,rfl,?_⟩
   show (aW (nowS s) [] s.shots).2≠[]
   intro he
   rw [he] at hb
   cases hb
end
theorem iL (id:Int):∀(ps:List PL) (i:Nat),(aI id (ps.map PL.p) i= -1∧∀q∈ps,(q.p.id==id)=false)∨
    ∃mid p post,ps=mid++p::post∧aI id (ps.map PL.p) i=((i+mid.length:Nat):Int)∧(p.p.id==id)=true∧∀q∈mid,(q.p.id==id)=false
 |[],_=>.inl ⟨rfl,by simp⟩
 | p ::ps,i=>by
  rw [List.map_cons,aI]
  cases hid:p.p.id==id with
  |true=>exact .inr ⟨[],p,ps,rfl,by simp,hid,by simp⟩
  | false=>
   rw [cond_false]
   rcases iL id ps (i+1) with ⟨h1,h2⟩|⟨mid,q,post,h1,h2,h3,h4⟩
   · exact .inl ⟨h1,fun q hq=>by rcases List.mem_cons.1 hq with rfl |hq;exact hid;exact h2 q hq⟩
   · refine .inr ⟨p::mid,q,post,by rw [h1];rfl,by rw [h2,List.length_cons];congr 1;omega,h3,fun q hq=>?_⟩
     rcases List.mem_cons.1 hq with rfl |hq
     · exact hid
     · exact h4 q hq
section
variable {s:WS} {r:RS} {v:Vr} {k:Nat}
theorem BB {id:Int} {c:Cm}:∀{ps:List PL},(∀q∈ps,(q.p.id==id)=false)→og s id c ps=(6,ps)
 |[],_=>rfl
 |p::ps,h=>by rw [og,h p (by simp),BB (fun q hq=>h q (by simp [hq]))];rfl
theorem vW {id:Int} {c:Cm} {p:PL} {post:List PL} (hp:(p.p.id==id)=true):∀{mid:List PL},(∀q∈mid,(q.p.id==id)=false)→og s id c (mid++p::post)=((og s id c (p::post)).1,mid++(og s id c (p::post)).2)
 |[],_=>rfl
 |q::mid,h=>by
  rw [List.cons_append,og,h q (by simp),vW hp (fun q hq=>h q (by simp [hq]))]
  rfl
theorem wK {α:Type}:∀(l m:List α) (x y:α),(l++x::m).set l.length y=l++y::m
 |[],_,_,_=>rfl
 |a::l,m,x,y=>by rw [List.cons_append,List.length_cons,List.set_cons_succ,wK l m x y];rfl
theorem mH.put (h:mH s r v) {mid post:List PL} {p q:PL} (hs:s.ps=mid++p::post) {n:Int}:d7 {s with ps:=mid++q::post,fired:=n} {r with ps:=r.ps.set (0+((mid.length:Int)).toNat) q.p,lf:=r.lf.set (0+((mid.length:Int)).toNat) q.left,fired:=n}:=by
 have e:0+((mid.length:Int)).toNat=mid.length:=by omega
 have hl:(mid++q::post).length=s.ps.length:=by rw [hs];simp
 refine ⟨h.to.map,?_,?_,h.to.np.trans hl.symm,h.to.nl.trans hl.symm,⟨h.to.num.1,h.to.num.2.1,rfl⟩⟩
 · show r.ps.set (0+((mid.length:Int)).toNat) q.p=(mid++q::post).map PL.p
   have:=wK (mid.map PL.p) (post.map PL.p) p.p q.p
   rw [List.length_map] at this
   rw [e,h.to.ps,hs,List.map_append,List.map_cons,this,List.map_append,List.map_cons]
 · show r.lf.set (0+((mid.length:Int)).toNat) q.left=(mid++q::post).map PL.left
   have:=wK (mid.map PL.left) (post.map PL.left) p.left q.left
   rw [List.length_map] at this
   rw [e,h.to.lf,hs,List.map_append,List.map_cons,this,List.map_append,List.map_cons]
theorem FF {i:Nat} {q:Pl} (h:ey r.ps) {p:Pl} (hp:r.ps[i]? =some p) (hid:q.id=p.id) (hq:aU q.wait∧aU q.dead):ey (r.ps.set i q):=by
 refine ⟨?_,fun x hx=>?_⟩
 · rw [List.map_set]
   have :(r.ps.map Pl.id).set i q.id=r.ps.map Pl.id:=by
    refine List.ext_getElem? fun j=>?_
    by_cases hj:j=i
    · subst hj
      have hl:=(List.getElem?_eq_some_iff.1 hp).1
      rw [List.getElem?_set_self (by simpa using hl),List.getElem?_map,hp,hid]
      rfl
    · rw [List.getElem?_set_ne (Ne.symm hj)]
   rw [this]
   exact h.1
 · rcases List.mem_or_eq_of_mem_set hx with hx |rfl
   · exact h.2 x hx
   · exact hq
theorem mH.at' (h:mH s r v) {mid post:List PL} {p:PL} (hs:s.ps=mid++p::post):r.ps[mid.length]? =some p.p∧r.lf[mid.length]? =some p.left:=by
 rw [h.to.ps,h.to.lf,hs]
 constructor<;>simp
theorem md {n len:Nat} {mid post:List PL} {p:PL} (hs:s.ps=mid++p::post) (hn:n=s.ps.length) (hl:len=s.ps.length):sX ((mid.length:Nat):Int) n len=true:=by
 have :s.ps.length=mid.length+(post.length+1):=by rw [hs];simp
 unfold sX
 rw [decide_eq_true (by omega),decide_eq_true (by omega),decide_eq_true (by omega)]
 rfl
theorem dj (h:mH s r v):goes v v=true:=by cases v<;>rfl
theorem mH.do (h:mH s r v) (hi:s.Inv k) (hx:ey r.ps) (id:Int) (c:Cm):qh r c (aI id r.ps 0) (r.ps.getD (0+(aI id r.ps 0).toNat) aA.pl.dflt)=true∧mH (doS s id c) (AX r c (aI id r.ps 0) (r.ps.getD (0+(aI id r.ps 0).toNat) aA.pl.dflt)).1 v∧
    (AX r c (aI id r.ps 0) (r.ps.getD (0+(aI id r.ps 0).toNat) aA.pl.dflt)).2=(og s id c s.ps).1∧ey (AX r c (aI id r.ps 0) (r.ps.getD (0+(aI id r.ps 0).toNat) aA.pl.dflt)).1.ps:=by
 have hlen:=h.to.okLen hi.few
 have hfi:aI id r.ps 0=aI id (s.ps.map PL.p) 0:=by rw [h.to.ps]
 unfold qh AX doS
 rw [hlen,Bool.true_and,hfi]
 rcases iL id s.ps 0 with ⟨h1,h2⟩|⟨mid,p,post,h1,h2,h3,h4⟩
 · rw [h1,BB h2,decide_eq_true (by decide)]
   exact ⟨rfl,h,rfl,hx⟩
 · rw [h2,Nat.zero_add,decide_eq_false (by omega)]
   simp only [Bool.false_or,cond_false]
   obtain ⟨a1,a2⟩:=h.at' h1
   have eP:r.ps.getD (0+((mid.length:Int)).toNat) aA.pl.dflt=p.p:=by
    rw [show 0+((mid.length:Int)).toNat=mid.length by omega]
    simp only [List.getD,a1]
    rfl
   have eL:r.lf.getD (0+((mid.length:Int)).toNat) 0=p.left:=by
    rw [show 0+((mid.length:Int)).toNat=mid.length by omega]
    simp only [List.getD,a2]
    rfl
   have hr1:=md h1 h.to.nl h.to.len2
   have hr2:=md h1 h.to.np h.to.len
   have hD:=vW (s:=s) (c:=c) (post:=post) h3 h4
   rw [←h1] at hD
   rw [hD,hr1,hr2,eL]
   have eD:og s id c (p::post)=bif yy c then (1,p::post) else bif decide (c.ticks>p.left) then (8,p::post) else (0,⟨fe s.mp.slide p.p c,IntKind.i64.wrap (p.left - c.ticks)⟩::post):=by
    rw [og,h3,cond_true]
   rw [eD]
   have hb:Db c=yy c:=rfl
   rw [hb]
   have old:({s with ps:=mid++p::post}:WS)=s:=by rw [←h1]
   cases yy c with
   |true=>exact ⟨rfl,by simp only [cond_true];rw [old];exact h,rfl,hx⟩
   |false=>
   cases decide (c.ticks>p.left) with
   |true=>exact ⟨rfl,by simp only [cond_true,cond_false];rw [old];exact h,rfl,hx⟩
   | false=>
    have hp:=hi.ps p (by rw [h1];simp)
    have hf:(aw (r.ps.getD (0+((mid.length:Int)).toNat) aA.pl.dflt).pos&&decide (0+r.len≤r.xs.length))=true:=by
     rw [congrArg Pl.pos eP,aB.2 hp.2.2,h.to.map.2.2.2.1,h.to.map.2.2.2.2.2.1]
     simp
    rw [hf]
    have hsame:=rL s.mp c p.p
    have hmp:=h.to.mp
    have hset:=h.put (q:=⟨fe s.mp.slide p.p c,IntKind.i64.wrap (p.left - c.ticks)⟩) h1 (n:=s.fired)
    have hdo:r.doP ((mid.length:Nat):Int) (r.ps.getD (0+((mid.length:Int)).toNat) aA.pl.dflt) c={r with ps:=r.ps.set (0+((mid.length:Int)).toNat) (fe s.mp.slide p.p c),lf:=r.lf.set (0+((mid.length:Int)).toNat) (IntKind.i64.wrap (p.left - c.ticks)),fired:=s.fired}:=by
     unfold RS.doP
     rw [show fe r.mp.slide (r.ps.getD (0+((mid.length:Int)).toNat) aA.pl.dflt) c=fe s.mp.slide p.p c by rw [hmp];exact congrArg (fun x=>fe s.mp.slide x c) eP,eL,←h.to.num.2.2]
    simp only [cond_false]
    rw [hdo]
    refine ⟨rfl,⟨hset,h.sh,h.nh,?_⟩,by first |rfl |trivial,?_⟩
    · have:=h.vr
      cases v with
      |n=>obtain ⟨e1,_⟩:=this;rw [e1] at h1;cases mid<;>cases h1
      |s=>exact this
      |f=>exact this
    · have e:0+((mid.length:Int)).toNat=mid.length:=by omega
      show ey (r.ps.set (0+((mid.length:Int)).toNat) (fe s.mp.slide p.p c))
      rw [e]
      have hw:=hx.2 p.p (List.mem_of_getElem? a1)
      refine FF hx a1 (sA hsame) ?_
      unfold fv at hsame
      rw [hsame]
      exact hw
theorem yV {α:Type} (l m:List α) (x:α) (n:Nat) (hn:n=(l++x::m).length):Ig l.length (l.length+1) n (l++x::m)=l++m:=by
 unfold Ig
 rw [Nat.zero_add,Nat.zero_add,List.take_left,List.take_of_length_le (Nat.le_refl _),←List.drop_drop,List.drop_left]
 rw [show List.drop 1 (x::m)=m from rfl,List.take_of_length_le (by rw [hn,List.length_append,List.length_cons];omega)]
theorem sB {b:Nat} (hb:b≤120) {mid post:List PL} {p:PL} (hs:s.ps=mid++p::post) (hf:s.ps.length≤8) {n c len:Nat} (hc:s.ps.length≤c) (hn:n=s.ps.length) (hl:len=s.ps.length) {ilen:Nat} (hil:ilen=mid.length):pA b ((mid.length:Nat):Int) n c len ilen=true:=by
 have hlen:s.ps.length=mid.length+(post.length+1):=by rw [hs];simp
 have hw:IntKind.i64.wrap ((mid.length:Int)+1)=((mid.length+1:Nat):Int):=by rw [IntWalk.i64_in _ (by omega)];omega
 have hm:∀j,j≤8→j*b≤140737488355328:=fun j hj=>Nat.le_trans (Nat.mul_le_mul hj hb) (by omega)
 unfold pA UV UG
 rw [hw,hn,hl,hil]
 simp only [Int.toNat_natCast,Nat.zero_add,Bool.and_eq_true,Bool.or_eq_true,decide_eq_true_eq]
 refine ⟨⟨by omega,by omega⟩,⟨by omega,by omega,hm _ (by omega)⟩,⟨by omega,by omega⟩,by omega,?_,by omega,by omega,hm _ (by omega)⟩
 rcases Nat.eq_zero_or_pos mid.length with h0 |h0
 · right;rw [h0];rfl
 · left;exact h0
theorem DP {id:Int} {mid post:List PL} {p:PL} (h3:(p.p.id==id)=true) (h4:∀q∈mid,(q.p.id==id)=false) (h5:∀q∈post,(q.p.id==id)=false):(mid++p::post).filter (fun p=> !(p.p.id==id))=mid++post:=by
 rw [List.filter_append,List.filter_cons,h3,List.filter_eq_self.2 (fun q hq=>by rw [h4 q hq];rfl),List.filter_eq_self.2 (fun q hq=>by rw [h5 q hq];rfl)]
 rfl
def jQ (r:RS):Prop:=r.cp=pq r.np∧r.cl=pq r.nl
theorem Bj {n:Nat}:n≤dm (pq n) n:=by
 unfold pq
 cases hb:Nat.beq n 0 with
 |true=>rw [Nat.eq_of_beq_eq_true hb];exact Nat.zero_le _
 |false=>exact Nat.le_refl _
theorem mH.leave (h:mH s r v) (hi:s.Inv k) (hx:ey r.ps) (hc:v≠ .n→jQ r) (id:Int):iV r (aI id r.ps 0)=true∧mH (dF s id) (ek r (aI id r.ps 0)).1 v∧(ek r (aI id r.ps 0)).2=(bif de id s.ps then 0 else 6)∧ey (ek r (aI id r.ps 0)).1.ps:=by
 have hlen:=h.to.okLen hi.few
 have hfi:aI id r.ps 0=aI id (s.ps.map PL.p) 0:=by rw [h.to.ps]
 unfold iV ek dF de
 rw [hlen,Bool.true_and,hfi]
 rcases iL id s.ps 0 with ⟨h1,h2⟩|⟨mid,p,post,h1,h2,h3,h4⟩
 · have e1:(s.ps.any fun p=>p.p.id==id)=false:=by rw [List.any_eq_false];exact fun q hq=>by rw [h2 q hq];simp
   have e2:s.ps.filter (fun p=> !(p.p.id==id))=s.ps:=List.filter_eq_self.2 fun q hq=>by rw [h2 q hq];rfl
   rw [h1,decide_eq_true (by decide),e1,e2]
   exact ⟨rfl,h,rfl,hx⟩
 · have e1:(s.ps.any fun p=>p.p.id==id)=true:=by rw [List.any_eq_true];exact ⟨p,by rw [h1];simp,h3⟩
   have hnd:=hx.1
   rw [h.to.ps,h1,List.map_map,List.map_append,List.map_cons] at hnd
   have h5:∀q∈post,(q.p.id==id)=false:=fun q hq=>by
    have hne:=(List.nodup_cons.1 (List.nodup_append.1 hnd).2.1).1
    have :q.p.id≠id:=fun e=>hne (List.mem_map.2 ⟨q,hq,by show q.p.id=p.p.id;rw [e,eq_of_beq h3]⟩)
    simpa using this
   have e2:=DP h3 h4 h5
   rw [←h1] at e2
   have hvn:v≠ .n:=fun e=>by
    have:=h.vr
    rw [e] at this
    rw [this.1] at h1
    cases mid<;>cases h1
   have hc1:s.ps.length≤dm r.cp r.np:=by rw [(hc hvn).1,h.to.np];exact Bj
   have hc2:s.ps.length≤dm r.cl r.nl:=by rw [(hc hvn).2,h.to.nl];exact Bj
   have hl8:=hi.few
   have hlen2:s.ps.length=mid.length+(post.length+1):=by rw [h1];simp
   have hw:IntKind.i64.wrap ((mid.length:Int)+1)=((mid.length+1:Nat):Int):=by rw [IntWalk.i64_in _ (by omega)];omega
   have t1:(r.ps.take ((mid.length:Int)).toNat).length=mid.length:=by rw [List.length_take,h.to.len];omega
   have t2:(r.lf.take ((mid.length:Int)).toNat).length=mid.length:=by rw [List.length_take,h.to.len2];omega
   rw [h2,Nat.zero_add,e1,e2,t1,t2,decide_eq_false (by omega),sB (by omega) h1 hl8 hc1 h.to.np h.to.len rfl,sB (by omega) h1 hl8 hc2 h.to.nl h.to.len2 rfl]
   have eps:(r.del ((mid.length:Nat):Int)).ps=(mid++post).map PL.p:=by
    show Ig ((mid.length:Int)).toNat (IntKind.i64.wrap ((mid.length:Int)+1)).toNat r.np r.ps=_
    have:=yV (mid.map PL.p) (post.map PL.p) p.p r.np (by rw [h.to.np,hlen2];simp)
    rw [List.length_map] at this
    rw [hw,h.to.ps,h1,List.map_append,List.map_cons,List.map_append]
    exact this
   have elf:(r.del ((mid.length:Nat):Int)).lf=(mid++post).map PL.left:=by
    show Ig ((mid.length:Int)).toNat (IntKind.i64.wrap ((mid.length:Int)+1)).toNat r.nl r.lf=_
    have:=yV (mid.map PL.left) (post.map PL.left) p.left r.nl (by rw [h.to.nl,hlen2];simp)
    rw [List.length_map] at this
    rw [hw,h.to.lf,h1,List.map_append,List.map_cons,List.map_append]
    exact this
   refine ⟨rfl,⟨⟨h.to.map,eps,elf,?_,?_,h.to.num⟩,h.sh,h.nh,?_⟩,rfl,?_⟩
   · show 0+((mid.length:Int)).toNat+(r.np - (IntKind.i64.wrap ((mid.length:Int)+1)).toNat)=(mid++post).length
     rw [hw,h.to.np,hlen2,List.length_append]
     omega
   · show 0+((mid.length:Int)).toNat+(r.nl - (IntKind.i64.wrap ((mid.length:Int)+1)).toNat)=(mid++post).length
     rw [hw,h.to.nl,hlen2,List.length_append]
     omega
   · have:=h.vr
     cases v with
     |n=>obtain ⟨q1,_⟩:=this;rw [q1] at h1;cases mid<;>cases h1
     |s=>exact this
     |f=>exact this
   · have hsub:((mid++post).map PL.p).Sublist r.ps:=by
      rw [h.to.ps,h1]
      exact List.Sublist.map _ (List.Sublist.append (List.Sublist.refl _) (List.sublist_cons_self _ _))
     show ey (r.del ((mid.length:Nat):Int)).ps
     rw [eps]
     exact ⟨hx.1.sublist (List.Sublist.map _ hsub),fun q hq=>hx.2 q (hsub.subset hq)⟩
theorem mH.join (h:mH s r v) (hi:s.Inv k) (hk:k≤1000) (hx:ey r.ps) (hc:v≠ .n→jQ r):fK r v=true∧goes v v.join=true∧mH (eh s) (cX r v).1 v.join∧(cX r v).2.2=((bif bI s then 0 else IntKind.i64.wrap (s.given+1)),bif bI s then 5 else 0)∧ey (cX r v).1.ps:=by
 have hg:=hi.given
 have hid:r.newId=IntKind.i64.wrap (s.given+1):=by unfold RS.newId;rw [h.to.num.2.1]
 have hwid:IntKind.i64.wrap (s.given+1)=s.given+1:=iJ (by omega) (by omega)
 have hpl:dX r r.newId=true:=by
  rw [(h.to.place _).2,hid,hwid]
  exact (lM (s:=s) hi.sp (by omega) (by omega)).1
 have hep:fF r r.newId=s.place (IntKind.i64.wrap (s.given+1)):=by rw [(h.to.place _).1,hid]
 have h0:aU 0:=by unfold aU;omega
 have hnew:∀q∈r.ps,q.id≠r.newId:=fun q hq e=>by
  rw [h.to.ps,List.mem_map] at hq
  obtain ⟨p,hp,rfl⟩:=hq
  have:=(hi.ps p hp).2.1
  rw [hid,hwid] at e
  omega
 have hext:ey (r.ps++[eU r.newId (fF r r.newId)]):=by
  refine ⟨?_,fun q hq=>?_⟩
  · rw [List.map_append,List.nodup_append]
    refine ⟨hx.1,by simp,fun a ha b hb=>?_⟩
    obtain ⟨q,hq,rfl⟩:=List.mem_map.1 ha
    simp only [List.map_cons,List.map_nil,List.mem_singleton] at hb
    subst hb
    exact hnew q hq
  · rcases List.mem_append.1 hq with hq |hq
    · exact hx.2 q hq
    · rw [List.mem_singleton] at hq
      subst hq
      exact ⟨h0,h0⟩
 have hps:(s.ps++[⟨eU (IntKind.i64.wrap (s.given+1)) (s.place (IntKind.i64.wrap (s.given+1))),8⟩]:List PL).map PL.p=r.ps++[eU r.newId (fF r r.newId)]:=by
  rw [List.map_append,←h.to.ps,hid,hep.symm.trans (by rw [hid])]
  rfl
 have hlf:(s.ps++[⟨eU (IntKind.i64.wrap (s.given+1)) (s.place (IntKind.i64.wrap (s.given+1))),8⟩]:List PL).map PL.left=r.lf++[8]:=by
  rw [List.map_append,←h.to.lf]
  rfl
 have main:∀v:Vr,v≠ .n→mH s r v→jQ r→fK r v=true∧goes v v.join=true∧mH (eh s) (cX r v).1 v.join∧(cX r v).2.2=((bif bI s then 0 else IntKind.i64.wrap (s.given+1)),bif bI s then 5 else 0)∧ey (cX r v).1.ps:=by
  intro v hv h hc
  have e1:fK r v=(decide ((r.np:Int)≥8)||(dX r r.newId&&(kP 120 r.np r.ps.length r.cp.isSome&&kP 8 r.nl r.lf.length r.cl.isSome))):=by cases v<;>first |rfl |exact absurd rfl hv
  have e2:v.join=v:=by cases v<;>first |rfl |exact absurd rfl hv
  have e3:cX r v=bif decide ((r.np:Int)≥8) then (r,v,0,5) else ({r with np:=r.np+1,nl:=r.nl+1,cp:=gZ true r.cp 1,cl:=gZ true r.cl 1,ps:=r.ps.take r.np++[eU r.newId (fF r r.newId)],lf:=r.lf.take r.nl++[8],given:=r.newId},v,r.newId,0):=by cases v<;>first |rfl |exact absurd rfl hv
  have hfull:decide ((r.np:Int)≥8)=bI s:=by
   unfold bI
   rw [h.to.np,Bool.eq_iff_iff,decide_eq_true_eq,Nat.beq_eq]
   have:=hi.few
   omega
  have hgrow:∀b n len c,b≤120→n=s.ps.length→len=s.ps.length→c=pq n→kP b n len c.isSome=true:=by
   intro b n len c hb hn hl hc
   have hf:=hi.few
   have hm:(n+1)*b≤140737488355328:=Nat.le_trans (Nat.mul_le_mul (by omega:n+1≤9) hb) (by omega)
   unfold kP
   simp only [Bool.and_eq_true,Bool.or_eq_true,decide_eq_true_eq]
   refine ⟨?_,by omega,by omega,hm⟩
   rcases Nat.eq_zero_or_pos n with h0 |h0
   · right;rw [hc,h0];rfl
   · left;exact h0
  rw [e1,e2,e3,hfull,hpl,hgrow _ _ _ _ (by omega) h.to.np h.to.len hc.1,hgrow _ _ _ _ (by omega) h.to.nl h.to.len2 hc.2]
  unfold eh
  cases hb:bI s with
  |true=>exact ⟨rfl,dj h,h,rfl,hx⟩
  | false=>
   simp only [cond_false,Bool.false_or,Bool.and_self]
   have t1:r.ps.take r.np=r.ps:=List.take_of_length_le (by rw [h.to.len,h.to.np];omega)
   have t2:r.lf.take r.nl=r.lf:=List.take_of_length_le (by rw [h.to.len2,h.to.nl];omega)
   rw [t1,t2]
   refine ⟨trivial,dj h,⟨⟨h.to.map,hps.symm,hlf.symm,?_,?_,⟨h.to.num.1,hid,h.to.num.2.2⟩⟩,h.sh,h.nh,?_⟩,by rw [hid],hext⟩
   · show r.np+1=(s.ps++[_]).length
     rw [h.to.np,List.length_append];rfl
   · show r.nl+1=(s.ps++[_]).length
     rw [h.to.nl,List.length_append];rfl
   · have:=h.vr
     cases v with
     |n=>exact absurd rfl hv
     |s=>exact this
     |f=>exact this
 cases v with
 | n=>
  obtain ⟨q1,q2⟩:=h.vr
  have hb:bI s=false:=by unfold bI;rw [q1];rfl
  have hr:r.ps=[]:=by rw [h.to.ps,q1];rfl
  have hr2:r.lf=[]:=by rw [h.to.lf,q1];rfl
  unfold fK cX eh Vr.join
  rw [hb]
  rw [hr] at hps hext
  rw [hr2] at hlf
  refine ⟨hpl,rfl,⟨⟨h.to.map,hps.symm,hlf.symm,?_,?_,⟨h.to.num.1,hid,h.to.num.2.2⟩⟩,(show ([]:List Sh)=s.shots from q2.symm),?_,q2⟩,by rw [hid];rfl,hext⟩
  · show 1=(s.ps++[_]).length
    rw [q1];rfl
  · show 1=(s.ps++[_]).length
    rw [q1];rfl
  · show 0=s.shots.length
    rw [q2];rfl
 |s=>exact main .s (by simp) h (hc (by simp))
 |f=>exact main .f (by simp) h (hc (by simp))
theorem s5 {id kd a:Int} {d:V3}:∀{ps pre:List PL},(∀q∈ps,(q.p.id==id)=false)→jd s id kd d a pre ps=(s,0,6)
 |[],_,_=>rfl
 |p::ps,pre,h=>by rw [jd,h p (by simp)];exact s5 (fun q hq=>h q (by simp [hq]))
theorem qG {id kd a:Int} {d:V3} {p:PL} {post:List PL} (hp:(p.p.id==id)=true):∀{mid pre:List PL},(∀q∈mid,(q.p.id==id)=false)→jd s id kd d a pre (mid++p::post)=zy s (pre++mid) p post id kd d a
 |[],pre,_=>by rw [List.nil_append,jd,hp,cond_true,List.append_nil]
 |q::mid,pre,h=>by
  rw [List.cons_append,jd,h q (by simp),cond_false,qG hp (fun q hq=>h q (by simp [hq])),List.append_assoc]
  rfl
theorem SY (hi:s.Inv k) {mid post:List PL} {p:PL} (hs:s.ps=mid++p::post) {id kd:Int} {d:V3}:(cH s mid p post kd).Fl∧(cZ s p id kd d).pos.fits:=by
 have hp:=hi.ps p (by rw [hs];simp)
 refine ⟨⟨hi.map,?_,fun q hq=>?_⟩,?_⟩
 · have :(cH s mid p post kd).ps.length=s.ps.length:=by rw [hs];simp [cH]
   rw [this];exact hi.few
 · simp only [cH,List.mem_append,List.mem_cons] at hq
   rcases hq with hq |rfl |hq
   · exact (hi.ps q (by rw [hs];simp [hq])).2.2
   · rw [(kr p.p kd).2];exact hp.2.2
   · exact (hi.ps q (by rw [hs];simp [hq])).2.2
 · unfold cZ wo
   cases dZ kd d with
   |true=>exact ⟨by unfold aU;simp,by unfold aU;simp,by unfold aU;simp⟩
   |false=>exact hp.2.2
theorem K5 {p:Pl} {kd:Int} (h:aU p.wait∧aU p.dead):aU (c9 p kd).1.wait∧aU (c9 p kd).1.dead:=by
 have h10:aU 10:=by unfold aU;omega
 unfold c9 qi
 cases kd==0<;>cases decide (p.dead>0)<;>cases decide (p.wait>0)<;>first |(cases decide (p.a0≤0)<;>first |exact h |exact ⟨h10,h.2⟩)|(cases decide (p.a1≤0)<;>first |exact h |exact ⟨h10,h.2⟩)
theorem mH.fire (h:mH s r v) (hi:s.Inv k) (hk:k≤1000) (hx:ey r.ps) (id kd a:Int) (d:V3):j7 r v id kd a d=true∧goes v (dB r v id kd a d).2.1=true∧mH (eu s id kd d a).1 (dB r v id kd a d).1 (dB r v id kd a d).2.1∧(dB r v id kd a d).2.2=(eu s id kd d a).2∧ey (dB r v id kd a d).1.ps:=by
 have hlen:=h.to.okLen hi.few
 have hfi:aI id r.ps 0=aI id (s.ps.map PL.p) 0:=by rw [h.to.ps]
 unfold j7 dB eu
 rw [hlen,Bool.true_and,hfi]
 rcases iL id s.ps 0 with ⟨h1,h2⟩|⟨mid,p,post,h1,h2,h3,h4⟩
 · rw [h1,s5 h2,decide_eq_true (by decide)]
   exact ⟨rfl,dj h,h,rfl,hx⟩
 · have hF:=qG (s:=s) (kd:=kd) (a:=a) (d:=d) (post:=post) (pre:=[]) h3 h4
   rw [←h1,List.nil_append] at hF
   rw [h2,Nat.zero_add,decide_eq_false (by omega),hF]
   simp only [Bool.false_or,cond_false]
   obtain ⟨a1,a2⟩:=h.at' h1
   have eP:r.ps.getD (0+((mid.length:Int)).toNat) aA.pl.dflt=p.p:=by
    rw [show 0+((mid.length:Int)).toNat=mid.length by omega]
    simp only [List.getD,a1]
    rfl
   generalize r.ps.getD (0+((mid.length:Int)).toNat) aA.pl.dflt=q at eP
   subst eP
   have hr2:=md h1 h.to.np h.to.len
   unfold sX at hr2
   unfold rI sP zy
   rw [hr2,Bool.true_and]
   cases hn:iU kd d !=0 with
   |true=>exact ⟨rfl,dj h,h,rfl,hx⟩
   |false=>
   have hkd:(kd==0||kd==1)=true:=by
    have hb:dZ kd d=false:=by
     unfold iU at hn
     cases hb:dZ kd d with
     |false=>rfl
     |true=>rw [hb] at hn;cases hn
    rcases (fP hb).1 with rfl |rfl<;>rfl
   rw [hkd]
   cases hf:(c9 p.p kd).2 !=0 with
   |true=>exact ⟨rfl,dj h,h,rfl,hx⟩
   |false=>
   have hvn:v≠ .n:=fun e=>by
    have:=h.vr
    rw [e] at this
    rw [this.1] at h1
    cases mid<;>cases h1
   have hfull:jA r v=((s.shots.length:Int)==64):=by
    have hv:=h.vr
    have hsh:=hi.shots
    cases v with
    |n=>exact absurd rfl hvn
    |s=>
     have hv:s.shots=[]:=hv
     rw [hv];rfl
    |f=>
     unfold jA
     simp only
     rw [h.nh,Bool.eq_iff_iff,decide_eq_true_eq,beq_iff_eq]
     omega
   rw [hfull]
   cases h64:(s.shots.length:Int)==64 with
   |true=>exact ⟨rfl,dj h,h,rfl,hx⟩
   |false=>
   simp only [Bool.false_or,Bool.true_and,cond_false]
   obtain ⟨hFl,hT⟩:=SY (id:=id) (kd:=kd) (d:=d) hi h1
   have e0:0+((mid.length:Int)).toNat=mid.length:=by omega
   have hS0:d7 (cH s mid p post kd) (r.shoots kd ((mid.length:Nat):Int) p.p):=by
    have:=h.put (q:=⟨(c9 p.p kd).1,p.left⟩) h1 (n:=IntKind.i64.wrap (s.fired+1))
    refine ⟨this.map,this.ps,?_,this.np,this.nl,⟨this.num.1,this.num.2.1,?_⟩⟩
    · have e:=this.lf
      simp only at e
      rw [e0] at e
      rw [show r.lf.set mid.length p.left=r.lf from by
       refine List.ext_getElem? fun j=>?_
       by_cases hj:j=mid.length
       · subst hj
         rw [List.getElem?_set_self (List.getElem?_eq_some_iff.1 a2).1,a2]
       · rw [List.getElem?_set_ne (Ne.symm hj)]] at e
      exact e
    · show IntKind.i64.wrap (r.fired+1)=IntKind.i64.wrap (s.fired+1)
      rw [h.to.num.2.2]
   have hsh:r.shot id kd p.p d=cZ s p id kd d:=by
    unfold RS.shot cZ
    rw [h.to.num.2.2]
   have hExt:ey (r.shoots kd ((mid.length:Nat):Int) p.p).ps:=by
    show ey (r.ps.set (0+((mid.length:Int)).toNat) (c9 p.p kd).1)
    rw [e0]
    exact FF hx a1 (kr p.p kd).1 (K5 (hx.2 p.p (List.mem_of_getElem? a1)))
   have hcnt:(kM a).toNat=cg a:=rfl
   obtain ⟨g1,g2,g3,g4⟩:=hS0.fliesN (cg a) 0 0 hFl hT
   have hkeep:=qE (cg a) 0 (r.shoots kd ((mid.length:Nat):Int) p.p) (cZ s p id kd d)
   have hExt2:=tI (cg a) 0 _ (cZ s p id kd d) hExt
   have hzs:(cr (cg a) 0 (cH s mid p post kd) (cZ s p id kd d)).1.shots=s.shots:=by
    rw [(iQ (cg a) 0 (cH s mid p post kd) (cZ s p id kd d)).2]
    rfl
   unfold jy pQ tM zF
   rw [hsh,hcnt,g1,g3,g4]
   generalize hZ:cr (cg a) 0 (cH s mid p post kd) (cZ s p id kd d)=Z at g2 hzs
   generalize hY:fliesN (cg a) 0 (r.shoots kd ((mid.length:Nat):Int) p.p) (cZ s p id kd d)=Y at g2 hkeep hExt2
   obtain ⟨k1,k2⟩:=hkeep
   have k1:Y.1.nh=s.shots.length:=k1.trans h.nh
   have k2:Y.1.shs=s.shots:=k2.trans h.sh
   cases Z.2.2.1 with
   | false=>
    simp only [Bool.not_false,Bool.true_or,Bool.and_self,cond_false]
    refine ⟨trivial,dj h,⟨g2,k2.trans hzs.symm,k1.trans (by rw [hzs]),?_⟩,?_,hExt2⟩
    · have:=h.vr
      cases v with
      |n=>exact absurd rfl hvn
      |s=>rw [hzs];exact this
      |f=>rw [hzs];exact this
    · rw [g2.num.2.2]
   | true=>
    simp only [Bool.not_true,Bool.false_or,Bool.true_and,cond_true]
    have hSh:(cH s mid p post kd).shots=s.shots:=rfl
    rw [hSh]
    refine ⟨?_,?_,?_,by rw [g2.num.2.2],?_⟩
    · cases v with
      |n=>rfl
      |s=>rfl
      |f=>
       have hv:s.shots≠[]:=h.vr
       have hpos:0<s.shots.length:=List.length_pos_iff.2 hv
       have hsh64:=hi.shots
       unfold xy uD
       simp only [k1,k2,Bool.and_eq_true,Bool.or_eq_true,decide_eq_true_eq]
       exact ⟨.inl hpos,Nat.le_refl _,by omega,by omega⟩
    · cases v with
      |n=>exact absurd rfl hvn
      |s=>rfl
      |f=>rfl
    · have hv:=h.vr
      cases v with
      |n=>exact absurd rfl hvn
      | s=>
       have hv:s.shots=[]:=hv
       refine ⟨⟨g2.map,g2.ps,g2.lf,g2.np,g2.nl,g2.num⟩,?_,?_,?_⟩
       · show [Z.2.1]=s.shots++[Z.2.1]
         rw [hv];rfl
       · show 1=(s.shots++[Z.2.1]).length
         rw [hv];rfl
       · show s.shots++[Z.2.1]≠[]
         simp
      | f=>
       refine ⟨⟨g2.map,g2.ps,g2.lf,g2.np,g2.nl,g2.num⟩,?_,?_,?_⟩
       · show Y.1.shs.take Y.1.nh++[Z.2.1]=s.shots++[Z.2.1]
         rw [k1,k2,List.take_length]
       · show Y.1.nh+1=(s.shots++[Z.2.1]).length
         rw [k1,List.length_append];rfl
       · show s.shots++[Z.2.1]≠[]
         simp
    · cases v<;>exact hExt2
theorem o7 (i m:Nat):gZ true (gZ true (some 0) i) m=pq (0+i+m):=by
 cases i with
 |zero=>rw [Nat.zero_add];cases m<;>rfl
 |succ i=>rw [Nat.zero_add];cases m<;>rfl
theorem se {t:Sh} (h:jQ r):jQ (bM r t).1:=by
 unfold bM
 cases hh:r.hit t with
 |true=>rw [kt hh];exact ⟨rfl,h.2⟩
 |false=>rw [ja hh];exact h
theorem tN:∀(ts left:List Sh) (r:RS),jQ r→jQ (bv r left ts).1
 |[],_,_,h=>h
 |t::ts,left,r,h=>by rw [bv];exact tN ts _ _ (se h)
theorem rO:∀(k:Nat) (n:Int) (r:RS) (t:Sh),jQ r→jQ (Go.Proofs.YtimkhidniolpeaaGreat.fliesN k n r t).1
 |0,_,_,_,h=>h
 |k+1,n,r,t,h=>by
  rw [Go.Proofs.YtimkhidniolpeaaGreat.fliesN]
  cases (bM r t).2.2 with
  |true=>exact rO k _ _ _ (se h)
  |false=>exact se h
def CQ (r:RS):Vr→Prop
 |.n=>r.cp=none∧r.cl=none
 |_=>jQ r
theorem CQ.ok {r:RS} {v:Vr} (h:CQ r v) (hv:v≠ .n):jQ r:=by
 cases v with
 |n=>exact absurd rfl hv
 |s=>exact h
 |f=>exact h
def Yo (z:RS×Vr×Int×Int):Prop:=CQ z.1 z.2.1
theorem Sy {o:gQ} (h:CQ r v) (hn:v=.n→r.ps=[]):Yo (oC r v o):=by
 unfold oC
 refine rq (Q:=fun z (_:Unit) (_:Unit)=>Yo z) o.kind (a':=()) (b':=()) (c':=()) (d':=()) (e':=()) (f':=()) (a1:=()) (b1:=()) (c1:=()) (d1:=()) (e1:=()) (f1:=()) ?_ ?_ ?_ ?_ ?_ ?_
 · unfold AX
   cases decide (aI o.player r.ps 0<0)<;>cases Db o.cmd<;>cases decide (o.cmd.ticks>r.lf.getD (0+(aI o.player r.ps 0).toNat) 0)<;>cases v<;>exact h
 · unfold dB
   cases hd:decide (aI o.player r.ps 0<0) with
   |true=>exact h
   |false=>
   have hvn:v≠ .n:=fun e=>by rw [hn e] at hd;cases hd
   rw [cond_false]
   generalize r.ps.getD (0+(aI o.player r.ps 0).toNat) aA.pl.dflt=p
   unfold sP
   cases iU o.shot o.dir !=0 with
   |true=>exact h
   |false=>
   cases (c9 p o.shot).2 !=0 with
   |true=>exact h
   |false=>
   cases jA r v with
   |true=>exact h
   | false=>
    simp only [cond_false]
    unfold pQ
    have hc:jQ (Go.Proofs.YtimkhidniolpeaaGreat.fliesN (cg o.ahead) 0 (r.shoots o.shot (aI o.player r.ps 0) p) (r.shot o.player o.shot p o.dir)).1:=rO _ _ _ _ (h.ok hvn)
    generalize Go.Proofs.YtimkhidniolpeaaGreat.fliesN (cg o.ahead) 0 (r.shoots o.shot (aI o.player r.ps 0) p) (r.shot o.player o.shot p o.dir)=z at hc
    cases z.2.2.1 with
    |false=>
     cases v with
     |n=>exact absurd rfl hvn
     |s=>exact hc
     |f=>exact hc
    |true=>
     cases v with
     |n=>exact absurd rfl hvn
     |s=>exact hc
     |f=>exact hc
 · cases v with
   |n=>exact h
   |s=>exact h
   |f=>
    have hc:=tN r.nowR.shs [] r.nowR h
    unfold ff
    simp only
    cases (bv r.nowR [] r.nowR.shs).2.isEmpty<;>exact hc
 · cases v with
   |n=>exact ⟨rfl,rfl⟩
   |s=>
    unfold cX
    simp only
    cases decide ((r.np:Int)≥8) with
    |true=>exact h
    |false=>exact ⟨(by show gZ true r.cp 1=pq (r.np+1);cases r.cp<;>rfl),(by show gZ true r.cl 1=pq (r.nl+1);cases r.cl<;>rfl)⟩
   |f=>
    unfold cX
    simp only
    cases decide ((r.np:Int)≥8) with
    |true=>exact h
    |false=>exact ⟨(by show gZ true r.cp 1=pq (r.np+1);cases r.cp<;>rfl),(by show gZ true r.cl 1=pq (r.nl+1);cases r.cl<;>rfl)⟩
 · unfold ek
   cases hd:decide (aI o.player r.ps 0<0) with
   |true=>exact h
   |false=>
    cases v with
    |n=>rw [hn rfl] at hd;cases hd
    |s=>exact ⟨o7 _ _,o7 _ _⟩
    |f=>exact ⟨o7 _ _,o7 _ _⟩
 · exact h
theorem RU {o:gQ}:(oC r v o).1.same r:=by
 unfold oC
 refine rq (Q:=fun (z:RS×Vr×Int×Int) (_:Unit) (_:Unit)=>z.1.same r) o.kind (a':=()) (b':=()) (c':=()) (d':=()) (e':=()) (f':=()) (a1:=()) (b1:=()) (c1:=()) (d1:=()) (e1:=()) (f1:=()) ?_ ?_ ?_ ?_ ?_ ?_
 · exact FI _ _ _ _
 · exact vb _ _ _ _ _ _
 · exact vG _ _
 · exact uK _ _
 · exact tp _ _
 · exact .rfl' r
def Ts (v:Vr) (ok:Bool) (z:RS×Vr×Int×Int) (y:WS×Int×Int):Prop:=ok=true∧goes v z.2.1=true∧mH y.1 z.1 z.2.1∧z.2.2=y.2∧ey z.1.ps
theorem mH.op (h:mH s r v) (hi:s.Inv k) (hk:k≤1000) (hx:ey r.ps) (hX:CQ r v) (o:gQ):Ts v (B8 r v o) (oC r v o) (Gu s o):=by
 have e:Gu s o=JP o.kind (doS s o.player o.cmd,0,(og s o.player o.cmd s.ps).1) (eu s o.player o.shot o.dir o.ahead) (cL s,0,0) (eh s,(bif bI s then 0 else IntKind.i64.wrap (s.given+1)),bif bI s then 5 else 0) (dF s o.player,0,bif de o.player s.ps then 0 else 6) (s,0,0):=rfl
 rw [e]
 have hc:v≠ .n→jQ r:=fun hv=>hX.ok hv
 unfold B8 oC
 refine rq (Q:=Ts v) o.kind ?_ ?_ ?_ ?_ ?_ ?_
 · obtain ⟨h1,h2,h3,h4⟩:=h.do hi hx o.player o.cmd
   exact ⟨h1,dj h,h2,by rw [h3],h4⟩
 · exact h.fire hi hk hx o.player o.shot o.ahead o.dir
 · obtain ⟨h1,h2,h3,h4⟩:=h.tick hi hk hx
   exact ⟨h1,h2,h3,rfl,h4⟩
 · obtain ⟨h1,h2,h3,h4,h5⟩:=h.join hi hk hx hc
   exact ⟨h1,h2,h3,h4,h5⟩
 · obtain ⟨h1,h2,h3,h4⟩:=h.leave hi hx hc o.player
   exact ⟨h1,dj h,h2,by rw [h3],h4⟩
 · exact ⟨rfl,dj h,h,rfl,hx⟩
end
noncomputable def zd (w d h:Int) (len off:Nat) (xs:List Bool) (ls off2:Nat) (sp:List V3):Bool:=
 ((af w d h len fun j=>xs.getD (off+j) false).sized&&(!((ls:Int)==0)&& !decide ((ls:Int)>64)))&&db (af w d h len fun j=>xs.getD (off+j) false).freeC (gf sp off2) ls 0
theorem Pa (w d h:Int) (len off:Nat) (xs:List Bool) (ls off2:Nat) (sp:List V3):zd w d h len off xs ls off2 sp=l9 w d h len off xs ls off2 sp:=by
 unfold zd l9 Mp.right
 rw [show (af w d h len fun j=>xs.getD (off+j) false).free=(af w d h len fun j=>xs.getD (off+j) false).freeC from funext fun p=>F1 _ p]
noncomputable def wF (args:List SV) (rows:List Row):Option aL:=match args with
 |[.agg [.int .i64 w,.int .i64 d,.int .i64 h,.slice id 1 off len _,.slice id2 3 off2 ls _]]=>match rows[id]?,rows[id2]? with
  |some (.vec _ .bool xs),some (.vec _ .vec sp)=>some {ok:=newC w d h len off xs ls off2 sp&&zd w d h len off xs ls off2 sp,val:=.tuple [.ptr rows.length 0 0 0,.int .i64 0],rd:=[id,id2],nw:=[.obj (lY w d h len off xs ls off2 sp)]}
  |_,_=>none
 |_=>none
theorem HD (args:List SV) (rows:List Row):wF args rows=Ao args rows:=by
 have :(fun (w d h:Int) (len off:Nat) (xs:List Bool) (ls off2:Nat) (sp:List V3)=>zd w d h len off xs ls off2 sp)=l9:=by
  funext w d h len off xs ls off2 sp
  exact Pa ..
 have e:zd=l9:=this
 unfold wF Ao
 rw [e]<;>rfl
theorem Ho {args:List SV} {rows:List Row} {e:aL} (h:wF args rows=some e) (hok:e.ok=true):dp Tryz.prog 6 args (rows[·]?) rows.length e:=by
 rw [HD] at h
 exact Ae h hok
noncomputable def Nr:mL:=⟨6,wF,fun _ _ _ h hok=>Ho h hok,aq Tryz.func6 (by kernel_rfl)⟩
noncomputable def Yc:bS:=xS [17] [] [Nr,Bm,zC,BI,qk,vi,FY]
theorem Rt:bV Tryz.prog Yc:=pI (by kernel_rfl)
theorem B4:bO Yc (fun _ _=>none) 5000 4 Tryz.f4 (fun v _=>some (v,[])) [] []=some (.bool true,[]):=by kernel_rfl
theorem Da:∃rows',cQ Tryz.prog 4 [] [] (.bool true) rows':=by
 obtain ⟨v,rows',hk,hc⟩:=mq Rt ag Tryz.func4 B4
 simp only [Option.some.injEq,Prod.mk.injEq] at hk
 obtain ⟨rfl,_⟩:=hk
 exact ⟨rows',hc.plain rfl⟩
noncomputable def EN:bY:=⟨4,fun args _=>C7 (.bool true) args,fun _ _ _ h _=>Da.elim fun _ hc=>Iw hc rfl h,aq Tryz.func4 (by kernel_rfl)⟩
noncomputable def MW:bS:=aV [] []
theorem zl:bV Tryz.prog MW:=aD (by kernel_rfl)
noncomputable def MA:bS:=aV [] []
theorem yw:bV Tryz.prog MA:=aD (by kernel_rfl)
def wI (ka kb:Nat) (i:Int):List SV:=[.slice 0 15 0 ka none,.slice 1 15 0 kb none,.bool false,.int .i64 i]
def wB (xs ys:List Pl):List Row:=[.vec true .pl xs,.vec true .pl ys]
noncomputable def Tn:List SV→List Row→Option aj:=bj MW (fun _ _=>none) 100 12 [0,1,0,1,1] (bg Tryz.f12 [0,1,0,1,1]) 26 2 [0,1,4,5]
theorem vk (xs ys:List Pl) (ka kb:Nat) (i:Int):Tn (wI ka kb i) (wB xs ys)=
 bif decide (i<(↑ka:Int)) then
 bif decide (0≤i)&&decide (i<(↑ka:Int)) then
 bif decide (0+i.toNat<xs.length) then
 bif decide (0≤i)&&decide (i<(↑kb:Int)) then
 bif decide (0+i.toNat<ys.length) then
 bif
 !((xs.getD (0+i.toNat) aA.pl.dflt).id==(ys.getD (0+i.toNat) aA.pl.dflt).id&&
 ((xs.getD (0+i.toNat) aA.pl.dflt).pos.x==(ys.getD (0+i.toNat) aA.pl.dflt).pos.x&&
 ((xs.getD (0+i.toNat) aA.pl.dflt).pos.y==(ys.getD (0+i.toNat) aA.pl.dflt).pos.y&&
 ((xs.getD (0+i.toNat) aA.pl.dflt).pos.z==(ys.getD (0+i.toNat) aA.pl.dflt).pos.z&&
 ((xs.getD (0+i.toNat) aA.pl.dflt).vel.x==(ys.getD (0+i.toNat) aA.pl.dflt).vel.x&&
 ((xs.getD (0+i.toNat) aA.pl.dflt).vel.y==(ys.getD (0+i.toNat) aA.pl.dflt).vel.y&&
 ((xs.getD (0+i.toNat) aA.pl.dflt).vel.z==(ys.getD (0+i.toNat) aA.pl.dflt).vel.z&&
 ((xs.getD (0+i.toNat) aA.pl.dflt).ground==(ys.getD (0+i.toNat) aA.pl.dflt).ground&&
 ((xs.getD (0+i.toNat) aA.pl.dflt).health==(ys.getD (0+i.toNat) aA.pl.dflt).health&&
 ((xs.getD (0+i.toNat) aA.pl.dflt).armour==(ys.getD (0+i.toNat) aA.pl.dflt).armour&&
 ((xs.getD (0+i.toNat) aA.pl.dflt).score==(ys.getD (0+i.toNat) aA.pl.dflt).score&&
 ((xs.getD (0+i.toNat) aA.pl.dflt).a0==(ys.getD (0+i.toNat) aA.pl.dflt).a0&&
 ((xs.getD (0+i.toNat) aA.pl.dflt).a1==(ys.getD (0+i.toNat) aA.pl.dflt).a1&&
 ((xs.getD (0+i.toNat) aA.pl.dflt).wait==(ys.getD (0+i.toNat) aA.pl.dflt).wait&&
 ((xs.getD (0+i.toNat) aA.pl.dflt).dead==(ys.getD (0+i.toNat) aA.pl.dflt).dead&&true))))))))))))))) then
 some (SV.tuple [SV.nils,SV.tuple [SV.slice 0 15 0 ka none,SV.slice 1 15 0 kb none,SV.bool false,.int .i64 i]],[Row.vec true aA.pl xs,Row.vec true aA.pl ys])
 else
 some
 (SV.tuple [SV.nilp,SV.tuple [SV.slice 0 15 0 ka none,SV.slice 1 15 0 kb none,SV.bool false,.int .i64 (IntKind.i64.wrap (i+1))]],
 [Row.vec true aA.pl xs,Row.vec true aA.pl ys])
 else none
 else none
 else none
 else none
 else some (SV.tuple [SV.ptr 0 0 0 0,SV.tuple [SV.slice 0 15 0 ka none,SV.slice 1 15 0 kb none,SV.bool false,.int .i64 i]],[Row.vec true aA.pl xs,Row.vec true aA.pl ys]):=by kernel_rfl
def Rn (x y:Pl):Bool:=(x.id==y.id&&(x.pos.x==y.pos.x&&(x.pos.y==y.pos.y&&(x.pos.z==y.pos.z&&(x.vel.x==y.vel.x&&(x.vel.y==y.vel.y&&(x.vel.z==y.vel.z&&(x.ground==y.ground&&(x.health==y.health&&(x.armour==y.armour&&(x.score==y.score&&(x.a0==y.a0&&(x.a1==y.a1&&(x.wait==y.wait&&(x.dead==y.dead&&true)))))))))))))))
def ju:List Pl→List Pl→Bool
 |[],[]=>true
 |x::l,y::m=>Rn x y&&ju l m
 |_,_=>false
theorem GZ (x:Pl):Rn x x=true:=by
 unfold Rn
 simp only [beq_self_eq_true,Bool.and_self]
theorem tL:∀l:List Pl,ju l l=true
 |[]=>rfl
 |x::l=>by rw [ju,GZ,tL l];rfl
theorem pf:∀{l m:List Pl},ju l m=true→l.length=m.length
 |[],[],_=>rfl
 |[],_::_,h=>by cases h
 |_::_,[],h=>by cases h
 |x::l,y::m,h=>by
  rw [ju,Bool.and_eq_true] at h
  rw [List.length_cons,List.length_cons,pf h.2]
theorem Az {xs ys:List Pl} (hk:xs.length≤1000) (hy:ys.length=xs.length):∀(n i:Nat),i+n=xs.length→ju (xs.drop i) (ys.drop i)=true→
    aJ Tn (wI xs.length ys.length i) (wB xs ys) (.exit 0) (wI xs.length ys.length xs.length) (wB xs ys)
 |0,i,h1,h2=>by
  obtain rfl:i=xs.length:=by omega
  refine .done ?_ (by simp)
  rw [vk,decide_eq_false (by omega),cond_false]
  rfl
 | n+1,i,h1,h2=>by
  have hi:i<xs.length:=by omega
  have hj:i<ys.length:=by omega
  rw [List.drop_eq_getElem_cons hi,List.drop_eq_getElem_cons hj,ju,Bool.and_eq_true] at h2
  have hro:=vk xs ys xs.length ys.length i
  have e0:xs.getD (0+((i:Int)).toNat) aA.pl.dflt=xs[i]:=by
   rw [show 0+((i:Int)).toNat=i by omega]
   exact fJ _ hi
  have e1:ys.getD (0+((i:Int)).toNat) aA.pl.dflt=ys[i]:=by
   rw [show 0+((i:Int)).toNat=i by omega]
   exact fJ _ hj
  have e2:=h2.1
  unfold Rn at e2
  rw [e0,e1,e2,decide_eq_true (show (i:Int)<(xs.length:Int) by omega),decide_eq_true (show (i:Int)<(ys.length:Int) by omega),decide_eq_true (show (0:Int)≤(i:Int) by omega),decide_eq_true (show 0+((i:Int)).toNat<xs.length by omega),decide_eq_true (show 0+((i:Int)).toNat<ys.length by omega),IntWalk.i64_in ((i:Int)+1) (by omega)] at hro
  simp only [Bool.and_self,Bool.not_true,cond_true,cond_false] at hro
  have ih:=Az hk hy n (i+1) (by omega) h2.2
  rw [show ((i+1:Nat):Int)=(i:Int)+1 by omega] at ih
  exact .more hro ih
noncomputable def ND (v:List SV) (R:List Row) (k:Ex→List SV→List Row→Option aj):Option aj:=match v,R with
 | [.slice 0 15 0 ka none,.slice 1 15 0 kb none,.bool false,.int .i64 i],[.vec true .pl xs,.vec true .pl ys]=>
     bif decide (i=0)&&((decide (ka=xs.length)&&decide (kb=ys.length))&&(decide (ka≤1000)&&ju xs ys)) then k (.exit 0) (wI ka kb ka) (wB xs ys) else none
 |_,_=>none
theorem Jk:da 12 [0,1,0,1,1] (bG 26 [0,1,4,5] ND):=by
 intro b hat s K r h
 refine aQ (fuel:=100) zl ag hat (fun v R k r hr=>?_) h
 have hbody:=aZ Tryz.func12 hat
 subst hbody
 unfold ND at hr
 split at hr
 · rename_i ka kb i xs ys
   obtain ⟨hb,hr2⟩:=al hr
   simp only [Bool.and_eq_true,decide_eq_true_eq] at hb
   obtain ⟨rfl,⟨h1,h2⟩,h3,h4⟩:=hb
   have e1:ka=List.length (α:=Pl) xs:=h1
   have e2:kb=List.length (α:=Pl) ys:=h2
   subst e1
   subst e2
   exact ⟨_,_,_,hr2,Az (xs:=xs) (ys:=ys) h3 (pf h4).symm (List.length (α:=Pl) xs) 0 (by omega) h4⟩
 · cases hr
noncomputable def VT:jh:=⟨_,_,_,Jk⟩
theorem D6 (xs ys:List Pl) (ka kb:Nat):aH MW (aF [VT]) 200 12 Tryz.f12 0 [.slice 0 15 0 ka none,.slice 1 15 0 kb none] [.vec true .pl xs,.vec true .pl ys]=
 bif (↑ka:Int) !=(↑kb:Int) then some (SV.bool false,[]) else bif decide (ka=xs.length)&&decide (kb=ys.length)&&(decide (ka≤1000)&&ju xs ys) then some (SV.bool true,[]) else none:=by kernel_rfl
def wh (args:List SV) (rows:List Row):Option aL:=
 match args with
 |[.slice ia 15 0 la none,.slice ib 15 0 lb none]=>match rows[ia]?,rows[ib]? with
  |some (.vec _ .pl xs),some (.vec _ .pl ys)=>some {ok:=(decide (la=xs.length)&&decide (lb=ys.length))&&(decide (la≤1000)&&ju xs ys),val:=.bool true,rd:=[ia,ib]}
  |_,_=>none
 |_=>none
theorem C4 {ia ib:Nat} {ra rb ok:Bool} {xs ys:List Pl} {rows:List Row} {n:Nat} (h1:rows[ia]? =some (.vec ra .pl xs)) (h2:rows[ib]? =some (.vec rb .pl ys)) (hk:xs.length≤1000) (hs:ju xs ys=true):
    aN Tryz.prog 12 [.slice ia 15 0 xs.length none,.slice ib 15 0 ys.length none] (rows[·]?) n {ok:=ok,val:=.bool true,rd:=[ia,ib]}:=by
 have hl:=pf hs
 have hv:=D6 xs ys xs.length ys.length
 rw [hs,decide_eq_true hk,hl,bne_self_eq_false,decide_eq_true rfl] at hv
 simp only [Bool.and_self,cond_true,cond_false] at hv
 obtain ⟨rows',hc,ht⟩:=aC zl aG Tryz.func12 hv
 rw [hl]
 refine eK hc rfl (σ:=[ia,ib]) rfl (fun i hi=>by simp [SV.idsL,SV.ids] at hi;rcases hi with rfl |rfl<;>simp) (fun i row hr=>?_)
 match i with
 |0=>simp at hr;subst hr;exact ⟨.pl,xs,ra,rfl,h1⟩
 |1=>simp at hr;subst hr;exact ⟨.pl,ys,rb,rfl,h2⟩
 |i+2=>simp at hr
theorem vD {args:List SV} {rows:List Row} {n:Nat} {e:aL} (h:wh args rows=some e) (hok:e.ok=true):aN Tryz.prog 12 args (rows[·]?) n e:=by
 unfold wh at h
 split at h
 · rename_i ia la ib lb
   split at h
   · rename_i ra xs rb ys hxr hyr
     cases h
     simp only [Bool.and_eq_true,decide_eq_true_eq] at hok
     obtain ⟨⟨h1,h2⟩,h3,h4⟩:=hok
     have e1:la=List.length (α:=Pl) xs:=h1
     have e2:lb=List.length (α:=Pl) ys:=h2
     subst e1
     subst e2
     exact C4 (xs:=xs) (ys:=ys) hxr hyr h3 h4
   · cases h
 · cases h
theorem uG {l:List Sh} (z:Sh) {i:Nat} (h:i<l.length):l.getD i z=l[i]:=by
 simp [List.getD,List.getElem?_eq_getElem h]
def wl (ka kb:Nat) (i:Int):List SV:=[.slice 0 11 0 ka none,.slice 1 11 0 kb none,.bool false,.int .i64 i]
def wQ (xs ys:List Sh):List Row:=[.vec true .sh xs,.vec true .sh ys]
noncomputable def TK:List SV→List Row→Option aj:=bj MA (fun _ _=>none) 100 14 [0,1,0,1,1] (bg Tryz.f14 [0,1,0,1,1]) 26 2 [0,1,4,5]
theorem uy (xs ys:List Sh) (ka kb:Nat) (i:Int):TK (wl ka kb i) (wQ xs ys)=
 bif decide (i<(↑ka:Int)) then
 bif decide (0≤i)&&decide (i<(↑ka:Int)) then
 bif decide (0+i.toNat<xs.length) then
 bif decide (0≤i)&&decide (i<(↑kb:Int)) then
 bif decide (0+i.toNat<ys.length) then
 bif
 !((xs.getD (0+i.toNat) aA.sh.dflt).id==(ys.getD (0+i.toNat) aA.sh.dflt).id&&
 ((xs.getD (0+i.toNat) aA.sh.dflt).owner==(ys.getD (0+i.toNat) aA.sh.dflt).owner&&
 ((xs.getD (0+i.toNat) aA.sh.dflt).kind==(ys.getD (0+i.toNat) aA.sh.dflt).kind&&
 ((xs.getD (0+i.toNat) aA.sh.dflt).pos.x==(ys.getD (0+i.toNat) aA.sh.dflt).pos.x&&
 ((xs.getD (0+i.toNat) aA.sh.dflt).pos.y==(ys.getD (0+i.toNat) aA.sh.dflt).pos.y&&
 ((xs.getD (0+i.toNat) aA.sh.dflt).pos.z==(ys.getD (0+i.toNat) aA.sh.dflt).pos.z&&
 ((xs.getD (0+i.toNat) aA.sh.dflt).vel.x==(ys.getD (0+i.toNat) aA.sh.dflt).vel.x&&
 ((xs.getD (0+i.toNat) aA.sh.dflt).vel.y==(ys.getD (0+i.toNat) aA.sh.dflt).vel.y&&
 ((xs.getD (0+i.toNat) aA.sh.dflt).vel.z==(ys.getD (0+i.toNat) aA.sh.dflt).vel.z&&
 ((xs.getD (0+i.toNat) aA.sh.dflt).fuse==(ys.getD (0+i.toNat) aA.sh.dflt).fuse&&
 ((xs.getD (0+i.toNat) aA.sh.dflt).rest==(ys.getD (0+i.toNat) aA.sh.dflt).rest&&true))))))))))) then
 some (SV.tuple [SV.nils,SV.tuple [SV.slice 0 11 0 ka none,SV.slice 1 11 0 kb none,SV.bool false,.int .i64 i]],[Row.vec true aA.sh xs,Row.vec true aA.sh ys])
 else
 some
 (SV.tuple [SV.nilp,SV.tuple [SV.slice 0 11 0 ka none,SV.slice 1 11 0 kb none,SV.bool false,.int .i64 (IntKind.i64.wrap (i+1))]],
 [Row.vec true aA.sh xs,Row.vec true aA.sh ys])
 else none
 else none
 else none
 else none
 else some (SV.tuple [SV.ptr 0 0 0 0,SV.tuple [SV.slice 0 11 0 ka none,SV.slice 1 11 0 kb none,SV.bool false,.int .i64 i]],[Row.vec true aA.sh xs,Row.vec true aA.sh ys]):=by kernel_rfl
def RM (x y:Sh):Bool:=(x.id==y.id&&(x.owner==y.owner&&(x.kind==y.kind&&(x.pos.x==y.pos.x&&(x.pos.y==y.pos.y&&(x.pos.z==y.pos.z&&(x.vel.x==y.vel.x&&(x.vel.y==y.vel.y&&(x.vel.z==y.vel.z&&(x.fuse==y.fuse&&(x.rest==y.rest&&true)))))))))))
def jp:List Sh→List Sh→Bool
 |[],[]=>true
 |x::l,y::m=>RM x y&&jp l m
 |_,_=>false
theorem Hv (x:Sh):RM x x=true:=by
 unfold RM
 simp only [beq_self_eq_true,Bool.and_self]
theorem rZ:∀l:List Sh,jp l l=true
 |[]=>rfl
 |x::l=>by rw [jp,Hv,rZ l];rfl
theorem pp:∀{l m:List Sh},jp l m=true→l.length=m.length
 |[],[],_=>rfl
 |[],_::_,h=>by cases h
 |_::_,[],h=>by cases h
 |x::l,y::m,h=>by
  rw [jp,Bool.and_eq_true] at h
  rw [List.length_cons,List.length_cons,pp h.2]
theorem Bh {xs ys:List Sh} (hk:xs.length≤1000) (hy:ys.length=xs.length):∀(n i:Nat),i+n=xs.length→jp (xs.drop i) (ys.drop i)=true→
    aJ TK (wl xs.length ys.length i) (wQ xs ys) (.exit 0) (wl xs.length ys.length xs.length) (wQ xs ys)
 |0,i,h1,h2=>by
  obtain rfl:i=xs.length:=by omega
  refine .done ?_ (by simp)
  rw [uy,decide_eq_false (by omega),cond_false]
  rfl
 | n+1,i,h1,h2=>by
  have hi:i<xs.length:=by omega
  have hj:i<ys.length:=by omega
  rw [List.drop_eq_getElem_cons hi,List.drop_eq_getElem_cons hj,jp,Bool.and_eq_true] at h2
  have hro:=uy xs ys xs.length ys.length i
  have e0:xs.getD (0+((i:Int)).toNat) aA.sh.dflt=xs[i]:=by
   rw [show 0+((i:Int)).toNat=i by omega]
   exact uG _ hi
  have e1:ys.getD (0+((i:Int)).toNat) aA.sh.dflt=ys[i]:=by
   rw [show 0+((i:Int)).toNat=i by omega]
   exact uG _ hj
  have e2:=h2.1
  unfold RM at e2
  rw [e0,e1,e2,decide_eq_true (show (i:Int)<(xs.length:Int) by omega),decide_eq_true (show (i:Int)<(ys.length:Int) by omega),decide_eq_true (show (0:Int)≤(i:Int) by omega),decide_eq_true (show 0+((i:Int)).toNat<xs.length by omega),decide_eq_true (show 0+((i:Int)).toNat<ys.length by omega),IntWalk.i64_in ((i:Int)+1) (by omega)] at hro
  simp only [Bool.and_self,Bool.not_true,cond_true,cond_false] at hro
  have ih:=Bh hk hy n (i+1) (by omega) h2.2
  rw [show ((i+1:Nat):Int)=(i:Int)+1 by omega] at ih
  exact .more hro ih
noncomputable def Ly (v:List SV) (R:List Row) (k:Ex→List SV→List Row→Option aj):Option aj:=match v,R with
 | [.slice 0 11 0 ka none,.slice 1 11 0 kb none,.bool false,.int .i64 i],[.vec true .sh xs,.vec true .sh ys]=>
     bif decide (i=0)&&((decide (ka=xs.length)&&decide (kb=ys.length))&&(decide (ka≤1000)&&jp xs ys)) then k (.exit 0) (wl ka kb ka) (wQ xs ys) else none
 |_,_=>none
theorem Hm:da 14 [0,1,0,1,1] (bG 26 [0,1,4,5] Ly):=by
 intro b hat s K r h
 refine aQ (fuel:=100) yw ag hat (fun v R k r hr=>?_) h
 have hbody:=aZ Tryz.func14 hat
 subst hbody
 unfold Ly at hr
 split at hr
 · rename_i ka kb i xs ys
   obtain ⟨hb,hr2⟩:=al hr
   simp only [Bool.and_eq_true,decide_eq_true_eq] at hb
   obtain ⟨rfl,⟨h1,h2⟩,h3,h4⟩:=hb
   have e1:ka=List.length (α:=Sh) xs:=h1
   have e2:kb=List.length (α:=Sh) ys:=h2
   subst e1
   subst e2
   exact ⟨_,_,_,hr2,Bh (xs:=xs) (ys:=ys) h3 (pp h4).symm (List.length (α:=Sh) xs) 0 (by omega) h4⟩
 · cases hr
noncomputable def WP:jh:=⟨_,_,_,Hm⟩
theorem Dv (xs ys:List Sh) (ka kb:Nat):aH MA (aF [WP]) 200 14 Tryz.f14 0 [.slice 0 11 0 ka none,.slice 1 11 0 kb none] [.vec true .sh xs,.vec true .sh ys]=
 bif (↑ka:Int) !=(↑kb:Int) then some (SV.bool false,[]) else bif decide (ka=xs.length)&&decide (kb=ys.length)&&(decide (ka≤1000)&&jp xs ys) then some (SV.bool true,[]) else none:=by kernel_rfl
def ym (args:List SV) (rows:List Row):Option aL:=
 match args with
 |[.slice ia 11 0 la none,.slice ib 11 0 lb none]=>match rows[ia]?,rows[ib]? with
  |some (.vec _ .sh xs),some (.vec _ .sh ys)=>some {ok:=(decide (la=xs.length)&&decide (lb=ys.length))&&(decide (la≤1000)&&jp xs ys),val:=.bool true,rd:=[ia,ib]}
  |_,_=>none
 |_=>none
theorem DS {ia ib:Nat} {ra rb ok:Bool} {xs ys:List Sh} {rows:List Row} {n:Nat} (h1:rows[ia]? =some (.vec ra .sh xs)) (h2:rows[ib]? =some (.vec rb .sh ys)) (hk:xs.length≤1000) (hs:jp xs ys=true):
    aN Tryz.prog 14 [.slice ia 11 0 xs.length none,.slice ib 11 0 ys.length none] (rows[·]?) n {ok:=ok,val:=.bool true,rd:=[ia,ib]}:=by
 have hl:=pp hs
 have hv:=Dv xs ys xs.length ys.length
 rw [hs,decide_eq_true hk,hl,bne_self_eq_false,decide_eq_true rfl] at hv
 simp only [Bool.and_self,cond_true,cond_false] at hv
 obtain ⟨rows',hc,ht⟩:=aC yw aG Tryz.func14 hv
 rw [hl]
 refine eK hc rfl (σ:=[ia,ib]) rfl (fun i hi=>by simp [SV.idsL,SV.ids] at hi;rcases hi with rfl |rfl<;>simp) (fun i row hr=>?_)
 match i with
 |0=>simp at hr;subst hr;exact ⟨.sh,xs,ra,rfl,h1⟩
 |1=>simp at hr;subst hr;exact ⟨.sh,ys,rb,rfl,h2⟩
 |i+2=>simp at hr
theorem vj {args:List SV} {rows:List Row} {n:Nat} {e:aL} (h:ym args rows=some e) (hok:e.ok=true):aN Tryz.prog 14 args (rows[·]?) n e:=by
 unfold ym at h
 split at h
 · rename_i ia la ib lb
   split at h
   · rename_i ra xs rb ys hxr hyr
     cases h
     simp only [Bool.and_eq_true,decide_eq_true_eq] at hok
     obtain ⟨⟨h1,h2⟩,h3,h4⟩:=hok
     have e1:la=List.length (α:=Sh) xs:=h1
     have e2:lb=List.length (α:=Sh) ys:=h2
     subst e1
     subst e2
     exact DS (xs:=xs) (ys:=ys) hxr hyr h3 h4
   · cases h
 · cases h
def Z2 (w d h:Int):Bool:=bif (bif decide (w≤10)==true then (bif true then decide (d≤10) else false) else false)==true then (bif true then decide (h≤10) else false) else false
def sm1 (w d h:Int) (len ls:Nat) (xs:List Bool) (sp:List V3):Bool:=
 ((true&&((aP w d h len&&(decide (0+len≤xs.length)&&(decide (0+ls≤sp.length)&&(decide (ls≤9223372036854775807)&&sp.all aw))))&&(true&&true)))&&true||(Z2 w d h !=true))&&(!!true||Z2 w d h==true)&&true
noncomputable def Zc (w d h:Int) (len ls:Nat) (xs:List Bool) (sp:List V3):Bool:= !(bif Z2 w d h==true then (bif true then kf (l9 w d h len 0 xs ls 0 sp)==0 else false) else false)
section
variable {w d h:Int} {len ls:Nat} {xs:List Bool} {sp:List V3}
structure zW (w d h:Int) (len ls:Nat) (xs:List Bool) (sp:List V3):Prop where
 iw:aU w
 id:aU d
 ih:aU h
 il:len≤9223372036854775807
 ix:xs.length=len
 ils:ls≤9223372036854775807
 isp:sp.length=ls
 fit:∀p∈sp,p.fits
theorem zW.sm1 (a:zW w d h len ls xs sp):sm1 w d h len ls xs sp=true:=by
 obtain ⟨c1,_,_⟩:=pU a.iw a.id a.ih a.il a.ix a.ils a.isp a.fit
 unfold Go.Proofs.YtimkhidniolpeaaGreat.sm1
 rw [c1]
 simp
theorem zW.newC (a:zW w d h len ls xs sp):newC w d h len 0 xs ls 0 sp=true:=(pU a.iw a.id a.ih a.il a.ix a.ils a.isp a.fit).1
theorem HB (hb:Zc w d h len ls xs sp=false):l9 w d h len 0 xs ls 0 sp=true:=by
 unfold Zc at hb
 cases hv:l9 w d h len 0 xs ls 0 sp with
 |true=>rfl
 |false=>
  rw [hv] at hb
  cases Z2 w d h<;>simp [kf] at hb
theorem zW.inv (a:zW w d h len ls xs sp) (hv:l9 w d h len 0 xs ls 0 sp=true):(lY w d h len 0 xs ls 0 sp).Inv 0:=by
 have hc:=a.newC
 unfold Go.Proofs.YtimkhidniolpeaaGreat.newC at hc
 simp only [Bool.and_eq_true,decide_eq_true_eq,List.all_eq_true] at hc
 obtain ⟨h1,h2,h3,h4,h5⟩:=hc
 unfold l9 Mp.right at hv
 simp only [Bool.and_eq_true,Bool.not_eq_true',beq_eq_false_iff_ne,decide_eq_false_iff_not] at hv
 obtain ⟨⟨_,k1,k2⟩,_⟩:=hv
 have e1:((xs.drop 0).take len).length=len:=by rw [List.length_take,List.length_drop];omega
 have e2:((sp.drop 0).take ls).length=ls:=by rw [List.length_take,List.length_drop];omega
 refine ⟨?_,?_,fun p hp=>?_,by simp [lY],by simp [lY],by simp [lY],by simp [lY],by simp [lY],by simp [lY]⟩
 · show aP w d h ((xs.drop 0).take len).length=true
   rw [e1]
   exact h1
 · show 1≤((sp.drop 0).take ls).length∧((sp.drop 0).take ls).length≤64
   rw [e2]
   omega
 · exact a.fit p (List.mem_of_mem_drop (List.mem_of_mem_take hp))
end
def ub (cs:List gQ) (i:Int):gQ:=cs.getD (0+i.toNat) aA.wop.dflt
def YP:Ex→Bool
 |.ret=>true
 |_=>false
def Xz (N n0:Nat) (keep:List Nat) (e:Ex) (s:St):Option aj:=bif YP e then some (.nils,[]) else JT N n0 keep e s
theorem E7 {N n0:Nat} {keep:List Nat} {e:Ex} {s:St} {l:List SV} {R:List Row} (h:Xz N n0 keep e s=some (.tuple l,R)):JT N n0 keep e s=some (.tuple l,R):=by
 unfold Xz at h
 cases hb:YP e with
 |true=>rw [hb] at h;cases h
 |false=>rw [hb] at h;exact h
def Lv (X:bS) (L:Nat→List Nat→Option dq) (fuel f:Nat) (p:List Nat) (b:Code) (N n0:Nat) (keep:List Nat) (v:List SV) (R:List Row):Option aj:=
 fL X L fuel f (0::p) b (mD N keep v R) (Xz N n0 keep)
def Qe (P:Program) (f:Nat) (p:List Nat) (b:Code) (N n0:Nat) (keep:List Nat) (v:List SV) (R:List Row) (e1:Ex) (v1:List SV) (R1:List Row):Prop:=
 ∃X L fuel,bV P X∧AM P L∧Lv X L fuel f p b N n0 keep v R=some (.tuple [Gr e1,.tuple v1],R1)
inductive qO (S:List SV→List Row→Ex→List SV→List Row→Prop):List SV→List Row→Ex→List SV→List Row→Prop
 |done {v R e v' R'}:S v R e v' R'→e≠ .normal→qO S v R e v' R'
 |more {v R v1 R1 e v' R'}:S v R .normal v1 R1→qO S v1 R1 e v' R'→qO S v R e v' R'
theorem Np {P:Program} {f:Nat} {p:List Nat} {b:Code} (hat:At P f p (.loop b)) {N n0:Nat} {keep:List Nat} {v v':List SV} {R R':List Row} {e:Ex}
    (h:qO (Qe P f p b N n0 keep) v R e v' R'):∃m,∀(ρ0:aR) (m0:jM) (w0:World),(∀i,m0 i=none↔n0≤i)→(∀i,m0 i=none→ρ0 i=none)→
     ∀(ρ:aR) (a:Act) (w:World),dt ρ (mD N keep v R).cf a w→dE ρ0 m0 w0 ρ (mD N keep v R).cf.m w→∀Q:Exit→Act→World→Prop,
      (∀ρ' a' w',dt ρ' (mD N keep v' R').cf a' w'→dE ρ0 m0 w0 ρ' (mD N keep v' R').cf.m w'→Q e.to a' w')→Code.rounds P b Q m a w:=by
 have step:∀{v R e1 v1 R1},Qe P f p b N n0 keep v R e1 v1 R1→∀(ρ0:aR) (m0:jM) (w0:World),(∀i,m0 i=none↔n0≤i)→(∀i,m0 i=none→ρ0 i=none)→
     ∀(ρ:aR) (a:Act) (w:World),dt ρ (mD N keep v R).cf a w→dE ρ0 m0 w0 ρ (mD N keep v R).cf.m w→∀Q:Exit→Act→World→Prop,
      (∀ρ' a' w',dt ρ' (mD N keep v1 R1).cf a' w'→dE ρ0 m0 w0 ρ' (mD N keep v1 R1).cf.m w'→Q e1.to a' w')→b.wp P Q a w:=by
  rintro v R e1 v1 R1 ⟨X,L,fuel,hX,hL,hr⟩ ρ0 m0 w0 hm0 hf0 ρ a w hs hp Q hQ
  obtain ⟨e2,s2,h1,h2⟩:=nX hX hL fuel f (0::p) b _ _ _ hr (hat.child rfl)
  have h1:=E7 h1
  unfold JT at h1
  split at h1
  · rename_i v2 R2 hn
    simp only [Option.some.injEq,Prod.mk.injEq,SV.tuple.injEq,List.cons.injEq,and_true] at h1
    obtain ⟨⟨he,rfl⟩,rfl⟩:=h1
    have:=F5 he
    subst this
    refine h2.tri ρ a w hs Q fun ρ' a' w' g1 g2=>?_
    obtain ⟨k1,k2⟩:=Gp hn g1
    exact hQ _ a' w' k1 (k2 ρ0 m0 w0 hm0 hf0 (hp.trans g2))
  · cases h1
 induction h with
 |done hr hne=>
  refine ⟨1,fun ρ0 m0 w0 hm0 hf0 ρ a w hs hp Q hQ=>?_⟩
  rw [rounds_succ]
  refine step hr ρ0 m0 w0 hm0 hf0 ρ a w hs hp _ fun ρ' a' w' g1 g2=>?_
  rename_i e' _ _
  cases e' with
  |normal=>exact absurd rfl hne
  |exit i=>exact hQ ρ' a' w' g1 g2
  |ret=>exact hQ ρ' a' w' g1 g2
 |more hr _ ih=>
  obtain ⟨m,hm⟩:=ih
  refine ⟨m+1,fun ρ0 m0 w0 hm0 hf0 ρ a w hs hp Q hQ=>?_⟩
  rw [rounds_succ]
  exact step (e1:=.normal) hr ρ0 m0 w0 hm0 hf0 ρ a w hs hp _ fun ρ' a' w' g1 g2=>hm ρ0 m0 w0 hm0 hf0 ρ' a' w' g1 g2 Q hQ
theorem GF {P:Program} {f:Nat} {p:List Nat} {b:Code} (hat:At P f p (.loop b)) {N:Nat} {keep:List Nat} {out:List SV→List Row→(Ex→List SV→List Row→Option aj)→Option aj}
    (hout:∀v R k r,out v R k=some r→∃e v' R',k e v' R'=some r∧qO (Qe P f p b N R.length keep) v R e v' R') {s:St} {K:Ex→St→Option aj} {r:aj} (h:bG N keep out s K=some r):∃e s',K e s'=some r∧OK P b s e s':=by
 unfold bG at h
 cases hb:Nat.beq s.tmps.n N with
 |false=>simp [hb] at h
 |true=>
  simp only [hb,cond_true] at h
  have hN:=Nat.eq_of_beq_eq_true hb
  obtain ⟨e,v',R',h1,h2⟩:=hout _ _ _ _ h
  obtain ⟨m,hm⟩:=Np hat h2
  refine ⟨e,_,h1,m,fun ρ a w hs Q hQ=>?_⟩
  exact hm ρ s.cf.m w (fun i=>by simp [St.cf]) hs.free ρ a w (uz hN hs) (dE.refl ρ s.cf.m w hs.free) Q hQ
theorem zf {ρ:aR} {id st:Nat} {v:Value} (h:aE ρ .nils v):aE ρ (.slice id st 0 0 none) v:=by
 simp only [aE] at h ⊢
 exact .inr ⟨trivial,trivial,_,_,h⟩
theorem nS {ρ:aR} {a b a' b':SV} {vs:List Value} (ha:∀v,aE ρ a v→aE ρ a' v) (hb:∀v,aE ρ b v→aE ρ b' v) (h:au ρ [a,b] vs):au ρ [a',b'] vs:=by
 simp only [au] at h ⊢
 obtain ⟨u,us,rfl,h1,u',us',rfl,h2,rfl⟩:=h
 exact ⟨u,_,rfl,ha u h1,u',_,rfl,hb u' h2,rfl⟩
def xV (args:List SV) (rows:List Row):Option aL:=match args with
 |[.slice ia 15 0 la _,.slice ib 15 0 lb _]=>wh [.slice ia 15 0 la none,.slice ib 15 0 lb none] rows
 |[.slice ia 15 0 la _,.nils]=>wh [.slice ia 15 0 la none,.slice ia 15 0 0 none] rows
 |_=>none
theorem BL {args:List SV} {rows:List Row} {n:Nat} {e:aL} (h:xV args rows=some e) (hok:e.ok=true):aN Tryz.prog 12 args (rows[·]?) n e:=by
 unfold xV at h
 split at h
 · exact cy (vD h hok) fun ρ vs hr=>nS (fun _=>bP) (fun _=>bP) hr
 · exact cy (vD h hok) fun ρ vs hr=>nS (fun _=>bP) (fun _=>zf) hr
 · cases h
noncomputable def Jm:bY:=⟨12,xV,fun _ _ _ h hok=>BL h hok,aq Tryz.func12 (by kernel_rfl)⟩
def we (args:List SV) (rows:List Row):Option aL:=match args with
 |[.slice ia 11 0 la _,.slice ib 11 0 lb _]=>ym [.slice ia 11 0 la none,.slice ib 11 0 lb none] rows
 |[.slice ia 11 0 la _,.nils]=>ym [.slice ia 11 0 la none,.slice ia 11 0 0 none] rows
 |_=>none
theorem E1 {args:List SV} {rows:List Row} {n:Nat} {e:aL} (h:we args rows=some e) (hok:e.ok=true):aN Tryz.prog 14 args (rows[·]?) n e:=by
 unfold we at h
 split at h
 · exact cy (vj h hok) fun ρ vs hr=>nS (fun _=>bP) (fun _=>bP) hr
 · exact cy (vj h hok) fun ρ vs hr=>nS (fun _=>bP) (fun _=>zf) hr
 · cases h
noncomputable def Ir:bY:=⟨14,we,fun _ _ _ h hok=>E1 h hok,aq Tryz.func14 (by kernel_rfl)⟩
noncomputable def Jf (w:Vr):bS:=xS [5,7] [EN,An,HG,Jm,Ir,rR,K3 w] [Sa,P4,qk,vi,FY,Q8]
theorem wu (w:Vr):bV Tryz.prog (Jf w):=pI (by kernel_rfl)
def jx (w d h:Int) (len ls:Nat) (xs:List Bool) (sp:List V3) (cs:List gQ) (s:WS) (r:RS) (v:Vr):List Row:=[.vec true .bool xs,.vec true .vec sp,.vec true .wop cs,.own [.int .i64 w,.int .i64 d,.int .i64 h,.slice 0 1 0 len none,.slice 1 3 0 ls none],.obj s,.own [.int .i64 w,.int .i64 d,.int .i64 h,.slice 0 1 0 len none,.slice 1 3 0 ls none],r.gm 0 1 7 8 9 v]++r.vs v
def jH (ll:Nat) (i:Int):List SV:=[.slice 2 12 0 ll none,.ptr 3 0 0 0,.bool false,.bool true,.ptr 4 0 0 0,.ptr 6 0 0 0,.int .i64 i]
noncomputable def ZJ (w:Vr):List SV→List Row→Option aj:=Lv (Jf w) (fun _ _=>none) 100 3 [0,1,0,1,1,1,1,1,1] (bg Tryz.f3 [0,1,0,1,1,1,1,1,1]) 122 7 [1,2,4,5,6,8,10]
def RS.fx (r:RS) (xs:List Bool) (sp:List V3):RS:={r with xs:=xs,sp:=sp}
def VL (l ys:List Pl) (n:Nat):Bool:=(decide (l.length=l.length)&&decide (n=ys.length))&&(decide (l.length≤1000)&&ju l ys)
def OP (l:List Sh) (r:RS):Vr→Bool
 |.f=>(decide (l.length=l.length)&&decide (r.nh=r.shs.length))&&(decide (l.length≤1000)&&jp l r.shs)
 |_=>(decide (l.length=l.length)&&decide (0=l.length))&&(decide (l.length≤1000)&&jp l l)
def K2 (l:List Pl) (r:RS):Vr→Bool
 |.n=>(decide (l.length=l.length)&&decide (0=l.length))&&(decide (l.length≤1000)&&ju l l)
 |_=>VL l r.ps r.np
noncomputable def Z4 (y:WS×Int×Int) (r1:RS) (e:Int×Int) (w':Vr) (ll n:Nat) (i id left:Int) (k:Option aj):Option aj:=
 bif !(y.2.1==e.1&&(y.2.2==e.2&&true)) then some (.nils,[]) else bif (bif false then true else y.1.now !=r1.now) then some (.nils,[]) else
 bif K2 (y.1.ps.map PL.p) r1 w' then bif decide (y.1.shots.length≤1000) then bif OP y.1.shots r1 w' then
 fU i ll n (bif (bif false then true else lj id y.1.ps !=left) then some (.nils,[]) else k) else none else none else none
noncomputable def pyL (y:WS×Int×Int) (r1:RS) (e:Int×Int) (w':Vr) (ll n:Nat) (i id:Int) (k:Option aj):Option aj:=bif okLen r1 then
 (bif decide (aI id r1.ps 0≥0) then fU (aI id r1.ps 0) r1.nl r1.lf.length (Z4 y r1 e w' ll n i id (r1.lf.getD (0+(aI id r1.ps 0).toNat) 0) k) else Z4 y r1 e w' ll n i id 0 k) else none
noncomputable def Zm (w d h:Int) (len ls ll:Nat) (xs:List Bool) (sp:List V3) (cs:List gQ) (s:WS) (r:RS) (v w':Vr) (i:Int):Option aj:=
 bif nQ (decide (i<(ll:Int))) (decide (i<80)) then fU i ll cs.length (bif Jb s (ub cs i) then fU i ll cs.length (
  bif (B8 ((r.fx xs sp).nm v) v (ub cs i)&&goes v w')&&(oC ((r.fx xs sp).nm v) v (ub cs i)).2.1.eqB w' then fU i ll cs.length (
   pyL (Gu s (ub cs i)) (((oC ((r.fx xs sp).nm v) v (ub cs i)).1.fx xs sp).nm w') (oC ((r.fx xs sp).nm v) v (ub cs i)).2.2 w' ll cs.length i (ub cs i).player
    (some (.tuple [.nilp,.tuple (jH ll (IntKind.i64.wrap (i+1)))],jx w d h len ls xs sp cs (Gu s (ub cs i)).1 (((oC ((r.fx xs sp).nm v) v (ub cs i)).1.fx xs sp).nm w') w')))
  else none) else none) else some (.tuple [.ptr 0 0 0 0,.tuple (jH ll i)],jx w d h len ls xs sp cs s r v)
theorem yA (w d h:Int) (len ls ll:Nat) (xs:List Bool) (sp:List V3) (cs:List gQ) (s:WS) (r:RS) (i:Int):∀v w',goes v w'=true→ZJ w' (jH ll i) (jx w d h len ls xs sp cs s r v)=Zm w d h len ls ll xs sp cs s r v w' i
 |.n,.n,_=>by kernel_rfl
 |.n,.s,_=>by kernel_rfl
 |.s,.s,_=>by kernel_rfl
 |.s,.f,_=>by kernel_rfl
 |.f,.s,_=>by kernel_rfl
 |.f,.f,_=>by kernel_rfl
 |.n,.f,h=>by cases h
 |.s,.n,h=>by cases h
 |.f,.n,h=>by cases h
end Go.Proofs.YtimkhidniolpeaaGreat
