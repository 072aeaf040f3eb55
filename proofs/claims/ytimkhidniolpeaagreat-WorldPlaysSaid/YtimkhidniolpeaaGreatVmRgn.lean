/- Part of the proof. -/
import Derived.Test.YtimkhidniolpeaaGreatWoN
import Derived.Test.YtimkhidniolpeaaGreatVmT
import Derived.Test.YtimkhidniolpeaaGreatVmO
import Derived.Test.YtimkhidniolpeaaGreatFx
import Derived.Deep.Grids
namespace Go.Proofs.YtimkhidniolpeaaGreat
set_option linter.unusedSimpArgs false
set_option linter.unusedVariables false
set_option maxRecDepth 100000
set_option maxHeartbeats 0
open Go.RowKit
theorem rT {id:Int}:∀{ps:List PL},(∀q∈ps,(q.p.id==id)=false)→lj id ps=0
 |[],_=>rfl
 |p::ps,h=>by rw [lj,h p (by simp)];exact rT fun q hq=>h q (by simp [hq])
theorem qf {id:Int} {p:PL} {post:List PL} (hp:(p.p.id==id)=true):∀{mid:List PL},(∀q∈mid,(q.p.id==id)=false)→lj id (mid++p::post)=p.left
 |[],_=>by rw [List.nil_append,lj,hp];rfl
 |q::mid,h=>by rw [List.cons_append,lj,h q (by simp)];exact qf hp fun q hq=>h q (by simp [hq])
theorem uV {l:List Pl} {n:Nat} (hn:n=l.length) (h:l.length≤1000):VL l l n=true:=by
 unfold VL
 rw [tL,decide_eq_true h,decide_eq_true hn]
 simp
section
variable {s:WS} {r:RS} {v:Vr} {k:Nat}
theorem mH.nm (h:mH s r v) (hX:CQ r v):r.nm v=r:=by
 refine RS.Nm.eq ?_
 cases v with
 |n=>
  obtain ⟨q1,q2⟩:=h.vr
  refine ⟨?_,?_,?_,?_,?_,?_,hX.1,hX.2⟩
  · rw [h.to.np,q1];rfl
  · rw [h.to.nl,q1];rfl
  · rw [h.nh,q2];rfl
  · rw [h.to.ps,q1];rfl
  · rw [h.to.lf,q1];rfl
  · rw [h.sh,q2]
 |s=>
  have q2:s.shots=[]:=h.vr
  exact ⟨by rw [h.nh,q2];rfl,by rw [h.sh,q2]⟩
 |f=>trivial
theorem mH.pyL {y:WS×Int×Int} {ll n:Nat} {i id:Int} {K:Option aj} (h:mH y.1 r v) (hi:y.1.Inv k) (hr:fU i ll n K=K) (hr':∀K',fU i ll n K'=K'):pyL y r y.2 v ll n i id K=K:=by
 unfold Go.Proofs.YtimkhidniolpeaaGreat.pyL
 rw [h.to.okLen hi.few,cond_true]
 have hE:∀left,lj id y.1.ps=left→Z4 y r y.2 v ll n i id left K=K:=fun left hl=>by
  unfold Z4
  have hpv:K2 (y.1.ps.map PL.p) r v=true:=by
   have hf:=hi.few
   cases v with
   |n=>
    unfold K2
    simp only
    rw [h.vr.1]
    rfl
   |s=>unfold K2;simp only;rw [h.to.ps];exact uV (by rw [List.length_map,h.to.np]) (by rw [List.length_map];omega)
   |f=>unfold K2;simp only;rw [h.to.ps];exact uV (by rw [List.length_map,h.to.np]) (by rw [List.length_map];omega)
  have hsv:OP y.1.shots r v=true:=by
   have hs:=hi.shots
   cases v with
   |n=>unfold OP;simp only;rw [h.vr.2];rfl
   |s=>
    have q:y.1.shots=[]:=h.vr
    unfold OP;simp only;rw [q];rfl
   |f=>
    unfold OP
    simp only
    rw [h.sh,h.nh,rZ,decide_eq_true rfl,decide_eq_true (show y.1.shots.length≤1000 by omega)]
    rfl
  rw [hpv,hsv,hr',decide_eq_true (by have:=hi.shots;omega),hl,h.to.num.1]
  simp
 have hfi:aI id r.ps 0=aI id (y.1.ps.map PL.p) 0:=by rw [h.to.ps]
 rw [hfi]
 rcases iL id y.1.ps 0 with ⟨h1,h2⟩|⟨mid,p,post,h1,h2,h3,h4⟩
 · rw [h1,decide_eq_false (by decide),cond_false]
   exact hE 0 (rT h2)
 · have e2:((0+mid.length:Nat):Int)=(mid.length:Int):=by omega
   rw [h2,e2,decide_eq_true (by omega),cond_true,mj (md h1 h.to.nl h.to.len2)]
   refine hE _ ?_
   rw [h1,qf h3 h4]
   have:=(h.at' h1).2
   rw [show 0+((mid.length:Int)).toNat=mid.length by omega]
   simp only [List.getD,this]
   rfl
end
abbrev C6:=Qe Tryz.prog 3 [0,1,0,1,1,1,1,1,1] (bg Tryz.f3 [0,1,0,1,1,1,1,1,1]) 122 7 [1,2,4,5,6,8,10]
theorem Gb {w d h:Int} {len ls ll:Nat} {xs:List Bool} {sp:List V3} {cs:List gQ} (hc:ll≤cs.length):∀(k i:Nat) (s:WS) (r:RS) (v:Vr),s.Inv i→mH s r v→r.xs=xs→r.sp=sp→ey r.ps→CQ r v→i+k=min ll 80→
    ∃z:WS×RS×Vr,qO C6 (jH ll i) (jx w d h len ls xs sp cs s r v) (.exit 0) (jH ll ((min ll 80:Nat):Int)) (jx w d h len ls xs sp cs z.1 z.2.1 z.2.2)
 |0,i,s,r,v,hi,hS,e1,e2,hx,hX,hk=>by
  obtain rfl:i=min ll 80:=by omega
  refine ⟨(s,r,v),.done ⟨Jf v,fun _ _=>none,100,wu v,ag,?_⟩ (by simp)⟩
  have hro:=yA w d h len ls ll xs sp cs s r ((min ll 80:Nat):Int) v v (dj hS)
  unfold Zm at hro
  rw [gv,show (decide ((((min ll 80:Nat)):Int)<(ll:Int))&&decide ((((min ll 80:Nat)):Int)<80))=false by simp;omega,cond_false] at hro
  exact hro
 | k+1,i,s,r,v,hi,hS,e1,e2,hx,hX,hk=>by
  obtain ⟨h1,h2⟩:=hi.op (by omega) (ub cs i)
  obtain ⟨g1,g2,g3,g4,g5⟩:=hS.op hi (by omega) hx hX (ub cs i)
  have hn:v=.n→r.ps=[]:=fun e=>by
   subst e
   rw [hS.to.ps,hS.vr.1];rfl
  have hX2:=Sy (o:=ub cs i) hX hn
  have hm:=RU (r:=r) (v:=v) (o:=ub cs i)
  have f1:(oC r v (ub cs i)).1.xs=xs:=hm.2.2.2.2.2.1.trans e1
  have f2:(oC r v (ub cs i)).1.sp=sp:=hm.2.2.2.2.2.2.trans e2
  obtain ⟨R',ih⟩:=Gb (w:=w) (d:=d) (h:=h) (len:=len) (ls:=ls) hc k (i+1) _ _ _ h2 g3 f1 f2 g5 hX2 (by omega)
  refine ⟨R',.more ⟨Jf (oC r v (ub cs i)).2.1,fun _ _=>none,100,wu _,ag,?_⟩ ih⟩
  have hro:=yA w d h len ls ll xs sp cs s r (i:Int) v (oC r v (ub cs i)).2.1 g2
  unfold Zm at hro
  have hfx:(r.fx xs sp).nm v=r:=by
   have :r.fx xs sp=r:=by rw [←e1,←e2];rfl
   rw [this,hS.nm hX]
  have hfx2:((oC r v (ub cs i)).1.fx xs sp).nm (oC r v (ub cs i)).2.1=(oC r v (ub cs i)).1:=by
   have :(oC r v (ub cs i)).1.fx xs sp=(oC r v (ub cs i)).1:=by rw [←f1,←f2];rfl
   rw [this,g3.nm hX2]
  have hrng:∀K,fU (i:Int) ll cs.length K=K:=fun K=>ck (by omega) (by omega) (by omega)
  rw [gv,decide_eq_true (show (i:Int)<(ll:Int) by omega),decide_eq_true (show (i:Int)<80 by omega),hrng,h1,hfx,hrng,g1,g2,Vr.eqB_refl,hrng,hfx2,g4] at hro
  simp only [Bool.and_self,cond_true] at hro
  rw [g3.pyL h2 (hrng _) hrng,IntWalk.i64_in ((i:Int)+1) (by omega)] at hro
  exact hro
open Classical in
noncomputable def Q6 (s:WS) (r:RS):Bool:=decide (s.Inv 0∧mH s r .n)
open Classical in
theorem BA {s:WS} {r:RS}:Q6 s r=true↔s.Inv 0∧mH s r .n:=by unfold Q6;exact decide_eq_true_iff
def QS (w d h:Int) (len ls:Nat) (xs:List Bool) (sp:List V3):RS:=⟨w,d,h,len,ls,xs,sp,0,0,0,0,none,none,[],[],[],0,0⟩
instance:Nonempty (WS×RS×Vr):=⟨(⟨0,0,0,[],[],0,[],[],0,0⟩,QS 0 0 0 0 0 [] [],.n)⟩
noncomputable def mR (w d h:Int) (len ls ll:Nat) (cs:List gQ) (s:WS) (r:RS):WS×RS×Vr:=Classical.epsilon fun z=>qO C6 (jH ll 0) (jx w d h len ls r.xs r.sp cs s r .n) (.exit 0) (jH ll ((min ll 80:Nat):Int)) (jx w d h len ls r.xs r.sp cs z.1 z.2.1 z.2.2)
def pick3 {α:Type} (v:Vr) (a b c:α):α:=match v with
 |.n=>a
 |.s=>b
 |.f=>c
theorem DO {α:Type} (v:Vr) (a:α):pick3 v a a a=a:=by cases v<;>rfl
theorem KX {α:Type} (v:Vr) (f:Vr→α):pick3 v (f .n) (f .s) (f .f)=f v:=by cases v<;>rfl
noncomputable def U5 (v:List SV) (R:List Row) (k:Ex→List SV→List Row→Option aj):Option aj:=match v,cW R 6,R with
 | [.slice 2 12 0 ll none,.ptr 3 0 0 0,.bool false,.bool true,.ptr 4 0 0 0,.ptr 6 0 0 0,.int .i64 i],some (r,.n,[6,0,1]),
  [_,_,.vec true .wop cs,.own [.int .i64 w,.int .i64 d,.int .i64 h,.slice 0 1 0 len none,.slice 1 3 0 ls none],.obj s,.own [.int .i64 w2,.int .i64 d2,.int .i64 h2,.slice 0 1 0 len2 none,.slice 1 3 0 ls2 none],_]=>
   bif decide (i=0)&&((decide (w2=w)&&(decide (d2=d)&&(decide (h2=h)&&(Nat.beq len2 len&&Nat.beq ls2 ls))))&&(decide (ll≤cs.length)&&Q6 s r)) then
    pick3 (mR w d h len ls ll cs s r).2.2 (k (.exit 0) (jH ll ((min ll 80:Nat):Int)) (jx w d h len ls r.xs r.sp cs (mR w d h len ls ll cs s r).1 (mR w d h len ls ll cs s r).2.1 .n))
     (k (.exit 0) (jH ll ((min ll 80:Nat):Int)) (jx w d h len ls r.xs r.sp cs (mR w d h len ls ll cs s r).1 (mR w d h len ls ll cs s r).2.1 .s))
     (k (.exit 0) (jH ll ((min ll 80:Nat):Int)) (jx w d h len ls r.xs r.sp cs (mR w d h len ls ll cs s r).1 (mR w d h len ls ll cs s r).2.1 .f)) else none
 |_,_,_=>none
theorem LL:da 3 [0,1,0,1,1,1,1,1,1] (bG 122 [1,2,4,5,6,8,10] U5):=by
 intro b hat s K r h
 have hbody:=aZ Tryz.func3 hat
 subst hbody
 refine GF hat (fun v R k r hr=>?_) h
 unfold U5 at hr
 split at hr
 · rename_i ll i q r0 r1 cs w d h len ls s w2 d2 h2 len2 ls2 r5 hq
   obtain ⟨hb,hr2⟩:=al hr
   simp only [Bool.and_eq_true,decide_eq_true_eq,BA,Nat.beq_eq] at hb
   obtain ⟨h1,⟨rfl,rfl,rfl,rfl,rfl⟩,hll,h3,h4⟩:=hb
   subst h1
   obtain ⟨hat2,_⟩:=bQ hq
   have hnm:=im hq
   obtain rfl:r5=_:=Option.some.inj (hat2.at' 0 _ rfl)
   obtain rfl:r0=_:=Option.some.inj (hat2.at' 1 _ rfl)
   obtain rfl:r1=_:=Option.some.inj (hat2.at' 2 _ rfl)
   obtain ⟨R',hl⟩:=Gb (w:=w2) (d:=d2) (h:=h2) (len:=len2) (ls:=ls2) hll (min ll 80) 0 s q .n h3 h4 rfl rfl (by rw [hnm.2.2.2.1];exact ⟨List.nodup_nil,fun p hp=>by cases hp⟩) ⟨hnm.2.2.2.2.2.2.1,hnm.2.2.2.2.2.2.2⟩ (by omega)
   have he:=Classical.epsilon_spec (p:=fun z:WS×RS×Vr=>qO C6 (jH ll 0) (jx w2 d2 h2 len2 ls2 q.xs q.sp cs s q .n) (.exit 0) (jH ll ((min ll 80:Nat):Int)) (jx w2 d2 h2 len2 ls2 q.xs q.sp cs z.1 z.2.1 z.2.2)) ⟨R',hl⟩
   rw [KX _ fun v=>k (.exit 0) (jH ll ((min ll 80:Nat):Int)) (jx w2 d2 h2 len2 ls2 q.xs q.sp cs (mR w2 d2 h2 len2 ls2 ll cs s q).1 (mR w2 d2 h2 len2 ls2 ll cs s q).2.1 v)] at hr2
   exact ⟨_,_,_,hr2,he⟩
 · cases hr
noncomputable def Tw:jh:=⟨_,_,_,LL⟩
def Zb (len ls:Nat) (xs:List Bool) (sp:List V3):Bool:=decide (0+len≤xs.length)&&(decide (0+ls≤sp.length)&&(decide (ls≤9223372036854775807)&&sp.all aw))
noncomputable def rE (w d h:Int) (len ls:Nat) (xs:List Bool) (sp:List V3):Int:=kf (l9 w d h len 0 xs ls 0 sp)
noncomputable def WD (w d h:Int) (len ls ll:Nat) (xs:List Bool) (sp:List V3) (cs:List gQ):Bool:=(decide (w=w)&&(decide (d=d)&&(decide (h=h)&&(Nat.beq len len&&Nat.beq ls ls))))&&(decide (ll≤cs.length)&&Q6 (lY w d h len 0 xs ls 0 sp) (QS w d h len ls xs sp))
theorem Re (w d h:Int) (len ls ll:Nat) (xs:List Bool) (sp:List V3) (cs:List gQ):aH (Jf .n) (aF [Tw]) 300 3 Tryz.f3 0 [bB w d h (.slice 0 1 0 len none) (.slice 1 3 0 ls none),.slice 2 12 0 ll none] [.vec true .bool xs,.vec true .vec sp,.vec true .wop cs]=
 bif sm1 w d h len ls xs sp then bif Zc w d h len ls xs sp then some (.bool true,[]) else
 bif newC w d h len 0 xs ls 0 sp&&l9 w d h len 0 xs ls 0 sp then bif Zb len ls xs sp then
 bif rE w d h len ls xs sp !=0 then bif (bif ((bif (false==false) then (bif false then true else ((0:Int) !=0)) else true)==false) then (bif false then true else (rE w d h len ls xs sp !=0)) else true) then some (.bool false,[]) else none else
 bif WD w d h len ls ll xs sp cs then pick3 (mR w d h len ls ll cs (lY w d h len 0 xs ls 0 sp) (QS w d h len ls xs sp)).2.2 (some (.bool true,[])) (some (.bool true,[])) (some (.bool true,[])) else none else none else none else none:=by kernel_rfl
theorem SD {w d h:Int} {len ls:Nat} {xs:List Bool} {sp:List V3} (a:zW w d h len ls xs sp):mH (lY w d h len 0 xs ls 0 sp) (QS w d h len ls xs sp) .n:=by
 have e1:(xs.drop 0).take len=xs:=by rw [List.drop_zero];exact List.take_of_length_le (by rw [a.ix];omega)
 have e2:(sp.drop 0).take ls=sp:=by rw [List.drop_zero];exact List.take_of_length_le (by rw [a.isp];omega)
 refine ⟨⟨⟨rfl,rfl,rfl,?_,?_,e1.symm,e2.symm⟩,rfl,rfl,rfl,rfl,⟨rfl,rfl,rfl⟩⟩,rfl,rfl,⟨rfl,rfl⟩⟩
 · show len=((xs.drop 0).take len).length
   rw [e1,a.ix]
 · show ls=((sp.drop 0).take ls).length
   rw [e2,a.isp]
theorem Vb {w d h:Int} {len ls ll:Nat} {xs:List Bool} {sp:List V3} {cs:List gQ} (a:zW w d h len ls xs sp) (hc:cs.length=ll):
    aH (Jf .n) (aF [Tw]) 300 3 Tryz.f3 0 [bB w d h (.slice 0 1 0 len none) (.slice 1 3 0 ls none),.slice 2 12 0 ll none] [.vec true .bool xs,.vec true .vec sp,.vec true .wop cs]=some (.bool true,[]):=by
 rw [Re,a.sm1,cond_true]
 refine rn (fun _=>rfl) (fun hr=>?_)
 have hv:=HB hr
 have hi:=a.inv hv
 have h3:Zb len ls xs sp=true:=by
  unfold Zb
  rw [a.ix,a.isp,decide_eq_true (show 0+len≤len by omega),decide_eq_true (show 0+ls≤ls by omega),decide_eq_true a.ils]
  simp only [Bool.true_and,List.all_eq_true]
  exact fun p hp=>aB.2 (a.fit p hp)
 have hE:(rE w d h len ls xs sp !=0)=false:=by
  unfold rE
  rw [hv]
  rfl
 have hk:WD w d h len ls ll xs sp cs=true:=by
  unfold WD
  rw [BA.2 ⟨hi,SD a⟩,decide_eq_true rfl,decide_eq_true rfl,decide_eq_true rfl,Nat.beq_refl,Nat.beq_refl,decide_eq_true (show ll≤cs.length by omega)]
  rfl
 rw [a.newC,hv,h3,hE,hk,DO]
 rfl
end Go.Proofs.YtimkhidniolpeaaGreat
namespace Go.Proofs.YtimkhidniolpeaaGreat
set_option linter.unusedSimpArgs false
set_option linter.unusedVariables false
set_option maxRecDepth 100000
set_option maxHeartbeats 0
open Go.RowKit Go.ChangeShapes Go.WideShapes
end Go.Proofs.YtimkhidniolpeaaGreat
namespace Go.Proofs.YtimkhidniolpeaaGreat
set_option linter.unusedSimpArgs false
set_option linter.unusedVariables false
set_option maxRecDepth 100000
set_option maxHeartbeats 0
open Go.ChangeShapes Go.WideShapes Go.RowKit
section
variable {H:Type} {enc:TypeId×Value→H} {P:Program} {w:World} {base:Nat} {held:Bool} {spare:Nat→Bool}
theorem uo {α β:Type} {f:α→Option β}:∀{l:List α} {ys:List β},l.mapM f=some ys→∀(i:Nat) (x:α),l[i]? =some x→∃y,f x=some y
 |[],_,_,i,x,hx=>by simp at hx
 | a::l,ys,h,i,x,hx=>by
  simp only [List.mapM_cons,Option.bind_eq_bind,Option.pure_def] at h
  cases hf:f a with
  |none=>simp [hf] at h
  | some y=>
   cases hr:l.mapM f with
   |none=>simp [hf,hr] at h
   |some ys'=>
    cases i with
    |zero=>simp at hx;subst hx;exact ⟨y,hf⟩
    |succ i=>exact uo hr i x (by simpa using hx)
theorem bL {t:TypeId} {fs:Array Field} (ht:P.underlying t=some (.struct fs)) {fuel:Nat} {cs:List Value} {x:DataW H×List MemPlace} (h:DataW.trod enc P w base spare held (fuel+1) t cs=some x) {i:Nat} {f:Field} (hf:fs[i]? =some f):
    ∃y,DataW.trod enc P w base spare held fuel f.type ((cs.drop f.offset).take (P.cellsOf f.type))=some y:=by
 simp only [DataW.trod,ht] at h
 have h':(fs.toList.mapM fun f=>DataW.trod enc P w base spare held fuel f.type ((cs.drop f.offset).take (P.cellsOf f.type))).isSome=true:=by
  cases hm:(fs.toList.mapM fun f=>DataW.trod enc P w base spare held fuel f.type ((cs.drop f.offset).take (P.cellsOf f.type))) with
  |some _=>rfl
  |none=>
   exfalso
   simp only [hm] at h
   split at h<;>simp at h
 obtain ⟨ys,hys⟩:=Option.isSome_iff_exists.1 h'
 exact uo hys i f (by simpa using hf)
end
theorem Yj {α:Type} {cs:Array α} (h:cs.size=5):∃a b c d e,cs= #[a,b,c,d,e]:=by
 obtain ⟨l⟩:=cs
 match l,h with
 |[a,b,c,d,e],_=>exact ⟨a,b,c,d,e,rfl⟩
section
variable {H:Type} {enc:TypeId×Value→H} {w:World} {base b0:Nat} {r:Reach} {held:Bool}
theorem n8 {P:Program} {t e:TypeId} {v:Value} (ht:P.underlying t=some (.slice e)) (h:Cell.okWide P w r base t v):∃a l c,v=.slice a l c:=by
 simp only [Cell.okWide,ht] at h
 cases v<;>simp_all [Cell.ok]
theorem MJ {v:Value} {d:DataW H} {p:List MemPlace} (hval:Value.okWide Tryz.prog w r b0 25 v) (h:DataW.Trod enc Tryz.prog w base (fun _=>true) held 25 v d p):
    ∃(wd dd hd:Int) (oa:Option Addr) (len cap:Nat) (xs:List Bool) (sp:Value),v=.agg #[I wd,I dd,I hd,.slice oa len cap,sp]∧aU wd∧aU dd∧aU hd∧sp.oneCell'=true∧sp.cells= #[sp]∧len≤9223372036854775807∧len≤cap∧xs.length=len∧
     (len=0∨∃b off,oa=some ⟨b,off,none⟩∧b<w.heap.size∧∀j,j<len→w.cell? ⟨b,off+j,none⟩=some (.bool (xs.getD j false))):=by
 obtain ⟨cs,rfl,hs,hc⟩:=vQ (ts:=[3,3,3,22,23]) FD (by kernel_rfl) (by kernel_rfl) rfl hval
 obtain ⟨x0,x1,x2,x3,x4,rfl⟩:=Yj hs
 obtain ⟨wd,rfl,h0⟩:=sz Tryz.underlying3 (hc 0 _ _ rfl rfl)
 obtain ⟨dd,rfl,h1⟩:=sz Tryz.underlying3 (hc 1 _ _ rfl rfl)
 obtain ⟨hd,rfl,h2⟩:=sz Tryz.underlying3 (hc 2 _ _ rfl rfl)
 obtain ⟨a4,l4,c4,rfl⟩:=n8 Tryz.underlying23 (hc 4 _ _ rfl rfl)
 obtain ⟨fuel,hf⟩:=h
 cases fuel with
 |zero=>simp [DataW.trod] at hf
 | succ fuel=>
  obtain ⟨y,hy⟩:=bL Tryz.underlying25 hf (i:=3) rfl
  have e1:Tryz.prog.cellsOf 22=1:=by kernel_rfl
  have hy':DataW.trod enc Tryz.prog w base (fun _=>true) held fuel 22 [x3]=some y:=by
   simp only [Value.cells] at hy
   have e2:∀(l:List Value),((#[I wd,I dd,I hd,x3,Value.slice a4 l4 c4]:Array Value).toList.drop 3).take 1=[x3]:=fun _=>rfl
   rw [←e2 [],←e1]
   exact hy
  cases fuel with
  |zero=>simp [DataW.trod] at hy'
  |succ fuel=>
  rcases Deep.open_bools Tryz.underlying22 Tryz.underlying4 (by kernel_rfl) hy' with ⟨hx,_⟩|⟨a,len,cap,B,hx,_,hl,hm,_,hcell⟩
  · simp only [List.cons.injEq,and_true] at hx
    subst hx
    exact ⟨wd,dd,hd,none,0,0,[],_,rfl,h0,h1,h2,rfl,rfl,by omega,by omega,rfl,.inl rfl⟩
  · simp only [List.cons.injEq,and_true] at hx
    subst hx
    have hmax:maxLen=9223372036854775807:=rfl
    refine ⟨wd,dd,hd,some a,len,cap,(List.range len).map B,_,rfl,h0,h1,h2,rfl,rfl,by omega,hl,by simp,?_⟩
    obtain ⟨ab,ao,asp⟩:=a
    by_cases hlen:len=0
    · exact .inl hlen
    · right
      have h00:=hcell 0 (by omega)
      have hsp:asp=none:=by
       cases asp with
       |none=>rfl
       |some s=>
        exfalso
        simp [Addr.add,World.cell?] at h00
        split at h00<;>simp at h00
      subst hsp
      refine ⟨ab,ao,rfl,?_,fun j hj=>?_⟩
      · have:=hcell 0 (by omega)
        simp only [dw] at this
        unfold World.cell? at this
        cases hb:w.heap[ab]? with
        |none=>simp [hb] at this
        |some b=>exact (Array.getElem?_eq_some_iff.1 hb).1
      · have:=hcell j (by omega)
        simp only [dw] at this
        rw [this]
        simp [List.getD,hj]
theorem Hj {ρ:aR} {a:SV} {u:Value}:au ρ [a] [u]↔aE ρ a u:=by rw [aa,ai];simp
theorem Ie {v:Value} {d:DataW H} {p:List MemPlace} (hval:Value.okWide Tryz.prog w r b0 25 v) (h:DataW.Trod enc Tryz.prog w base (fun _=>true) held 25 v d p):
    ∃(ρ:aR) (wd dd hd:Int) (len:Nat) (xs:List Bool),aE ρ (bB wd dd hd (.slice 0 1 0 len none) .unk) v∧aU wd∧aU dd∧aU hd∧len≤9223372036854775807∧xs.length=len∧gK ρ w∧bk ρ 0 (.vec true .bool xs) w∧(∀i,1≤i→ρ i=none)∧(∀i p,ρ i=some p→p.mine=false):=by
 obtain ⟨wd,dd,hd,oa,len,cap,xs,sp,rfl,h0,h1,h2,h3,h4,h5,h6,h7,h8⟩:=MJ hval h
 rcases h8 with rfl |⟨b,off,rfl,hb,hc⟩
 · have hx:xs=[]:=List.length_eq_zero_iff.1 h7
   subst hx
   refine ⟨fun _=>none,wd,dd,hd,0,[],?_,h0,h1,h2,by omega,rfl,fun _ _ h=>(by cases h),.inl ⟨rfl,rfl⟩,fun _ _=>rfl,fun _ _ h=>(by cases h)⟩
   unfold bB
   simp only [aE,au]
   exact ⟨_,rfl,_,_,rfl,rfl,_,_,rfl,rfl,_,_,rfl,rfl,_,_,rfl,.inr ⟨trivial,trivial,_,_,rfl⟩,_,_,rfl,⟨h3,h4⟩,rfl⟩
 · refine ⟨fun i=>if i=0 then some ⟨b,off,false,0⟩ else none,wd,dd,hd,len,xs,?_,h0,h1,h2,h5,h7,?_,.inr ⟨⟨b,off,false,0⟩,by simp,fun _=>rfl,fun h=>(by cases h),?_⟩,?_,?_⟩
   · unfold bB
     simp only [aE,au]
     exact ⟨_,rfl,_,_,rfl,rfl,_,_,rfl,rfl,_,_,rfl,rfl,_,_,rfl,.inl ⟨⟨b,off,false,0⟩,off,cap,by simp,rfl,by simp,.inl (by simp),h6,by simp⟩,_,_,rfl,⟨h3,h4⟩,rfl⟩
   · intro i p hp
     simp only at hp
     split at hp
     · cases hp;exact hb
     · cases hp
   · intro i x hx j s hs
     have hx': @getElem? (List Bool) Nat Bool _ _ xs i=some x:=hx
     have hi:i<len:=by have:=(List.getElem?_eq_some_iff.1 hx').1;omega
     have hj:j=0:=by have:=(List.getElem?_eq_some_iff.1 hs).1;simpa [aA.enc] using this
     subst hj
     simp [aA.enc] at hs
     subst hs
     have:=hc i hi
     simp only [aA.st,Nat.mul_one,Nat.add_zero,bK]
     rw [this]
     rw [List.getD_eq_getElem?_getD,hx']
     rfl
   · intro i hi;simp only;rw [if_neg (by omega)]
   · intro i p hp
     simp only at hp
     split at hp
     · cases hp;rfl
     · cases hp
end
section
variable {H:Type} {enc:TypeId×Value→H} {w:World} {base b0:Nat} {r:Reach} {held:Bool} {spare:Nat→Bool}
instance:Inhabited V3:=⟨⟨0,0,0⟩⟩
theorem yQ {fuel:Nat} {cs:List Value} {x:DataW H×List MemPlace} (h:DataW.trod enc Tryz.prog w base spare held fuel 44 cs=some x):∃a:V3,cs=[I a.x,I a.y,I a.z]∧a.fits:=by
 have c64:Tryz.prog.cellsOf 2=1:=by kernel_rfl
 have c3:Tryz.prog.cellsOf 44=3:=by kernel_rfl
 obtain ⟨xs,k,rfl,_,hlen,_⟩:=DataW.trod_struct Tryz.underlying44 h
 rw [c3] at hlen
 match cs,hlen with
 | [v0,v1,v2],_=>
  obtain ⟨y0,h0⟩:=bL Tryz.underlying44 h (i:=0) rfl
  obtain ⟨y1,h1⟩:=bL Tryz.underlying44 h (i:=1) rfl
  obtain ⟨y2,h2⟩:=bL Tryz.underlying44 h (i:=2) rfl
  obtain ⟨n0,e0,_,f0⟩:=DataW.trod_int Tryz.underlying2 h0
  obtain ⟨n1,e1,_,f1⟩:=DataW.trod_int Tryz.underlying2 h1
  obtain ⟨n2,e2,_,f2⟩:=DataW.trod_int Tryz.underlying2 h2
  have e0:(([v0,v1,v2]:List Value).drop 0).take (Tryz.prog.cellsOf 2)=[I n0]:=e0
  have e1:(([v0,v1,v2]:List Value).drop 1).take (Tryz.prog.cellsOf 2)=[I n1]:=e1
  have e2:(([v0,v1,v2]:List Value).drop 2).take (Tryz.prog.cellsOf 2)=[I n2]:=e2
  rw [c64] at e0 e1 e2
  simp at e0 e1 e2
  have wf:∀n:Int,(Lit.int .i64 n).wf=true→aU n:=fun n h=>by
   unfold Lit.wf at h
   simpa [aU,IntKind.min,IntKind.max,IntKind.signed,IntKind.bits] using h
  exact ⟨⟨n0,n1,n2⟩,by rw [e0,e1,e2],wf _ f0,wf _ f1,wf _ f2⟩
theorem I1 {v:Value} {d:DataW H} {p:List MemPlace} (hval:∃oa len cap,v=.slice oa len cap) (h:DataW.Trod enc Tryz.prog w base spare held 23 v d p):
    ∃(oa:Option Addr) (len cap:Nat) (l:List V3),v=.slice oa len cap∧len≤9223372036854775807∧len≤cap∧l.length=len∧(∀x∈l,x.fits)∧
     (len=0∨∃b off,oa=some ⟨b,off,none⟩∧b<w.heap.size∧∀(i:Nat) (x:V3),l[i]? =some x→∀(j:Nat) (s:SV),x.sv[j]? =some s→w.cell? ⟨b,off+i*3+j,none⟩=some (bK s)):=by
 obtain ⟨oa,len,cap,rfl⟩:=hval
 have c3:Tryz.prog.cellsOf 44=3:=by kernel_rfl
 obtain ⟨fuel,hf⟩:=h
 rcases Deep.open_slice Tryz.underlying23 hf with ⟨hx,_⟩|⟨a,len',cap',m,n,D,Pl,hx,_,hl,hm,hmm,_,hall⟩
 · simp [Value.cells] at hx
   obtain ⟨rfl,rfl,rfl⟩:=hx
   exact ⟨none,0,0,[],rfl,by omega,by omega,rfl,(by simp),.inl rfl⟩
 · simp [Value.cells] at hx
   obtain ⟨rfl,rfl,rfl⟩:=hx
   have hmax:maxLen=9223372036854775807:=rfl
   have hlm:len≤m:=by rw [hmm];split<;>omega
   obtain ⟨F,hF⟩:=Deep.choose_lt (α:=V3) (n:=len) (p:=fun i x=>(∀(j:Nat) (s:SV),x.sv[j]? =some s→w.cell? (a.add (i*3+j))=some (bK s))∧x.fits) (fun i hi=>by
    obtain ⟨cs,h1,h2⟩:=hall i (by omega)
    rw [c3] at h1
    obtain ⟨_,_,hc⟩:=World.cells?_some h1
    obtain ⟨x,rfl,hxf⟩:=yQ h2
    refine ⟨x,fun j s hs=>?_,hxf⟩
    have hj:j<3:=by
     have:=(List.getElem?_eq_some_iff.1 hs).1
     simpa [V3.sv] using this
    have:=hc j hj
    rw [Deep.add_add] at this
    rw [this]
    match j,hj with
    |0,_=>simp [V3.sv] at hs;subst hs;rfl
    |1,_=>simp [V3.sv] at hs;subst hs;rfl
    |2,_=>simp [V3.sv] at hs;subst hs;rfl)
   refine ⟨some a,len,cap,(List.range len).map F,rfl,by omega,hl,by simp,fun x hx=>(by obtain ⟨i,hi,rfl⟩:=List.mem_map.1 hx;exact (hF i (List.mem_range.1 hi)).2),?_⟩
   by_cases h0:len=0
   · exact .inl h0
   right
   obtain ⟨ab,ao,asp⟩:=a
   have h00:=(hF 0 (by omega)).1 0 _ rfl
   have hsp:asp=none:=by
    cases asp with
    |none=>rfl
    |some s=>
     exfalso
     simp [Addr.add,World.cell?] at h00
     split at h00<;>simp at h00
   subst hsp
   refine ⟨ab,ao,rfl,?_,fun i x hx j s hs=>?_⟩
   · simp only [dw] at h00
     unfold World.cell? at h00
     cases hb:w.heap[ab]? with
     |none=>simp [hb] at h00
     |some b=>exact (Array.getElem?_eq_some_iff.1 hb).1
   · have hi:i<len:=by have:=(List.getElem?_eq_some_iff.1 hx).1;simpa using this
     have hxF:x=F i:=by
      rw [List.getElem?_map,List.getElem?_range hi] at hx
      simpa using hx.symm
     subst hxF
     have:=(hF i hi).1 j s hs
     simp only [dw] at this
     rw [Nat.add_assoc]
     exact this
theorem Bz {ρ:aR} {k:Nat} {v:Value} {d:DataW H} {p:List MemPlace} (hg:gK ρ w) (hn:∀i,k≤i→ρ i=none) (hmi:∀i p,ρ i=some p→p.mine=false)
    (hval:∃oa len cap,v=.slice oa len cap) (h:DataW.Trod enc Tryz.prog w base spare held 23 v d p):
    ∃(ρ':aR) (len:Nat) (l:List V3),ρ.le ρ'∧aE ρ' (.slice k 3 0 len none) v∧len≤9223372036854775807∧l.length=len∧gK ρ' w∧bk ρ' k (.vec true .vec l) w∧(∀i,k+1≤i→ρ' i=none)∧(∀i p,ρ' i=some p→p.mine=false)∧(∀x∈l,x.fits):=by
 obtain ⟨oa,len,cap,l,rfl,h1,h2,h3,hf,h4⟩:=I1 hval h
 rcases h4 with rfl |⟨b,off,rfl,hb,hc⟩
 · have hl:l=[]:=List.length_eq_zero_iff.1 h3
   subst hl
   refine ⟨ρ,0,[],aR.le.refl ρ,?_,by omega,rfl,hg,.inl ⟨rfl,rfl⟩,fun i hi=>hn i (by omega),hmi,by simp⟩
   simp only [aE]
   exact .inr ⟨trivial,trivial,_,_,rfl⟩
 · have hle:ρ.le (ρ.upd k ⟨b,off,false,0⟩):=aR.le_upd (hn k (Nat.le_refl _))
   have hat:(ρ.upd k ⟨b,off,false,0⟩) k=some ⟨b,off,false,0⟩:=by simp [aR.upd]
   refine ⟨ρ.upd k ⟨b,off,false,0⟩,len,l,hle,?_,h1,h3,?_,.inr ⟨⟨b,off,false,0⟩,hat,fun _=>rfl,fun h=>(by cases h),?_⟩,?_,?_,hf⟩
   · simp only [aE]
     exact .inl ⟨_,off,cap,hat,rfl,by simp,.inl (by simp),h2,by simp⟩
   · intro i p hp
     unfold aR.upd at hp
     split at hp
     · cases hp;exact hb
     · exact hg i p hp
   · intro i x hx j s hs
     exact hc i x hx j s hs
   · intro i hi
     unfold aR.upd
     rw [if_neg (by omega)]
     exact hn i (by omega)
   · intro i p hp
     unfold aR.upd at hp
     split at hp
     · cases hp;rfl
     · exact hmi i p hp
theorem EI {v:Value} {d:DataW H} {p:List MemPlace} (hval:Value.okWide Tryz.prog w r b0 25 v) (h:DataW.Trod enc Tryz.prog w base (fun _=>true) held 25 v d p):
    ∃(ρ:aR) (wd dd hd:Int) (len:Nat) (xs:List Bool) (ls:Nat) (sp:List V3),aE ρ (bB wd dd hd (.slice 0 1 0 len none) (.slice 1 3 0 ls none)) v∧aU wd∧aU dd∧aU hd∧len≤9223372036854775807∧xs.length=len∧ls≤9223372036854775807∧sp.length=ls∧gK ρ w∧bk ρ 0 (.vec true .bool xs) w∧bk ρ 1 (.vec true .vec sp) w∧(∀i,2≤i→ρ i=none)∧(∀i p,ρ i=some p→p.mine=false)∧(∀x∈sp,x.fits):=by
 obtain ⟨ρ,wd,dd,hd,len,xs,g1,g2,g3,g4,g5,g6,g7,g8,g9,g10⟩:=Ie hval h
 obtain ⟨cs,rfl,hs,hc⟩:=vQ (ts:=[3,3,3,22,23]) FD (by kernel_rfl) (by kernel_rfl) rfl hval
 obtain ⟨x0,x1,x2,x3,x4,rfl⟩:=Yj hs
 have hsl:=n8 Tryz.underlying23 (hc 4 _ _ rfl rfl)
 have htr:∃d' p',DataW.Trod enc Tryz.prog w base (fun _=>true) held 23 x4 d' p':=by
  obtain ⟨fuel,hf⟩:=h
  cases fuel with
  |zero=>simp [DataW.trod] at hf
  |succ fuel=>
   obtain ⟨y,hy⟩:=bL Tryz.underlying25 hf (i:=4) rfl
   have e1:Tryz.prog.cellsOf 23=1:=by kernel_rfl
   refine ⟨y.1,y.2,fuel,?_⟩
   have e2:x4.cells.toList=[x4]:=by obtain ⟨a,l,c,rfl⟩:=hsl;rfl
   rw [e2]
   have e3:∀(l:List Value),((#[x0,x1,x2,x3,x4]:Array Value).toList.drop 4).take 1=[x4]:=fun _=>rfl
   rw [←e3 [],←e1]
   exact hy
 obtain ⟨d',p',htr⟩:=htr
 obtain ⟨ρ',ls,sp,k1,k2,k3,k4,k5,k6,k7,k8,k9⟩:=Bz (k:=1) g7 g9 g10 hsl htr
 refine ⟨ρ',wd,dd,hd,len,xs,ls,sp,?_,g2,g3,g4,g5,g6,k3,k4,k5,g8.keep k1 (fun _ _=>rfl),k6,k7,k8,k9⟩
 have g1':=aE.mono k1 _ _ g1
 unfold bB at g1' ⊢
 simp only [aE] at g1' k2 ⊢
 obtain ⟨vs,hv,hr⟩:=g1'
 refine ⟨vs,hv,?_⟩
 simp only [au,aE] at hr ⊢
 obtain ⟨a1,l1,rfl,h1,a2,l2,rfl,h2,a3,l3,rfl,h3,a4,l4,rfl,h4,a5,l5,rfl,h5,rfl⟩:=hr
 have e5:a5=x4:=by
  injection hv with hv
  have:=congrArg Array.toList hv
  simp at this
  exact this.2.2.2.2.symm
 subst e5
 exact ⟨_,_,rfl,h1,_,_,rfl,h2,_,_,rfl,h3,_,_,rfl,h4,_,_,rfl,k2,rfl⟩
end
section
variable {H:Type} {enc:TypeId×Value→H} {w:World} {base b0:Nat} {r:Reach} {held:Bool} {spare:Nat→Bool}
instance:Inhabited Cm:=⟨⟨0,0,0,0,0⟩⟩
theorem Sp {fuel:Nat} {cs:List Value} {x:DataW H×List MemPlace} (h:DataW.trod enc Tryz.prog w base spare held fuel 42 cs=some x):∃a:Cm,cs=[.int .u16 a.seq,.int .u8 a.buttons,.int .i8 a.dx,.int .i8 a.dy,I a.ticks]:=by
 have c64:Tryz.prog.cellsOf 3=1:=by kernel_rfl
 have c16:Tryz.prog.cellsOf 39=1:=by kernel_rfl
 have c8:Tryz.prog.cellsOf 5=1:=by kernel_rfl
 have ci:Tryz.prog.cellsOf 40=1:=by kernel_rfl
 have c5:Tryz.prog.cellsOf 42=5:=by kernel_rfl
 obtain ⟨xs,k,rfl,_,hlen,_⟩:=DataW.trod_struct Tryz.underlying42 h
 rw [c5] at hlen
 match cs,hlen with
 |[v0,v1,v2,v3,v4],_=>
  obtain ⟨y0,h0⟩:=bL Tryz.underlying42 h (i:=0) rfl
  obtain ⟨y1,h1⟩:=bL Tryz.underlying42 h (i:=1) rfl
  obtain ⟨y2,h2⟩:=bL Tryz.underlying42 h (i:=2) rfl
  obtain ⟨y3,h3⟩:=bL Tryz.underlying42 h (i:=3) rfl
  obtain ⟨y4,h4⟩:=bL Tryz.underlying42 h (i:=4) rfl
  obtain ⟨n0,e0,_,f0⟩:=DataW.trod_int Tryz.underlying39 h0
  obtain ⟨n1,e1,_,f1⟩:=DataW.trod_int Tryz.underlying5 h1
  obtain ⟨n2,e2,_,f2⟩:=DataW.trod_int Tryz.underlying40 h2
  obtain ⟨n3,e3,_,f3⟩:=DataW.trod_int Tryz.underlying40 h3
  obtain ⟨n4,e4,_,f4⟩:=DataW.trod_int Tryz.underlying3 h4
  have e0:(([v0,v1,v2,v3,v4]:List Value).drop 0).take (Tryz.prog.cellsOf 39)=[.int .u16 n0]:=e0
  have e1:(([v0,v1,v2,v3,v4]:List Value).drop 1).take (Tryz.prog.cellsOf 5)=[.int .u8 n1]:=e1
  have e2:(([v0,v1,v2,v3,v4]:List Value).drop 2).take (Tryz.prog.cellsOf 40)=[.int .i8 n2]:=e2
  have e3:(([v0,v1,v2,v3,v4]:List Value).drop 3).take (Tryz.prog.cellsOf 40)=[.int .i8 n3]:=e3
  have e4:(([v0,v1,v2,v3,v4]:List Value).drop 4).take (Tryz.prog.cellsOf 3)=[I n4]:=e4
  rw [c16] at e0
  rw [c8] at e1
  rw [ci] at e2 e3
  rw [c64] at e4
  simp at e0 e1 e2 e3 e4
  exact ⟨⟨n0,n1,n2,n3,n4⟩,by rw [e0,e1,e2,e3,e4]⟩
end
end Go.Proofs.YtimkhidniolpeaaGreat
namespace Go.Proofs.YtimkhidniolpeaaGreat
set_option linter.unusedSimpArgs false
set_option linter.unusedVariables false
set_option maxRecDepth 100000
set_option maxHeartbeats 0
open Go.RowKit Go.ChangeShapes Go.WideShapes
end Go.Proofs.YtimkhidniolpeaaGreat
namespace Go.Proofs.YtimkhidniolpeaaGreat
set_option linter.unusedSimpArgs false
set_option linter.unusedVariables false
set_option maxRecDepth 100000
set_option maxHeartbeats 0
open Go.ChangeShapes Go.WideShapes Go.RowKit
section
variable {H:Type} {enc:TypeId×Value→H} {w:World} {base b0:Nat} {r:Reach} {held:Bool} {spare:Nat→Bool}
instance:Inhabited gQ:=⟨⟨0,0,⟨0,0,0,0,0⟩,0,0,⟨0,0,0⟩⟩⟩
theorem SX {fuel:Nat} {cs:List Value} {x:DataW H×List MemPlace} (h:DataW.trod enc Tryz.prog w base spare held fuel 46 cs=some x):∃a:gQ,cs=[I a.kind,I a.player,.int .u16 a.cmd.seq,.int .u8 a.cmd.buttons,.int .i8 a.cmd.dx,.int .i8 a.cmd.dy,I a.cmd.ticks,I a.shot,I a.ahead,I a.dir.x,I a.dir.y,I a.dir.z]:=by
 have c64:Tryz.prog.cellsOf 3=1:=by kernel_rfl
 have c5:Tryz.prog.cellsOf 42=5:=by kernel_rfl
 have c3:Tryz.prog.cellsOf 44=3:=by kernel_rfl
 have c12:Tryz.prog.cellsOf 46=12:=by kernel_rfl
 obtain ⟨xs,k,rfl,_,hlen,_⟩:=DataW.trod_struct Tryz.underlying46 h
 rw [c12] at hlen
 match cs,hlen with
 |[v0,v1,v2,v3,v4,v5,v6,v7,v8,v9,v10,v11],_=>
  obtain ⟨y0,h0⟩:=bL Tryz.underlying46 h (i:=0) rfl
  obtain ⟨y1,h1⟩:=bL Tryz.underlying46 h (i:=1) rfl
  obtain ⟨y2,h2⟩:=bL Tryz.underlying46 h (i:=2) rfl
  obtain ⟨y3,h3⟩:=bL Tryz.underlying46 h (i:=3) rfl
  obtain ⟨y4,h4⟩:=bL Tryz.underlying46 h (i:=4) rfl
  obtain ⟨y5,h5⟩:=bL Tryz.underlying46 h (i:=5) rfl
  obtain ⟨n0,e0,_,f0⟩:=DataW.trod_int Tryz.underlying3 h0
  obtain ⟨n1,e1,_,f1⟩:=DataW.trod_int Tryz.underlying3 h1
  obtain ⟨n2,e2⟩:=Sp h2
  obtain ⟨n3,e3,_,f3⟩:=DataW.trod_int Tryz.underlying3 h3
  obtain ⟨n4,e4,_,f4⟩:=DataW.trod_int Tryz.underlying3 h4
  obtain ⟨n5,e5,f5⟩:=yQ h5
  have e0:(([v0,v1,v2,v3,v4,v5,v6,v7,v8,v9,v10,v11]:List Value).drop 0).take (Tryz.prog.cellsOf 3)=[I n0]:=e0
  have e1:(([v0,v1,v2,v3,v4,v5,v6,v7,v8,v9,v10,v11]:List Value).drop 1).take (Tryz.prog.cellsOf 3)=[I n1]:=e1
  have e2:(([v0,v1,v2,v3,v4,v5,v6,v7,v8,v9,v10,v11]:List Value).drop 2).take (Tryz.prog.cellsOf 42)=[.int .u16 n2.seq,.int .u8 n2.buttons,.int .i8 n2.dx,.int .i8 n2.dy,I n2.ticks]:=e2
  have e3:(([v0,v1,v2,v3,v4,v5,v6,v7,v8,v9,v10,v11]:List Value).drop 7).take (Tryz.prog.cellsOf 3)=[I n3]:=e3
  have e4:(([v0,v1,v2,v3,v4,v5,v6,v7,v8,v9,v10,v11]:List Value).drop 8).take (Tryz.prog.cellsOf 3)=[I n4]:=e4
  have e5:(([v0,v1,v2,v3,v4,v5,v6,v7,v8,v9,v10,v11]:List Value).drop 9).take (Tryz.prog.cellsOf 44)=[I n5.x,I n5.y,I n5.z]:=e5
  rw [c64] at e0 e1 e3 e4
  rw [c5] at e2
  rw [c3] at e5
  simp at e0 e1 e2 e3 e4 e5
  obtain ⟨a2,b2,d2,g2,k2⟩:=e2
  obtain ⟨a5,b5,d5⟩:=e5
  exact ⟨⟨n0,n1,n2,n3,n4,n5⟩,by rw [e0,e1,a2,b2,d2,g2,k2,e3,e4,a5,b5,d5]⟩
theorem Ko {v:Value} {d:DataW H} {p:List MemPlace} (hval:∃oa len cap,v=.slice oa len cap) (h:DataW.Trod enc Tryz.prog w base spare held 26 v d p):
    ∃(oa:Option Addr) (len cap:Nat) (l:List gQ),v=.slice oa len cap∧len≤9223372036854775807∧len≤cap∧l.length=len∧
     (len=0∨∃b off,oa=some ⟨b,off,none⟩∧b<w.heap.size∧∀(i:Nat) (x:gQ),l[i]? =some x→∀(j:Nat) (s:SV),x.sv[j]? =some s→w.cell? ⟨b,off+i*12+j,none⟩=some (bK s)):=by
 obtain ⟨oa,len,cap,rfl⟩:=hval
 have c12:Tryz.prog.cellsOf 46=12:=by kernel_rfl
 obtain ⟨fuel,hf⟩:=h
 rcases Deep.open_slice Tryz.underlying26 hf with ⟨hx,_⟩|⟨a,len',cap',m,n,D,Pl,hx,_,hl,hm,hmm,_,hall⟩
 · simp [Value.cells] at hx
   obtain ⟨rfl,rfl,rfl⟩:=hx
   exact ⟨none,0,0,[],rfl,by omega,by omega,rfl,.inl rfl⟩
 · simp [Value.cells] at hx
   obtain ⟨rfl,rfl,rfl⟩:=hx
   have hmax:maxLen=9223372036854775807:=rfl
   have hlm:len≤m:=by rw [hmm];split<;>omega
   obtain ⟨F,hF⟩:=Deep.choose_lt (α:=gQ) (n:=len) (p:=fun i x=>(∀(j:Nat) (s:SV),x.sv[j]? =some s→w.cell? (a.add (i*12+j))=some (bK s))) (fun i hi=>by
    obtain ⟨cs,h1,h2⟩:=hall i (by omega)
    rw [c12] at h1
    obtain ⟨_,_,hc⟩:=World.cells?_some h1
    obtain ⟨x,rfl⟩:=SX h2
    refine ⟨x,fun j s hs=>?_⟩
    have hj:j<12:=by
     have:=(List.getElem?_eq_some_iff.1 hs).1
     simpa [gQ.sv] using this
    have:=hc j hj
    rw [Deep.add_add] at this
    rw [this]
    match j,hj with
    |0,_=>simp [gQ.sv] at hs;subst hs;rfl
    |1,_=>simp [gQ.sv] at hs;subst hs;rfl
    |2,_=>simp [gQ.sv] at hs;subst hs;rfl
    |3,_=>simp [gQ.sv] at hs;subst hs;rfl
    |4,_=>simp [gQ.sv] at hs;subst hs;rfl
    |5,_=>simp [gQ.sv] at hs;subst hs;rfl
    |6,_=>simp [gQ.sv] at hs;subst hs;rfl
    |7,_=>simp [gQ.sv] at hs;subst hs;rfl
    |8,_=>simp [gQ.sv] at hs;subst hs;rfl
    |9,_=>simp [gQ.sv] at hs;subst hs;rfl
    |10,_=>simp [gQ.sv] at hs;subst hs;rfl
    |11,_=>simp [gQ.sv] at hs;subst hs;rfl)
   refine ⟨some a,len,cap,(List.range len).map F,rfl,by omega,hl,by simp,?_⟩
   by_cases h0:len=0
   · exact .inl h0
   right
   obtain ⟨ab,ao,asp⟩:=a
   have h00:=hF 0 (by omega) 0 _ rfl
   have hsp:asp=none:=by
    cases asp with
    |none=>rfl
    |some s=>
     exfalso
     simp [Addr.add,World.cell?] at h00
     split at h00<;>simp at h00
   subst hsp
   refine ⟨ab,ao,rfl,?_,fun i x hx j s hs=>?_⟩
   · simp only [dw] at h00
     unfold World.cell? at h00
     cases hb:w.heap[ab]? with
     |none=>simp [hb] at h00
     |some b=>exact (Array.getElem?_eq_some_iff.1 hb).1
   · have hi:i<len:=by have:=(List.getElem?_eq_some_iff.1 hx).1;simpa using this
     have hxF:x=F i:=by
      rw [List.getElem?_map,List.getElem?_range hi] at hx
      simpa using hx.symm
     subst hxF
     have:=hF i hi j s hs
     simp only [dw] at this
     rw [Nat.add_assoc]
     exact this
theorem Od {ρ:aR} {k:Nat} {v:Value} {d:DataW H} {p:List MemPlace} (hg:gK ρ w) (hn:∀i,k≤i→ρ i=none) (hmi:∀i p,ρ i=some p→p.mine=false)
    (hval:∃oa len cap,v=.slice oa len cap) (h:DataW.Trod enc Tryz.prog w base spare held 26 v d p):
    ∃(ρ':aR) (len:Nat) (l:List gQ),ρ.le ρ'∧aE ρ' (.slice k 12 0 len none) v∧len≤9223372036854775807∧l.length=len∧gK ρ' w∧bk ρ' k (.vec true .wop l) w∧(∀i,k+1≤i→ρ' i=none)∧(∀i p,ρ' i=some p→p.mine=false):=by
 obtain ⟨oa,len,cap,l,rfl,h1,h2,h3,h4⟩:=Ko hval h
 rcases h4 with rfl |⟨b,off,rfl,hb,hc⟩
 · have hl:l=[]:=List.length_eq_zero_iff.1 h3
   subst hl
   refine ⟨ρ,0,[],aR.le.refl ρ,?_,by omega,rfl,hg,.inl ⟨rfl,rfl⟩,fun i hi=>hn i (by omega),hmi⟩
   simp only [aE]
   exact .inr ⟨trivial,trivial,_,_,rfl⟩
 · have hle:ρ.le (ρ.upd k ⟨b,off,false,0⟩):=aR.le_upd (hn k (Nat.le_refl _))
   have hat:(ρ.upd k ⟨b,off,false,0⟩) k=some ⟨b,off,false,0⟩:=by simp [aR.upd]
   refine ⟨ρ.upd k ⟨b,off,false,0⟩,len,l,hle,?_,h1,h3,?_,.inr ⟨⟨b,off,false,0⟩,hat,fun _=>rfl,fun h=>(by cases h),?_⟩,?_,?_⟩
   · simp only [aE]
     exact .inl ⟨_,off,cap,hat,rfl,by simp,.inl (by simp),h2,by simp⟩
   · intro i p hp
     unfold aR.upd at hp
     split at hp
     · cases hp;exact hb
     · exact hg i p hp
   · intro i x hx j s hs
     exact hc i x hx j s hs
   · intro i hi
     unfold aR.upd
     rw [if_neg (by omega)]
     exact hn i (by omega)
   · intro i p hp
     unfold aR.upd at hp
     split at hp
     · cases hp;rfl
     · exact hmi i p hp
end
end Go.Proofs.YtimkhidniolpeaaGreat
