/- Part of the proof. -/
import Derived.Test.YtimkhidniolpeaaGreatVmRga
import Derived.Test.YtimkhidniolpeaaGreatVmDp
import Derived.Test.YtimkhidniolpeaaGreatVmR
namespace Go.Proofs.YtimkhidniolpeaaGreat
set_option linter.unusedSimpArgs false
set_option linter.unusedVariables false
set_option maxRecDepth 100000
set_option maxHeartbeats 0
open Go.RowKit
noncomputable def HI:bS:=aV [61] [GD,HL,Ld]
theorem wq:bV Tryz.prog HI:=aD (by kernel_rfl)
def ov (r:RS):Option (Nat×List Sh)→List Row
 |none=>r.gm 1 2 6 7 8 .f:: .vec true .bool r.xs:: .vec true .vec r.sp:: .gone:: .gone:: .gone::r.vs .f
 |some (_,xs)=>r.gm 1 2 7 8 9 .f:: .vec true .bool r.xs:: .vec true .vec r.sp:: .gone:: .gone:: .gone:: .vec false .sh xs::r.vs .f
def fH (X:Option (Nat×List Sh)) (i:Int):List SV:=[.ptr 0 0 0 0,(match X with |none=>.nils |some (n,_)=>.slice 6 11 0 n none),.int .i64 i]
noncomputable def Q3:List SV→List Row→Option aj:=bj HI (fun _ _=>none) 100 28 [0,1,0,1,1] (bg Tryz.f28 [0,1,0,1,1]) 95 6 [0,2,3]
def uD (ll:Nat) (xs:List Sh):Bool:=(decide (0<ll)||(none:Option Nat).isSome)&&(decide (ll≤xs.length)&&(decide (ll+1≤9223372036854775807)&&decide ((ll+1)*88≤140737488355328)))
def N8 (r:RS) (X:Option (Nat×List Sh)) (i:Int):Option aj:=some (.tuple [.nilp,.tuple (fH X (IntKind.i64.wrap (i+1)))],ov r X)
def Cv (r:RS) (X:Option (Nat×List Sh)) (i:Int) (t:Sh):Option aj:=match X with
 |none=>N8 r (some (1,[t])) i
 |some (ll,xs)=>bif uD ll xs then N8 r (some (ll+1,xs.take ll++[t])) i else none
noncomputable def Zs (r:RS) (X:Option (Nat×List Sh)) (i:Int) (s:Sh):Option aj:=
 bif iK r s then (bif (bM r s).2.2 then Cv (bM r s).1 X i (bM r s).2.1 else N8 (bM r s).1 X i) else none
noncomputable def XY (r:RS) (X:Option (Nat×List Sh)) (i:Int) (ex:Option aj):Option aj:=
 bif decide (i<(r.nh:Int)) then (bif decide (0≤i)&&decide (i<(r.nh:Int)) then (bif decide (0+i.toNat<r.shs.length) then Zs r X i (r.shs.getD (0+i.toNat) aA.sh.dflt) else none) else none) else ex
theorem BG (r:RS) (i:Int):∀X:Option (Nat×List Sh),Q3 (fH X i) (ov r X)=XY r X i (some (.tuple [.ptr 0 0 0 0,.tuple (fH X i)],ov r X))
 |none=>by kernel_rfl
 |some (ll,xs)=>by kernel_rfl
theorem MI (r:RS):Q3 (fH none 0) (r.rows .f)=XY r none 0 (some (.tuple [.ptr 0 0 0 0,.tuple (fH none 0)],r.rows .f)):=by kernel_rfl
noncomputable def bv:RS→List Sh→List Sh→RS×List Sh
 |r,left,[]=>(r,left)
 |r,left,t::ts=>bv (bM r t).1 (bif (bM r t).2.2 then left++[(bM r t).2.1] else left) ts
noncomputable def gF:RS→List Sh→Bool
 |_,[]=>true
 |r,t::ts=>iK r t&&gF (bM r t).1 ts
theorem vv (r:RS) (t:Sh):(bM r t).1={r with np:=(bM r t).1.np,cp:=(bM r t).1.cp,ps:=(bM r t).1.ps}:=by
 rfl
def n6 (left:List Sh):Option (Nat×List Sh):=match left with
 |[]=>none
 |_=>some (left.length,left)
theorem Im {r:RS} {left:List Sh} {i:Int} {t:Sh} (hl:left.length≤1000):Cv r (n6 left) i t=N8 r (n6 (left++[t])) i:=by
 cases left with
 |nil=>rfl
 | cons x xs=>
  have hg:uD (x::xs).length (x::xs)=true:=by
   simp only [uD,Bool.and_eq_true,Bool.or_eq_true,decide_eq_true_eq]
   simp only [List.length_cons] at hl ⊢
   refine ⟨.inl (by omega),Nat.le_refl _,by omega,by omega⟩
  simp only [n6,Cv]
  rw [hg,cond_true,List.take_length]
  simp [n6]
theorem G6 {r:RS} {left:List Sh} {i:Nat} {t:Sh} {ts:List Sh} {ex:Option aj} (hn:r.nh=r.shs.length) (hL:r.shs.length≤1000) (hd:r.shs.drop i=t::ts) (hli:left.length≤i) (hf:iK r t=true):
    XY r (n6 left) i ex=some (.tuple [.nilp,.tuple (fH (n6 (bif (bM r t).2.2 then left++[(bM r t).2.1] else left)) ((i+1:Nat):Int))],ov (bM r t).1 (n6 (bif (bM r t).2.2 then left++[(bM r t).2.1] else left))):=by
 have hlt:i<r.shs.length:=by
  have:=congrArg List.length hd
  rw [List.length_drop,List.length_cons] at this
  omega
 have ht:r.shs.getD (0+(i:Int).toNat) aA.sh.dflt=t:=by
  have h1:r.shs[i]? =some t:=by
   have:=congrArg List.head? hd
   rw [List.head?_drop] at this
   exact this
  simp only [List.getD,Int.toNat_natCast,Nat.zero_add,h1]
  rfl
 unfold XY
 rw [hn,decide_eq_true (by omega),decide_eq_true (by omega),decide_eq_true (by omega)]
 simp only [Bool.and_self,cond_true]
 refine (congrArg (Zs r (n6 left) i) ht).trans ?_
 unfold Zs
 rw [hf,cond_true,Im (by omega)]
 have hw:IntKind.i64.wrap ((i:Int)+1)=((i+1:Nat):Int):=by
  rw [IntWalk.i64_in _ (by omega)];omega
 cases (bM r t).2.2<;>(simp only [cond_true,cond_false];unfold N8;rw [hw])
theorem FB:∀(ts left:List Sh) (r:RS) (i:Nat),r.nh=r.shs.length→r.shs.length≤1000→r.shs.drop i=ts→i+ts.length=r.shs.length→left.length≤i→gF r ts=true→
    aJ Q3 (fH (n6 left) i) (ov r (n6 left)) (.exit 0) (fH (n6 (bv r left ts).2) (r.nh:Int)) (ov (bv r left ts).1 (n6 (bv r left ts).2))
 |[],left,r,i,hn,hL,hd,hl,hli,_=>by
  obtain rfl:i=r.shs.length:=by simpa using hl
  refine .done ?_ (by simp)
  rw [BG]
  unfold XY
  rw [hn,decide_eq_false (by omega),cond_false]
  rfl
 |t::ts,left,r,i,hn,hL,hd,hl,hli,hf=>by
  rw [gF,Bool.and_eq_true] at hf
  have hs:=vv r t
  have hnh:(bM r t).1.nh=r.nh:=by rw [hs]
  have hsh:(bM r t).1.shs=r.shs:=by rw [hs]
  have ih:=FB ts (bif (bM r t).2.2 then left++[(bM r t).2.1] else left) (bM r t).1 (i+1) (by rw [hnh,hsh];exact hn) (by rw [hsh];exact hL) (by rw [hsh,←List.drop_drop,hd];rfl) (by rw [hsh];simp at hl;omega) (by cases (bM r t).2.2<;>simp<;>omega) hf.2
  rw [hnh] at ih
  exact .more ((BG r i (n6 left)).trans (G6 hn hL hd hli hf.1)) ih
theorem LH {r:RS} (hn:r.nh=r.shs.length) (hL:r.shs.length≤1000) (h0:0<r.nh) (hf:gF r r.shs=true):
    aJ Q3 (fH none 0) (r.rows .f) (.exit 0) (fH (n6 (bv r [] r.shs).2) (r.nh:Int)) (ov (bv r [] r.shs).1 (n6 (bv r [] r.shs).2)):=by
 cases hd:r.shs with
 |nil=>rw [hd] at hn;simp at hn;omega
 |cons t ts=>
  rw [hd,gF,Bool.and_eq_true] at hf
  have hs:=vv r t
  have hnh:(bM r t).1.nh=r.nh:=by rw [hs]
  have hsh:(bM r t).1.shs=r.shs:=by rw [hs]
  have h1:=G6 (left:=[]) (i:=0) (ex:=some (.tuple [.ptr 0 0 0 0,.tuple (fH none 0)],r.rows .f)) hn hL (t:=t) (ts:=ts) hd (by simp) hf.1
  have ih:=FB ts (bif (bM r t).2.2 then []++[(bM r t).2.1] else []) (bM r t).1 1 (by rw [hnh,hsh];exact hn) (by rw [hsh];exact hL) (by rw [hsh,hd];rfl) (by rw [hsh,hd,List.length_cons];omega) (by cases (bM r t).2.2<;>simp) hf.2
  rw [hnh] at ih
  exact .more ((MI r).trans h1) ih
noncomputable def IL (r:RS):Bool:=decide (r.nh=r.shs.length)&&(decide (r.shs.length≤1000)&&(decide (0<r.nh)&&gF r r.shs))
noncomputable def U4 (v:List SV) (R:List Row) (k:Ex→List SV→List Row→Option aj):Option aj:=match v,cW R 0,R with
 |[.ptr 0 0 0 0,.nils,.int .i64 i],some (q,.n,[0,1,2]),[_,_,_]=>bif decide (i=0) then k (.exit 0) (fH none 0) (q.rows .n) else none
 |[.ptr 0 0 0 0,.nils,.int .i64 i],some (q,.s,[0,1,2,3,4]),[_,_,_,_,_]=>bif decide (i=0) then k (.exit 0) (fH none 0) (q.rows .s) else none
 | [.ptr 0 0 0 0,.nils,.int .i64 i],some (q,.f,[0,1,2,3,4,5]),[_,_,_,_,_,_]=>bif decide (i=0)&&IL q then
     (bif (bv q [] q.shs).2.isEmpty then k (.exit 0) (fH none q.nh) (ov (bv q [] q.shs).1 none)
     else k (.exit 0) (fH (some ((bv q [] q.shs).2.length,(bv q [] q.shs).2)) q.nh) (ov (bv q [] q.shs).1 (some ((bv q [] q.shs).2.length,(bv q [] q.shs).2)))) else none
 |_,_,_=>none
theorem FS (r:RS):bj HI (fun _ _=>none) 100 28 [0,1,0,1,1] (bg Tryz.f28 [0,1,0,1,1]) 95 3 [0,2,3] (fH none 0) (r.rows .n)=some (.tuple [.ptr 0 0 0 0,.tuple (fH none 0)],r.rows .n)∧
    bj HI (fun _ _=>none) 100 28 [0,1,0,1,1] (bg Tryz.f28 [0,1,0,1,1]) 95 5 [0,2,3] (fH none 0) (r.rows .s)=some (.tuple [.ptr 0 0 0 0,.tuple (fH none 0)],r.rows .s):=⟨by kernel_rfl,by kernel_rfl⟩
theorem NA:da 28 [0,1,0,1,1] (bG 95 [0,2,3] U4):=by
 intro b hat s K r h
 refine aQ (fuel:=100) wq ag hat (fun v R k r hr=>?_) h
 have hbody:=aZ Tryz.func28 hat
 subst hbody
 unfold U4 at hr
 split at hr
 · rename_i i q r0 r1 r2 hq
   obtain ⟨hb,hr2⟩:=al hr
   rw [decide_eq_true_eq] at hb
   subst hb
   rw [gG (v:=.n) (bQ hq).1 rfl]
   exact ⟨_,_,_,hr2,.done (FS q).1 (by simp)⟩
 · rename_i i q r0 r1 r2 r3 r4 hq
   obtain ⟨hb,hr2⟩:=al hr
   rw [decide_eq_true_eq] at hb
   subst hb
   rw [gG (v:=.s) (bQ hq).1 rfl]
   exact ⟨_,_,_,hr2,.done (FS q).2 (by simp)⟩
 · rename_i i q r0 r1 r2 r3 r4 r5 hq
   obtain ⟨hb,hr2⟩:=al hr
   unfold IL at hb
   rw [Bool.and_eq_true,Bool.and_eq_true,Bool.and_eq_true,Bool.and_eq_true,decide_eq_true_eq,decide_eq_true_eq,decide_eq_true_eq,decide_eq_true_eq] at hb
   obtain ⟨rfl,h1,h2,h3,h4⟩:=hb
   rw [gG (v:=.f) (bQ hq).1 rfl]
   have hl:=LH h1 h2 h3 h4
   cases hE:(bv q [] q.shs).2 with
   |nil=>
    rw [hE] at hr2 hl
    exact ⟨_,_,_,hr2,hl⟩
   |cons x xs=>
    rw [hE] at hr2 hl
    exact ⟨_,_,_,hr2,hl⟩
 · cases hr
noncomputable def Ti:jh:=⟨_,_,_,NA⟩
def mP (r:RS) (old:List Sh):Option (Option (Nat×List Sh))→List Row
 |none=>r.rows .s
 |some none=>r.gm 1 2 6 7 0 .s:: .vec true .bool r.xs:: .vec true .vec r.sp:: .gone:: .gone:: .gone::[.vec false .pl r.ps,.vec false .i64 r.lf,.vec false .sh old]
 |some (some (n,xs))=>{r with nh:=n}.gm 1 2 7 8 6 .f:: .vec true .bool r.xs:: .vec true .vec r.sp:: .gone:: .gone:: .gone:: .vec false .sh xs::[.vec false .pl r.ps,.vec false .i64 r.lf,.vec false .sh old]
def LE:Option (Option (Nat×List Sh))→Nat
 |none=>5
 |some none=>9
 |some (some _)=>10
def jW (i:Int):List SV:=[.ptr 0 0 0 0,.int .i64 i]
noncomputable def QQ (n0:Nat):List SV→List Row→Option aj:=bj HI (fun _ _=>none) 100 28 [0,1,1,1,1,1] (bg Tryz.f28 [0,1,1,1,1,1]) 95 n0 [0,6]
def fU (i:Int) (n len:Nat) (k:Option aj):Option aj:=bif decide (0≤i)&&decide (i<(n:Int)) then (bif decide (0+i.toNat<len) then k else none) else none
def oG (r:RS) (id:Int):Int:=(IntKind.i64.wrap (id - 1)).tmod (r.ls:Int)
def fF (r:RS) (id:Int):V3:=r.sp.getD (0+(oG r id).toNat) ⟨0,0,0⟩
def pB (r:RS) (id:Int) (k:Option aj):Option aj:=bif !decide ((r.ls:Int)=0) then fU (oG r id) r.ls r.sp.length k else none
def RS.setP (r:RS) (i:Int) (q:Pl):RS:={r with ps:=r.ps.set (0+i.toNat) q,lf:=r.lf.set (0+i.toNat) (min (IntKind.i64.wrap (r.lf.getD (0+i.toNat) 0+1)) 16)}
def YS (r:RS) (i:Int) (p:Pl) (k:RS→Option aj):Option aj:=bif am p.wait&&am p.dead then
    (bif p.dead==1 then pB r (dC p).id (fU i r.np r.ps.length (fU i r.nl r.lf.length (fU i r.nl r.lf.length (k (r.setP i (sW (dC p) (fF r (dC p).id)))))))
    else fU i r.np r.ps.length (fU i r.nl r.lf.length (fU i r.nl r.lf.length (k (r.setP i (dC p)))))) else none
def Zx (r:RS) (old:List Sh) (X:Option (Option (Nat×List Sh))) (i:Int):Option aj:=
 bif decide (i<(r.np:Int)) then fU i r.np r.ps.length (YS r i (r.ps.getD (0+i.toNat) aA.pl.dflt) fun r'=>some (.tuple [.nilp,.tuple (jW (IntKind.i64.wrap (i+1)))],mP r' old X)) else some (.tuple [.ptr 2 0 0 0,.tuple (jW i)],mP r old X)
theorem AL (r:RS) (old:List Sh) (i:Int):∀X,QQ (LE X) (jW i) (mP r old X)=Zx r old X i
 |none=>by kernel_rfl
 |some none=>by kernel_rfl
 |some (some (n,xs))=>by kernel_rfl
def j4 (r:RS) (p:Pl):Pl:=bif p.dead==1 then sW (dC p) (fF r (dC p).id) else dC p
def yd (n:Int):Int:=min (IntKind.i64.wrap (n+1)) 16
def dX (r:RS) (id:Int):Bool:= !decide ((r.ls:Int)=0)&&(decide (0≤oG r id)&&(decide (oG r id<(r.ls:Int))&&decide (0+(oG r id).toNat<r.sp.length)))
def Gw (r:RS) (p:Pl):Bool:=(am p.wait&&am p.dead)&&(!(p.dead==1)||dX r (dC p).id)
theorem ck {i:Int} {n len:Nat} {k:Option aj} (h1:0≤i) (h2:i<(n:Int)) (h3:0+i.toNat<len):fU i n len k=k:=by
 unfold fU
 rw [decide_eq_true h1,decide_eq_true h2,decide_eq_true h3]
 rfl
theorem lT {r:RS} {id:Int} {k:Option aj} (h:dX r id=true):pB r id k=k:=by
 unfold dX at h
 rw [Bool.and_eq_true,Bool.and_eq_true,Bool.and_eq_true] at h
 obtain ⟨h1,h2,h3,h4⟩:=h
 unfold pB
 rw [h1,cond_true]
 exact ck (of_decide_eq_true h2) (of_decide_eq_true h3) (of_decide_eq_true h4)
def RS.finP (r:RS) (i:Nat):RS:={r with ps:=r.ps.take i++(r.ps.drop i).map (j4 r),lf:=r.lf.take i++(r.lf.drop i).map yd}
theorem nR {α:Type} (f:α→α) (l:List α) (i:Nat) (h:i<l.length) (x:α) (hx:x=f l[i]):(l.set i x).take (i+1)++((l.set i x).drop (i+1)).map f=l.take i++(l.drop i).map f:=by
 subst hx
 rw [List.drop_eq_getElem_cons h,List.map_cons,List.take_add_one,List.getElem?_set_self h,List.take_set_of_le (by omega),List.drop_set_of_lt (by omega)]
 simp only [Option.toList_some,List.append_assoc,List.singleton_append]
theorem FN {old:List Sh} {X:Option (Option (Nat×List Sh))}:∀(n i:Nat) (r:RS),i+n=r.ps.length→r.np=r.ps.length→r.nl=r.ps.length→r.lf.length=r.ps.length→r.ps.length≤1000→(∀p∈r.ps.drop i,Gw r p=true)→
    aJ (QQ (LE X)) (jW i) (mP r old X) (.exit 2) (jW (r.np:Int)) (mP (r.finP i) old X)
 | 0,i,r,h1,h2,h3,h4,h5,_=>by
  obtain rfl:i=r.ps.length:=by omega
  refine .done ?_ (by simp)
  rw [AL]
  unfold Zx
  rw [h2,decide_eq_false (by omega),cond_false]
  have e:r.finP r.ps.length=r:=by
   unfold RS.finP
   rw [←h4]
   simp only [List.drop_length,List.take_length,List.map_nil,List.append_nil]
   rw [h4]
   simp
  rw [e]
  rfl
 | n+1,i,r,h1,h2,h3,h4,h5,hok=>by
  have hi:i<r.ps.length:=by omega
  have hi4:i<r.lf.length:=by omega
  have ht:(i:Int).toNat=i:=by omega
  have hr:=AL r old i X
  unfold Zx at hr
  have e0:r.ps.getD (0+(i:Int).toNat) aA.pl.dflt=r.ps[i]:=by
   rw [ht,Nat.zero_add]
   exact fJ _ hi
  have hp:=hok r.ps[i] (by rw [List.drop_eq_getElem_cons hi];exact List.mem_cons_self ..)
  have hset:∀q,r.setP i q={r with ps:=r.ps.set i q,lf:=r.lf.set i (yd r.lf[i])}:=fun q=>by
   unfold RS.setP yd
   rw [ht,Nat.zero_add,show r.lf.getD i 0=r.lf[i] by simp [List.getD,List.getElem?_eq_getElem hi4]]
  have hk:∀(k:RS→Option aj),YS r i r.ps[i] k=k {r with ps:=r.ps.set i (j4 r r.ps[i]),lf:=r.lf.set i (yd r.lf[i])}:=fun k=>by
   unfold Gw at hp
   rw [Bool.and_eq_true] at hp
   unfold YS j4
   rw [hp.1,cond_true,hset,hset]
   cases hd:r.ps[i].dead==1 with
   |true=>
    have h6:=hp.2
    rw [hd,Bool.not_true,Bool.false_or] at h6
    rw [cond_true,cond_true,lT h6,ck (by omega) (by omega) (by omega),ck (by omega) (by omega) (by omega),ck (by omega) (by omega) (by omega)]
   |false=>
    rw [cond_false,cond_false,ck (by omega) (by omega) (by omega),ck (by omega) (by omega) (by omega),ck (by omega) (by omega) (by omega)]
  rw [decide_eq_true (show (i:Int)<(r.np:Int) by omega),cond_true,ck (by omega) (by omega) (by omega)] at hr
  have hr:=hr.trans ((congrArg (fun p=>YS r i p _) e0).trans (hk _))
  rw [IntWalk.i64_in _ (by omega)] at hr
  have ih:=FN (old:=old) (X:=X) n (i+1) {r with ps:=r.ps.set i (j4 r r.ps[i]),lf:=r.lf.set i (yd r.lf[i])} (by simp;omega) (by simp [h2]) (by simp [h3]) (by simp [h4]) (by simpa using h5) (fun p hm=>by
   refine hok p ?_
   simp only [List.drop_set_of_lt (show i<i+1 by omega)] at hm
   rw [List.drop_eq_getElem_cons hi]
   exact List.mem_cons_of_mem _ hm)
  have e:RS.finP {r with ps:=r.ps.set i (j4 r r.ps[i]),lf:=r.lf.set i (yd r.lf[i])} (i+1)=r.finP i:=by
   unfold RS.finP
   simp only [RS.mk.injEq,true_and,and_true]
   exact ⟨nR (j4 r) r.ps i hi _ rfl,nR yd r.lf i hi4 _ rfl⟩
  rw [e] at ih
  exact .more hr ih
def RS.tickP (r:RS):RS:={r with ps:=r.ps.map (j4 r),lf:=r.lf.map yd}
def okU (r:RS):Bool:=decide (r.np=r.ps.length)&&(decide (r.nl=r.ps.length)&&(decide (r.lf.length=r.ps.length)&&(decide (r.ps.length≤1000)&&r.ps.all (Gw r))))
theorem tc {old:List Sh} {X:Option (Option (Nat×List Sh))} {r:RS} (h:okU r=true):aJ (QQ (LE X)) (jW 0) (mP r old X) (.exit 2) (jW (r.np:Int)) (mP r.tickP old X):=by
 unfold okU at h
 rw [Bool.and_eq_true,Bool.and_eq_true,Bool.and_eq_true,Bool.and_eq_true,decide_eq_true_eq,decide_eq_true_eq,decide_eq_true_eq,decide_eq_true_eq,List.all_eq_true] at h
 obtain ⟨h1,h2,h3,h4,h5⟩:=h
 exact FN r.ps.length 0 r (by omega) h1 h2 h3 h4 h5
theorem Rz (r:RS):QQ 3 (jW 0) (r.rows .n)=some (.tuple [.ptr 2 0 0 0,.tuple (jW 0)],r.rows .n):=by kernel_rfl
noncomputable def T4 (v:List SV) (R:List Row) (k:Ex→List SV→List Row→Option aj):Option aj:=match v,cW R 0,R with
 |[.ptr 0 0 0 0,.int .i64 i],some (q,.n,[0,1,2]),[_,_,_]=>bif decide (i=0) then k (.exit 2) (jW 0) (q.rows .n) else none
 |[.ptr 0 0 0 0,.int .i64 i],some (q,.s,[0,1,2,3,4]),[_,_,_,_,_]=>bif decide (i=0)&&okU q then k (.exit 2) (jW q.np) (mP q.tickP [] none) else none
 |[.ptr 0 0 0 0,.int .i64 i],some (q,.s,[0,1,2,6,7]),[_,_,_,.gone,.gone,.gone,_,_,.vec false .sh old]=>bif decide (i=0)&&okU q then k (.exit 2) (jW q.np) (mP q.tickP old (some none)) else none
 |[.ptr 0 0 0 0,.int .i64 i],some (q,.f,[0,1,2,7,8,6]),[_,_,_,.gone,.gone,.gone,_,_,_,.vec false .sh old]=>bif decide (i=0)&&okU q then k (.exit 2) (jW q.np) (mP q.tickP old (some (some (q.nh,q.shs)))) else none
 |_,_,_=>none
theorem NR:da 28 [0,1,1,1,1,1] (bG 95 [0,6] T4):=by
 intro b hat s K r h
 refine aQ (fuel:=100) wq ag hat (fun v R k r hr=>?_) h
 have hbody:=aZ Tryz.func28 hat
 subst hbody
 unfold T4 at hr
 split at hr
 · rename_i i q r0 r1 r2 hq
   obtain ⟨hb,hr2⟩:=al hr
   rw [decide_eq_true_eq] at hb
   subst hb
   rw [gG (v:=.n) (bQ hq).1 rfl]
   exact ⟨_,_,_,hr2,.done (Rz q) (by simp)⟩
 · rename_i i q r0 r1 r2 r3 r4 hq
   obtain ⟨hb,hr2⟩:=al hr
   rw [Bool.and_eq_true,decide_eq_true_eq] at hb
   obtain ⟨rfl,h1⟩:=hb
   rw [gG (v:=.s) (bQ hq).1 rfl]
   exact ⟨_,_,_,hr2,tc (X:=none) (old:=[]) h1⟩
 · rename_i i q r0 r1 r2 r6 r7 old hq
   obtain ⟨hb,hr2⟩:=al hr
   rw [Bool.and_eq_true,decide_eq_true_eq] at hb
   obtain ⟨rfl,h1⟩:=hb
   have hat:=(bQ hq).1
   obtain rfl:r0=_:=Option.some.inj (hat.at' 0 _ rfl)
   obtain rfl:r1=_:=Option.some.inj (hat.at' 1 _ rfl)
   obtain rfl:r2=_:=Option.some.inj (hat.at' 2 _ rfl)
   obtain rfl:r6=_:=Option.some.inj (hat.at' 3 _ rfl)
   obtain rfl:r7=_:=Option.some.inj (hat.at' 4 _ rfl)
   exact ⟨_,_,_,hr2,tc (X:=some none) (old:=old) h1⟩
 · rename_i i q r0 r1 r2 r6 r7 r8 old hq
   obtain ⟨hb,hr2⟩:=al hr
   rw [Bool.and_eq_true,decide_eq_true_eq] at hb
   obtain ⟨rfl,h1⟩:=hb
   have hat:=(bQ hq).1
   obtain rfl:r0=_:=Option.some.inj (hat.at' 0 _ rfl)
   obtain rfl:r1=_:=Option.some.inj (hat.at' 1 _ rfl)
   obtain rfl:r2=_:=Option.some.inj (hat.at' 2 _ rfl)
   obtain rfl:r7=_:=Option.some.inj (hat.at' 3 _ rfl)
   obtain rfl:r8=_:=Option.some.inj (hat.at' 4 _ rfl)
   obtain rfl:r6=_:=Option.some.inj (hat.at' 5 _ rfl)
   exact ⟨_,_,_,hr2,tc (X:=some (some (q.nh,q.shs))) (old:=old) h1⟩
 · cases hr
noncomputable def TZ:jh:=⟨_,_,_,NR⟩
def RS.nowR (r:RS):RS:={r with now:=IntKind.i64.wrap (r.now+1)}
noncomputable def RS.flownAll (r:RS):RS:={(bv r.nowR [] r.nowR.shs).1 with nh:=(bv r.nowR [] r.nowR.shs).2.length,shs:=(bv r.nowR [] r.nowR.shs).2}
noncomputable def wA (r:RS):Vr→Option aj
 |.n=>some (.tuple [],r.nowR.rows .n)
 |.s=>bif okU r.nowR then some (.tuple [],r.nowR.tickP.rows .s) else none
 | .f=>bif IL r.nowR then (bif (bv r.nowR [] r.nowR.shs).2.isEmpty then (bif okU {(bv r.nowR [] r.nowR.shs).1 with nh:=0,shs:=[]} then some (.tuple [],(RS.tickP {(bv r.nowR [] r.nowR.shs).1 with nh:=0,shs:=[]}).rows .s) else none)
     else (bif okU r.flownAll then some (.tuple [],r.flownAll.tickP.rows .f) else none)) else none
theorem ED (r:RS):∀v,gN HI (aF [Ti,TZ]) 28 Tryz.f28 [] r v=wA r v
 |.n=>by kernel_rfl
 |.s=>by kernel_rfl
 |.f=>by kernel_rfl
noncomputable def LP:bS:=aV [] [rR,GS,MP,GD]
theorem Fc:bV Tryz.prog LP:=aD (by kernel_rfl)
def gP (r:RS) (d:V3) (t:Sh) (q:Pl):Vr→Bool→List Row
 |.f,false=>[r.gm 1 2 7 8 9 .f,.vec true .bool r.xs,.vec true .vec r.sp,.gone,.gone,.gone,.own d.sv,.vec false .pl r.ps,.vec false .i64 r.lf,.vec false .sh r.shs,.own t.sv,.own q.sv]
 |.f,true=>[r.gm 1 2 12 13 14 .f,.vec true .bool r.xs,.vec true .vec r.sp,.gone,.gone,.gone,.own d.sv,.gone,.gone,.gone,.own t.sv,.own q.sv,.vec false .pl r.ps,.vec false .i64 r.lf,.vec false .sh r.shs]
 |_,false=>[r.gm 1 2 6 7 0 .s,.vec true .bool r.xs,.vec true .vec r.sp,.gone,.gone,.own d.sv,.vec false .pl r.ps,.vec false .i64 r.lf,.own t.sv,.own q.sv]
 |_,true=>[r.gm 1 2 10 11 0 .s,.vec true .bool r.xs,.vec true .vec r.sp,.gone,.gone,.own d.sv,.gone,.gone,.own t.sv,.own q.sv,.vec false .pl r.ps,.vec false .i64 r.lf]
def Fm:Vr→Nat
 |.f=>12
 |_=>10
def gS (v:Vr) (ahead:Int) (l:Bool) (n:Int):List SV:=[.ptr 0 0 0 0,.int .i64 ahead,.ptr (match v with |.f=>10 |_=>8) 0 0 0,.bool l,.int .i64 n]
noncomputable def IG (n0:Nat):List SV→List Row→Option aj:=bj LP (fun _ _=>none) 100 27 [0,1,0,1,1,1,1,1,1,1,1,1,1,1] (bg Tryz.f27 [0,1,0,1,1,1,1,1,1,1,1,1,1,1]) 115 n0 [0,4,13,17,18]
noncomputable def Ya (r:RS) (d:V3) (t:Sh) (q:Pl) (v:Vr) (b:Bool) (a:Int) (l:Bool) (n:Int):Option aj:=
 bif nQ (nQ (decide (n<a)) (decide (n<8))) l then (bif iK r t then some (.tuple [.nilp,.tuple (gS v a (bM r t).2.2 (IntKind.i64.wrap (n+1)))],gP (bM r t).1 d (bM r t).2.1 q v true) else none) else some (.tuple [.ptr 0 0 0 0,.tuple (gS v a l n)],gP r d t q v b)
theorem yu (r:RS) (d:V3) (t:Sh) (q:Pl) (a:Int) (l:Bool) (n:Int):(∀b,IG 10 (gS .s a l n) (gP r d t q .s b)=Ya r d t q .s b a l n)∧∀b,IG 12 (gS .f a l n) (gP r d t q .f b)=Ya r d t q .f b a l n:=
 ⟨fun b=>match b with |true=>by kernel_rfl |false=>by kernel_rfl,fun b=>match b with |true=>by kernel_rfl |false=>by kernel_rfl⟩
noncomputable def fliesN:Nat→Int→RS→Sh→RS×Sh×Bool×Int
 |0,n,r,t=>(r,t,true,n)
 |k+1,n,r,t=>bif (bM r t).2.2 then fliesN k (n+1) (bM r t).1 (bM r t).2.1 else ((bM r t).1,(bM r t).2.1,false,n+1)
noncomputable def eC:Nat→RS→Sh→Bool
 |0,_,_=>true
 |k+1,r,t=>iK r t&&(bif (bM r t).2.2 then eC k (bM r t).1 (bM r t).2.1 else true)
def cg (a:Int):Nat:=(min (max a 0) 8).toNat
theorem MR {r:RS} {d:V3} {t:Sh} {q:Pl} {a:Int} {l:Bool} {n:Int} {v:Vr} (hv:v≠ .n) (b:Bool):IG (Fm v) (gS v a l n) (gP r d t q v b)=Ya r d t q v b a l n:=by
 cases v with
 |n=>exact absurd rfl hv
 |s=>exact (yu r d t q a l n).1 b
 |f=>exact (yu r d t q a l n).2 b
theorem xY {r:RS} {d:V3} {t:Sh} {q:Pl} {a:Int} {l:Bool} {n:Int} {v:Vr} (hv:v≠ .n) (b:Bool) (h: ¬ (n<a∧n<8)∨l=false):aJ (IG (Fm v)) (gS v a l n) (gP r d t q v b) (.exit 0) (gS v a l n) (gP r d t q v b):=by
 refine .done ?_ (by simp)
 rw [MR hv]
 unfold Ya
 have :nQ (nQ (decide (n<a)) (decide (n<8))) l=false:=by
  rw [gv,gv]
  rcases h with h |h
  · rw [show (decide (n<a)&&decide (n<8))=false by simpa using h];rfl
  · rw [h,Bool.and_false]
 rw [this]
 rfl
theorem Fx {d:V3} {q:Pl} {a:Int} {v:Vr} (hv:v≠ .n):∀(k:Nat) (n:Int) (r:RS) (t:Sh) (b:Bool),0≤n→n+k=min (max a 0) 8→eC k r t=true→(k=0→b=true)→
    aJ (IG (Fm v)) (gS v a true n) (gP r d t q v b) (.exit 0) (gS v a (fliesN k n r t).2.2.1 (fliesN k n r t).2.2.2) (gP (fliesN k n r t).1 d (fliesN k n r t).2.1 q v true)
 |0,n,r,t,b,h0,hk,_,hb=>by
  rw [hb rfl]
  exact xY hv true (.inl (by omega))
 | k+1,n,r,t,b,h0,hk,hok,_=>by
  rw [eC,Bool.and_eq_true] at hok
  have hr:=MR (r:=r) (d:=d) (t:=t) (q:=q) (a:=a) (l:=true) (n:=n) hv b
  unfold Ya at hr
  rw [gv,gv,decide_eq_true (show n<a by omega),decide_eq_true (show n<8 by omega),hok.1,IntWalk.i64_in _ (by omega)] at hr
  simp only [Bool.and_self,cond_true] at hr
  rw [fliesN]
  cases hl:(bM r t).2.2 with
  |true=>
   rw [hl] at hr
   have h2:=hok.2
   rw [hl,cond_true] at h2
   exact .more hr (Fx hv k (n+1) _ _ true (by omega) (by omega) h2 fun _=>rfl)
  |false=>
   rw [hl] at hr
   exact .more hr (xY hv true (.inr rfl))
noncomputable def TP (v:List SV) (R:List Row) (k:Ex→List SV→List Row→Option aj):Option aj:=match v,cW R 0,R with
 | [.ptr 0 0 0 0,.int .i64 a,.ptr 8 0 0 0,.bool true,.int .i64 n],some (r,.s,[0,1,2,6,7]),[_,_,_,.gone,.gone,.own ds,_,_,.own ts,.own qs]=>match sd ds,JQ ts,Jj qs with
  | some d,some t,some q=>bif decide (n=0)&&eC (cg a) r t then (bif Nat.beq (cg a) 0 then k (.exit 0) (gS .s a true 0) (gP r d t q .s false)
      else k (.exit 0) (gS .s a (fliesN (cg a) 0 r t).2.2.1 (fliesN (cg a) 0 r t).2.2.2) (gP (fliesN (cg a) 0 r t).1 d (fliesN (cg a) 0 r t).2.1 q .s true)) else none
  |_,_,_=>none
 | [.ptr 0 0 0 0,.int .i64 a,.ptr 10 0 0 0,.bool true,.int .i64 n],some (r,.f,[0,1,2,7,8,9]),[_,_,_,.gone,.gone,.gone,.own ds,_,_,_,.own ts,.own qs]=>match sd ds,JQ ts,Jj qs with
  | some d,some t,some q=>bif decide (n=0)&&eC (cg a) r t then (bif Nat.beq (cg a) 0 then k (.exit 0) (gS .f a true 0) (gP r d t q .f false)
      else k (.exit 0) (gS .f a (fliesN (cg a) 0 r t).2.2.1 (fliesN (cg a) 0 r t).2.2.2) (gP (fliesN (cg a) 0 r t).1 d (fliesN (cg a) 0 r t).2.1 q .f true)) else none
  |_,_,_=>none
 |_,_,_=>none
theorem Nn {r:RS} {d:V3} {t:Sh} {q:Pl} {a n:Int} {v:Vr} (hv:v≠ .n) {k:Ex→List SV→List Row→Option aj} {z:aj} (h:(bif decide (n=0)&&eC (cg a) r t then (bif Nat.beq (cg a) 0 then k (.exit 0) (gS v a true 0) (gP r d t q v false)
        else k (.exit 0) (gS v a (fliesN (cg a) 0 r t).2.2.1 (fliesN (cg a) 0 r t).2.2.2) (gP (fliesN (cg a) 0 r t).1 d (fliesN (cg a) 0 r t).2.1 q v true)) else none)=some z):
    ∃e v' R',k e v' R'=some z∧aJ (IG (Fm v)) (gS v a true n) (gP r d t q v false) e v' R':=by
 obtain ⟨hb,h2⟩:=al h
 clear h
 rw [Bool.and_eq_true,decide_eq_true_eq] at hb
 obtain ⟨rfl,hok⟩:=hb
 cases h0:Nat.beq (cg a) 0 with
 |true=>
  rw [h0,cond_true] at h2
  have:=Nat.eq_of_beq_eq_true h0
  unfold cg at this
  exact ⟨_,_,_,h2,xY hv false (.inl (by omega))⟩
 |false=>
  rw [h0,cond_false] at h2
  have hne:cg a≠0:=fun e=>by rw [e] at h0;cases h0
  exact ⟨_,_,_,h2,Fx hv (cg a) 0 r t false (by omega) (by unfold cg;omega) hok fun e=>absurd e hne⟩
theorem Lc:da 27 [0,1,0,1,1,1,1,1,1,1,1,1,1,1] (bG 115 [0,4,13,17,18] TP):=by
 intro b hat s K r h
 refine aQ (fuel:=100) Fc ag hat (fun v R k r hr=>?_) h
 have hbody:=aZ Tryz.func27 hat
 subst hbody
 unfold TP at hr
 split at hr
 · rename_i a n q r0 r1 r2 ds r6 r7 ts qs hq
   split at hr
   · rename_i d t p hd ht hp
     have hat:=(bQ hq).1
     obtain rfl:r0=_:=Option.some.inj (hat.at' 0 _ rfl)
     obtain rfl:r1=_:=Option.some.inj (hat.at' 1 _ rfl)
     obtain rfl:r2=_:=Option.some.inj (hat.at' 2 _ rfl)
     obtain rfl:r6=_:=Option.some.inj (hat.at' 3 _ rfl)
     obtain rfl:r7=_:=Option.some.inj (hat.at' 4 _ rfl)
     rw [gl hd,fE ht,iT hp]
     exact Nn (v:=.s) (by simp) hr
   · cases hr
 · rename_i a n q r0 r1 r2 ds r7 r8 r9 ts qs hq
   split at hr
   · rename_i d t p hd ht hp
     have hat:=(bQ hq).1
     obtain rfl:r0=_:=Option.some.inj (hat.at' 0 _ rfl)
     obtain rfl:r1=_:=Option.some.inj (hat.at' 1 _ rfl)
     obtain rfl:r2=_:=Option.some.inj (hat.at' 2 _ rfl)
     obtain rfl:r7=_:=Option.some.inj (hat.at' 3 _ rfl)
     obtain rfl:r8=_:=Option.some.inj (hat.at' 4 _ rfl)
     obtain rfl:r9=_:=Option.some.inj (hat.at' 5 _ rfl)
     rw [gl hd,fE ht,iT hp]
     exact Nn (v:=.f) (by simp) hr
   · cases hr
 · cases hr
noncomputable def F9:jh:=⟨_,_,_,Lc⟩
def RS.end2 (r:RS) (v:Vr) (a b:Int):Option aj:=some (.tuple [.int .i64 a,.int .i64 b],r.rows v)
def RS.shot (r:RS) (id kind:Int) (p:Pl) (d:V3):Sh:=wo (IntKind.i64.wrap (r.fired+1)) id kind p.pos d
def RS.shoots (r:RS) (kind i:Int) (p:Pl):RS:={r with ps:=r.ps.set (0+i.toNat) (c9 p kind).1,fired:=IntKind.i64.wrap (r.fired+1)}
def Pw (r:RS) (t:Sh):Vr→Option aj
 |.f=>bif uD r.nh r.shs then RS.end2 {r with nh:=r.nh+1,shs:=r.shs.take r.nh++[t]} .f r.fired 0 else none
 |_=>RS.end2 {r with nh:=1,shs:=[t]} .f r.fired 0
noncomputable def wZ (r:RS) (v:Vr) (a:Int) (t:Sh):Option aj:=bif eC (cg a) r t then
 (bif Nat.beq (cg a) 0 then Pw r t v else bif (fliesN (cg a) 0 r t).2.2.1 then Pw (fliesN (cg a) 0 r t).1 (fliesN (cg a) 0 r t).2.1 v else (fliesN (cg a) 0 r t).1.end2 v (fliesN (cg a) 0 r t).1.fired 0) else none
noncomputable def NI (r:RS) (v:Vr) (id kind a i:Int) (d:V3) (p:Pl):Option aj:=fU i r.np r.ps.length (bif iU kind d !=0 then r.end2 v 0 (iU kind d) else fU i r.np r.ps.length (bif kind==0||kind==1 then (bif (c9 p kind).2 !=0 then r.end2 v 0 (c9 p kind).2 else
 (match v with
 |.f=>bif decide ((r.nh:Int)≥64) then r.end2 v 0 5 else fU i r.np r.ps.length (wZ (r.shoots kind i p) v a (r.shot id kind p d))
 |_=>fU i r.np r.ps.length (wZ (r.shoots kind i p) v a (r.shot id kind p d)))) else none))
noncomputable def wN (r:RS) (v:Vr) (id kind a:Int) (d:V3):Option aj:=bif okLen r then (bif decide (aI id r.ps 0<0) then r.end2 v 0 6 else NI r v id kind a (aI id r.ps 0) d (r.ps.getD (0+(aI id r.ps 0).toNat) aA.pl.dflt)) else none
theorem CA (r:RS) (id kind a:Int) (d:V3):gN LP (aF [F9]) 27 Tryz.f27 [.int .i64 id,.int .i64 kind,.agg d.sv,.int .i64 a] r .n=r.end2 .n 0 6∧
    gN LP (aF [F9]) 27 Tryz.f27 [.int .i64 id,.int .i64 kind,.agg d.sv,.int .i64 a] r .s=wN {r with nh:=0,shs:=[]} .s id kind a d∧
    gN LP (aF [F9]) 27 Tryz.f27 [.int .i64 id,.int .i64 kind,.agg d.sv,.int .i64 a] r .f=wN r .f id kind a d:=⟨by kernel_rfl,by kernel_rfl,by kernel_rfl⟩
noncomputable def Zw:bS:=aV [] [w7,sF,lN]
theorem WY:bV Tryz.prog Zw:=aD (by kernel_rfl)
theorem DM (w d h:Int) (len off:Nat) (xs:List Bool) (p:V3):aH Zw (fun _ _=>none) 300 130 Tryz.f130 0 [bB w d h (.slice 0 1 off len none) .unk,.agg p.sv] [.vec true .bool xs]=
 bif aw p&&aw (V3.mk 26214 26214 58982) then
 bif aw p&&aw (V3.mk 26214 26214 58982) then
 bif aw (p.minus (V3.mk 26214 26214 58982))&&aw (p.plus (V3.mk 26214 26214 58982))&&decide (off+len≤xs.length) then
 some (SV.bool ((af w d h len fun j=>xs.getD (off+j) false).clear (p.minus (V3.mk 26214 26214 58982)) (p.plus (V3.mk 26214 26214 58982))),[])
 else none
 else none
 else none:=by kernel_rfl
noncomputable def Dp (args:List SV) (rows:List Row):Option aL:=
 match args with
 |[.agg [.int .i64 w,.int .i64 d,.int .i64 h,.slice id st off len _,sp],.agg [.int .i64 a,.int .i64 b,.int .i64 c]]=>match rows[id]? with
  |some (.vec _ .bool xs)=>bif Nat.beq st 1&&sp.one then some {ok:=aw ⟨a,b,c⟩&&decide (off+len≤xs.length),val:=.bool ((af w d h len fun j=>xs.getD (off+j) false).free ⟨a,b,c⟩),rd:=[id]} else none
  |_=>none
 |_=>none
theorem Jx {w d h:Int} {len off:Nat} {xs:List Bool} {p:V3} (f1:p.fits) (hl:off+len≤xs.length):aH Zw (fun _ _=>none) 300 130 Tryz.f130 0 [bB w d h (.slice 0 1 off len none) .unk,.agg p.sv] [.vec true .bool xs]=some (.bool ((af w d h len fun j=>xs.getD (off+j) false).free p),[]):=by
 rw [DM,aB.2 f1,show aw (V3.mk 26214 26214 58982)=true from rfl,aB.2 (kG _ _),aB.2 (mh _ _),decide_eq_true hl]
 rfl
theorem GX {args:List SV} {rows:List Row} {n:Nat} {e:aL} (h:Dp args rows=some e) (hok:e.ok=true):aN Tryz.prog 130 args (rows[·]?) n e:=by
 unfold Dp at h
 split at h
 · rename_i w d hh id st off len cap sp a b c
   split at h
   · rename_i ro xs hrow
     cases hb:Nat.beq st 1&&sp.one with
     |false=>simp [hb] at h
     |true=>
      simp only [hb,cond_true,Option.some.injEq] at h
      subst h
      rw [Bool.and_eq_true] at hb
      have hst:=Nat.eq_of_beq_eq_true hb.1
      subst hst
      simp only [Bool.and_eq_true,decide_eq_true_eq,aB] at hok
      obtain ⟨rows',hc,_⟩:=aC WY ag Tryz.func130 (Jx (w:=w) (d:=d) (h:=hh) hok.1 hok.2)
      exact c7 hb.2 hc rfl rfl hrow
   · cases h
 · cases h
noncomputable def AY:bY:=⟨130,Dp,fun _ _ _ h hok=>GX h hok,aq Tryz.func130 (by kernel_rfl)⟩
noncomputable def Zf:bS:=aV [] [AY,J3,FT]
theorem Xu:bV Tryz.prog Zf:=aD (by kernel_rfl)
theorem Br (w d h:Int) (len off:Nat) (xs:List Bool) (p b:V3):aH Zf (fun _ _=>none) 300 109 Tryz.f109 0 [bB w d h (.slice 0 1 off len none) .unk,.agg p.sv,.agg b.sv] [.vec true .bool xs]=
 bif am p.x&&am (b.clamp 32768).x then
 bif aw (V3.mk (ak (p.x+(b.clamp 32768).x)) p.y p.z)&&decide (off+len≤xs.length) then
 bif (af w d h len fun j=>xs.getD (off+j) false).free (V3.mk (ak (p.x+(b.clamp 32768).x)) p.y p.z) then
 bif am p.y&&am (b.clamp 32768).y then
 bif aw (V3.mk (ak (p.x+(b.clamp 32768).x)) (ak (p.y+(b.clamp 32768).y)) p.z)&&decide (off+len≤xs.length) then
 bif (af w d h len fun j=>xs.getD (off+j) false).free (V3.mk (ak (p.x+(b.clamp 32768).x)) (ak (p.y+(b.clamp 32768).y)) p.z) then
 bif am p.z&&am (b.clamp 32768).z then
 bif aw (V3.mk (ak (p.x+(b.clamp 32768).x)) (ak (p.y+(b.clamp 32768).y)) (ak (p.z+(b.clamp 32768).z)))&&decide (off+len≤xs.length) then
 bif (af w d h len fun j=>xs.getD (off+j) false).free (V3.mk (ak (p.x+(b.clamp 32768).x)) (ak (p.y+(b.clamp 32768).y)) (ak (p.z+(b.clamp 32768).z))) then
 some
 (SV.tuple
 [SV.agg [.int .i64 (ak (p.x+(b.clamp 32768).x)),.int .i64 (ak (p.y+(b.clamp 32768).y)),.int .i64 (ak (p.z+(b.clamp 32768).z))],
 SV.agg
 [SV.bool (bif (!(af w d h len fun j=>xs.getD (off+j) false).free (V3.mk (ak (p.x+(b.clamp 32768).x)) p.y p.z))==true then (b.clamp 32768).x !=0 else false),
 SV.bool
 (bif (!(af w d h len fun j=>xs.getD (off+j) false).free (V3.mk (ak (p.x+(b.clamp 32768).x)) (ak (p.y+(b.clamp 32768).y)) p.z))==true then
 (b.clamp 32768).y !=0
 else false),
 SV.bool
 (bif
 (!(af w d h len fun j=>xs.getD (off+j) false).free
 (V3.mk (ak (p.x+(b.clamp 32768).x)) (ak (p.y+(b.clamp 32768).y)) (ak (p.z+(b.clamp 32768).z))))==
 true then
 (b.clamp 32768).z !=0
 else false)]],
 [])
 else
 some
 (SV.tuple
 [SV.agg [.int .i64 (ak (p.x+(b.clamp 32768).x)),.int .i64 (ak (p.y+(b.clamp 32768).y)),.int .i64 p.z],
 SV.agg
 [SV.bool (bif (!(af w d h len fun j=>xs.getD (off+j) false).free (V3.mk (ak (p.x+(b.clamp 32768).x)) p.y p.z))==true then (b.clamp 32768).x !=0 else false),
 SV.bool
 (bif (!(af w d h len fun j=>xs.getD (off+j) false).free (V3.mk (ak (p.x+(b.clamp 32768).x)) (ak (p.y+(b.clamp 32768).y)) p.z))==true then
 (b.clamp 32768).y !=0
 else false),
 SV.bool
 (bif
 (!(af w d h len fun j=>xs.getD (off+j) false).free
 (V3.mk (ak (p.x+(b.clamp 32768).x)) (ak (p.y+(b.clamp 32768).y)) (ak (p.z+(b.clamp 32768).z))))==
 true then
 (b.clamp 32768).z !=0
 else false)]],
 [])
 else none
 else none
 else
 bif am p.z&&am (b.clamp 32768).z then
 bif aw (V3.mk (ak (p.x+(b.clamp 32768).x)) p.y (ak (p.z+(b.clamp 32768).z)))&&decide (off+len≤xs.length) then
 bif (af w d h len fun j=>xs.getD (off+j) false).free (V3.mk (ak (p.x+(b.clamp 32768).x)) p.y (ak (p.z+(b.clamp 32768).z))) then
 some
 (SV.tuple
 [SV.agg [.int .i64 (ak (p.x+(b.clamp 32768).x)),.int .i64 p.y,.int .i64 (ak (p.z+(b.clamp 32768).z))],
 SV.agg
 [SV.bool (bif (!(af w d h len fun j=>xs.getD (off+j) false).free (V3.mk (ak (p.x+(b.clamp 32768).x)) p.y p.z))==true then (b.clamp 32768).x !=0 else false),
 SV.bool
 (bif (!(af w d h len fun j=>xs.getD (off+j) false).free (V3.mk (ak (p.x+(b.clamp 32768).x)) (ak (p.y+(b.clamp 32768).y)) p.z))==true then
 (b.clamp 32768).y !=0
 else false),
 SV.bool
 (bif (!(af w d h len fun j=>xs.getD (off+j) false).free (V3.mk (ak (p.x+(b.clamp 32768).x)) p.y (ak (p.z+(b.clamp 32768).z))))==true then
 (b.clamp 32768).z !=0
 else false)]],
 [])
 else
 some
 (SV.tuple
 [SV.agg [.int .i64 (ak (p.x+(b.clamp 32768).x)),.int .i64 p.y,.int .i64 p.z],
 SV.agg
 [SV.bool (bif (!(af w d h len fun j=>xs.getD (off+j) false).free (V3.mk (ak (p.x+(b.clamp 32768).x)) p.y p.z))==true then (b.clamp 32768).x !=0 else false),
 SV.bool
 (bif (!(af w d h len fun j=>xs.getD (off+j) false).free (V3.mk (ak (p.x+(b.clamp 32768).x)) (ak (p.y+(b.clamp 32768).y)) p.z))==true then
 (b.clamp 32768).y !=0
 else false),
 SV.bool
 (bif (!(af w d h len fun j=>xs.getD (off+j) false).free (V3.mk (ak (p.x+(b.clamp 32768).x)) p.y (ak (p.z+(b.clamp 32768).z))))==true then
 (b.clamp 32768).z !=0
 else false)]],
 [])
 else none
 else none
 else none
 else none
 else
 bif am p.y&&am (b.clamp 32768).y then
 bif aw (V3.mk p.x (ak (p.y+(b.clamp 32768).y)) p.z)&&decide (off+len≤xs.length) then
 bif (af w d h len fun j=>xs.getD (off+j) false).free (V3.mk p.x (ak (p.y+(b.clamp 32768).y)) p.z) then
 bif am p.z&&am (b.clamp 32768).z then
 bif aw (V3.mk p.x (ak (p.y+(b.clamp 32768).y)) (ak (p.z+(b.clamp 32768).z)))&&decide (off+len≤xs.length) then
 bif (af w d h len fun j=>xs.getD (off+j) false).free (V3.mk p.x (ak (p.y+(b.clamp 32768).y)) (ak (p.z+(b.clamp 32768).z))) then
 some
 (SV.tuple
 [SV.agg [.int .i64 p.x,.int .i64 (ak (p.y+(b.clamp 32768).y)),.int .i64 (ak (p.z+(b.clamp 32768).z))],
 SV.agg
 [SV.bool (bif (!(af w d h len fun j=>xs.getD (off+j) false).free (V3.mk (ak (p.x+(b.clamp 32768).x)) p.y p.z))==true then (b.clamp 32768).x !=0 else false),
 SV.bool (bif (!(af w d h len fun j=>xs.getD (off+j) false).free (V3.mk p.x (ak (p.y+(b.clamp 32768).y)) p.z))==true then (b.clamp 32768).y !=0 else false),
 SV.bool
 (bif (!(af w d h len fun j=>xs.getD (off+j) false).free (V3.mk p.x (ak (p.y+(b.clamp 32768).y)) (ak (p.z+(b.clamp 32768).z))))==true then
 (b.clamp 32768).z !=0
 else false)]],
 [])
 else
 some
 (SV.tuple
 [SV.agg [.int .i64 p.x,.int .i64 (ak (p.y+(b.clamp 32768).y)),.int .i64 p.z],
 SV.agg
 [SV.bool (bif (!(af w d h len fun j=>xs.getD (off+j) false).free (V3.mk (ak (p.x+(b.clamp 32768).x)) p.y p.z))==true then (b.clamp 32768).x !=0 else false),
 SV.bool (bif (!(af w d h len fun j=>xs.getD (off+j) false).free (V3.mk p.x (ak (p.y+(b.clamp 32768).y)) p.z))==true then (b.clamp 32768).y !=0 else false),
 SV.bool
 (bif (!(af w d h len fun j=>xs.getD (off+j) false).free (V3.mk p.x (ak (p.y+(b.clamp 32768).y)) (ak (p.z+(b.clamp 32768).z))))==true then
 (b.clamp 32768).z !=0
 else false)]],
 [])
 else none
 else none
 else
 bif am p.z&&am (b.clamp 32768).z then
 bif aw (V3.mk p.x p.y (ak (p.z+(b.clamp 32768).z)))&&decide (off+len≤xs.length) then
 bif (af w d h len fun j=>xs.getD (off+j) false).free (V3.mk p.x p.y (ak (p.z+(b.clamp 32768).z))) then
 some
 (SV.tuple
 [SV.agg [.int .i64 p.x,.int .i64 p.y,.int .i64 (ak (p.z+(b.clamp 32768).z))],
 SV.agg
 [SV.bool (bif (!(af w d h len fun j=>xs.getD (off+j) false).free (V3.mk (ak (p.x+(b.clamp 32768).x)) p.y p.z))==true then (b.clamp 32768).x !=0 else false),
 SV.bool (bif (!(af w d h len fun j=>xs.getD (off+j) false).free (V3.mk p.x (ak (p.y+(b.clamp 32768).y)) p.z))==true then (b.clamp 32768).y !=0 else false),
 SV.bool
 (bif (!(af w d h len fun j=>xs.getD (off+j) false).free (V3.mk p.x p.y (ak (p.z+(b.clamp 32768).z))))==true then (b.clamp 32768).z !=0 else false)]],
 [])
 else
 some
 (SV.tuple
 [SV.agg [.int .i64 p.x,.int .i64 p.y,.int .i64 p.z],
 SV.agg
 [SV.bool (bif (!(af w d h len fun j=>xs.getD (off+j) false).free (V3.mk (ak (p.x+(b.clamp 32768).x)) p.y p.z))==true then (b.clamp 32768).x !=0 else false),
 SV.bool (bif (!(af w d h len fun j=>xs.getD (off+j) false).free (V3.mk p.x (ak (p.y+(b.clamp 32768).y)) p.z))==true then (b.clamp 32768).y !=0 else false),
 SV.bool
 (bif (!(af w d h len fun j=>xs.getD (off+j) false).free (V3.mk p.x p.y (ak (p.z+(b.clamp 32768).z))))==true then (b.clamp 32768).z !=0 else false)]],
 [])
 else none
 else none
 else none
 else none
 else none
 else none:=by kernel_rfl
theorem Es {w d h:Int} {len off:Nat} {xs:List Bool} {p b:V3} (hp:p.fits) (hl:off+len≤xs.length):
    aH Zf (fun _ _=>none) 300 109 Tryz.f109 0 [bB w d h (.slice 0 1 off len none) .unk,.agg p.sv,.agg b.sv] [.vec true .bool xs]=
    some (nk ((af w d h len fun j=>xs.getD (off+j) false).slide p b),[]):=by
 rw [Br]
 have c1:am (b.clamp 32768).x=true:=j8 b.x
 have c2:am (b.clamp 32768).y=true:=j8 b.y
 have c3:am (b.clamp 32768).z=true:=j8 b.z
 simp only [decide_eq_true hl,ap.2 hp.1,ap.2 hp.2.1,ap.2 hp.2.2,c1,c2,c3,aw,vA,Bool.and_true,cond_true,dh]
 unfold nk Mp.slide Mp.stepB
 dsimp only
 rw [show (b.clamp 32768).x=av 32768 b.x from rfl,show (b.clamp 32768).y=av 32768 b.y from rfl,show (b.clamp 32768).z=av 32768 b.z from rfl]
 generalize (af w d h len fun j=>xs.getD (off+j) false).free=F
 cases h1:F ⟨ak (p.x+av 32768 b.x),p.y,p.z⟩
 · simp only [cond_false]
   cases h2:F ⟨p.x,ak (p.y+av 32768 b.y),p.z⟩
   · simp only [cond_false]
     cases h3:F ⟨p.x,p.y,ak (p.z+av 32768 b.z)⟩<;>rfl
   · simp only [cond_true]
     cases h3:F ⟨p.x,ak (p.y+av 32768 b.y),ak (p.z+av 32768 b.z)⟩<;>rfl
 · simp only [cond_true]
   cases h2:F ⟨ak (p.x+av 32768 b.x),ak (p.y+av 32768 b.y),p.z⟩
   · simp only [cond_false]
     cases h3:F ⟨ak (p.x+av 32768 b.x),p.y,ak (p.z+av 32768 b.z)⟩<;>rfl
   · simp only [cond_true]
     cases h3:F ⟨ak (p.x+av 32768 b.x),ak (p.y+av 32768 b.y),ak (p.z+av 32768 b.z)⟩<;>rfl
noncomputable def ws (args:List SV) (rows:List Row):Option aL:=
 match args with
 |[.agg [.int .i64 w,.int .i64 d,.int .i64 h,.slice id st off len _,sp],.agg [.int .i64 x,.int .i64 y,.int .i64 z],.agg [.int .i64 p,.int .i64 q,.int .i64 r]]=>match rows[id]? with
  |some (.vec _ .bool xs)=>bif Nat.beq st 1&&sp.one then some {ok:=aw ⟨x,y,z⟩&&decide (off+len≤xs.length),val:=nk ((af w d h len fun j=>xs.getD (off+j) false).slide ⟨x,y,z⟩ ⟨p,q,r⟩),rd:=[id]} else none
  |_=>none
 |_=>none
theorem Ec {args:List SV} {rows:List Row} {n:Nat} {e:aL} (h:ws args rows=some e) (hok:e.ok=true):aN Tryz.prog 109 args (rows[·]?) n e:=by
 unfold ws at h
 split at h
 · rename_i w d hh id st off len cap sp x y z p q r
   split at h
   · rename_i ro xs hrow
     cases hb:Nat.beq st 1&&sp.one with
     |false=>simp [hb] at h
     |true=>
      simp only [hb,cond_true,Option.some.injEq] at h
      subst h
      rw [Bool.and_eq_true] at hb
      have hst:=Nat.eq_of_beq_eq_true hb.1
      subst hst
      simp only [Bool.and_eq_true,decide_eq_true_eq,aB] at hok
      obtain ⟨rows',hc,_⟩:=aC Xu ag Tryz.func109 (Es (w:=w) (d:=d) (h:=hh) (b:=⟨p,q,r⟩) hok.1 hok.2)
      exact c7 hb.2 hc rfl rfl hrow
   · cases h
 · cases h
noncomputable def Jv:bY:=⟨109,ws,fun _ _ _ h hok=>Ec h hok,aq Tryz.func109 (by kernel_rfl)⟩
def fv (p q:Pl):Prop:=q={p with pos:=q.pos,vel:=q.vel,ground:=q.ground}
theorem Eu (m:Mp) (p:Pl) (c:Cm):fv p (tickP m.slide p c):=by
 unfold fv tickP
 cases decide (p.dead>0)<;>rfl
theorem uf {p q r:Pl} (h1:fv p q) (h2:fv q r):fv p r:=by
 unfold fv at*
 rw [h2,h1]
theorem tl {m:Mp} {c:Cm}:∀(k:Nat) (p:Pl),fv p (mN m.slide c k p)
 |0,_=>rfl
 |k+1,p=>uf (Eu m p c) (tl k _)
theorem rL (m:Mp) (c:Cm) (p:Pl):fv p (fe m.slide p c):=by
 unfold fe
 cases (decide (c.ticks<1)||decide (c.ticks>8))
 · exact tl _ _
 · rfl
noncomputable def PN:bS:=aV [] []
theorem FX:bV Tryz.prog PN:=aD (by kernel_rfl)
theorem HX (n:Int):aH PN (fun _ _=>none) 200 108 Tryz.f108 0 [.int .i64 n] []=
 some (.int .i64 (max (-32768) (min n 32768)),[]):=by kernel_rfl
theorem z6 (n:Int):aH PN (fun _ _=>none) 200 107 Tryz.f107 0 [.int .i8 n] []=
 some (.int .i64 (IntKind.i64.wrap ((IntKind.i64.wrap (IntKind.i64.wrap n*16384)).tdiv 127)),[]):=by kernel_rfl
def Xt (d:Int):Int:=IntKind.i64.wrap ((IntKind.i64.wrap (IntKind.i64.wrap d*16384)).tdiv 127)
def wm:List SV→Option aL
 |[.int .i8 n]=>some {val:=.int .i64 (Xt n)}
 |_=>none
theorem DG {m:Nat→Option Row} {n:Nat} {args:List SV} {e:aL} (h:wm args=some e):aN Tryz.prog 107 args m n e:=by
 unfold wm at h
 split at h
 · rename_i k
   cases h
   obtain ⟨rows',hc,_⟩:=aC FX ag Tryz.func107 (z6 k)
   exact aM hc rfl rfl
 · cases h
noncomputable def Hs:bY:=⟨107,fun args _=>wm args,fun _ _ _ h _=>DG h,aq Tryz.func107 (by kernel_rfl)⟩
theorem Kk (n:Int):aH PN (fun _ _=>none) 200 108 Tryz.f108 0 [.int .i64 n] []=some (.int .i64 (Ez n),[]):=by
 rw [HX]
 unfold Ez
 congr 3
 omega
def Nf:List SV→Option aL
 |[.int .i64 n]=>some {val:=.int .i64 (Ez n)}
 |_=>none
theorem K1 {m:Nat→Option Row} {n:Nat} {args:List SV} {e:aL} (h:Nf args=some e):aN Tryz.prog 108 args m n e:=by
 unfold Nf at h
 split at h
 · rename_i k
   cases h
   obtain ⟨rows',hc,_⟩:=aC FX ag Tryz.func108 (Kk k)
   exact aM hc rfl rfl
 · cases h
noncomputable def Qu:bY:=⟨108,fun args _=>Nf args,fun _ _ _ h _=>K1 h,aq Tryz.func108 (by kernel_rfl)⟩
noncomputable def WW:bS:=aV [] [Jv,AY,Qu,Hs]
theorem Q0:bV Tryz.prog WW:=aD (by kernel_rfl)
noncomputable def N3 (w d h:Int) (len off:Nat) (xs:List Bool) (p:Pl) (c:Cm) (f j:Bool):Option aj:=
 bif aw p.pos&&decide (off+len≤xs.length) then LW p (oT f j p c) ((af w d h len fun j=>xs.getD (off+j) false).slide p.pos (oT f j p c)) else none
theorem Dm (w d h:Int) (len off:Nat) (xs:List Bool) (p:Pl) (c:Cm):aH WW (fun _ _=>none) 400 83 Tryz.f83 0 [bB w d h (.slice 0 1 off len none) .unk,.agg p.sv,.agg c.sv] [.vec true .bool xs]=
 bif decide (p.dead>0) then some (.agg p.sv,[]) else
 bif Lr p c then (bif yN p c then N3 w d h len off xs p c true true else N3 w d h len off xs p c true false)
 else (bif yN p c then N3 w d h len off xs p c false true else N3 w d h len off xs p c false false):=by kernel_rfl
theorem JM {w d h:Int} {len off:Nat} {xs:List Bool} {p:Pl} {c:Cm} (hl:decide (off+len≤xs.length)=true) (hp:p.pos.fits):
    aH WW (fun _ _=>none) 400 83 Tryz.f83 0 [bB w d h (.slice 0 1 off len none) .unk,.agg p.sv,.agg c.sv] [.vec true .bool xs]=some (.agg (tickP (af w d h len fun j=>xs.getD (off+j) false).slide p c).sv,[]):=by
 rw [Dm,zL,Bg]
 unfold N3 tickP
 rw [hl,aB.2 hp]
 simp only [A9,Bool.and_true,cond_true]
 cases decide (p.dead>0)<;>cases AV p c<;>cases yY p c<;>rfl
noncomputable def DV (args:List SV) (rows:List Row):Option aL:=
 match args with
 |[.agg [.int .i64 w,.int .i64 d,.int .i64 h,.slice id st off len _,sp],.agg [.int .i64 a0,.int .i64 a1,.int .i64 a2,.int .i64 a3,.int .i64 a4,.int .i64 a5,.int .i64 a6,.bool a7,.int .i64 a8,.int .i64 a9,.int .i64 a10,.int .i64 a11,.int .i64 a12,.int .i64 a13,.int .i64 a14],.agg [.int .u16 c0,.int .u8 c1,.int .i8 c2,.int .i8 c3,.int .i64 c4]]=>match rows[id]? with
  |some (.vec _ .bool xs)=>bif Nat.beq st 1&&sp.one then some {ok:=aw ⟨a1,a2,a3⟩&&decide (off+len≤xs.length),val:=.agg (tickP (af w d h len fun j=>xs.getD (off+j) false).slide ⟨a0,⟨a1,a2,a3⟩,⟨a4,a5,a6⟩,a7,a8,a9,a10,a11,a12,a13,a14⟩ ⟨c0,c1,c2,c3,c4⟩).sv,rd:=[id]} else none
  |_=>none
 |_=>none
theorem Hb {args:List SV} {rows:List Row} {n:Nat} {e:aL} (h:DV args rows=some e) (hok:e.ok=true):aN Tryz.prog 83 args (rows[·]?) n e:=by
 unfold DV at h
 split at h
 · rename_i wd dd hd id st off len cap sp a0 a1 a2 a3 a4 a5 a6 a7 a8 a9 a10 a11 a12 a13 a14 c0 c1 c2 c3 c4
   split at h
   · rename_i ro xs hrow
     cases hb:Nat.beq st 1&&sp.one with
     |false=>simp [hb] at h
     |true=>
      simp only [hb,cond_true,Option.some.injEq] at h
      subst h
      rw [Bool.and_eq_true] at hb
      have hst:=Nat.eq_of_beq_eq_true hb.1
      subst hst
      simp only [Bool.and_eq_true,aB] at hok
      obtain ⟨h2,h3⟩:=hok
      obtain ⟨rows',hc,_⟩:=aC Q0 ag Tryz.func83 (JM (w:=wd) (d:=dd) (h:=hd) (p:=⟨a0,⟨a1,a2,a3⟩,⟨a4,a5,a6⟩,a7,a8,a9,a10,a11,a12,a13,a14⟩) (c:=⟨c0,c1,c2,c3,c4⟩) h3 h2)
      exact c7 hb.2 hc rfl rfl hrow
   · cases h
 · cases h
noncomputable def OW:bY:=⟨83,DV,fun _ _ _ h hok=>Hb h hok,aq Tryz.func83 (by kernel_rfl)⟩
noncomputable def YY:bS:=aV [] [OW]
theorem N6:bV Tryz.prog YY:=aD (by kernel_rfl)
def oR (i:Int):List SV:=[.ptr 1 0 0 0,.ptr 2 0 0 0,.ptr 3 0 0 0,.ptr 4 0 0 0,.int .i64 i]
noncomputable def TQ:List SV→List Row→Option aj:=bj YY (fun _ _=>none) 100 55 [0,1,0,1,1] (bg Tryz.f55 [0,1,0,1,1]) 28 5 [3,4,5,6,7]
theorem vR (w d h:Int) (len off:Nat) (xs:List Bool) (p:Pl) (c:Cm) (r:Pl) (i:Int):TQ (oR i) (kS w d h len off xs p c r)=
 bif decide (i<c.ticks) then
 bif aw p.pos&&decide (off+len≤xs.length) then
 some (.tuple [.nilp,.tuple (oR (IntKind.i64.wrap (i+1)))],kS w d h len off xs (tickP (af w d h len fun j=>xs.getD (off+j) false).slide p c) c r)
 else none
 else
 some (.tuple [.ptr 0 0 0 0,.tuple (oR i)],kS w d h len off xs p c r):=by kernel_rfl
section
variable {w d h:Int} {len off:Nat} {xs:List Bool}
theorem zZ (hl:decide (off+len≤xs.length)=true) {c:Cm} {r:Pl} (h3:c.ticks≤9223372036854775807):∀(k:Nat) (i:Int) (p:Pl),p.pos.fits→i+k=c.ticks→0≤i→
    aJ TQ (oR i) (kS w d h len off xs p c r) (.exit 0) (oR c.ticks) (kS w d h len off xs (mN (af w d h len fun j=>xs.getD (off+j) false).slide c k p) c r)
 |0,i,p,hp,h1,h2=>by
  obtain rfl:i=c.ticks:=by omega
  refine .done ?_ (by simp)
  rw [vR,decide_eq_false (by omega),cond_false]
  rfl
 |k+1,i,p,hp,h1,h2=>by
  have hr:=vR w d h len off xs p c r i
  rw [decide_eq_true (by omega),cond_true,hl,aB.2 hp,IntWalk.i64_in (i+1) (by omega)] at hr
  simp only [Bool.and_true,cond_true] at hr
  exact .more hr (zZ hl h3 k (i+1) _ (ns hp) (by omega) (by omega))
end
noncomputable def KN (v:List SV) (R:List Row) (k:Ex→List SV→List Row→Option aj):Option aj:=match v,R with
 | [.ptr 1 0 0 0,.ptr 2 0 0 0,.ptr 3 0 0 0,.ptr 4 0 0 0,.int .i64 i],
  [.vec true .bool xs,.own [.int .i64 w,.int .i64 d,.int .i64 h,.slice 0 1 off len none,.unk],.own [.int .i64 a0,.int .i64 a1,.int .i64 a2,.int .i64 a3,.int .i64 a4,.int .i64 a5,.int .i64 a6,.bool a7,.int .i64 a8,.int .i64 a9,.int .i64 a10,.int .i64 a11,.int .i64 a12,.int .i64 a13,.int .i64 a14],.own [.int .u16 c0,.int .u8 c1,.int .i8 c2,.int .i8 c3,.int .i64 c4],.own [.int .i64 b0,.int .i64 b1,.int .i64 b2,.int .i64 b3,.int .i64 b4,.int .i64 b5,.int .i64 b6,.bool b7,.int .i64 b8,.int .i64 b9,.int .i64 b10,.int .i64 b11,.int .i64 b12,.int .i64 b13,.int .i64 b14]]=>
   bif (decide (i=0)&&(decide (0≤c4)&&decide (c4≤9223372036854775807)))&&(decide (off+len≤xs.length)&&aw ⟨a1,a2,a3⟩) then
    k (.exit 0) (oR c4) (kS w d h len off xs (mN (af w d h len fun j=>xs.getD (off+j) false).slide ⟨c0,c1,c2,c3,c4⟩ c4.toNat ⟨a0,⟨a1,a2,a3⟩,⟨a4,a5,a6⟩,a7,a8,a9,a10,a11,a12,a13,a14⟩) ⟨c0,c1,c2,c3,c4⟩ ⟨b0,⟨b1,b2,b3⟩,⟨b4,b5,b6⟩,b7,b8,b9,b10,b11,b12,b13,b14⟩) else none
 |_,_=>none
theorem H9:da 55 [0,1,0,1,1] (bG 28 [3,4,5,6,7] KN):=by
 intro b hat s K r h
 refine aQ (fuel:=100) N6 ag hat (fun v R k r hr=>?_) h
 have hbody:=aZ Tryz.func55 hat
 subst hbody
 unfold KN at hr
 split at hr
 · rename_i i xs w d h off len a0 a1 a2 a3 a4 a5 a6 a7 a8 a9 a10 a11 a12 a13 a14 c0 c1 c2 c3 c4 b0 b1 b2 b3 b4 b5 b6 b7 b8 b9 b10 b11 b12 b13 b14
   obtain ⟨hb,hr2⟩:=al hr
   simp only [Bool.and_eq_true,decide_eq_true_eq,aB] at hb
   obtain ⟨⟨h1,h2,h3⟩,h6,h7⟩:=hb
   subst h1
   exact ⟨_,_,_,hr2,zZ (c:=⟨c0,c1,c2,c3,c4⟩) (r:=⟨b0,⟨b1,b2,b3⟩,⟨b4,b5,b6⟩,b7,b8,b9,b10,b11,b12,b13,b14⟩) (decide_eq_true h6) h3 c4.toNat 0 ⟨a0,⟨a1,a2,a3⟩,⟨a4,a5,a6⟩,a7,a8,a9,a10,a11,a12,a13,a14⟩ h7 (by simp only;omega) (by omega)⟩
 · cases hr
noncomputable def NV:jh:=⟨_,_,_,H9⟩
theorem RQ (w d h:Int) (len off:Nat) (xs:List Bool) (p:Pl) (c:Cm):aH YY (aF [NV]) 300 55 Tryz.f55 0 [bB w d h (.slice 0 1 off len none) .unk,.agg p.sv,.agg c.sv] [.vec true .bool xs]=
 bif bif decide (c.ticks<1)==false then decide (c.ticks>8) else true then some (.agg p.sv,[])
 else
 bif decide (0≤c.ticks)&&decide (c.ticks≤9223372036854775807)&&(decide (off+len≤xs.length)&&aw p.pos) then
 some (.agg (mN (af w d h len fun j=>xs.getD (off+j) false).slide c c.ticks.toNat p).sv,[])
 else none:=by kernel_rfl
theorem VE {w d h:Int} {len off:Nat} {xs:List Bool} {p:Pl} {c:Cm} (hl:decide (off+len≤xs.length)=true) (hp:p.pos.fits):
    aH YY (aF [NV]) 300 55 Tryz.f55 0 [bB w d h (.slice 0 1 off len none) .unk,.agg p.sv,.agg c.sv] [.vec true .bool xs]=some (.agg (fe (af w d h len fun j=>xs.getD (off+j) false).slide p c).sv,[]):=by
 rw [RQ]
 simp only [cY]
 unfold fe
 cases hc:(decide (c.ticks<1)||decide (c.ticks>8)) with
 |true=>rfl
 |false=>
  simp only [Bool.or_eq_false_iff,decide_eq_false_iff_not] at hc
  rw [decide_eq_true (show 0≤c.ticks by omega),decide_eq_true (show c.ticks≤9223372036854775807 by omega),hl,aB.2 hp]
  rfl
noncomputable def CJ (args:List SV) (rows:List Row):Option aL:=
 match args with
 |[.agg [.int .i64 w,.int .i64 d,.int .i64 h,.slice id st off len _,sp],.agg [.int .i64 a0,.int .i64 a1,.int .i64 a2,.int .i64 a3,.int .i64 a4,.int .i64 a5,.int .i64 a6,.bool a7,.int .i64 a8,.int .i64 a9,.int .i64 a10,.int .i64 a11,.int .i64 a12,.int .i64 a13,.int .i64 a14],.agg [.int .u16 c0,.int .u8 c1,.int .i8 c2,.int .i8 c3,.int .i64 c4]]=>match rows[id]? with
  |some (.vec _ .bool xs)=>bif Nat.beq st 1&&sp.one then some {ok:=aw ⟨a1,a2,a3⟩&&decide (off+len≤xs.length),val:=.agg (fe (af w d h len fun j=>xs.getD (off+j) false).slide ⟨a0,⟨a1,a2,a3⟩,⟨a4,a5,a6⟩,a7,a8,a9,a10,a11,a12,a13,a14⟩ ⟨c0,c1,c2,c3,c4⟩).sv,rd:=[id]} else none
  |_=>none
 |_=>none
theorem Hy {args:List SV} {rows:List Row} {n:Nat} {e:aL} (h:CJ args rows=some e) (hok:e.ok=true):aN Tryz.prog 55 args (rows[·]?) n e:=by
 unfold CJ at h
 split at h
 · rename_i wd dd hd id st off len cap sp a0 a1 a2 a3 a4 a5 a6 a7 a8 a9 a10 a11 a12 a13 a14 c0 c1 c2 c3 c4
   split at h
   · rename_i ro xs hrow
     cases hb:Nat.beq st 1&&sp.one with
     |false=>simp [hb] at h
     |true=>
      simp only [hb,cond_true,Option.some.injEq] at h
      subst h
      rw [Bool.and_eq_true] at hb
      have hst:=Nat.eq_of_beq_eq_true hb.1
      subst hst
      simp only [Bool.and_eq_true,aB] at hok
      obtain ⟨h2,h3⟩:=hok
      obtain ⟨rows',hc,_⟩:=aC N6 aG Tryz.func55 (VE (w:=wd) (d:=dd) (h:=hd) (p:=⟨a0,⟨a1,a2,a3⟩,⟨a4,a5,a6⟩,a7,a8,a9,a10,a11,a12,a13,a14⟩) (c:=⟨c0,c1,c2,c3,c4⟩) h3 h2)
      exact c7 hb.2 hc rfl rfl hrow
   · cases h
 · cases h
noncomputable def O0:bY:=⟨55,CJ,fun _ _ _ h hok=>Hy h hok,aq Tryz.func55 (by kernel_rfl)⟩
def Vr.eqB:Vr→Vr→Bool
 |.n,.n=>true
 |.s,.s=>true
 |.f,.f=>true
 |_,_=>false
theorem Vr.eqB_eq {a b:Vr} (h:a.eqB b=true):a=b:=by cases a<;>cases b<;>first |rfl |cases h
theorem rM {X:bS} (hX:bV Tryz.prog X) {L:Nat→List Nat→Option dq} (hL:AM Tryz.prog L) {f:Nat} {fn:Func} (hfu:Tryz.prog.funcs[f]? =some fn) {ds:List SV} {r r':RS} {v v' u:Vr} {val:SV} {ok:Bool} (hrun:ok=true→gN X L f fn ds r v=some (val,r'.rows v')) (hd:SV.idsL ds=[]) (hv:val.ids=[])
    {rows:List Row} {g:Nat} {σ:List Nat} (hr:cW rows g=some (r,v,σ)) (hok:(ji σ rows.length (ok&&v'.eqB u) val r' u).ok=true):aN Tryz.prog f (.ptr g 0 0 0::ds) (rows[·]?) rows.length (ji σ rows.length (ok&&v'.eqB u) val r' u):=by
 unfold ji at hok
 simp only [Bool.and_eq_true] at hok
 obtain ⟨h1,h2,h3⟩:=hok
 have e:=Vr.eqB_eq h3
 subst e
 exact kH hX hL hfu (hrun h2) hd hv hr h1
noncomputable def ff (r:RS):Vr→RS×Vr
 |.n=>(r.nowR,.n)
 |.s=>(r.nowR.tickP,.s)
 |.f=>bif (bv r.nowR [] r.nowR.shs).2.isEmpty then (RS.tickP {(bv r.nowR [] r.nowR.shs).1 with nh:=0,shs:=[]},.s) else (r.flownAll.tickP,.f)
noncomputable def gx (r:RS):Vr→Bool
 |.n=>true
 |.s=>okU r.nowR
 |.f=>IL r.nowR&&(bif (bv r.nowR [] r.nowR.shs).2.isEmpty then okU {(bv r.nowR [] r.nowR.shs).1 with nh:=0,shs:=[]} else okU r.flownAll)
theorem I5 {r:RS} {v:Vr} (h:gx r v=true):wA r v=some (.tuple [],(ff r v).1.rows (ff r v).2):=by
 cases v with
 |n=>rfl
 |s=>unfold gx at h;unfold wA ff;simp only at h;rw [h];rfl
 |f=>
  unfold gx at h
  unfold wA ff
  simp only [Bool.and_eq_true] at h
  obtain ⟨h1,h2⟩:=h
  simp only [h1,cond_true]
  cases hb:(bv r.nowR [] r.nowR.shs).2.isEmpty with
  |true=>rw [hb,cond_true] at h2;simp only [cond_true];rw [h2];rfl
  |false=>rw [hb,cond_false] at h2;simp only [cond_false];rw [h2];rfl
noncomputable def xD (u:Vr) (args:List SV) (rows:List Row):Option aL:=match args with
 |[.ptr g 0 0 0]=>match cW rows g with
  |some (r,v,σ)=>some (ji σ rows.length (gx r v&&(ff r v).2.eqB u) (.tuple []) (ff r v).1 u)
  |none=>none
 |_=>none
theorem Dj {u:Vr} {args:List SV} {rows:List Row} {e:aL} (h:xD u args rows=some e) (hok:e.ok=true):aN Tryz.prog 28 args (rows[·]?) rows.length e:=by
 unfold xD at h
 split at h
 · split at h
   · rename_i r v σ hr
     cases h
     exact rM (L:=aF [Ti,TZ]) wq aG Tryz.func28 (ds:=[]) (fun hk=>(ED r v).trans (I5 hk)) rfl rfl hr hok
   · cases h
 · cases h
noncomputable def Hw (u:Vr):bY:=⟨28,xD u,fun _ _ _ h hok=>Dj h hok,aq Tryz.func28 (by kernel_rfl)⟩
def jA (r:RS):Vr→Bool
 |.f=>decide ((r.nh:Int)≥64)
 |_=>false
def Yu (r:RS) (t:Sh):Vr→RS
 |.f=>{r with nh:=r.nh+1,shs:=r.shs.take r.nh++[t]}
 |_=>{r with nh:=1,shs:=[t]}
def xy (r:RS):Vr→Bool
 |.f=>uD r.nh r.shs
 |_=>true
noncomputable def pQ (r:RS) (v:Vr) (a:Int) (t:Sh):RS×Vr×Int×Int:=bif (fliesN (cg a) 0 r t).2.2.1 then (Yu (fliesN (cg a) 0 r t).1 (fliesN (cg a) 0 r t).2.1 v,.f,(fliesN (cg a) 0 r t).1.fired,0) else ((fliesN (cg a) 0 r t).1,v,(fliesN (cg a) 0 r t).1.fired,0)
noncomputable def jy (r:RS) (v:Vr) (a:Int) (t:Sh):Bool:=eC (cg a) r t&&(!(fliesN (cg a) 0 r t).2.2.1||xy (fliesN (cg a) 0 r t).1 v)
noncomputable def sP (r:RS) (v:Vr) (id kind a i:Int) (d:V3) (p:Pl):RS×Vr×Int×Int:=bif iU kind d !=0 then (r,v,0,iU kind d) else bif (c9 p kind).2 !=0 then (r,v,0,(c9 p kind).2) else bif jA r v then (r,v,0,5) else pQ (r.shoots kind i p) v a (r.shot id kind p d)
noncomputable def rI (r:RS) (v:Vr) (id kind a i:Int) (d:V3) (p:Pl):Bool:=(decide (0≤i)&&(decide (i<(r.np:Int))&&decide (0+i.toNat<r.ps.length)))&&(iU kind d !=0||((kind==0||kind==1)&&((c9 p kind).2 !=0||(jA r v||jy (r.shoots kind i p) v a (r.shot id kind p d)))))
noncomputable def dB (r:RS) (v:Vr) (id kind a:Int) (d:V3):RS×Vr×Int×Int:=bif decide (aI id r.ps 0<0) then (r,v,0,6) else sP r v id kind a (aI id r.ps 0) d (r.ps.getD (0+(aI id r.ps 0).toNat) aA.pl.dflt)
noncomputable def j7 (r:RS) (v:Vr) (id kind a:Int) (d:V3):Bool:=okLen r&&(decide (aI id r.ps 0<0)||rI r v id kind a (aI id r.ps 0) d (r.ps.getD (0+(aI id r.ps 0).toNat) aA.pl.dflt))
def RS.endV (z:RS×Vr×Int×Int):Option aj:=z.1.end2 z.2.1 z.2.2.1 z.2.2.2
theorem Gh {r:RS} {t:Sh} {v:Vr} (h:xy r v=true):Pw r t v=RS.end2 (Yu r t v) .f r.fired 0:=by
 cases v with
 |f=>unfold xy at h;unfold Pw;simp only at h ⊢;rw [h];rfl
 |_=>rfl
theorem pi {r:RS} {v:Vr} {a:Int} {t:Sh} (h:jy r v a t=true):wZ r v a t=RS.endV (pQ r v a t):=by
 unfold jy at h
 rw [Bool.and_eq_true] at h
 unfold wZ pQ
 rw [h.1,cond_true]
 have hz:Nat.beq (cg a) 0=true→fliesN (cg a) 0 r t=(r,t,true,0):=fun h0=>by
  rw [Nat.eq_of_beq_eq_true h0];rfl
 cases h0:Nat.beq (cg a) 0 with
 |true=>
  have h2:=h.2
  rw [hz h0] at h2 ⊢
  rw [cond_true,cond_true,Gh (by simpa using h2)]
  rfl
 | false=>
  rw [cond_false]
  cases hl:(fliesN (cg a) 0 r t).2.2.1 with
  |true=>
   have h2:=h.2
   rw [hl] at h2
   rw [cond_true,cond_true,Gh (by simpa using h2)]
   rfl
  |false=>rfl
theorem uO {r:RS} {v:Vr} {id kind a:Int} {d:V3} (h:j7 r v id kind a d=true):wN r v id kind a d=RS.endV (dB r v id kind a d):=by
 unfold j7 at h
 rw [Bool.and_eq_true] at h
 unfold wN dB
 rw [h.1,cond_true]
 cases hn:decide (aI id r.ps 0<0) with
 |true=>rfl
 | false=>
  have h2:=h.2
  rw [hn,Bool.false_or] at h2
  rw [cond_false,cond_false]
  generalize aI id r.ps 0=i at h2
  generalize r.ps.getD (0+i.toNat) aA.pl.dflt=p at h2
  unfold rI at h2
  rw [Bool.and_eq_true,Bool.and_eq_true,Bool.and_eq_true,decide_eq_true_eq,decide_eq_true_eq,decide_eq_true_eq] at h2
  obtain ⟨⟨h3,h4,h5⟩,h6⟩:=h2
  unfold NI sP
  rw [ck h3 h4 h5]
  cases he:iU kind d !=0 with
  |true=>rfl
  | false=>
   rw [he,Bool.false_or,Bool.and_eq_true] at h6
   rw [cond_false,cond_false,ck h3 h4 h5,h6.1,cond_true]
   cases hf:(c9 p kind).2 !=0 with
   |true=>rfl
   | false=>
    have h7:=h6.2
    rw [hf,Bool.false_or] at h7
    rw [cond_false,cond_false]
    cases v with
    | f=>
     simp only
     cases hu:jA r .f with
     |true=>
      have hu':=hu
      unfold jA at hu'
      simp only at hu'
      rw [hu']
      rfl
     |false=>
      have hu':=hu
      unfold jA at hu'
      simp only at hu'
      rw [hu,Bool.false_or] at h7
      rw [hu',cond_false,cond_false,ck h3 h4 h5,pi h7]
    |s=>
     have h7:jy (r.shoots kind i p) .s a (r.shot id kind p d)=true:=by simpa [jA] using h7
     simp only [jA,cond_false]
     rw [ck h3 h4 h5,pi h7]
    |n=>
     have h7:jy (r.shoots kind i p) .n a (r.shot id kind p d)=true:=by simpa [jA] using h7
     simp only [jA,cond_false]
     rw [ck h3 h4 h5,pi h7]
noncomputable def ya (u:Vr) (args:List SV) (rows:List Row):Option aL:=match args with
 |[.ptr g 0 0 0,.int .i64 id,.int .i64 kind,.agg ds,.int .i64 a]=>match cW rows g,sd ds with
  |some (r,v,σ),some d=>some (ji σ rows.length (j7 r v id kind a d&&(dB r v id kind a d).2.1.eqB u) (.tuple [.int .i64 (dB r v id kind a d).2.2.1,.int .i64 (dB r v id kind a d).2.2.2]) (dB r v id kind a d).1 u)
  |_,_=>none
 |_=>none
theorem BZ {u:Vr} {args:List SV} {rows:List Row} {e:aL} (h:ya u args rows=some e) (hok:e.ok=true):aN Tryz.prog 27 args (rows[·]?) rows.length e:=by
 unfold ya at h
 split at h
 · rename_i g id kind ds a
   split at h
   · rename_i r v σ d hr hd
     cases h
     rw [gl hd]
     refine rM (L:=aF [F9]) Fc aG Tryz.func27 (ds:=[.int .i64 id,.int .i64 kind,.agg d.sv,.int .i64 a]) (fun hk=>?_) rfl rfl hr hok
     obtain ⟨t1,t2,t3⟩:=CA r id kind a d
     have hn:=im hr
     cases v with
     |n=>
      rw [t1]
      unfold dB
      rw [hn.2.2.2.1]
      rfl
     |s=>
      rw [t2]
      have e:({r with nh:=0,shs:=[]}:RS)=r:=by rw [←hn.1,←hn.2]
      rw [e,uO hk]
      rfl
     |f=>
      rw [t3,uO hk]
      rfl
   · cases h
 · cases h
noncomputable def IH (u:Vr):bY:=⟨27,ya u,fun _ _ _ h hok=>BZ h hok,aq Tryz.func27 (by kernel_rfl)⟩
noncomputable def zh:bS:=aV [] [rR,Ha,O0] [61] true
theorem xv:bV Tryz.prog zh:=aD (by kernel_rfl)
def kP (b ll n:Nat) (c:Bool):Bool:=(decide (0<ll)||c)&&(decide (ll≤n)&&(decide (ll+1≤9223372036854775807)&&decide ((ll+1)*b≤140737488355328)))
def RS.newId (r:RS):Int:=IntKind.i64.wrap (r.given+1)
def s8 (r:RS):Vr→Option aj
 |.n=>pB r r.newId (RS.end2 {r with np:=1,nl:=1,nh:=0,cp:=none,cl:=none,ps:=[eU r.newId (fF r r.newId)],lf:=[8],shs:=[],given:=r.newId} .s r.newId 0)
 |v=>bif decide ((r.np:Int)≥8) then r.end2 v 0 5 else pB r r.newId (bif kP 120 r.np r.ps.length r.cp.isSome then bif kP 8 r.nl r.lf.length r.cl.isSome then RS.end2 {r with np:=r.np+1,nl:=r.nl+1,cp:=gZ true r.cp 1,cl:=gZ true r.cl 1,ps:=r.ps.take r.np++[eU r.newId (fF r r.newId)],lf:=r.lf.take r.nl++[8],given:=r.newId} v r.newId 0 else none else none)
theorem D5 (r:RS):∀v,gN zh (aF []) 29 Tryz.f29 [] r v=s8 r v
 |.n=>by kernel_rfl
 |.s=>by kernel_rfl
 |.f=>by kernel_rfl
def UG (b i j n len ilen:Nat):Bool:=(decide (0+j+(n - j)≤len)&&((decide (0<0+i)||(gZ true (some 0) i).isSome)&&(decide (0+i≤ilen)&&(decide (0+i+(n - j)≤9223372036854775807)&&decide ((0+i+(n - j))*b≤140737488355328)))))
def UV (b i len:Nat):Bool:=decide (0+i≤len)&&(decide (0+i≤9223372036854775807)&&decide ((0+i)*b≤140737488355328))
def Ig {α:Type} (i j n:Nat) (l:List α):List α:=(l.take i).take (0+i)++(l.drop (0+j)).take (n - j)
def G4 (b:Nat) (i:Int) (n c len ilen:Nat) (k:Option aj):Option aj:=bif decide (0≤i)&&decide (i≤(c:Int)) then bif UV b i.toNat len then bif decide (0≤IntKind.i64.wrap (i+1))&&decide (IntKind.i64.wrap (i+1)≤(n:Int)) then bif UG b i.toNat (IntKind.i64.wrap (i+1)).toNat n len ilen then k else none else none else none else none
def RS.del (r:RS) (i:Int):RS:={r with np:=0+i.toNat+(r.np - (IntKind.i64.wrap (i+1)).toNat),nl:=0+i.toNat+(r.nl - (IntKind.i64.wrap (i+1)).toNat),cp:=gZ true (gZ true (some 0) i.toNat) (r.np - (IntKind.i64.wrap (i+1)).toNat),cl:=gZ true (gZ true (some 0) i.toNat) (r.nl - (IntKind.i64.wrap (i+1)).toNat),ps:=Ig i.toNat (IntKind.i64.wrap (i+1)).toNat r.np r.ps,lf:=Ig i.toNat (IntKind.i64.wrap (i+1)).toNat r.nl r.lf}
def qU (r:RS) (v:Vr):Int→Option aj:=fun i=>bif decide (i<0) then some (.int .i64 6,r.rows v) else G4 120 i r.np (dm r.cp r.np) r.ps.length (r.ps.take i.toNat).length (G4 8 i r.nl (dm r.cl r.nl) r.lf.length (r.lf.take i.toNat).length (some (.int .i64 0,(r.del i).rows v)))
theorem zb (r:RS) (id:Int):gN zh (aF []) 30 Tryz.f30 [.int .i64 id] r .n=some (.int .i64 6,r.rows .n)∧
    gN zh (aF []) 30 Tryz.f30 [.int .i64 id] r .s=(bif okLen r then qU r .s (aI id r.ps 0) else none)∧
    gN zh (aF []) 30 Tryz.f30 [.int .i64 id] r .f=(bif okLen r then qU r .f (aI id r.ps 0) else none):=⟨by kernel_rfl,by kernel_rfl,by kernel_rfl⟩
def Db (c:Cm):Bool:=bif ((bif (decide (c.ticks<1)==false) then (bif false then true else decide (c.ticks>8)) else true)==false) then (bif false then true else decide (c.buttons>3)) else true
noncomputable def RS.doP (r:RS) (i:Int) (p:Pl) (c:Cm):RS:={r with ps:=r.ps.set (0+i.toNat) (fe r.mp.slide p c),lf:=r.lf.set (0+i.toNat) (IntKind.i64.wrap (r.lf.getD (0+i.toNat) 0 - c.ticks))}
noncomputable def PI (r:RS) (v:Vr) (c:Cm) (i:Int) (p:Pl):Option aj:=bif decide (i<0) then some (.int .i64 6,r.rows v) else bif Db c then some (.int .i64 1,r.rows v) else fU i r.nl r.lf.length (bif decide (c.ticks>r.lf.getD (0+i.toNat) 0) then some (.int .i64 8,r.rows v) else
 fU i r.np r.ps.length (bif aw p.pos&&decide (0+r.len≤r.xs.length) then fU i r.np r.ps.length (fU i r.nl r.lf.length (fU i r.nl r.lf.length (some (.int .i64 0,(r.doP i p c).rows v)))) else none))
theorem Ls (r:RS) (id:Int) (c:Cm):gN zh (aF []) 26 Tryz.f26 [.int .i64 id,.agg c.sv] r .n=some (.int .i64 6,r.rows .n)∧
    gN zh (aF []) 26 Tryz.f26 [.int .i64 id,.agg c.sv] r .s=(bif okLen r then PI r .s c (aI id r.ps 0) (r.ps.getD (0+(aI id r.ps 0).toNat) aA.pl.dflt) else none)∧
    gN zh (aF []) 26 Tryz.f26 [.int .i64 id,.agg c.sv] r .f=(bif okLen r then PI r .f c (aI id r.ps 0) (r.ps.getD (0+(aI id r.ps 0).toNat) aA.pl.dflt) else none):=⟨by kernel_rfl,by kernel_rfl,by kernel_rfl⟩
def cX (r:RS):Vr→RS×Vr×Int×Int
 |.n=>({r with np:=1,nl:=1,nh:=0,cp:=none,cl:=none,ps:=[eU r.newId (fF r r.newId)],lf:=[8],shs:=[],given:=r.newId},.s,r.newId,0)
 |v=>bif decide ((r.np:Int)≥8) then (r,v,0,5) else ({r with np:=r.np+1,nl:=r.nl+1,cp:=gZ true r.cp 1,cl:=gZ true r.cl 1,ps:=r.ps.take r.np++[eU r.newId (fF r r.newId)],lf:=r.lf.take r.nl++[8],given:=r.newId},v,r.newId,0)
def Vr.join:Vr→Vr
 |.n=>.s
 |v=>v
def fK (r:RS):Vr→Bool
 |.n=>dX r r.newId
 |_=>decide ((r.np:Int)≥8)||(dX r r.newId&&(kP 120 r.np r.ps.length r.cp.isSome&&kP 8 r.nl r.lf.length r.cl.isSome))
theorem HZ {r:RS} {v:Vr} (h:fK r v=true):s8 r v=some (.tuple [.int .i64 (cX r v).2.2.1,.int .i64 (cX r v).2.2.2],(cX r v).1.rows v.join):=by
 have main:∀v:Vr,v≠ .n→fK r v=true→s8 r v=some (.tuple [.int .i64 (cX r v).2.2.1,.int .i64 (cX r v).2.2.2],(cX r v).1.rows v.join):=by
  intro v hv h
  have e1:fK r v=(decide ((r.np:Int)≥8)||(dX r r.newId&&(kP 120 r.np r.ps.length r.cp.isSome&&kP 8 r.nl r.lf.length r.cl.isSome))):=by cases v<;>first |rfl |exact absurd rfl hv
  have e2:v.join=v:=by cases v<;>first |rfl |exact absurd rfl hv
  have e3:cX r v=bif decide ((r.np:Int)≥8) then (r,v,0,5) else ({r with np:=r.np+1,nl:=r.nl+1,cp:=gZ true r.cp 1,cl:=gZ true r.cl 1,ps:=r.ps.take r.np++[eU r.newId (fF r r.newId)],lf:=r.lf.take r.nl++[8],given:=r.newId},v,r.newId,0):=by cases v<;>first |rfl |exact absurd rfl hv
  have e4:s8 r v=bif decide ((r.np:Int)≥8) then r.end2 v 0 5 else pB r r.newId (bif kP 120 r.np r.ps.length r.cp.isSome then bif kP 8 r.nl r.lf.length r.cl.isSome then RS.end2 {r with np:=r.np+1,nl:=r.nl+1,cp:=gZ true r.cp 1,cl:=gZ true r.cl 1,ps:=r.ps.take r.np++[eU r.newId (fF r r.newId)],lf:=r.lf.take r.nl++[8],given:=r.newId} v r.newId 0 else none else none):=by cases v<;>first |rfl |exact absurd rfl hv
  rw [e1] at h
  rw [e2,e3,e4]
  cases hb:decide ((r.np:Int)≥8) with
  |true=>rfl
  |false=>
   rw [hb,Bool.false_or,Bool.and_eq_true,Bool.and_eq_true] at h
   rw [cond_false,lT h.1,h.2.1,h.2.2]
   rfl
 cases v with
 |n=>unfold fK at h;unfold s8;simp only at h ⊢;rw [lT h];rfl
 |s=>exact main .s (by simp) h
 |f=>exact main .f (by simp) h
def CF (args:List SV) (rows:List Row):Option aL:=match args with
 |[.ptr g 0 0 0]=>match cW rows g with
  |some (r,v,σ)=>some (ji σ rows.length (fK r v) (.tuple [.int .i64 (cX r v).2.2.1,.int .i64 (cX r v).2.2.2]) (cX r v).1 v.join)
  |none=>none
 |_=>none
theorem Hr {args:List SV} {rows:List Row} {e:aL} (h:CF args rows=some e) (hok:e.ok=true):aN Tryz.prog 29 args (rows[·]?) rows.length e:=by
 unfold CF at h
 split at h
 · split at h
   · rename_i r v σ hr
     cases h
     unfold ji at hok
     simp only [Bool.and_eq_true] at hok
     exact kH (L:=aF []) xv aG Tryz.func29 (ds:=[]) ((D5 r v).trans (HZ hok.2)) rfl rfl hr hok.1
   · cases h
 · cases h
noncomputable def MZ:bY:=⟨29,CF,fun _ _ _ h hok=>Hr h hok,aq Tryz.func29 (by kernel_rfl)⟩
def pA (b:Nat) (i:Int) (n c len ilen:Nat):Bool:=(decide (0≤i)&&decide (i≤(c:Int)))&&(UV b i.toNat len&&((decide (0≤IntKind.i64.wrap (i+1))&&decide (IntKind.i64.wrap (i+1)≤(n:Int)))&&UG b i.toNat (IntKind.i64.wrap (i+1)).toNat n len ilen))
theorem tt {b:Nat} {i:Int} {n c len ilen:Nat} {k:Option aj} (h:pA b i n c len ilen=true):G4 b i n c len ilen k=k:=by
 unfold pA at h
 rw [Bool.and_eq_true] at h
 obtain ⟨h1,h⟩:=h
 rw [Bool.and_eq_true] at h
 obtain ⟨h2,h⟩:=h
 rw [Bool.and_eq_true] at h
 obtain ⟨h3,h4⟩:=h
 unfold G4
 rw [h1,h2,h3,h4]
 rfl
def ek (r:RS) (i:Int):RS×Int:=bif decide (i<0) then (r,6) else (r.del i,0)
def iV (r:RS) (i:Int):Bool:=okLen r&&(decide (i<0)||(pA 120 i r.np (dm r.cp r.np) r.ps.length (r.ps.take i.toNat).length&&pA 8 i r.nl (dm r.cl r.nl) r.lf.length (r.lf.take i.toNat).length))
theorem tu {r:RS} {v:Vr} {i:Int} (h:iV r i=true):(bif okLen r then qU r v i else none)=some (.int .i64 (ek r i).2,(ek r i).1.rows v):=by
 unfold iV at h
 rw [Bool.and_eq_true] at h
 unfold qU ek
 rw [h.1,cond_true]
 cases hb:decide (i<0) with
 |true=>rfl
 |false=>
  have h2:=h.2
  rw [hb,Bool.false_or,Bool.and_eq_true] at h2
  rw [cond_false,cond_false,tt h2.1,tt h2.2]
def xF (args:List SV) (rows:List Row):Option aL:=match args with
 |[.ptr g 0 0 0,.int .i64 id]=>match cW rows g with
  |some (r,v,σ)=>some (ji σ rows.length (iV r (aI id r.ps 0)) (.int .i64 (ek r (aI id r.ps 0)).2) (ek r (aI id r.ps 0)).1 v)
  |none=>none
 |_=>none
theorem DT {args:List SV} {rows:List Row} {e:aL} (h:xF args rows=some e) (hok:e.ok=true):aN Tryz.prog 30 args (rows[·]?) rows.length e:=by
 unfold xF at h
 split at h
 · rename_i g id
   split at h
   · rename_i r v σ hr
     cases h
     unfold ji at hok
     simp only [Bool.and_eq_true] at hok
     refine kH (L:=aF []) xv aG Tryz.func30 (ds:=[.int .i64 id]) ?_ rfl rfl hr hok.1
     obtain ⟨t1,t2,t3⟩:=zb r id
     cases v with
     |n=>rw [t1,(im hr).2.2.2.1];rfl
     |s=>exact t2.trans (tu hok.2)
     |f=>exact t3.trans (tu hok.2)
   · cases h
 · cases h
noncomputable def H6:bY:=⟨30,xF,fun _ _ _ h hok=>DT h hok,aq Tryz.func30 (by kernel_rfl)⟩
def sX (i:Int) (n len:Nat):Bool:=decide (0≤i)&&(decide (i<(n:Int))&&decide (0+i.toNat<len))
theorem mj {i:Int} {n len:Nat} {k:Option aj} (h:sX i n len=true):fU i n len k=k:=by
 unfold sX at h
 rw [Bool.and_eq_true,Bool.and_eq_true,decide_eq_true_eq,decide_eq_true_eq,decide_eq_true_eq] at h
 exact ck h.1 h.2.1 h.2.2
noncomputable def AX (r:RS) (c:Cm) (i:Int) (p:Pl):RS×Int:=bif decide (i<0) then (r,6) else bif Db c then (r,1) else bif decide (c.ticks>r.lf.getD (0+i.toNat) 0) then (r,8) else (r.doP i p c,0)
def qh (r:RS) (c:Cm) (i:Int) (p:Pl):Bool:=okLen r&&(decide (i<0)||(Db c||(sX i r.nl r.lf.length&&(decide (c.ticks>r.lf.getD (0+i.toNat) 0)||(sX i r.np r.ps.length&&(aw p.pos&&decide (0+r.len≤r.xs.length)))))))
theorem Ft {r:RS} {v:Vr} {c:Cm} {i:Int} {p:Pl} (h:qh r c i p=true):(bif okLen r then PI r v c i p else none)=some (.int .i64 (AX r c i p).2,(AX r c i p).1.rows v):=by
 unfold qh at h
 rw [Bool.and_eq_true] at h
 unfold PI AX
 rw [h.1,cond_true]
 cases hb:decide (i<0) with
 |true=>rfl
 | false=>
  have h2:=h.2
  rw [hb,Bool.false_or] at h2
  cases hg:Db c with
  |true=>rfl
  | false=>
   rw [hg,Bool.false_or,Bool.and_eq_true] at h2
   simp only [cond_false]
   rw [mj h2.1]
   cases hc:decide (c.ticks>r.lf.getD (0+i.toNat) 0) with
   |true=>rfl
   |false=>
    have h3:=h2.2
    rw [hc,Bool.false_or,Bool.and_eq_true] at h3
    simp only [cond_false]
    rw [mj h3.1,h3.2,cond_true,mj h3.1,mj h2.1,mj h2.1]
noncomputable def Wf (args:List SV) (rows:List Row):Option aL:=match args with
 |[.ptr g 0 0 0,.int .i64 id,.agg [.int .u16 a,.int .u8 b,.int .i8 c,.int .i8 d,.int .i64 e]]=>match cW rows g with
  |some (r,v,σ)=>some (ji σ rows.length (qh r ⟨a,b,c,d,e⟩ (aI id r.ps 0) (r.ps.getD (0+(aI id r.ps 0).toNat) aA.pl.dflt)) (.int .i64 (AX r ⟨a,b,c,d,e⟩ (aI id r.ps 0) (r.ps.getD (0+(aI id r.ps 0).toNat) aA.pl.dflt)).2) (AX r ⟨a,b,c,d,e⟩ (aI id r.ps 0) (r.ps.getD (0+(aI id r.ps 0).toNat) aA.pl.dflt)).1 v)
  |none=>none
 |_=>none
theorem Ss {args:List SV} {rows:List Row} {e:aL} (h:Wf args rows=some e) (hok:e.ok=true):aN Tryz.prog 26 args (rows[·]?) rows.length e:=by
 unfold Wf at h
 split at h
 · rename_i g id c0 c1 c2 c3 c4
   split at h
   · rename_i r v σ hr
     cases h
     unfold ji at hok
     simp only [Bool.and_eq_true] at hok
     refine kH (L:=aF []) xv aG Tryz.func26 (ds:=[.int .i64 id,.agg (Cm.mk c0 c1 c2 c3 c4).sv]) ?_ rfl rfl hr hok.1
     obtain ⟨t1,t2,t3⟩:=Ls r id ⟨c0,c1,c2,c3,c4⟩
     cases v with
     |n=>rw [t1];unfold AX;rw [(im hr).2.2.2.1];rfl
     |s=>exact t2.trans (Ft hok.2)
     |f=>exact t3.trans (Ft hok.2)
   · cases h
 · cases h
noncomputable def Vu:bY:=⟨26,Wf,fun _ _ _ h hok=>Ss h hok,aq Tryz.func26 (by kernel_rfl)⟩
def RS.nm (r:RS):Vr→RS
 |.n=>{r with np:=0,nl:=0,nh:=0,cp:=none,cl:=none,ps:=[],lf:=[],shs:=[]}
 |.s=>{r with nh:=0,shs:=[]}
 |.f=>r
theorem RS.Nm.eq {r:RS} {v:Vr} (h:r.Nm v):r.nm v=r:=by
 cases v with
 |n=>obtain ⟨h1,h2,h3,h4,h5,h6,h7,h8⟩:=h;obtain ⟨⟩:=r;simp only at h1 h2 h3 h4 h5 h6 h7 h8;subst h1 h2 h3 h4 h5 h6 h7 h8;rfl
 |s=>obtain ⟨h1,h2⟩:=h;obtain ⟨⟩:=r;simp only at h1 h2;subst h1 h2;rfl
 |f=>rfl
noncomputable def x8 (w:Vr):bS:=aV [] [Vu,IH w,Hw w,MZ,H6]
theorem Ri (w:Vr):bV Tryz.prog (x8 w):=aD (by kernel_rfl)
def ZG {α:Type} (k:Int) (A B C D E F:α):α:=
 let S7:=bif k==7 then D else bif k==8 then E else F
 let S4:=bif k==4 then (bif k==4 then C else S7) else bif k==5 then (bif k==5 then C else S7) else bif k==6 then C else S7
 let S2:=bif k==2 then (bif k==2 then B else S4) else bif k==3 then B else S4
 bif k==0 then (bif k==0 then A else S2) else bif k==1 then A else S2
def RS.rowsX (r q:RS) (v:Vr):List Row:=r.gm 1 2 3 4 5 v:: .vec true .bool q.xs:: .vec true .vec q.sp::r.vs v
noncomputable def wJ (r:RS) (v w:Vr) (o:gQ):Option aj:=
 ZG o.kind
  (bif qh r o.cmd (aI o.player r.ps 0) (r.ps.getD (0+(aI o.player r.ps 0).toNat) aA.pl.dflt) then some (.agg [.int .i64 0,.int .i64 (AX r o.cmd (aI o.player r.ps 0) (r.ps.getD (0+(aI o.player r.ps 0).toNat) aA.pl.dflt)).2],(AX r o.cmd (aI o.player r.ps 0) (r.ps.getD (0+(aI o.player r.ps 0).toNat) aA.pl.dflt)).1.rowsX r v) else none)
  (bif j7 r v o.player o.shot o.ahead o.dir&&(dB r v o.player o.shot o.ahead o.dir).2.1.eqB w then some (.agg [.int .i64 (dB r v o.player o.shot o.ahead o.dir).2.2.1,.int .i64 (dB r v o.player o.shot o.ahead o.dir).2.2.2],(dB r v o.player o.shot o.ahead o.dir).1.rowsX r w) else none)
  (bif gx r v&&(ff r v).2.eqB w then some (.agg [.int .i64 0,.int .i64 0],(ff r v).1.rowsX r w) else none)
  (bif fK r v then some (.agg [.int .i64 (cX r v).2.2.1,.int .i64 (cX r v).2.2.2],(cX r v).1.rowsX r v.join) else none)
  (bif iV r (aI o.player r.ps 0) then some (.agg [.int .i64 0,.int .i64 (ek r (aI o.player r.ps 0)).2],(ek r (aI o.player r.ps 0)).1.rowsX r v) else none)
  (some (.agg [.int .i64 0,.int .i64 0],r.rows v))
theorem jK (r:RS) (o:gQ):(gN (x8 .n) (fun _ _=>none) 9 Tryz.f9 [.agg o.sv] r .n=wJ (r.nm .n) .n .n o)∧
    (gN (x8 .s) (fun _ _=>none) 9 Tryz.f9 [.agg o.sv] r .n=wJ (r.nm .n) .n .s o)∧
    (gN (x8 .s) (fun _ _=>none) 9 Tryz.f9 [.agg o.sv] r .s=wJ (r.nm .s) .s .s o)∧
    (gN (x8 .f) (fun _ _=>none) 9 Tryz.f9 [.agg o.sv] r .s=wJ (r.nm .s) .s .f o)∧
    (gN (x8 .s) (fun _ _=>none) 9 Tryz.f9 [.agg o.sv] r .f=wJ (r.nm .f) .f .s o)∧
    gN (x8 .f) (fun _ _=>none) 9 Tryz.f9 [.agg o.sv] r .f=wJ (r.nm .f) .f .f o:=⟨by kernel_rfl,by kernel_rfl,by kernel_rfl,by kernel_rfl,by kernel_rfl,by kernel_rfl⟩
def goes:Vr→Vr→Bool
 |.n,.n=>true
 |.n,.s=>true
 |.s,.s=>true
 |.s,.f=>true
 |.f,.s=>true
 |.f,.f=>true
 |_,_=>false
theorem Qy (r:RS) (o:gQ):∀v w,goes v w=true→gN (x8 w) (fun _ _=>none) 9 Tryz.f9 [.agg o.sv] r v=wJ (r.nm v) v w o
 |.n,.n,_=>(jK r o).1
 |.n,.s,_=>(jK r o).2.1
 |.s,.s,_=>(jK r o).2.2.1
 |.s,.f,_=>(jK r o).2.2.2.1
 |.f,.s,_=>(jK r o).2.2.2.2.1
 |.f,.f,_=>(jK r o).2.2.2.2.2
 |.n,.f,h=>by cases h
 |.s,.n,h=>by cases h
 |.f,.n,h=>by cases h
end Go.Proofs.YtimkhidniolpeaaGreat
