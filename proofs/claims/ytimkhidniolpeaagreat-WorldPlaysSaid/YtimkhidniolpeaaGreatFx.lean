/- Part of the proof. -/
import Derived.Test.YtimkhidniolpeaaGreatVmO
import Derived.Test.YtimkhidniolpeaaGreatVmR
import Derived.Lib.Mul64
import Derived.Laws.Bits64b
import Derived.Test.YtimkhidniolpeaaGreatVmFh
namespace Go.Proofs.YtimkhidniolpeaaGreat
set_option linter.unusedSimpArgs false
set_option linter.unusedVariables false
set_option maxRecDepth 100000
set_option maxHeartbeats 0
open Go.RowKit
noncomputable def In {α:Type} (a:α):α:=Classical.choose (⟨a,rfl⟩:∃b,b=a)
theorem my {α:Type} (a:α):In a=a:=Classical.choose_spec (⟨a,rfl⟩:∃b,b=a)
noncomputable def iW (x:Int):Bool:=In (decide (0≤x)&&decide (x<18446744073709551616))
theorem cI {x:Int}:iW x=true↔0≤x∧x<18446744073709551616:=by unfold iW;rw [my];simp
noncomputable def lq (x:Int):Bool:=In (decide (x<340282366920938463463374607431768211456))
theorem ir {x:Int}:lq x=true↔x<340282366920938463463374607431768211456:=by unfold lq;rw [my];simp
namespace Mul64
theorem maskN (a:Nat) (ha:a<18446744073709551616):bits .and .u64 (a:Int) 4294967295=((a%4294967296:Nat):Int):=by
 have h:=bits_and_u64_nat a 4294967295 ha (by omega)
 have e:a&&&4294967295=a%4294967296:=Nat.and_two_pow_sub_one_eq_mod a 32
 rw [e] at h
 exact h
theorem divN (a:Nat):(a:Int)/4294967296=((a/4294967296:Nat):Int):=by omega
theorem mulN (a b:Nat):(a:Int)*(b:Int)=((a*b:Nat):Int):=(Int.natCast_mul a b).symm
theorem addN (a b:Nat):(a:Int)+(b:Int)=((a+b:Nat):Int):=(Int.natCast_add a b).symm
theorem wrapN (a:Nat) (ha:a<18446744073709551616):IntKind.u64.wrap (a:Int)=(a:Int):=by rw [IntKind.wrap_u64];omega
theorem wrapM (a:Nat):IntKind.u64.wrap (a:Int)=((a%18446744073709551616:Nat):Int):=by rw [IntKind.wrap_u64];omega
end Mul64
set_option maxHeartbeats 1000000 in
theorem PR (x y:Nat) (hx:x<18446744073709551616) (hy:y<18446744073709551616) (w:World):
    Calls Tryz.prog 135 #[.int .u64 x,.int .u64 y] w (YZ w (.tuple #[.int .u64 ((x*y/18446744073709551616:Nat):Int),.int .u64 ((x*y%18446744073709551616:Nat):Int)])):=by
 obtain ⟨bd,bt,bw,hhi⟩:=Lib.mul64_hi x y hx hy
 have ba:=Lib.half_mul_le (a:=x/4294967296) (b:=y/4294967296) (by omega) (by omega)
 have bb:=Lib.half_mul_le (a:=x/4294967296) (b:=y%4294967296) (by omega) (by omega)
 have bc:=Lib.half_mul_le (a:=x%4294967296) (b:=y/4294967296) (by omega) (by omega)
 have ba':x/4294967296*(y/4294967296)<18446744073709551616:=by omega
 have bb':x/4294967296*(y%4294967296)<18446744073709551616:=by omega
 have bc':x%4294967296*(y/4294967296)<18446744073709551616:=by omega
 have bh1:x/4294967296*(y/4294967296)+(x/4294967296*(y%4294967296)+x%4294967296*(y%4294967296)/4294967296)/4294967296<18446744073709551616:=by omega
 have bh:x/4294967296*(y/4294967296)+(x/4294967296*(y%4294967296)+x%4294967296*(y%4294967296)/4294967296)/4294967296+((x/4294967296*(y%4294967296)+x%4294967296*(y%4294967296)/4294967296)%4294967296+x%4294967296*(y/4294967296))/4294967296<18446744073709551616:=by omega
 go_enter Tryz.func135,Tryz.ntmps135
 go_wp2
 simp only [Mul64.maskN x hx,Mul64.maskN y hy,Mul64.divN,Mul64.mulN,Mul64.addN,Mul64.wrapN _ bd,Mul64.wrapN _ bb',Mul64.wrapN _ bt,Mul64.maskN _ bt,Mul64.wrapN _ bc',Mul64.wrapN _ bw,Mul64.wrapN _ ba',Mul64.wrapN _ bh1,Mul64.wrapN _ bh,Mul64.wrapM (x*y)]
 rw [hhi]
 go_ret2
 exact ⟨rfl,Below.refl _ _⟩
noncomputable def E0:List SV→Option aL
 |[.int .u64 x,.int .u64 y]=>some {ok:=iW x&&iW y,val:=.tuple [.int .u64 (x*y/18446744073709551616),.int .u64 (x*y%18446744073709551616)]}
 |_=>none
theorem IU {m:Nat→Option Row} {n:Nat} {args:List SV} {e:aL} (h:E0 args=some e) (hok:e.ok=true):aN Tryz.prog 135 args m n e:=by
 unfold E0 at h
 split at h
 · rename_i x y
   cases h
   simp only [Bool.and_eq_true,cI] at hok
   obtain ⟨⟨h1,h2⟩,h3,h4⟩:=hok
   obtain ⟨X,rfl⟩:=Int.eq_ofNat_of_zero_le h1
   obtain ⟨Y,rfl⟩:=Int.eq_ofNat_of_zero_le h3
   have:=PR X Y (by omega) (by omega)
   refine Jd (vargs:=[.int .u64 X,.int .u64 Y]) (rv:=.tuple #[.int .u64 ((X*Y/18446744073709551616:Nat):Int),.int .u64 ((X*Y%18446744073709551616:Nat):Int)]) (fun ρ us h=>?_) (fun ρ=>?_) this
   · simp only [au,aE] at h
     obtain ⟨_,_,rfl,rfl,_,_,rfl,rfl,rfl⟩:=h
     rfl
   · exact ⟨[_,_],rfl,by simp only [aa,ai,aE,Value.int.injEq,true_and,and_true];exact ⟨rfl,rfl⟩⟩
 · cases h
noncomputable def MD:bY:=⟨135,fun args _=>E0 args,fun _ _ _ h hok=>IU h hok,aq Tryz.func135 (by kernel_rfl)⟩
noncomputable def HE:bS:=aV [] [MD]
theorem nI:bV Tryz.prog HE:=aD (by kernel_rfl)
theorem IX (a:Int):aH HE (fun _ _=>none) 100 98 Tryz.f98 0 [.int .i64 a] []=
 bif decide (a<0) then some (.int .u64 (IntKind.u64.wrap (0 - IntKind.u64.wrap a)),[]) else some (.int .u64 (IntKind.u64.wrap a),[]):=by kernel_rfl
theorem wD (x y:Int):aH HE (fun _ _=>none) 100 117 Tryz.f117 0 [.int .u64 x,.int .u64 y] []=
 bif iW x&&iW y then some (SV.agg [.int .u64 (x*y/18446744073709551616),.int .u64 (x*y%18446744073709551616)],[]) else none:=by kernel_rfl
theorem Ei (a b c d:Int):aH HE (fun _ _=>none) 100 99 Tryz.f99 0 [.agg [.int .u64 a,.int .u64 b],.agg [.int .u64 c,.int .u64 d]] []=
 bif decide (0≤b)&&(decide (0≤d)&&true) then
 bif decide (0≤a)&&(decide (0≤c)&&(decide (0≤(b+d+0)/18446744073709551616)&&decide ((b+d+0)/18446744073709551616≤1))) then
 some (SV.agg [.int .u64 ((a+c+(b+d+0)/18446744073709551616)%18446744073709551616),.int .u64 ((b+d+0)%18446744073709551616)],[])
 else none
 else none:=by kernel_rfl
theorem BU (a b c d:Int):aH HE (fun _ _=>none) 100 118 Tryz.f118 0 [.agg [.int .u64 a,.int .u64 b],.agg [.int .u64 c,.int .u64 d]] []=
 some (SV.bool (bif decide (a>c)==false then bif (a==c)==true then decide (b>d) else false else true),[]):=by kernel_rfl
theorem zM (a b:Int) (s:Bool):aH HE (fun _ _=>none) 100 90 Tryz.f90 0 [.agg [.int .u64 a,.int .u64 b],.bool s] []=
 bif bif s==true then bif decide (a>0)==false then decide (b>9223372036854775808) else true else false then some (.int .i64 (-9223372036854775808),[])
 else
 bif s then some (.int .i64 (IntKind.i64.wrap (IntKind.u64.wrap (0 - b))),[])
 else bif bif decide (a>0)==false then decide (b>9223372036854775807) else true then some (.int .i64 9223372036854775807,[]) else some (.int .i64 (IntKind.i64.wrap b),[]):=by kernel_rfl
theorem dA {X:bS} (hX:bV Tryz.prog X) {L:Nat→List Nat→Option dq} (hL:AM Tryz.prog L) {f:Nat} {fn:Func} {fuel:Nat} {args:List SV} {v:SV} {ok:Bool} {m:Nat→Option Row} {n:Nat} (hf:Tryz.prog.funcs[f]? =some fn) (hi:SV.idsL args=[]) (hv:v.ids=[])
    (h:aH X L fuel f fn 0 args []=some (v,[])):aN Tryz.prog f args m n {ok:=ok,val:=v}:=by
 obtain ⟨rows',hc,_⟩:=aC hX hL hf h
 exact aM hc hi hv
noncomputable def fT (z:Int):Int:=In (z/18446744073709551616)
noncomputable def fW (z:Int):Int:=In (z%18446744073709551616)
noncomputable def wS (z:Int):SV:=.agg [.int .u64 (fT z),.int .u64 (fW z)]
def wV (h l:Int):Int:=h*18446744073709551616+l
theorem tY (z:Int):fT z=z/18446744073709551616:=my _
theorem sL (z:Int):fW z=z%18446744073709551616:=my _
theorem Fj (z:Int):wV (fT z) (fW z)=z:=by unfold wV;rw [tY,sL];omega
theorem kq (z:Int):wV 0 z=z:=by unfold wV;omega
theorem nf {z:Int} (h1:0≤z) (h2:z<340282366920938463463374607431768211456):iW (fT z)=true:=cI.2 (by rw [tY];omega)
theorem nt (z:Int):iW (fW z)=true:=cI.2 (by rw [sL];omega)
def aY (a:Int):Int:=max a (-a)
def Kd:List SV→Option aL
 |[.int .i64 a]=>some {ok:=am a,val:=.int .u64 (aY a)}
 |_=>none
theorem M0 {m:Nat→Option Row} {n:Nat} {args:List SV} {e:aL} (h:Kd args=some e) (hok:e.ok=true):aN Tryz.prog 98 args m n e:=by
 unfold Kd at h
 split at h
 · rename_i a
   cases h
   have:=ap.1 hok
   unfold aU at this
   refine dA nI ag Tryz.func98 rfl rfl (fuel:=100) ?_
   rw [IX]
   by_cases h:a<0
   · rw [decide_eq_true h,show IntKind.u64.wrap (0 - IntKind.u64.wrap a)=aY a by unfold aY;rw [IntKind.wrap_u64,IntKind.wrap_u64];omega];rfl
   · rw [decide_eq_false h,show IntKind.u64.wrap a=aY a by unfold aY;rw [IntKind.wrap_u64];omega];rfl
 · cases h
noncomputable def FR:bY:=⟨98,fun args _=>Kd args,fun _ _ _ h hok=>M0 h hok,aq Tryz.func98 (by kernel_rfl)⟩
noncomputable def mE (a b c d:Int):Bool:=iW a&&(iW b&&(iW c&&iW d))
noncomputable def Ep:List SV→Option aL
 |[.agg [.int .u64 a,.int .u64 b],.agg [.int .u64 c,.int .u64 d]]=>some {ok:=mE a b c d&&lq (wV a b+wV c d),val:=wS (wV a b+wV c d)}
 |_=>none
theorem GO {m:Nat→Option Row} {n:Nat} {args:List SV} {e:aL} (h:Ep args=some e) (hok:e.ok=true):aN Tryz.prog 99 args m n e:=by
 unfold Ep at h
 split at h
 · rename_i a b c d
   cases h
   simp only [mE,Bool.and_eq_true,cI,ir] at hok
   obtain ⟨⟨ha,hb,hc,hd⟩,hs⟩:=hok
   unfold wV at hs
   refine dA nI ag Tryz.func99 rfl rfl (fuel:=100) ?_
   rw [Ei,decide_eq_true ha.1,decide_eq_true hb.1,decide_eq_true hc.1,decide_eq_true hd.1,decide_eq_true (show 0≤(b+d+0)/18446744073709551616 by omega),decide_eq_true (show (b+d+0)/18446744073709551616≤1 by omega),
    show (a+c+(b+d+0)/18446744073709551616)%18446744073709551616=fT (wV a b+wV c d) by rw [tY];unfold wV;omega,show (b+d+0)%18446744073709551616=fW (wV a b+wV c d) by rw [sL];unfold wV;omega]
   rfl
 · cases h
noncomputable def yW:bY:=⟨99,fun args _=>Ep args,fun _ _ _ h hok=>GO h hok,aq Tryz.func99 (by kernel_rfl)⟩
noncomputable def EG:List SV→Option aL
 |[.agg [.int .u64 a,.int .u64 b],.agg [.int .u64 c,.int .u64 d]]=>some {ok:=mE a b c d,val:=.bool (decide (wV c d<wV a b))}
 |_=>none
theorem Iq {m:Nat→Option Row} {n:Nat} {args:List SV} {e:aL} (h:EG args=some e) (hok:e.ok=true):aN Tryz.prog 118 args m n e:=by
 unfold EG at h
 split at h
 · rename_i a b c d
   cases h
   simp only [mE,Bool.and_eq_true,cI] at hok
   obtain ⟨ha,hb,hc,hd⟩:=hok
   refine dA nI ag Tryz.func118 rfl rfl (fuel:=100) ?_
   rw [BU]
   have e:(bif decide (a>c)==false then bif (a==c)==true then decide (b>d) else false else true)=decide (wV c d<wV a b):=by
    unfold wV
    by_cases h1:a>c
    · rw [decide_eq_true h1,decide_eq_true (show c*18446744073709551616+d<a*18446744073709551616+b by omega)];rfl
    · rw [decide_eq_false h1]
      by_cases h2:a=c
      · subst h2
        rw [show (decide (a*18446744073709551616+d<a*18446744073709551616+b))=decide (b>d) by rw [Bool.eq_iff_iff];simp]
        simp
      · rw [decide_eq_false (show ¬ c*18446744073709551616+d<a*18446744073709551616+b by omega)];simp [h2]
   rw [e]
 · cases h
noncomputable def O5:bY:=⟨118,fun args _=>EG args,fun _ _ _ h hok=>Iq h hok,aq Tryz.func118 (by kernel_rfl)⟩
def xk (z:Int) (s:Bool):Int:=bif s then max (-z) (-9223372036854775808) else min z 9223372036854775807
noncomputable def xR:List SV→Option aL
 |[.agg [.int .u64 a,.int .u64 b],.bool s]=>some {ok:=iW a&&iW b,val:=.int .i64 (xk (wV a b) s)}
 |_=>none
theorem EC {m:Nat→Option Row} {n:Nat} {args:List SV} {e:aL} (h:xR args=some e) (hok:e.ok=true):aN Tryz.prog 90 args m n e:=by
 unfold xR at h
 split at h
 · rename_i a b s
   cases h
   simp only [Bool.and_eq_true,cI] at hok
   obtain ⟨ha,hb⟩:=hok
   refine dA nI ag Tryz.func90 rfl rfl (fuel:=100) ?_
   rw [zM]
   unfold xk wV
   have key:∀k:Int,9223372036854775807≤k→k≤9223372036854775808→(bif decide (a>0)==false then decide (b>k) else true)=decide (k<a*18446744073709551616+b):=by
    intro k h1 h2
    by_cases h:a>0
    · rw [decide_eq_true h,decide_eq_true (show k<a*18446744073709551616+b by omega)];rfl
    · rw [decide_eq_false h,show a=0 by omega];simp
   rw [key _ (by omega) (by omega),key _ (by omega) (by omega)]
   cases s with
   |true=>
    by_cases h:9223372036854775808<a*18446744073709551616+b
    · rw [decide_eq_true h,show max (-(a*18446744073709551616+b)) (-9223372036854775808)= -9223372036854775808 by omega];rfl
    · rw [decide_eq_false h,show IntKind.i64.wrap (IntKind.u64.wrap (0 - b))=max (-(a*18446744073709551616+b)) (-9223372036854775808) by rw [IntKind.wrap_u64,IntKind.wrap_i64];omega];rfl
   |false=>
    by_cases h:9223372036854775807<a*18446744073709551616+b
    · rw [decide_eq_true h,show min (a*18446744073709551616+b) 9223372036854775807=9223372036854775807 by omega];rfl
    · rw [decide_eq_false h,show IntKind.i64.wrap b=min (a*18446744073709551616+b) 9223372036854775807 by rw [IntKind.wrap_i64];omega];rfl
 · cases h
noncomputable def vI:bY:=⟨90,fun args _=>xR args,fun _ _ _ h hok=>EC h hok,aq Tryz.func90 (by kernel_rfl)⟩
def ak (z:Int):Int:=max (-9223372036854775808) (min 9223372036854775807 z)
theorem cj (z:Int):aU (ak z):=by unfold aU ak;omega
noncomputable def Kc:bS:=aV [] [FR,yW,vI]
theorem AO:bV Tryz.prog Kc:=aD (by kernel_rfl)
theorem IY (a b:Int):aH Kc (fun _ _=>none) 100 74 Tryz.f74 0 [.int .i64 a,.int .i64 b] []=
 bif decide (a<0)==decide (b<0) then
 bif am a then
 bif am b then
 bif mE 0 (aY a) 0 (aY b)&&lq (wV 0 (aY a)+wV 0 (aY b)) then
 bif iW (fT (wV 0 (aY a)+wV 0 (aY b)))&&iW (fW (wV 0 (aY a)+wV 0 (aY b))) then
 some (.int .i64 (xk (wV (fT (wV 0 (aY a)+wV 0 (aY b))) (fW (wV 0 (aY a)+wV 0 (aY b)))) (decide (a<0))),[])
 else none
 else none
 else none
 else none
 else some (.int .i64 (IntKind.i64.wrap (a+b)),[]):=by kernel_rfl
theorem Iz (a b:Int):aH Kc (fun _ _=>none) 100 73 Tryz.f73 0 [.int .i64 a,.int .i64 b] []=
 bif !decide (a<0)==decide (b<0) then
 bif am a then
 bif am b then
 bif mE 0 (aY a) 0 (aY b)&&lq (wV 0 (aY a)+wV 0 (aY b)) then
 bif iW (fT (wV 0 (aY a)+wV 0 (aY b)))&&iW (fW (wV 0 (aY a)+wV 0 (aY b))) then
 some (.int .i64 (xk (wV (fT (wV 0 (aY a)+wV 0 (aY b))) (fW (wV 0 (aY a)+wV 0 (aY b)))) (decide (a<0))),[])
 else none
 else none
 else none
 else none
 else some (.int .i64 (IntKind.i64.wrap (a - b)),[]):=by kernel_rfl
theorem rA {a:Int} (ha:aU a):0≤aY a∧aY a≤9223372036854775808:=by unfold aU at ha;unfold aY;omega
theorem w8 {a b:Int} (ha:aU a) (hb:aU b):am a=true∧am b=true∧(mE 0 (aY a) 0 (aY b)&&lq (wV 0 (aY a)+wV 0 (aY b)))=true∧
    (iW (fT (wV 0 (aY a)+wV 0 (aY b)))&&iW (fW (wV 0 (aY a)+wV 0 (aY b))))=true∧wV (fT (wV 0 (aY a)+wV 0 (aY b))) (fW (wV 0 (aY a)+wV 0 (aY b)))=aY a+aY b:=by
 have h1:=rA ha
 have h2:=rA hb
 have h3:=cI (x:=aY a)
 have h4:=cI (x:=aY b)
 refine ⟨ap.2 ha,ap.2 hb,?_,?_,by rw [Fj,kq,kq]⟩
 · rw [kq,kq,ir.2 (by omega)]
   unfold mE
   rw [h3.2 (by omega),h4.2 (by omega),cI.2 (show (0:Int)≤0∧(0:Int)<18446744073709551616 by omega)]
   rfl
 · rw [kq,kq,nf (by omega) (by omega),nt]
   rfl
def SZ:List SV→Option aL
 |[.int .i64 a,.int .i64 b]=>some {ok:=am a&&am b,val:=.int .i64 (ak (a+b))}
 |_=>none
theorem FH {m:Nat→Option Row} {n:Nat} {args:List SV} {e:aL} (h:SZ args=some e) (hok:e.ok=true):aN Tryz.prog 74 args m n e:=by
 unfold SZ at h
 split at h
 · rename_i a b
   cases h
   simp only [Bool.and_eq_true,ap] at hok
   obtain ⟨ha,hb⟩:=hok
   refine dA AO ag Tryz.func74 rfl rfl (fuel:=100) ?_
   obtain ⟨h1,h2,h3,h4,h5⟩:=w8 ha hb
   rw [IY,h1,h2,h3,h4,h5]
   unfold aU at ha hb
   by_cases k1:a<0<;>by_cases k2:b<0<;>simp only [k1,k2,decide_true,decide_false,beq_self_eq_true,cond_true,cond_false,show (true==false)=false from rfl,show (false==true)=false from rfl,Option.some.injEq,Prod.mk.injEq,SV.int.injEq,true_and,and_true]
   · unfold xk ak aY;simp only [cond_true];omega
   · rw [IntKind.wrap_i64];unfold ak;omega
   · rw [IntKind.wrap_i64];unfold ak;omega
   · unfold xk ak aY;simp only [cond_false];omega
 · cases h
noncomputable def Vz:bY:=⟨74,fun args _=>SZ args,fun _ _ _ h hok=>FH h hok,aq Tryz.func74 (by kernel_rfl)⟩
def Vk:List SV→Option aL
 |[.int .i64 a,.int .i64 b]=>some {ok:=am a&&am b,val:=.int .i64 (ak (a - b))}
 |_=>none
theorem SE {m:Nat→Option Row} {n:Nat} {args:List SV} {e:aL} (h:Vk args=some e) (hok:e.ok=true):aN Tryz.prog 73 args m n e:=by
 unfold Vk at h
 split at h
 · rename_i a b
   cases h
   simp only [Bool.and_eq_true,ap] at hok
   obtain ⟨ha,hb⟩:=hok
   refine dA AO ag Tryz.func73 rfl rfl (fuel:=100) ?_
   obtain ⟨h1,h2,h3,h4,h5⟩:=w8 ha hb
   rw [Iz,h1,h2,h3,h4,h5]
   unfold aU at ha hb
   by_cases k1:a<0<;>by_cases k2:b<0<;>simp only [k1,k2,decide_true,decide_false,beq_self_eq_true,cond_true,cond_false,show (true==false)=false from rfl,show (false==true)=false from rfl,Bool.not_true,Bool.not_false,Option.some.injEq,Prod.mk.injEq,SV.int.injEq,true_and,and_true]
   · rw [IntKind.wrap_i64];unfold ak;omega
   · unfold xk ak aY;simp only [cond_true];omega
   · unfold xk ak aY;simp only [cond_false];omega
   · rw [IntKind.wrap_i64];unfold ak;omega
 · cases h
noncomputable def Vl:bY:=⟨73,fun args _=>Vk args,fun _ _ _ h hok=>SE h hok,aq Tryz.func73 (by kernel_rfl)⟩
def V3.plus (a b:V3):V3:=⟨ak (a.x+b.x),ak (a.y+b.y),ak (a.z+b.z)⟩
def V3.minus (a b:V3):V3:=⟨ak (a.x - b.x),ak (a.y - b.y),ak (a.z - b.z)⟩
noncomputable def LN:bS:=aV [72] [Vz,Vl]
theorem yq:bV Tryz.prog LN:=aD (by kernel_rfl)
theorem BX (a b:V3):aH LN (fun _ _=>none) 200 43 Tryz.f43 0 [.agg a.sv,.agg b.sv] []=
 bif am a.x&&am b.x then
 bif am a.y&&am b.y then
 bif am a.z&&am b.z then some (SV.agg [.int .i64 (ak (a.x+b.x)),.int .i64 (ak (a.y+b.y)),.int .i64 (ak (a.z+b.z))],[]) else none
 else none
 else none:=by kernel_rfl
theorem zw (a b:V3):aH LN (fun _ _=>none) 200 42 Tryz.f42 0 [.agg a.sv,.agg b.sv] []=
 bif am a.x&&am b.x then
 bif am a.y&&am b.y then
 bif am a.z&&am b.z then some (SV.agg [.int .i64 (ak (a.x - b.x)),.int .i64 (ak (a.y - b.y)),.int .i64 (ak (a.z - b.z))],[]) else none
 else none
 else none:=by kernel_rfl
def Pf:List SV→Option aL
 |[.agg [.int .i64 x,.int .i64 y,.int .i64 z],.agg [.int .i64 p,.int .i64 q,.int .i64 r]]=>some {ok:=aw ⟨x,y,z⟩&&aw ⟨p,q,r⟩,val:=.agg (V3.sv ((⟨x,y,z⟩:V3).plus ⟨p,q,r⟩))}
 |_=>none
def CZ:List SV→Option aL
 |[.agg [.int .i64 x,.int .i64 y,.int .i64 z],.agg [.int .i64 p,.int .i64 q,.int .i64 r]]=>some {ok:=aw ⟨x,y,z⟩&&aw ⟨p,q,r⟩,val:=.agg (V3.sv ((⟨x,y,z⟩:V3).minus ⟨p,q,r⟩))}
 |_=>none
theorem Uk {a b:V3} (h:(aw a&&aw b)=true):(am a.x&&am b.x)=true∧(am a.y&&am b.y)=true∧(am a.z&&am b.z)=true:=by
 simp only [aw,Bool.and_eq_true] at h ⊢
 exact ⟨⟨h.1.1,h.2.1⟩,⟨h.1.2.1,h.2.2.1⟩,h.1.2.2,h.2.2.2⟩
theorem Nh {m:Nat→Option Row} {n:Nat} {args:List SV} {e:aL} (h:Pf args=some e) (hok:e.ok=true):aN Tryz.prog 43 args m n e:=by
 unfold Pf at h
 split at h
 · rename_i x y z p q r
   cases h
   obtain ⟨h1,h2,h3⟩:=Uk (a:=⟨x,y,z⟩) (b:=⟨p,q,r⟩) hok
   refine dA yq ag Tryz.func43 rfl rfl (fuel:=200) ((BX ⟨x,y,z⟩ ⟨p,q,r⟩).trans ?_)
   rw [h1,h2,h3]
   rfl
 · cases h
theorem J8 {m:Nat→Option Row} {n:Nat} {args:List SV} {e:aL} (h:CZ args=some e) (hok:e.ok=true):aN Tryz.prog 42 args m n e:=by
 unfold CZ at h
 split at h
 · rename_i x y z p q r
   cases h
   obtain ⟨h1,h2,h3⟩:=Uk (a:=⟨x,y,z⟩) (b:=⟨p,q,r⟩) hok
   refine dA yq ag Tryz.func42 rfl rfl (fuel:=200) ((zw ⟨x,y,z⟩ ⟨p,q,r⟩).trans ?_)
   rw [h1,h2,h3]
   rfl
 · cases h
noncomputable def Tk:bS:=aV [72] [] [143]
theorem Ni:bV Tryz.prog Tk:=aD (by kernel_rfl)
theorem B7 (a:V3) (n:Int):aH Tk (fun _ _=>none) 200 127 Tryz.f127 0 [.agg a.sv,.int .i64 n] []=
 some
 (SV.agg
 [.int .i64 (max (IntKind.i64.wrap (0 - max n 0)) (min (max n 0) a.x)),.int .i64 (max (IntKind.i64.wrap (0 - max n 0)) (min (max n 0) a.y)),
 .int .i64 (max (IntKind.i64.wrap (0 - max n 0)) (min (max n 0) a.z))],
 []):=by kernel_rfl
def av (n a:Int):Int:=max (-(max n 0)) (min (max n 0) a)
def V3.clamp (a:V3) (n:Int):V3:=⟨av n a.x,av n a.y,av n a.z⟩
def Er:List SV→Option aL
 |[.agg [.int .i64 x,.int .i64 y,.int .i64 z],.int .i64 n]=>some {ok:=am n,val:=.agg (V3.sv ((⟨x,y,z⟩:V3).clamp n))}
 |_=>none
theorem GI {m:Nat→Option Row} {n:Nat} {args:List SV} {e:aL} (h:Er args=some e) (hok:e.ok=true):aN Tryz.prog 127 args m n e:=by
 unfold Er at h
 split at h
 · rename_i x y z k
   cases h
   have hk:=ap.1 hok
   unfold aU at hk
   refine dA Ni ag Tryz.func127 rfl rfl (fuel:=200) ((B7 ⟨x,y,z⟩ k).trans ?_)
   rw [show IntKind.i64.wrap (0 - max k 0)= -(max k 0) by rw [IntKind.wrap_i64];omega]
   rfl
 · cases h
noncomputable def Oq:List SV→Option aL
 |[.int .u64 x,.int .u64 y]=>some {ok:=iW x&&iW y,val:=wS (x*y)}
 |_=>none
theorem MF {m:Nat→Option Row} {n:Nat} {args:List SV} {e:aL} (h:Oq args=some e) (hok:e.ok=true):aN Tryz.prog 117 args m n e:=by
 unfold Oq at h
 split at h
 · rename_i x y
   cases h
   refine dA nI ag Tryz.func117 rfl rfl (fuel:=100) ?_
   rw [wD,show (iW x&&iW y)=true from hok]
   unfold wS
   rw [tY,sL]
   rfl
 · cases h
noncomputable def Ga:bY:=⟨117,fun args _=>Oq args,fun _ _ _ h hok=>MF h hok,aq Tryz.func117 (by kernel_rfl)⟩
noncomputable def OO:bS:=aV [] [Ga,FR,yW]
theorem NW:bV Tryz.prog OO:=aD (by kernel_rfl)
theorem Dk (x y a b c d:Int):Jy OO (fun _ _=>none) 200 116 Tryz.f116 [.int .i64 x,.int .i64 y,.ptr 0 0 0 0,.ptr 1 0 0 0] [.own [.int .u64 a,.int .u64 b],.own [.int .u64 c,.int .u64 d]]=
 bif am x then
 bif am y then
 bif iW (aY x)&&iW (aY y) then
 bif decide (x<0)==decide (y<0) then
 bif mE a b (fT (aY x*aY y)) (fW (aY x*aY y))&&lq (wV a b+wV (fT (aY x*aY y)) (fW (aY x*aY y))) then
 some
 (.int .i64 0,
 [Row.own [.int .u64 (fT (wV a b+wV (fT (aY x*aY y)) (fW (aY x*aY y)))),.int .u64 (fW (wV a b+wV (fT (aY x*aY y)) (fW (aY x*aY y))))],
 Row.own [.int .u64 c,.int .u64 d],Row.own [.int .u64 (fT (aY x*aY y)),.int .u64 (fW (aY x*aY y))]])
 else none
 else
 bif mE c d (fT (aY x*aY y)) (fW (aY x*aY y))&&lq (wV c d+wV (fT (aY x*aY y)) (fW (aY x*aY y))) then
 some
 (.int .i64 0,
 [Row.own [.int .u64 a,.int .u64 b],
 Row.own
 [.int .u64 (fT (wV c d+wV (fT (aY x*aY y)) (fW (aY x*aY y)))),.int .u64 (fW (wV c d+wV (fT (aY x*aY y)) (fW (aY x*aY y))))],
 Row.own [.int .u64 (fT (aY x*aY y)),.int .u64 (fW (aY x*aY y))]])
 else none
 else none
 else none
 else none:=by kernel_rfl
noncomputable def OV:bS:=aV [] [Ga,O5]
theorem AG:bV Tryz.prog OV:=aD (by kernel_rfl)
def ry (n t:Int):List SV:=[.ptr 0 0 0 0,.int .u64 n,.int .u64 t]
noncomputable def P2:List SV→List Row→Option aj:=bj OV (fun _ _=>none) 100 91 [0,1,0,1] (bg Tryz.f91 [0,1,0,1]) 22 1 [1,2,3]
theorem tg (a b n t:Int):P2 (ry n t) [.own [.int .u64 a,.int .u64 b]]=
 bif decide (t>0) then
 bif
 iW (IntKind.u64.wrap (↑(BitVec.ofInt IntKind.u64.bits n|||BitVec.ofInt IntKind.u64.bits t).toNat:Int))&&
 iW (IntKind.u64.wrap (↑(BitVec.ofInt IntKind.u64.bits n|||BitVec.ofInt IntKind.u64.bits t).toNat:Int)) then
 bif
 mE
 (fT
 (IntKind.u64.wrap (↑(BitVec.ofInt IntKind.u64.bits n|||BitVec.ofInt IntKind.u64.bits t).toNat:Int)*
 IntKind.u64.wrap (↑(BitVec.ofInt IntKind.u64.bits n|||BitVec.ofInt IntKind.u64.bits t).toNat:Int)))
 (fW
 (IntKind.u64.wrap (↑(BitVec.ofInt IntKind.u64.bits n|||BitVec.ofInt IntKind.u64.bits t).toNat:Int)*
 IntKind.u64.wrap (↑(BitVec.ofInt IntKind.u64.bits n|||BitVec.ofInt IntKind.u64.bits t).toNat:Int)))
 a b then
 bif
 !decide
 (wV a b <
 wV
 (fT
 (IntKind.u64.wrap (↑(BitVec.ofInt IntKind.u64.bits n|||BitVec.ofInt IntKind.u64.bits t).toNat:Int)*
 IntKind.u64.wrap (↑(BitVec.ofInt IntKind.u64.bits n|||BitVec.ofInt IntKind.u64.bits t).toNat:Int)))
 (fW
 (IntKind.u64.wrap (↑(BitVec.ofInt IntKind.u64.bits n|||BitVec.ofInt IntKind.u64.bits t).toNat:Int)*
 IntKind.u64.wrap (↑(BitVec.ofInt IntKind.u64.bits n|||BitVec.ofInt IntKind.u64.bits t).toNat:Int)))) then
 some
 (SV.tuple
 [SV.nilp,
 SV.tuple
 [SV.ptr 0 0 0 0,.int .u64 (IntKind.u64.wrap (↑(BitVec.ofInt IntKind.u64.bits n|||BitVec.ofInt IntKind.u64.bits t).toNat:Int)),
 .int .u64 (t.fdiv (2 ^ min (Int.toNat 1) IntKind.u64.bits))]],
 [Row.own [.int .u64 a,.int .u64 b]])
 else
 some
 (SV.tuple [SV.nilp,SV.tuple [SV.ptr 0 0 0 0,.int .u64 n,.int .u64 (t.fdiv (2 ^ min (Int.toNat 1) IntKind.u64.bits))]],
 [Row.own [.int .u64 a,.int .u64 b]])
 else none
 else none
 else some (SV.tuple [SV.ptr 0 0 0 0,SV.tuple [SV.ptr 0 0 0 0,.int .u64 n,.int .u64 t]],[Row.own [.int .u64 a,.int .u64 b]]):=by kernel_rfl
def iH (W:Nat):Nat→Nat→Nat
 |0,n=>n
 |k+1,n=>bif Nat.ble ((n+2 ^ k)*(n+2 ^ k)) W then iH W k (n+2 ^ k) else iH W k n
def jT (W:Nat):Nat:=iH W 64 0
def jX (W n t:Nat):Prop:=t ∣ n∧n*n≤W∧W<(n+t)*(n+t)
theorem jX.take {W n t:Nat} (h:jX W n (2*t)) (hle:(n+t)*(n+t)≤W):jX W (n+t) t:=by
 obtain ⟨⟨c,hc⟩,h1,h2⟩:=h
 refine ⟨⟨2*c+1,?_⟩,hle,?_⟩
 · rw [hc,Nat.mul_add,Nat.mul_one,Nat.mul_comm 2 t,Nat.mul_assoc]
 · rw [Nat.add_assoc,←Nat.two_mul];exact h2
theorem jX.leave {W n t:Nat} (h:jX W n (2*t)) (hgt:W<(n+t)*(n+t)):jX W n t:=by
 obtain ⟨⟨c,hc⟩,h1,h2⟩:=h
 exact ⟨⟨2*c,by rw [hc,Nat.mul_comm 2 t,Nat.mul_assoc]⟩,h1,hgt⟩
theorem PW {W n t k:Nat} (hW:W<340282366920938463463374607431768211456) (hk:k<64) (ht:t=2 ^ k) (h:jX W n (2*t)):n+t<18446744073709551616:=by
 obtain ⟨⟨c,hc⟩,h1,_⟩:=h
 have hn:n<18446744073709551616:=by
  by_cases hh:n<18446744073709551616
  · exact hh
  · have:=Nat.mul_le_mul (Nat.le_of_not_lt hh) (Nat.le_of_not_lt hh)
    omega
 have hd:2*t*2 ^ (63 - k)=18446744073709551616:=by
  rw [ht,Nat.mul_assoc,←Nat.pow_add,show k+(63 - k)=63 by omega]
 have htp:0<t:=by rw [ht];exact Nat.two_pow_pos k
 have hcd:c<2 ^ (63 - k):=by
  by_cases hh:c<2 ^ (63 - k)
  · exact hh
  · have:=Nat.mul_le_mul_left (2*t) (Nat.le_of_not_lt hh)
    omega
 have:=Nat.mul_le_mul_left (2*t) hcd
 rw [Nat.mul_succ] at this
 omega
theorem Qx {W n t k:Nat} (ht:t=2 ^ k) (h:jX W n (2*t)):n|||t=n+t:=by
 obtain ⟨⟨c,hc⟩,_,_⟩:=h
 have e:n=2 ^ (k+1)*c:=by rw [hc,ht,Nat.pow_succ,Nat.mul_comm 2]
 rw [e]
 exact (Nat.two_pow_add_eq_or_of_lt (by rw [ht,Nat.pow_succ];have:=Nat.two_pow_pos k;omega) c).symm
theorem Qv (n t:Nat) (hn:n<18446744073709551616) (ht:t<18446744073709551616):IntKind.u64.wrap (↑(BitVec.ofInt IntKind.u64.bits (n:Int)|||BitVec.ofInt IntKind.u64.bits (t:Int)).toNat:Int)=((n|||t:Nat):Int):=bits_or_u64_nat n t hn ht
theorem pe {a b:Int} (ha:iW a=true) (hb:iW b=true):∀(k n:Nat),k≤64→jX (wV a b).toNat n (2 ^ k)→aJ P2 (ry n ((2 ^ k/2:Nat):Int)) [.own [.int .u64 a,.int .u64 b]] (.exit 0) (ry ((iH (wV a b).toNat k n:Nat):Int) 0) [.own [.int .u64 a,.int .u64 b]]
 |0,n,_,_=>by
  refine .done ?_ (by simp)
  rw [tg]
  rfl
 | k+1,n,hk,h=>by
  have hab:=cI.1 ha
  have hbb:=cI.1 hb
  have hW:(((wV a b).toNat:Nat):Int)=wV a b:=by unfold wV;omega
  have hW2:(wV a b).toNat<340282366920938463463374607431768211456:=by unfold wV;omega
  have e2:2 ^ (k+1)=2*2 ^ k:=by rw [Nat.pow_succ];omega
  rw [e2] at h ⊢
  rw [show 2*2 ^ k/2=2 ^ k by omega]
  have htp:0<2 ^ k:=Nat.two_pow_pos k
  have hlt:=PW hW2 (show k<64 by omega) rfl h
  have hsq:(n+2 ^ k)*(n+2 ^ k)<340282366920938463463374607431768211456:=by
   have:=Nat.mul_le_mul (show n+2 ^ k≤18446744073709551615 by omega) (show n+2 ^ k≤18446744073709551615 by omega)
   omega
  have hro:=tg a b n ((2 ^ k:Nat):Int)
  have et:(((2 ^ k:Nat):Int)).fdiv (2 ^ min (Int.toNat 1) IntKind.u64.bits)=((2 ^ k/2:Nat):Int):=by
   rw [show (2 ^ min (Int.toNat 1) IntKind.u64.bits:Int)=2 by decide,Int.fdiv_eq_ediv_of_nonneg _ (by omega)]
   omega
  have hU:iW ((n+2 ^ k:Nat):Int)=true:=cI.2 (by omega)
  rw [Qv n (2 ^ k) (by omega) (by omega),Qx rfl h,et,hU,decide_eq_true (show ((2 ^ k:Nat):Int)>0 by omega),←Int.natCast_mul,Fj] at hro
  unfold mE at hro
  rw [nf (by omega) (by omega),nt,ha,hb,←hW] at hro
  rw [iH]
  by_cases hle:(n+2 ^ k)*(n+2 ^ k)≤(wV a b).toNat
  · rw [decide_eq_false (show ¬ (((wV a b).toNat:Nat):Int)<(((n+2 ^ k)*(n+2 ^ k):Nat):Int) by omega)] at hro
    rw [Nat.ble_eq_true_of_le hle,cond_true]
    exact .more hro (pe ha hb k _ (by omega) (h.take hle))
  · rw [decide_eq_true (show (((wV a b).toNat:Nat):Int)<(((n+2 ^ k)*(n+2 ^ k):Nat):Int) by omega)] at hro
    rw [show Nat.ble ((n+2 ^ k)*(n+2 ^ k)) (wV a b).toNat=false by rw [Bool.eq_false_iff];exact fun hh=>hle (Nat.le_of_ble_eq_true hh),cond_false]
    exact .more hro (pe ha hb k _ (by omega) (h.leave (by omega)))
noncomputable def tC (z:Int):Int:=In ((jT z.toNat:Nat):Int)
noncomputable def EW (v:List SV) (R:List Row) (k:Ex→List SV→List Row→Option aj):Option aj:=match v,R with
 |[.ptr 0 0 0 0,.int .u64 n,.int .u64 t],[.own [.int .u64 a,.int .u64 b]]=>bif decide (n=0)&&(decide (t=9223372036854775808)&&(iW a&&iW b)) then k (.exit 0) (ry (tC (wV a b)) 0) [.own [.int .u64 a,.int .u64 b]] else none
 |_,_=>none
theorem De:da 91 [0,1,0,1] (bG 22 [1,2,3] EW):=by
 intro b hat s K r h
 refine aQ (fuel:=100) AG ag hat (fun v R k r hr=>?_) h
 have hbody:=aZ Tryz.func91 hat
 subst hbody
 unfold EW at hr
 split at hr
 · rename_i n t a b
   obtain ⟨hb,hr2⟩:=al hr
   simp only [Bool.and_eq_true,decide_eq_true_eq] at hb
   obtain ⟨rfl,rfl,ha,hb⟩:=hb
   have hab:=cI.1 ha
   have hbb:=cI.1 hb
   refine ⟨_,_,_,hr2,?_⟩
   unfold tC
   rw [my]
   exact pe ha hb 64 0 (by omega) ⟨Nat.dvd_zero _,Nat.zero_le _,by unfold wV;omega⟩
 · cases hr
noncomputable def Pz:jh:=⟨_,_,_,De⟩
theorem J7 (a b:Int):aH OV (aF [Pz]) 100 91 Tryz.f91 0 [.agg [.int .u64 a,.int .u64 b]] []=
 bif iW a&&iW b then some (.int .u64 (tC (wV a b)),[]) else none:=by kernel_rfl
noncomputable def LQ:List SV→Option aL
 |[.agg [.int .u64 a,.int .u64 b]]=>some {ok:=iW a&&iW b,val:=.int .u64 (tC (wV a b))}
 |_=>none
theorem Pd {m:Nat→Option Row} {n:Nat} {args:List SV} {e:aL} (h:LQ args=some e) (hok:e.ok=true):aN Tryz.prog 91 args m n e:=by
 unfold LQ at h
 split at h
 · rename_i a b
   cases h
   refine dA AG aG Tryz.func91 rfl rfl (fuel:=100) ((J7 a b).trans ?_)
   rw [show (iW a&&iW b)=true from hok]
   rfl
 · cases h
noncomputable def R9:bY:=⟨91,fun args _=>LQ args,fun _ _ _ h hok=>Pd h hok,aq Tryz.func91 (by kernel_rfl)⟩
def fR (x y:Int):Int:=bif decide (x<0)==decide (y<0) then aY x*aY y else 0
def BK (x y:Int):Int:=bif decide (x<0)==decide (y<0) then 0 else aY x*aY y
noncomputable def wC (z:Int):List SV:=[.int .u64 (fT z),.int .u64 (fW z)]
noncomputable def UX (x y a b c d:Int):Bool:=am x&&(am y&&(mE a b c d&&(lq (wV a b+fR x y)&&lq (wV c d+BK x y))))
theorem JA {x y a b c d:Int} (hok:UX x y a b c d=true):Jy OO (fun _ _=>none) 200 116 Tryz.f116 [.int .i64 x,.int .i64 y,.ptr 0 0 0 0,.ptr 1 0 0 0] [.own [.int .u64 a,.int .u64 b],.own [.int .u64 c,.int .u64 d]]=
    some (.int .i64 0,[.own (wC (wV a b+fR x y)),.own (wC (wV c d+BK x y)),.own (wC (aY x*aY y))]):=by
 unfold UX mE at hok
 simp only [Bool.and_eq_true] at hok
 obtain ⟨h1,h2,⟨ha,hb,hc,hd⟩,h3,h4⟩:=hok
 have hx:=rA (ap.1 h1)
 have hy:=rA (ap.1 h2)
 have hp:aY x*aY y≤85070591730234615865843651857942052864:=Int.mul_le_mul hx.2 hy.2 hy.1 (by omega)
 have hp0:0≤aY x*aY y:=Int.mul_nonneg hx.1 hy.1
 have same:∀p q:Int,iW p=true→iW q=true→fT (wV p q+0)=p∧fW (wV p q+0)=q:=by
  intro p q hp hq
  rw [cI] at hp hq
  rw [tY,sL]
  unfold wV
  omega
 rw [Dk,h1,h2,cI.2 (by omega),cI.2 (by omega)]
 unfold mE
 rw [ha,hb,hc,hd,nf hp0 (by omega),nt,Fj]
 unfold fR at h3
 unfold BK at h4
 unfold fR BK
 generalize (decide (x<0)==decide (y<0))=g at h3 h4 ⊢
 cases g with
 |true=>
  simp only [cond_true] at h3 h4 ⊢
  rw [h3,wC,wC,(same c d hc hd).1,(same c d hc hd).2]
  rfl
 |false=>
  simp only [cond_false] at h3 h4 ⊢
  rw [h4,wC,wC,(same a b ha hb).1,(same a b ha hb).2]
  rfl
noncomputable def CP (args:List SV) (rows:List Row):Option aL:=match args with
 | [.int .i64 x,.int .i64 y,.ptr iu 0 0 0,.ptr id 0 0 0]=>match rows[iu]?,rows[id]? with
  |some (.own [.int .u64 a,.int .u64 b]),some (.own [.int .u64 c,.int .u64 d])=>bif !Nat.beq iu id then
   some {ok:=UX x y a b c d,val:=.int .i64 0,rd:=[iu,id],wr:=[(iu,.own (wC (wV a b+fR x y))),(id,.own (wC (wV c d+BK x y)))],nw:=[.own (wC (aY x*aY y))]} else none
  |_,_=>none
 |_=>none
theorem GU {args:List SV} {rows:List Row} {e:aL} (h:CP args rows=some e) (hok:e.ok=true):aN Tryz.prog 116 args (rows[·]?) rows.length e:=by
 unfold CP at h
 split at h
 · rename_i x y iu id
   split at h
   · rename_i a b c d hu hd
     obtain ⟨hb,h⟩:=al h
     cases h
     have hne:=Nat.ne_of_beq_eq_false (by simpa using hb:Nat.beq iu id=false)
     have l1:=(List.getElem?_eq_some_iff.1 hu).1
     have l2:=(List.getElem?_eq_some_iff.1 hd).1
     have hc:=Fy NW ag Tryz.func116 (JA hok)
     refine lC hc (σ:=[iu,id]) (n:=rows.length) (W:=[(iu,.own (wC (wV a b+fR x y))),(id,.own (wC (wV c d+BK x y)))]) rfl ?_ ?_ ?_ ?_ ?_ ?_ ?_
     · simp [hne]
     · intro j hj
       simp at hj
       rcases hj with rfl |rfl<;>assumption
     · intro i hi
       simp [SV.idsL,SV.ids] at hi
       rcases hi with rfl |rfl<;>simp
     · intro i row hr j hj
       match i,hr with
       |0,hr=>simp at hr;subst hr;simp [Row.idsR,SV.idsL,SV.ids] at hj
       |1,hr=>simp at hr;subst hr;simp [Row.idsR,SV.idsL,SV.ids] at hj
       |i+2,hr=>simp at hr
     · intro i row hr
       match i,hr with
       |0,hr=>simp at hr;subst hr;exact ⟨_,hu,fun _=>rfl,fun _ _ h=>h⟩
       |1,hr=>simp at hr;subst hr;exact ⟨_,hd,fun _=>rfl,fun _ _ h=>h⟩
       |i+2,hr=>simp at hr
     · intro i row hr _
       match i,hr with
       |0,hr=>exact .inr ⟨_,rfl,List.mem_cons_self ..⟩
       |1,hr=>exact .inr ⟨_,rfl,List.mem_cons_of_mem _ (List.mem_cons_self ..)⟩
       |i+2,hr=>simp at hr
     · intro x hx
       simp only [List.mem_cons,List.not_mem_nil,or_false] at hx
       rcases hx with rfl |rfl
       · exact ⟨0,_,by simp,rfl,rfl⟩
       · exact ⟨1,_,by simp,rfl,rfl⟩
   · cases h
 · cases h
noncomputable def Mo:bY:=⟨116,CP,fun _ _ _ h hok=>GU h hok,aq Tryz.func116 (by kernel_rfl)⟩
noncomputable def Um:bS:=aV [72,89] [Mo,R9,vI]
theorem N0:bV Tryz.prog Um:=aD (by kernel_rfl)
theorem Hh (a:V3):aH Um (fun _ _=>none) 300 64 Tryz.f64 0 [.agg a.sv] []=
 bif UX a.x a.x 0 0 0 0 then
 bif UX a.y a.y (fT (wV 0 0+fR a.x a.x)) (fW (wV 0 0+fR a.x a.x)) (fT (wV 0 0+BK a.x a.x)) (fW (wV 0 0+BK a.x a.x)) then
 bif
 UX a.z a.z (fT (wV (fT (wV 0 0+fR a.x a.x)) (fW (wV 0 0+fR a.x a.x))+fR a.y a.y)) (fW (wV (fT (wV 0 0+fR a.x a.x)) (fW (wV 0 0+fR a.x a.x))+fR a.y a.y))
 (fT (wV (fT (wV 0 0+BK a.x a.x)) (fW (wV 0 0+BK a.x a.x))+BK a.y a.y)) (fW (wV (fT (wV 0 0+BK a.x a.x)) (fW (wV 0 0+BK a.x a.x))+BK a.y a.y)) then
 bif
 iW
 (fT
 (wV (fT (wV (fT (wV 0 0+fR a.x a.x)) (fW (wV 0 0+fR a.x a.x))+fR a.y a.y)) (fW (wV (fT (wV 0 0+fR a.x a.x)) (fW (wV 0 0+fR a.x a.x))+fR a.y a.y))+
 fR a.z a.z))&&
 iW
 (fW
 (wV (fT (wV (fT (wV 0 0+fR a.x a.x)) (fW (wV 0 0+fR a.x a.x))+fR a.y a.y)) (fW (wV (fT (wV 0 0+fR a.x a.x)) (fW (wV 0 0+fR a.x a.x))+fR a.y a.y))+
 fR a.z a.z)) then
 bif
 iW 0&&
 iW
 (tC
 (wV
 (fT
 (wV (fT (wV (fT (wV 0 0+fR a.x a.x)) (fW (wV 0 0+fR a.x a.x))+fR a.y a.y)) (fW (wV (fT (wV 0 0+fR a.x a.x)) (fW (wV 0 0+fR a.x a.x))+fR a.y a.y))+
 fR a.z a.z))
 (fW
 (wV (fT (wV (fT (wV 0 0+fR a.x a.x)) (fW (wV 0 0+fR a.x a.x))+fR a.y a.y)) (fW (wV (fT (wV 0 0+fR a.x a.x)) (fW (wV 0 0+fR a.x a.x))+fR a.y a.y))+
 fR a.z a.z)))) then
 some
 (SV.int IntKind.i64
 (xk
 (wV 0
 (tC
 (wV
 (fT
 (wV (fT (wV (fT (wV 0 0+fR a.x a.x)) (fW (wV 0 0+fR a.x a.x))+fR a.y a.y)) (fW (wV (fT (wV 0 0+fR a.x a.x)) (fW (wV 0 0+fR a.x a.x))+fR a.y a.y))+
 fR a.z a.z))
 (fW
 (wV (fT (wV (fT (wV 0 0+fR a.x a.x)) (fW (wV 0 0+fR a.x a.x))+fR a.y a.y)) (fW (wV (fT (wV 0 0+fR a.x a.x)) (fW (wV 0 0+fR a.x a.x))+fR a.y a.y))+
 fR a.z a.z)))))
 false),
 [])
 else none
 else none
 else none
 else none
 else none:=by kernel_rfl
def yp (a:V3):Nat:=a.x.natAbs*a.x.natAbs+a.y.natAbs*a.y.natAbs+a.z.natAbs*a.z.natAbs
def V3.long (a:V3):Int:=min ((jT (yp a):Nat):Int) 9223372036854775807
def On:List SV→Option aL
 |[.agg [.int .i64 x,.int .i64 y,.int .i64 z]]=>some {ok:=aw ⟨x,y,z⟩,val:=.int .i64 (V3.long ⟨x,y,z⟩)}
 |_=>none
theorem yT (x:Int):fR x x=((x.natAbs*x.natAbs:Nat):Int)∧BK x x=0:=by
 unfold fR BK aY
 rw [beq_self_eq_true]
 refine ⟨?_,rfl⟩
 rw [cond_true,Int.natCast_mul,show max x (-x)=(x.natAbs:Int) by omega]
theorem po {W:Nat}:∀(k n:Nat),iH W k n<n+2 ^ k
 |0,n=>by simp [iH]
 |k+1,n=>by
  rw [iH,Nat.pow_succ]
  cases Nat.ble ((n+2 ^ k)*(n+2 ^ k)) W with
  |true=>have:=po (W:=W) k (n+2 ^ k);simp only [cond_true];omega
  |false=>have:=po (W:=W) k n;simp only [cond_false];omega
theorem L6 {m:Nat→Option Row} {n:Nat} {args:List SV} {e:aL} (h:On args=some e) (hok:e.ok=true):aN Tryz.prog 64 args m n e:=by
 unfold On at h
 split at h
 · rename_i x y z
   cases h
   have hf:=aB.1 hok
   have le:∀x:Int,aU x→x.natAbs*x.natAbs≤85070591730234615865843651857942052864:=fun x hx=>by unfold aU at hx;exact Nat.mul_le_mul (show x.natAbs≤9223372036854775808 by omega) (show x.natAbs≤9223372036854775808 by omega)
   have lx:=le x hf.1
   have ly:=le y hf.2.1
   have lz:=le z hf.2.2
   refine dA N0 ag Tryz.func64 rfl rfl (fuel:=300) ((Hh ⟨x,y,z⟩).trans ?_)
   have e0:wV 0 0=0:=rfl
   simp only [Fj,(yT _).1,(yT _).2,e0,Int.zero_add,Int.add_zero,UX,mE,←Int.natCast_add]
   have i0:iW 0=true:=cI.2 (by omega)
   have q0:lq 0=true:=ir.2 (by omega)
   have hi0:iW (fT 0)=true:=nf (by omega) (by omega)
   rw [ap.2 hf.1,ap.2 hf.2.1,ap.2 hf.2.2,i0,q0,hi0,nt,nt,nt]
   rw [ir.2 (show ((x.natAbs*x.natAbs:Nat):Int)<340282366920938463463374607431768211456 by omega),ir.2 (show ((x.natAbs*x.natAbs+y.natAbs*y.natAbs:Nat):Int)<340282366920938463463374607431768211456 by omega),
    ir.2 (show ((x.natAbs*x.natAbs+y.natAbs*y.natAbs+z.natAbs*z.natAbs:Nat):Int)<340282366920938463463374607431768211456 by omega),
    nf (show (0:Int)≤((x.natAbs*x.natAbs:Nat):Int) by omega) (by omega),nf (show (0:Int)≤((x.natAbs*x.natAbs+y.natAbs*y.natAbs:Nat):Int) by omega) (by omega),
    nf (show (0:Int)≤((x.natAbs*x.natAbs+y.natAbs*y.natAbs+z.natAbs*z.natAbs:Nat):Int) by omega) (by omega)]
   have hr:tC ((x.natAbs*x.natAbs+y.natAbs*y.natAbs+z.natAbs*z.natAbs:Nat):Int)=((jT (yp ⟨x,y,z⟩):Nat):Int):=my _
   have hl:=po (W:=yp ⟨x,y,z⟩) 64 0
   have hl2:jT (yp ⟨x,y,z⟩)<18446744073709551616:=by unfold jT;omega
   rw [hr,cI.2 (show (0:Int)≤((jT (yp ⟨x,y,z⟩):Nat):Int)∧((jT (yp ⟨x,y,z⟩):Nat):Int)<18446744073709551616 by omega),kq,nt]
   rfl
 · cases h
noncomputable def G9:bY:=⟨64,fun args _=>On args,fun _ _ _ h hok=>L6 h hok,aq Tryz.func64 (by kernel_rfl)⟩
noncomputable def Gl:bY:=⟨43,fun args _=>Pf args,fun _ _ _ h hok=>Nh h hok,aq Tryz.func43 (by kernel_rfl)⟩
noncomputable def sx:bY:=⟨42,fun args _=>CZ args,fun _ _ _ h hok=>J8 h hok,aq Tryz.func42 (by kernel_rfl)⟩
theorem rn {α:Type} {c:Bool} {x y r:α} (h1:c=true→x=r) (h2:c=false→y=r):(bif c then x else y)=r:=by cases c;exact h2 rfl;exact h1 rfl
theorem tw {α:Type} {c:Bool} {x y r:α} (hc:c=true) (h:x=r):(bif c then x else y)=r:=by subst hc;exact h
theorem cY (c d:Bool):(bif c==false then d else true)=(c||d):=by cases c<;>rfl
theorem dh (c d:Bool):(bif c==true then d else false)=(c&&d):=by cases c<;>rfl
theorem FL (a:Int):a.fdiv (2 ^ min (Int.toNat 16) IntKind.i64.bits)=a/65536:=by
 have p16:(2 ^ min (Int.toNat 16) IntKind.i64.bits:Int)=65536:=by decide
 rw [p16,Int.fdiv_eq_ediv_of_nonneg a (by omega)]
theorem fQ {a:Int} (h:aU a):am (a/65536)=true:=by
 rw [ap]
 unfold aU at h ⊢
 omega
structure Mp where
 w:Int
 d:Int
 h:Int
 ptr:Option Addr
 len:Nat
 cap:Nat
 sp:Value
 s:Nat→Bool
def ez (n:Int):Bool:=decide (1≤n)&&decide (n≤32)
def kN (n side:Int):Bool:=decide (0≤n)&&decide (n<side)
def Mp.sized (m:Mp):Bool:=ez m.w&&ez m.d&&ez m.h&&((m.len:Int)==m.w*m.d*m.h)
def Mp.idx (m:Mp) (x y z:Int):Nat:=((z*m.d+y)*m.w+x).toNat
def Mp.solid (m:Mp) (x y z:Int):Bool:= !m.sized|| !kN x m.w|| !kN y m.d|| !kN z m.h||m.s (m.idx x y z)
theorem Mp.idx_lt {m:Mp} {x y z:Int} (hs:m.sized=true) (hx:kN x m.w=true) (hy:kN y m.d=true) (hz:kN z m.h=true):
    0≤z*m.d∧z*m.d≤1024∧0≤(z*m.d+y)*m.w∧(z*m.d+y)*m.w≤65536∧(z*m.d+y)*m.w+x=((m.idx x y z:Nat):Int)∧m.idx x y z<m.len:=by
 unfold Mp.sized ez at hs
 unfold kN at hx hy hz
 simp only [Bool.and_eq_true,decide_eq_true_eq,beq_iff_eq] at hs hx hy hz
 obtain ⟨⟨⟨hw,hd⟩,hh⟩,hl⟩:=hs
 have a1:0≤z*m.d:=Int.mul_nonneg hz.1 (by omega)
 have a2:z*m.d≤(m.h - 1)*m.d:=Int.mul_le_mul_of_nonneg_right (by omega) (by omega)
 have a3:(m.h - 1)*m.d≤31*32:=Int.mul_le_mul (by omega) (by omega) (by omega) (by omega)
 have b0:z*m.d+y≤m.h*m.d - 1:=by
  have :(m.h - 1)*m.d=m.h*m.d - m.d:=by rw [Int.sub_mul,Int.one_mul]
  omega
 have b1:0≤(z*m.d+y)*m.w:=Int.mul_nonneg (by omega) (by omega)
 have b2:(z*m.d+y)*m.w≤(m.h*m.d - 1)*m.w:=Int.mul_le_mul_of_nonneg_right b0 (by omega)
 have b3:(z*m.d+y)*m.w≤1023*32:=Int.mul_le_mul (by omega) (by omega) (by omega) (by omega)
 have c:(m.h*m.d - 1)*m.w=m.w*m.d*m.h - m.w:=by
  rw [Int.sub_mul,Int.one_mul,Int.mul_comm m.h,Int.mul_comm (m.d*m.h),←Int.mul_assoc]
 unfold Mp.idx
 refine ⟨a1,by omega,b1,by omega,by omega,by omega⟩
def Mp.boxFree (m:Mp) (x0 x1 y0 y1 z0 z1:Int):Prop:=∀i j k,x0≤i→i≤x1→y0≤j→j≤y1→z0≤k→k≤z1→m.solid i j k=false
def Mp.Clear (m:Mp) (lo hi:V3):Prop:=hi.x≤lo.x∨hi.y≤lo.y∨hi.z≤lo.z∨m.boxFree (lo.x/65536) ((hi.x - 1)/65536) (lo.y/65536) ((hi.y - 1)/65536) (lo.z/65536) ((hi.z - 1)/65536)
open Classical in
noncomputable def Mp.clear (m:Mp) (lo hi:V3):Bool:=decide (m.Clear lo hi)
open Classical in
theorem Mp.clear_true {m:Mp} {lo hi:V3} (h:m.Clear lo hi):m.clear lo hi=true:=by unfold Mp.clear;exact decide_eq_true h
open Classical in
theorem Mp.clear_false {m:Mp} {lo hi:V3} (h: ¬ m.Clear lo hi):m.clear lo hi=false:=by unfold Mp.clear;exact decide_eq_false h
open Classical in
theorem Mp.clear_iff {m:Mp} {lo hi:V3}:m.clear lo hi=true↔m.Clear lo hi:=by unfold Mp.clear;exact decide_eq_true_iff
theorem Mp.solid_in {m:Mp} {x y z:Int} (h:m.solid x y z=false):(0≤x∧x<32)∧(0≤y∧y<32)∧(0≤z∧z<32):=by
 unfold Mp.solid at h
 simp only [Bool.or_eq_false_iff,Bool.not_eq_false'] at h
 obtain ⟨⟨⟨⟨h0,h1⟩,h2⟩,h3⟩,_⟩:=h
 unfold Mp.sized ez at h0
 unfold kN at h1 h2 h3
 simp only [Bool.and_eq_true,decide_eq_true_eq,beq_iff_eq] at h0 h1 h2 h3
 omega
theorem mC {a b A B:Int} (ha:1≤a∧a≤A) (hb:1≤b∧b≤B):1≤a*b∧a*b≤A*B:=by
 have h1:=Int.mul_le_mul_of_nonneg_left hb.1 (show 0≤a by omega)
 have h2:=Int.mul_le_mul ha.2 hb.2 (by omega) (by omega)
 rw [Int.mul_one] at h1
 exact ⟨by omega,h2⟩
theorem mc {m:Mp}:m.sized=true↔((1≤m.w∧m.w≤32)∧(1≤m.d∧m.d≤32)∧(1≤m.h∧m.h≤32))∧(m.len:Int)=m.w*m.d*m.h:=by
 unfold Mp.sized ez
 simp only [Bool.and_eq_true,decide_eq_true_eq,beq_iff_eq]
 constructor
 · rintro ⟨⟨⟨h1,h2⟩,h3⟩,h4⟩;exact ⟨⟨by omega,by omega,by omega⟩,h4⟩
 · rintro ⟨⟨h1,h2,h3⟩,h4⟩;exact ⟨⟨⟨by omega,by omega⟩,by omega⟩,h4⟩
def af (w d h:Int) (len:Nat) (s:Nat→Bool):Mp:=⟨w,d,h,none,len,0,undef,s⟩
def aP (w d h:Int) (len:Nat):Bool:=am w&&(am d&&(am h&&decide (len≤9223372036854775807)))
def P1:V3:=⟨26214,26214,58982⟩
theorem vL:P1.fits:=⟨by show aU 26214;unfold aU;omega,by show aU 26214;unfold aU;omega,by show aU 58982;unfold aU;omega⟩
theorem mh (a b:V3):(a.plus b).fits:=⟨cj _,cj _,cj _⟩
theorem kG (a b:V3):(a.minus b).fits:=⟨cj _,cj _,cj _⟩
noncomputable def Mp.free (m:Mp) (p:V3):Bool:=m.clear (p.minus P1) (p.plus P1)
def gC (p:Int→Bool):Nat→Int→Bool
 |0,_=>false
 |k+1,i=>bif p i then true else gC p k (i+1)
def kA (p:Int→Bool):Nat→Int→Int
 |0,i=>i
 |k+1,i=>bif p i then i else kA p k (i+1)
theorem ew {p:Int→Bool}:∀{k:Nat} {i:Int},gC p k i=true↔∃j,i≤j∧j<i+k∧p j=true
 |0,i=>by
  simp only [gC]
  constructor
  · intro h;cases h
  · rintro ⟨j,h1,h2,_⟩;omega
 | k +1,i=>by
  unfold gC
  cases hp:p i with
  |true=>simp only [cond_true,true_iff];exact ⟨i,by omega,by omega,hp⟩
  | false=>
   simp only [cond_false]
   rw [ew]
   constructor
   · rintro ⟨j,h1,h2,h3⟩;exact ⟨j,by omega,by omega,h3⟩
   · rintro ⟨j,h1,h2,h3⟩
     have :j≠i:=fun h=>by rw [h,hp] at h3;cases h3
     exact ⟨j,by omega,by omega,h3⟩
theorem fz {rd:List SV→List Row→Option aj} {val valR:Int→List SV} {R:List Row} {p:Int→Bool} {W:Int} {ex:Nat} {i0:Int}
    (hr:∀i:Int,i0≤i→i<W→rd (val i) R=bif p i then some (.tuple [.nils,.tuple (valR i)],R) else some (.tuple [.nilp,.tuple (val (i+1))],R))
    (he:rd (val W) R=some (.tuple [.ptr ex 0 0 0,.tuple (val W)],R)):∀(k:Nat) (i:Int),i0≤i→i+k=W→
    (gC p k i=true→aJ rd (val i) R .ret (valR (kA p k i)) R)∧(gC p k i=false→aJ rd (val i) R (.exit ex) (val W) R)
 |0,i,h0,hk=>by
  obtain rfl:i=W:=by omega
  exact ⟨fun h=>(by cases h),fun _=>.done he (by simp)⟩
 | k+1,i,h0,hk=>by
  have hro:=hr i h0 (by omega)
  unfold gC kA
  cases hp:p i with
  |true=>
   rw [hp,cond_true] at hro
   simp only [cond_true]
   exact ⟨fun _=>.done hro (by simp),fun h=>(by cases h)⟩
  |false=>
   rw [hp,cond_false] at hro
   simp only [cond_false]
   have ih:=fz hr he k (i+1) (by omega) (by omega)
   exact ⟨fun h=>.more hro (ih.1 h),fun h=>.more hro (ih.2 h)⟩
noncomputable def RD:bS:=aV [] []
theorem xN:bV Tryz.prog RD:=aD (by kernel_rfl)
theorem Ht (n:Int):aH RD (fun _ _=>none) 200 75 Tryz.f75 0 [.int .i64 n] []=
 some (SV.bool (bif decide (n≥1)==true then decide (n≤32) else false),[]):=by kernel_rfl
theorem KB (n s:Int):aH RD (fun _ _=>none) 200 97 Tryz.f97 0 [.int .i64 n,.int .i64 s] []=
 some (SV.bool (bif decide (n≥0)==true then decide (n<s) else false),[]):=by kernel_rfl
def Pe:List SV→Option aL
 |[.int .i64 n]=>some {val:=.bool (ez n)}
 |_=>none
theorem KS {m:Nat→Option Row} {n:Nat} {args:List SV} {e:aL} (h:Pe args=some e):aN Tryz.prog 75 args m n e:=by
 unfold Pe at h
 split at h
 · rename_i k
   cases h
   have hv:=Ht k
   rw [dh] at hv
   obtain ⟨rows',hc,_⟩:=aC xN ag Tryz.func75 hv
   exact aM hc rfl rfl
 · cases h
noncomputable def Sk:bY:=⟨75,fun args _=>Pe args,fun _ _ _ h _=>KS h,aq Tryz.func75 (by kernel_rfl)⟩
def Wm:List SV→Option aL
 |[.int .i64 n,.int .i64 s]=>some {val:=.bool (kN n s)}
 |_=>none
theorem PA {m:Nat→Option Row} {n:Nat} {args:List SV} {e:aL} (h:Wm args=some e):aN Tryz.prog 97 args m n e:=by
 unfold Wm at h
 split at h
 · rename_i k s
   cases h
   have hv:=KB k s
   rw [dh] at hv
   obtain ⟨rows',hc,_⟩:=aC xN ag Tryz.func97 hv
   exact aM hc rfl rfl
 · cases h
noncomputable def X0:bY:=⟨97,fun args _=>Wm args,fun _ _ _ h _=>PA h,aq Tryz.func97 (by kernel_rfl)⟩
noncomputable def X2:bS:=aV [] [Sk]
theorem RV:bV Tryz.prog X2:=aD (by kernel_rfl)
theorem D0 (w d h:Int) (len off:Nat) (xs:List Bool):aH X2 (fun _ _=>none) 200 44 Tryz.f44 0 [bB w d h (.slice 0 1 off len none) .unk] [.vec true .bool xs]=
 some (SV.bool (bif (bif (bif ez w==true then ez d else false)==true then ez h else false)==true then (↑len:Int)==IntKind.i64.wrap (IntKind.i64.wrap (w*d)*h) else false),[]):=by kernel_rfl
theorem Dx {w d h:Int} {len:Nat} {s:Nat→Bool}:(((ez w&&ez d)&&ez h)&&((len:Int)==IntKind.i64.wrap (IntKind.i64.wrap (w*d)*h)))=(af w d h len s).sized:=by
 unfold Mp.sized
 show _=(((ez w&&ez d)&&ez h)&&((len:Int)==w*d*h))
 cases hc:(ez w&&ez d)&&ez h with
 |false=>rfl
 |true=>
  unfold ez at hc
  simp only [Bool.and_eq_true,decide_eq_true_eq] at hc
  obtain ⟨⟨h1,h2⟩,h3⟩:=hc
  obtain ⟨p1,p2⟩:=mC h1 h2
  obtain ⟨q1,q2⟩:=mC (a:=w*d) (b:=h) ⟨p1,p2⟩ h3
  rw [IntWalk.i64_in (w*d) (by omega),IntWalk.i64_in (w*d*h) (by omega)]
theorem GH {w d h:Int} {len off:Nat} {xs:List Bool}:aH X2 (fun _ _=>none) 200 44 Tryz.f44 0 [bB w d h (.slice 0 1 off len none) .unk] [.vec true .bool xs]=some (.bool (af w d h len fun j=>xs.getD (off+j) false).sized,[]):=by
 rw [D0]
 simp only [dh]
 rw [Dx]
theorem iq {X:bS} {L:Nat→List Nat→Option dq} {k f:Nat} {fn:Func} {w d hh:Int} {id st off len:Nat} {cap:Option Nat} {sp:SV} {rest:List SV} {rows:List Row} {n:Nat} {ro ok:Bool} {xs:List Bool} {v:SV} (hX:bV Tryz.prog X) (hL:AM Tryz.prog L) (hf:Tryz.prog.funcs[f]? =some fn)
    (hb:(Nat.beq st 1&&sp.one)=true) (hrow:rows[id]? =some (.vec ro .bool xs)) (hr:SV.idsL rest=[]) (hv:v.ids=[])
    (h:aH X L k f fn 0 (bB w d hh (.slice 0 1 off len none) .unk::rest) [.vec true .bool xs]=some (v,[])):
    aN Tryz.prog f (.agg [.int .i64 w,.int .i64 d,.int .i64 hh,.slice id st off len cap,sp]::rest) (rows[·]?) n {ok:=ok,val:=v,rd:=[id]}:=by
 rw [Bool.and_eq_true] at hb
 have hst:=Nat.eq_of_beq_eq_true hb.1
 subst hst
 obtain ⟨rows',hc,_⟩:=aC hX hL hf h
 exact c7 hb.2 hc hr hv hrow
noncomputable def CL (args:List SV) (rows:List Row):Option aL:=
 match args with
 |[.agg [.int .i64 w,.int .i64 d,.int .i64 h,.slice id st off len _,sp]]=>match rows[id]? with
  |some (.vec _ .bool xs)=>bif Nat.beq st 1&&sp.one then some {ok:=aP w d h len&&decide (off+len≤xs.length),val:=.bool (af w d h len fun j=>xs.getD (off+j) false).sized,rd:=[id]} else none
  |_=>none
 |_=>none
theorem HY {args:List SV} {rows:List Row} {n:Nat} {e:aL} (h:CL args rows=some e) (hok:e.ok=true):aN Tryz.prog 44 args (rows[·]?) n e:=by
 unfold CL at h
 split at h
 · rename_i wd dd hd id st off len cap sp
   split at h
   · rename_i ro xs hrow
     obtain ⟨hb,h⟩:=al h
     cases h
     exact iq RV ag Tryz.func44 hb hrow rfl rfl GH
   · cases h
 · cases h
noncomputable def zo:bY:=⟨44,CL,fun _ _ _ h hok=>HY h hok,aq Tryz.func44 (by kernel_rfl)⟩
noncomputable def WJ:bS:=aV [] [zo,X0]
theorem Qg:bV Tryz.prog WJ:=aD (by kernel_rfl)
theorem Dy (w d h:Int) (len off:Nat) (xs:List Bool) (x y z:Int):aH WJ (fun _ _=>none) 200 71 Tryz.f71 0 [bB w d h (.slice 0 1 off len none) .unk,.int .i64 x,.int .i64 y,.int .i64 z] [.vec true .bool xs]=
 bif aP w d h len&&decide (off+len≤xs.length) then
 bif
 (decide (0≤IntKind.i64.wrap (IntKind.i64.wrap (IntKind.i64.wrap (IntKind.i64.wrap (z*d)+y)*w)+x))&&
 decide (IntKind.i64.wrap (IntKind.i64.wrap (IntKind.i64.wrap (IntKind.i64.wrap (z*d)+y)*w)+x)<(↑len:Int))&&
 (decide (off+(IntKind.i64.wrap (IntKind.i64.wrap (IntKind.i64.wrap (IntKind.i64.wrap (z*d)+y)*w)+x)).toNat<xs.length)&&true)&&
 true||
 (bif (bif (bif (!(af w d h len fun j=>xs.getD (off+j) false).sized)==false then !kN x w else true)==false then !kN y d else true)==false then !kN z h else true) !=false)&&
 (true||
 (bif (bif (bif (!(af w d h len fun j=>xs.getD (off+j) false).sized)==false then !kN x w else true)==false then !kN y d else true)==false then !kN z h else true)==false)&&
 true then
 some
 (SV.bool
 (bif
 (bif (bif (bif (!(af w d h len fun j=>xs.getD (off+j) false).sized)==false then !kN x w else true)==false then !kN y d else true)==false then !kN z h else true)==
 false then
 xs.getD (off+(IntKind.i64.wrap (IntKind.i64.wrap (IntKind.i64.wrap (IntKind.i64.wrap (z*d)+y)*w)+x)).toNat) aA.bool.dflt
 else true),
 [])
 else none
 else none:=by kernel_rfl
theorem Mf (a:V3):aH RD (fun _ _=>none) 200 70 Tryz.f70 0 [.agg a.sv] []=
 some
 (SV.tuple
 [.int .i64 (a.x.fdiv (2 ^ min (Int.toNat 16) IntKind.i64.bits)),.int .i64 (a.y.fdiv (2 ^ min (Int.toNat 16) IntKind.i64.bits)),
 .int .i64 (a.z.fdiv (2 ^ min (Int.toNat 16) IntKind.i64.bits))],
 []):=by kernel_rfl
theorem JE {w d h:Int} {len off:Nat} {xs:List Bool} {x y z:Int} (hm:aP w d h len=true) (hl:off+len≤xs.length):aH WJ (fun _ _=>none) 200 71 Tryz.f71 0 [bB w d h (.slice 0 1 off len none) .unk,.int .i64 x,.int .i64 y,.int .i64 z] [.vec true .bool xs]=some (.bool ((af w d h len fun j=>xs.getD (off+j) false).solid x y z),[]):=by
 rw [Dy,hm,decide_eq_true hl]
 simp only [cY,Bool.and_self,cond_true,Bool.true_or,Bool.and_true]
 have hi:=@Mp.idx_lt (af w d h len fun j=>xs.getD (off+j) false) x y z
 rw [show (af w d h len fun j=>xs.getD (off+j) false).solid x y z=((((!(af w d h len fun j=>xs.getD (off+j) false).sized|| !kN x w)|| !kN y d)|| !kN z h)||xs.getD (off+(af w d h len fun j=>xs.getD (off+j) false).idx x y z) false) from rfl]
 rw [show (af w d h len fun j=>xs.getD (off+j) false).w=w from rfl,show (af w d h len fun j=>xs.getD (off+j) false).d=d from rfl,show (af w d h len fun j=>xs.getD (off+j) false).h=h from rfl,show (af w d h len fun j=>xs.getD (off+j) false).len=len from rfl] at hi
 generalize (af w d h len fun j=>xs.getD (off+j) false).sized=S at hi ⊢
 generalize (af w d h len fun j=>xs.getD (off+j) false).idx x y z=I at hi ⊢
 cases hB:((!S|| !kN x w)|| !kN y d)|| !kN z h with
 |true=>simp
 | false=>
  simp only [Bool.or_eq_false_iff,Bool.not_eq_false'] at hB
  obtain ⟨⟨⟨h1,h2⟩,h3⟩,h4⟩:=hB
  obtain ⟨i1,i2,i3,i4,i5,i6⟩:=hi h1 h2 h3 h4
  have hy:0≤y∧y<d:=by
   unfold kN at h3
   simp only [Bool.and_eq_true,decide_eq_true_eq] at h3
   exact h3
  have hd:d≤9223372036854775807:=by
   unfold aP at hm
   simp only [Bool.and_eq_true,ap] at hm
   exact hm.2.1.2
  have hl2:len≤9223372036854775807:=by
   unfold aP at hm
   simp only [Bool.and_eq_true,decide_eq_true_eq] at hm
   exact hm.2.2.2
  have hz: -9223372036854775808≤z*d+y∧z*d+y≤9223372036854775807:=by
   by_cases hw:z*d+y≤9223372036854775807
   · omega
   · exfalso
     have hw1:1≤w:=by
      unfold kN at h2
      simp only [Bool.and_eq_true,decide_eq_true_eq] at h2
      omega
     have:=Int.mul_le_mul_of_nonneg_left hw1 (show 0≤z*d+y by omega)
     rw [Int.mul_one] at this
     omega
  rw [IntWalk.i64_in (z*d) (by omega),IntWalk.i64_in (z*d+y) (by omega),IntWalk.i64_in ((z*d+y)*w) (by omega),i5,IntWalk.i64_in (I:Int) (by omega),show ((I:Int)).toNat=I by omega,decide_eq_true (show (0:Int)≤(I:Int) by omega),decide_eq_true (show (I:Int)<(len:Int) by omega),decide_eq_true (show off+I<xs.length by omega)]
  rfl
noncomputable def xH (args:List SV) (rows:List Row):Option aL:=
 match args with
 |[.agg [.int .i64 w,.int .i64 d,.int .i64 h,.slice id st off len _,sp],.int .i64 x,.int .i64 y,.int .i64 z]=>match rows[id]? with
  |some (.vec _ .bool xs)=>bif Nat.beq st 1&&sp.one then some {ok:=aP w d h len&&(am x&&(am y&&(am z&&decide (off+len≤xs.length)))),val:=.bool ((af w d h len fun j=>xs.getD (off+j) false).solid x y z),rd:=[id]} else none
  |_=>none
 |_=>none
theorem vN {args:List SV} {rows:List Row} {n:Nat} {e:aL} (h:xH args rows=some e) (hok:e.ok=true):aN Tryz.prog 71 args (rows[·]?) n e:=by
 unfold xH at h
 split at h
 · rename_i wd dd hd id st off len cap sp x y z
   split at h
   · rename_i ro xs hrow
     obtain ⟨hb,h⟩:=al h
     cases h
     simp only [Bool.and_eq_true,decide_eq_true_eq] at hok
     exact iq Qg ag Tryz.func71 hb hrow rfl rfl (JE hok.1 hok.2.2.2.2)
   · cases h
 · cases h
noncomputable def sE:bY:=⟨71,xH,fun _ _ _ h hok=>vN h hok,aq Tryz.func71 (by kernel_rfl)⟩
def Vy:List SV→Option aL
 |[.agg [.int .i64 x,.int .i64 y,.int .i64 z]]=>some {ok:=aw ⟨x,y,z⟩,val:=.tuple [.int .i64 (x/65536),.int .i64 (y/65536),.int .i64 (z/65536)]}
 |_=>none
theorem QC {m:Nat→Option Row} {n:Nat} {args:List SV} {e:aL} (h:Vy args=some e):aN Tryz.prog 70 args m n e:=by
 unfold Vy at h
 split at h
 · rename_i x y z
   cases h
   have hv:=Mf ⟨x,y,z⟩
   rw [FL,FL,FL] at hv
   obtain ⟨rows',hc,_⟩:=aC xN ag Tryz.func70 hv
   exact aM hc rfl rfl
 · cases h
noncomputable def Xp:bY:=⟨70,fun args _=>Vy args,fun _ _ _ h _=>QC h,aq Tryz.func70 (by kernel_rfl)⟩
noncomputable def HO:bS:=aV [] [sE,Xp]
theorem qX:bV Tryz.prog HO:=aD (by kernel_rfl)
def dG (w d h:Int) (off len:Nat) (xs:List Bool) (lo hi:V3):List Row:=[.vec true .bool xs,.own [.int .i64 w,.int .i64 d,.int .i64 h,.slice 0 1 off len none,.unk],.own lo.sv,.own hi.sv]
def nY (x0 y0 x1 y1 z1:Int) (z:Int):List SV:=[.ptr 1 0 0 0,.bool false,.int .i64 x0,.int .i64 y0,.int .i64 x1,.int .i64 y1,.int .i64 z1,.int .i64 z]
def oy (x0 y0 x1 y1 z1 z:Int) (j:Int):List SV:=[.ptr 1 0 0 0,.bool false,.int .i64 x0,.int .i64 y0,.int .i64 x1,.int .i64 y1,.int .i64 z1,.int .i64 z,.int .i64 j]
def oi (x0 y0 x1 y1 z1 z j:Int) (i:Int):List SV:=[.ptr 1 0 0 0,.bool false,.int .i64 x0,.int .i64 y0,.int .i64 x1,.int .i64 y1,.int .i64 z1,.int .i64 z,.int .i64 j,.int .i64 i]
noncomputable def Sg:List SV→List Row→Option aj:=bj HO (fun _ _=>none) 100 41 [0,1,0,0,1,0,0,1,0,0,1,0,0,0,1,1,1,1,1] (bg Tryz.f41 [0,1,0,0,1,0,0,1,0,0,1,0,0,0,1,1,1,1,1]) 89 4 [3,6,7,8,10,11,12,9,13,14]
theorem AZ (w d h:Int) (off len:Nat) (xs:List Bool) (lo hi:V3) (x0 y0 x1 y1 z1 z j i:Int):Sg (oi x0 y0 x1 y1 z1 z j i) (dG w d h off len xs lo hi)=
 bif decide (i≤x1) then
 bif aP w d h len&&(am i&&(am j&&(am z&&decide (off+len≤xs.length)))) then
 bif (af w d h len fun j=>xs.getD (off+j) false).solid i j z then
 some
 (SV.tuple
 [SV.nils,
 SV.tuple
 [SV.ptr 1 0 0 0,SV.bool false,.int .i64 x0,.int .i64 y0,.int .i64 x1,.int .i64 y1,.int .i64 z1,.int .i64 z,
 .int .i64 j,.int .i64 i]],
 [Row.vec true aA.bool xs,Row.own [.int .i64 w,.int .i64 d,.int .i64 h,SV.slice 0 1 off len none,SV.unk],
 Row.own [.int .i64 lo.x,.int .i64 lo.y,.int .i64 lo.z],Row.own [.int .i64 hi.x,.int .i64 hi.y,.int .i64 hi.z]])
 else
 some
 (SV.tuple
 [SV.nilp,
 SV.tuple
 [SV.ptr 1 0 0 0,SV.bool false,.int .i64 x0,.int .i64 y0,.int .i64 x1,.int .i64 y1,.int .i64 z1,.int .i64 z,
 .int .i64 j,.int .i64 (IntKind.i64.wrap (i+1))]],
 [Row.vec true aA.bool xs,Row.own [.int .i64 w,.int .i64 d,.int .i64 h,SV.slice 0 1 off len none,SV.unk],
 Row.own [.int .i64 lo.x,.int .i64 lo.y,.int .i64 lo.z],Row.own [.int .i64 hi.x,.int .i64 hi.y,.int .i64 hi.z]])
 else none
 else
 some
 (SV.tuple
 [SV.ptr 4 0 0 0,
 SV.tuple
 [SV.ptr 1 0 0 0,SV.bool false,.int .i64 x0,.int .i64 y0,.int .i64 x1,.int .i64 y1,.int .i64 z1,.int .i64 z,
 .int .i64 j,.int .i64 i]],
 [Row.vec true aA.bool xs,Row.own [.int .i64 w,.int .i64 d,.int .i64 h,SV.slice 0 1 off len none,SV.unk],
 Row.own [.int .i64 lo.x,.int .i64 lo.y,.int .i64 lo.z],Row.own [.int .i64 hi.x,.int .i64 hi.y,.int .i64 hi.z]]):=by kernel_rfl
def mU (a b:Int):Bool:=decide (0≤a)&&(decide (a≤b)&&decide (b≤31))
theorem i7 {a b:Int}:mU a b=true↔0≤a∧a≤b∧b≤31:=by
 unfold mU
 simp only [Bool.and_eq_true,decide_eq_true_eq]
theorem wG {a b i:Int} (h:mU a b=true) (h1:a≤i) (h2:i≤b):am i=true:=by
 obtain ⟨k1,k2,k3⟩:=i7.1 h
 rw [ap]
 unfold aU
 omega
def pE (w d h:Int) (off len:Nat) (xs:List Bool):Bool:=aP w d h len&&decide (off+len≤xs.length)
theorem Sz {w d hh:Int} {off len:Nat} {xs:List Bool} (h:pE w d hh off len xs=true) {i j z:Int} (h1:am i=true) (h2:am j=true) (h3:am z=true):(aP w d hh len&&(am i&&(am j&&(am z&&decide (off+len≤xs.length)))))=true:=by
 unfold pE at h
 rw [Bool.and_eq_true] at h
 rw [h.1,h.2,h1,h2,h3]
 rfl
def Mp.solX (m:Mp) (x0 x1 z j:Int):Bool:=gC (fun i=>m.solid i j z) (x1+1 - x0).toNat x0
def Mp.solY (m:Mp) (x0 x1 y0 y1 z:Int):Bool:=gC (m.solX x0 x1 z) (y1+1 - y0).toNat y0
def Mp.solZ (m:Mp) (x0 x1 y0 y1 z0 z1:Int):Bool:=gC (m.solY x0 x1 y0 y1) (z1+1 - z0).toNat z0
theorem ze {m:Mp} {x0 x1 y0 y1 z0 z1:Int}:m.solZ x0 x1 y0 y1 z0 z1=false↔m.boxFree x0 x1 y0 y1 z0 z1:=by
 rw [←Bool.not_eq_true]
 unfold Mp.solZ Mp.solY Mp.solX Mp.boxFree
 simp only [ew]
 constructor
 · intro h i j k h1 h2 h3 h4 h5 h6
   rw [←Bool.not_eq_true]
   exact fun hs=>h ⟨k,h5,by omega,j,h3,by omega,i,h1,by omega,hs⟩
 · rintro h ⟨k,h5,h6,j,h3,h4,i,h1,h2,hs⟩
   rw [h i j k h1 (by omega) h3 (by omega) h5 (by omega)] at hs
   cases hs
section
variable {w d h:Int} {off len:Nat} {xs:List Bool} {lo hi:V3}
theorem QG (hc:pE w d h off len xs=true) {x0 y0 x1 y1 z1 z j:Int} (hx:mU x0 x1=true) (hj:mU j j=true) (hz:mU z z=true):
    ((af w d h len fun j=>xs.getD (off+j) false).solX x0 x1 z j=true→aJ Sg (oi x0 y0 x1 y1 z1 z j x0) (dG w d h off len xs lo hi) .ret (oi x0 y0 x1 y1 z1 z j (kA (fun i=>(af w d h len fun j=>xs.getD (off+j) false).solid i j z) (x1+1 - x0).toNat x0)) (dG w d h off len xs lo hi))∧
    ((af w d h len fun j=>xs.getD (off+j) false).solX x0 x1 z j=false→aJ Sg (oi x0 y0 x1 y1 z1 z j x0) (dG w d h off len xs lo hi) (.exit 4) (oi x0 y0 x1 y1 z1 z j (x1+1)) (dG w d h off len xs lo hi)):=by
 obtain ⟨k1,k2,k3⟩:=i7.1 hx
 have key:=fz (rd:=Sg) (val:=oi x0 y0 x1 y1 z1 z j) (valR:=oi x0 y0 x1 y1 z1 z j) (R:=dG w d h off len xs lo hi) (p:=fun i=>(af w d h len fun j=>xs.getD (off+j) false).solid i j z) (W:=x1+1) (ex:=4) (i0:=x0) (fun i i0 i1=>?_) ?_ (x1+1 - x0).toNat x0 (by omega) (by omega)
 · exact key
 · rw [AZ,decide_eq_true (show i≤x1 by omega),Sz hc (wG hx i0 (by omega)) (wG hj (Int.le_refl _) (Int.le_refl _)) (wG hz (Int.le_refl _) (Int.le_refl _)),IntWalk.i64_in (i+1) (by omega)]
   rfl
 · rw [AZ,decide_eq_false (by omega)]
   rfl
end
noncomputable def TO (v:List SV) (R:List Row) (k:Ex→List SV→List Row→Option aj):Option aj:=match v,R with
 | [.ptr 1 0 0 0,.bool b,.int .i64 x0,.int .i64 y0,.int .i64 x1,.int .i64 y1,.int .i64 z1,.int .i64 z,.int .i64 j,.int .i64 i],[.vec true .bool xs,.own [.int .i64 w,.int .i64 d,.int .i64 h,.slice 0 1 off len none,.unk],.own [.int .i64 lx,.int .i64 ly,.int .i64 lz],.own [.int .i64 hx,.int .i64 hy,.int .i64 hz]]=>
     bif ((!b&&decide (i=x0))&&(mU x0 x1&&(mU j j&&mU z z)))&&pE w d h off len xs then
      (bif (af w d h len fun j=>xs.getD (off+j) false).solX x0 x1 z j then k .ret (oi x0 y0 x1 y1 z1 z j (kA (fun i=>(af w d h len fun j=>xs.getD (off+j) false).solid i j z) (x1+1 - x0).toNat x0)) (dG w d h off len xs ⟨lx,ly,lz⟩ ⟨hx,hy,hz⟩)
      else k (.exit 4) (oi x0 y0 x1 y1 z1 z j (x1+1)) (dG w d h off len xs ⟨lx,ly,lz⟩ ⟨hx,hy,hz⟩)) else none
 |_,_=>none
theorem Mh:da 41 [0,1,0,0,1,0,0,1,0,0,1,0,0,0,1,1,1,1,1] (bG 89 [3,6,7,8,10,11,12,9,13,14] TO):=by
 intro b hat s K r h
 refine aQ (fuel:=100) qX ag hat (fun v R k r hr=>?_) h
 have hbody:=aZ Tryz.func41 hat
 subst hbody
 unfold TO at hr
 split at hr
 · rename_i bb x0 y0 x1 y1 z1 z j i xs w d h off len lx ly lz hx hy hz
   obtain ⟨hb,hr2⟩:=al hr
   simp only [Bool.and_eq_true,decide_eq_true_eq,Bool.not_eq_true'] at hb
   obtain ⟨⟨⟨rfl,rfl⟩,h1,h2,h3⟩,h4⟩:=hb
   obtain ⟨k1,k2⟩:=QG (y0:=y0) (y1:=y1) (z1:=z1) (lo:=⟨lx,ly,lz⟩) (hi:=⟨hx,hy,hz⟩) h4 h1 h2 h3
   cases hq:(af w d h len fun j=>xs.getD (off+j) false).solX i x1 z j with
   |true=>rw [hq,cond_true] at hr2;exact ⟨_,_,_,hr2,k1 hq⟩
   |false=>rw [hq,cond_false] at hr2;exact ⟨_,_,_,hr2,k2 hq⟩
 · cases hr
noncomputable def Tt:jh:=⟨_,_,_,Mh⟩
noncomputable def PC:List SV→List Row→Option aj:=bj HO (aF [Tt]) 100 41 [0,1,0,0,1,0,0,0,1,1,1,1,1] (bg Tryz.f41 [0,1,0,0,1,0,0,0,1,1,1,1,1]) 89 4 [3,6,7,8,10,11,12,9,13]
theorem Am (w d h:Int) (off len:Nat) (xs:List Bool) (lo hi:V3) (x0 y0 x1 y1 z1 z j:Int):PC (oy x0 y0 x1 y1 z1 z j) (dG w d h off len xs lo hi)=
 bif decide (j≤y1) then
 bif decide (x0=x0)&&(mU x0 x1&&(mU j j&&mU z z))&&pE w d h off len xs then
 bif (af w d h len fun j=>xs.getD (off+j) false).solX x0 x1 z j then
 some
 (SV.tuple
 [SV.nils,
 SV.tuple
 [SV.ptr 1 0 0 0,SV.bool false,.int .i64 x0,.int .i64 y0,.int .i64 x1,.int .i64 y1,.int .i64 z1,.int .i64 z,
 .int .i64 j]],
 [Row.vec true aA.bool xs,Row.own [.int .i64 w,.int .i64 d,.int .i64 h,SV.slice 0 1 off len none,SV.unk],
 Row.own [.int .i64 lo.x,.int .i64 lo.y,.int .i64 lo.z],Row.own [.int .i64 hi.x,.int .i64 hi.y,.int .i64 hi.z]])
 else
 some
 (SV.tuple
 [SV.nilp,
 SV.tuple
 [SV.ptr 1 0 0 0,SV.bool false,.int .i64 x0,.int .i64 y0,.int .i64 x1,.int .i64 y1,.int .i64 z1,.int .i64 z,
 .int .i64 (IntKind.i64.wrap (j+1))]],
 [Row.vec true aA.bool xs,Row.own [.int .i64 w,.int .i64 d,.int .i64 h,SV.slice 0 1 off len none,SV.unk],
 Row.own [.int .i64 lo.x,.int .i64 lo.y,.int .i64 lo.z],Row.own [.int .i64 hi.x,.int .i64 hi.y,.int .i64 hi.z]])
 else none
 else
 some
 (SV.tuple
 [SV.ptr 2 0 0 0,
 SV.tuple
 [SV.ptr 1 0 0 0,SV.bool false,.int .i64 x0,.int .i64 y0,.int .i64 x1,.int .i64 y1,.int .i64 z1,.int .i64 z,
 .int .i64 j]],
 [Row.vec true aA.bool xs,Row.own [.int .i64 w,.int .i64 d,.int .i64 h,SV.slice 0 1 off len none,SV.unk],
 Row.own [.int .i64 lo.x,.int .i64 lo.y,.int .i64 lo.z],Row.own [.int .i64 hi.x,.int .i64 hi.y,.int .i64 hi.z]]):=by kernel_rfl
section
variable {w d h:Int} {off len:Nat} {xs:List Bool} {lo hi:V3}
theorem Kz {a b i:Int} (h:mU a b=true) (h1:a≤i) (h2:i≤b):mU i i=true:=by
 obtain ⟨k1,k2,k3⟩:=i7.1 h
 rw [i7]
 omega
theorem Pq (hc:pE w d h off len xs=true) {x0 y0 x1 y1 z1 z:Int} (hx:mU x0 x1=true) (hy:mU y0 y1=true) (hz:mU z z=true):
    ((af w d h len fun j=>xs.getD (off+j) false).solY x0 x1 y0 y1 z=true→aJ PC (oy x0 y0 x1 y1 z1 z y0) (dG w d h off len xs lo hi) .ret (oy x0 y0 x1 y1 z1 z (kA ((af w d h len fun j=>xs.getD (off+j) false).solX x0 x1 z) (y1+1 - y0).toNat y0)) (dG w d h off len xs lo hi))∧
    ((af w d h len fun j=>xs.getD (off+j) false).solY x0 x1 y0 y1 z=false→aJ PC (oy x0 y0 x1 y1 z1 z y0) (dG w d h off len xs lo hi) (.exit 2) (oy x0 y0 x1 y1 z1 z (y1+1)) (dG w d h off len xs lo hi)):=by
 obtain ⟨k1,k2,k3⟩:=i7.1 hy
 have key:=fz (rd:=PC) (val:=oy x0 y0 x1 y1 z1 z) (valR:=oy x0 y0 x1 y1 z1 z) (R:=dG w d h off len xs lo hi) (p:=(af w d h len fun j=>xs.getD (off+j) false).solX x0 x1 z) (W:=y1+1) (ex:=2) (i0:=y0) (fun j i0 i1=>?_) ?_ (y1+1 - y0).toNat y0 (by omega) (by omega)
 · exact key
 · rw [Am,decide_eq_true (show j≤y1 by omega),hc,hx,hz,Kz hy i0 (by omega),IntWalk.i64_in (j+1) (by omega)]
   simp only [decide_true,Bool.and_self,cond_true]
   rfl
 · rw [Am,decide_eq_false (by omega)]
   rfl
end
noncomputable def U1 (v:List SV) (R:List Row) (k:Ex→List SV→List Row→Option aj):Option aj:=match v,R with
 | [.ptr 1 0 0 0,.bool b,.int .i64 x0,.int .i64 y0,.int .i64 x1,.int .i64 y1,.int .i64 z1,.int .i64 z,.int .i64 j],[.vec true .bool xs,.own [.int .i64 w,.int .i64 d,.int .i64 h,.slice 0 1 off len none,.unk],.own [.int .i64 lx,.int .i64 ly,.int .i64 lz],.own [.int .i64 hx,.int .i64 hy,.int .i64 hz]]=>
     bif ((!b&&decide (j=y0))&&(mU x0 x1&&(mU y0 y1&&mU z z)))&&pE w d h off len xs then
      (bif (af w d h len fun j=>xs.getD (off+j) false).solY x0 x1 y0 y1 z then k .ret (oy x0 y0 x1 y1 z1 z (kA ((af w d h len fun j=>xs.getD (off+j) false).solX x0 x1 z) (y1+1 - y0).toNat y0)) (dG w d h off len xs ⟨lx,ly,lz⟩ ⟨hx,hy,hz⟩)
      else k (.exit 2) (oy x0 y0 x1 y1 z1 z (y1+1)) (dG w d h off len xs ⟨lx,ly,lz⟩ ⟨hx,hy,hz⟩)) else none
 |_,_=>none
theorem K6:da 41 [0,1,0,0,1,0,0,0,1,1,1,1,1] (bG 89 [3,6,7,8,10,11,12,9,13] U1):=by
 intro b hat s K r h
 refine aQ (fuel:=100) qX (aG (l:=[Tt])) hat (fun v R k r hr=>?_) h
 have hbody:=aZ Tryz.func41 hat
 subst hbody
 unfold U1 at hr
 split at hr
 · rename_i bb x0 y0 x1 y1 z1 z j xs w d h off len lx ly lz hx hy hz
   obtain ⟨hb,hr2⟩:=al hr
   simp only [Bool.and_eq_true,decide_eq_true_eq,Bool.not_eq_true'] at hb
   obtain ⟨⟨⟨rfl,rfl⟩,h1,h2,h3⟩,h4⟩:=hb
   obtain ⟨k1,k2⟩:=Pq (z1:=z1) (lo:=⟨lx,ly,lz⟩) (hi:=⟨hx,hy,hz⟩) h4 h1 h2 h3
   cases hq:(af w d h len fun j=>xs.getD (off+j) false).solY x0 x1 j y1 z with
   |true=>rw [hq,cond_true] at hr2;exact ⟨_,_,_,hr2,k1 hq⟩
   |false=>rw [hq,cond_false] at hr2;exact ⟨_,_,_,hr2,k2 hq⟩
 · cases hr
noncomputable def T5:jh:=⟨_,_,_,K6⟩
noncomputable def QD:List SV→List Row→Option aj:=bj HO (aF [T5]) 100 41 [0,0,1,1,1,1,1] (bg Tryz.f41 [0,0,1,1,1,1,1]) 89 4 [3,6,7,8,10,11,12,9]
theorem zq (w d h:Int) (off len:Nat) (xs:List Bool) (lo hi:V3) (x0 y0 x1 y1 z1 z:Int):QD (nY x0 y0 x1 y1 z1 z) (dG w d h off len xs lo hi)=
 bif decide (z≤z1) then
 bif decide (y0=y0)&&(mU x0 x1&&(mU y0 y1&&mU z z))&&pE w d h off len xs then
 bif (af w d h len fun j=>xs.getD (off+j) false).solY x0 x1 y0 y1 z then
 some
 (SV.tuple
 [SV.nils,
 SV.tuple [SV.ptr 1 0 0 0,SV.bool false,.int .i64 x0,.int .i64 y0,.int .i64 x1,.int .i64 y1,.int .i64 z1,.int .i64 z]],
 [Row.vec true aA.bool xs,Row.own [.int .i64 w,.int .i64 d,.int .i64 h,SV.slice 0 1 off len none,SV.unk],
 Row.own [.int .i64 lo.x,.int .i64 lo.y,.int .i64 lo.z],Row.own [.int .i64 hi.x,.int .i64 hi.y,.int .i64 hi.z]])
 else
 some
 (SV.tuple
 [SV.nilp,
 SV.tuple
 [SV.ptr 1 0 0 0,SV.bool false,.int .i64 x0,.int .i64 y0,.int .i64 x1,.int .i64 y1,.int .i64 z1,
 .int .i64 (IntKind.i64.wrap (z+1))]],
 [Row.vec true aA.bool xs,Row.own [.int .i64 w,.int .i64 d,.int .i64 h,SV.slice 0 1 off len none,SV.unk],
 Row.own [.int .i64 lo.x,.int .i64 lo.y,.int .i64 lo.z],Row.own [.int .i64 hi.x,.int .i64 hi.y,.int .i64 hi.z]])
 else none
 else
 some
 (SV.tuple
 [SV.ptr 0 0 0 0,
 SV.tuple [SV.ptr 1 0 0 0,SV.bool false,.int .i64 x0,.int .i64 y0,.int .i64 x1,.int .i64 y1,.int .i64 z1,.int .i64 z]],
 [Row.vec true aA.bool xs,Row.own [.int .i64 w,.int .i64 d,.int .i64 h,SV.slice 0 1 off len none,SV.unk],
 Row.own [.int .i64 lo.x,.int .i64 lo.y,.int .i64 lo.z],Row.own [.int .i64 hi.x,.int .i64 hi.y,.int .i64 hi.z]]):=by kernel_rfl
section
variable {w d h:Int} {off len:Nat} {xs:List Bool} {lo hi:V3}
theorem QP (hc:pE w d h off len xs=true) {x0 y0 x1 y1 z0 z1:Int} (hx:mU x0 x1=true) (hy:mU y0 y1=true) (hz:mU z0 z1=true):
    ((af w d h len fun j=>xs.getD (off+j) false).solZ x0 x1 y0 y1 z0 z1=true→aJ QD (nY x0 y0 x1 y1 z1 z0) (dG w d h off len xs lo hi) .ret (nY x0 y0 x1 y1 z1 (kA ((af w d h len fun j=>xs.getD (off+j) false).solY x0 x1 y0 y1) (z1+1 - z0).toNat z0)) (dG w d h off len xs lo hi))∧
    ((af w d h len fun j=>xs.getD (off+j) false).solZ x0 x1 y0 y1 z0 z1=false→aJ QD (nY x0 y0 x1 y1 z1 z0) (dG w d h off len xs lo hi) (.exit 0) (nY x0 y0 x1 y1 z1 (z1+1)) (dG w d h off len xs lo hi)):=by
 obtain ⟨k1,k2,k3⟩:=i7.1 hz
 have key:=fz (rd:=QD) (val:=nY x0 y0 x1 y1 z1) (valR:=nY x0 y0 x1 y1 z1) (R:=dG w d h off len xs lo hi) (p:=(af w d h len fun j=>xs.getD (off+j) false).solY x0 x1 y0 y1) (W:=z1+1) (ex:=0) (i0:=z0) (fun z i0 i1=>?_) ?_ (z1+1 - z0).toNat z0 (by omega) (by omega)
 · exact key
 · rw [zq,decide_eq_true (show z≤z1 by omega),hc,hx,hy,Kz hz i0 (by omega),IntWalk.i64_in (z+1) (by omega)]
   simp only [decide_true,Bool.and_self,cond_true]
   rfl
 · rw [zq,decide_eq_false (by omega)]
   rfl
end
noncomputable def TS (v:List SV) (R:List Row) (k:Ex→List SV→List Row→Option aj):Option aj:=match v,R with
 | [.ptr 1 0 0 0,.bool b,.int .i64 x0,.int .i64 y0,.int .i64 x1,.int .i64 y1,.int .i64 z1,.int .i64 z],[.vec true .bool xs,.own [.int .i64 w,.int .i64 d,.int .i64 h,.slice 0 1 off len none,.unk],.own [.int .i64 lx,.int .i64 ly,.int .i64 lz],.own [.int .i64 hx,.int .i64 hy,.int .i64 hz]]=>
     bif (!b&&(mU x0 x1&&(mU y0 y1&&mU z z1)))&&pE w d h off len xs then
      (bif (af w d h len fun j=>xs.getD (off+j) false).solZ x0 x1 y0 y1 z z1 then k .ret (nY x0 y0 x1 y1 z1 (kA ((af w d h len fun j=>xs.getD (off+j) false).solY x0 x1 y0 y1) (z1+1 - z).toNat z)) (dG w d h off len xs ⟨lx,ly,lz⟩ ⟨hx,hy,hz⟩)
      else k (.exit 0) (nY x0 y0 x1 y1 z1 (z1+1)) (dG w d h off len xs ⟨lx,ly,lz⟩ ⟨hx,hy,hz⟩)) else none
 |_,_=>none
theorem Lk:da 41 [0,0,1,1,1,1,1] (bG 89 [3,6,7,8,10,11,12,9] TS):=by
 intro b hat s K r h
 refine aQ (fuel:=100) qX (aG (l:=[T5])) hat (fun v R k r hr=>?_) h
 have hbody:=aZ Tryz.func41 hat
 subst hbody
 unfold TS at hr
 split at hr
 · rename_i bb x0 y0 x1 y1 z1 z xs w d h off len lx ly lz hx hy hz
   obtain ⟨hb,hr2⟩:=al hr
   simp only [Bool.and_eq_true,decide_eq_true_eq,Bool.not_eq_true'] at hb
   obtain ⟨⟨rfl,h1,h2,h3⟩,h4⟩:=hb
   obtain ⟨k1,k2⟩:=QP (lo:=⟨lx,ly,lz⟩) (hi:=⟨hx,hy,hz⟩) h4 h1 h2 h3
   cases hq:(af w d h len fun j=>xs.getD (off+j) false).solZ x0 x1 y0 y1 z z1 with
   |true=>rw [hq,cond_true] at hr2;exact ⟨_,_,_,hr2,k1 hq⟩
   |false=>rw [hq,cond_false] at hr2;exact ⟨_,_,_,hr2,k2 hq⟩
 · cases hr
noncomputable def U0:jh:=⟨_,_,_,Lk⟩
theorem Dl (w d h:Int) (len off:Nat) (xs:List Bool) (lo hi:V3):aH HO (aF [U0]) 300 41 Tryz.f41 0 [bB w d h (.slice 0 1 off len none) .unk,.agg lo.sv,.agg hi.sv] [.vec true .bool xs]=
 bif bif (bif decide (lo.x≥hi.x)==false then decide (lo.y≥hi.y) else true)==false then decide (lo.z≥hi.z) else true then some (SV.bool true,[])
 else
 bif aw lo then
 bif aw (V3.mk (IntKind.i64.wrap (hi.x - 1)) (IntKind.i64.wrap (hi.y - 1)) (IntKind.i64.wrap (hi.z - 1))) then
 bif aP w d h len&&(am (lo.x/65536)&&(am (lo.y/65536)&&(am (lo.z/65536)&&decide (off+len≤xs.length)))) then
 bif
 (aP w d h len&&
 (am (IntKind.i64.wrap (hi.x - 1)/65536)&&
 (am (IntKind.i64.wrap (hi.y - 1)/65536)&&(am (IntKind.i64.wrap (hi.z - 1)/65536)&&decide (off+len≤xs.length))))&&
 true&&
 true||
 (af w d h len fun j=>xs.getD (off+j) false).solid (lo.x/65536) (lo.y/65536) (lo.z/65536) !=false)&&
 (true||(af w d h len fun j=>xs.getD (off+j) false).solid (lo.x/65536) (lo.y/65536) (lo.z/65536)==false)&&
 true then
 bif
 bif (af w d h len fun j=>xs.getD (off+j) false).solid (lo.x/65536) (lo.y/65536) (lo.z/65536)==false then
 (af w d h len fun j=>xs.getD (off+j) false).solid (IntKind.i64.wrap (hi.x - 1)/65536) (IntKind.i64.wrap (hi.y - 1)/65536) (IntKind.i64.wrap (hi.z - 1)/65536)
 else true then
 some (SV.bool false,[])
 else
 bif
 mU (lo.x/65536) (IntKind.i64.wrap (hi.x - 1)/65536)&&(mU (lo.y/65536) (IntKind.i64.wrap (hi.y - 1)/65536)&&mU (lo.z/65536) (IntKind.i64.wrap (hi.z - 1)/65536))&&
 pE w d h off len xs then
 bif
 (af w d h len fun j=>xs.getD (off+j) false).solZ (lo.x/65536) (IntKind.i64.wrap (hi.x - 1)/65536) (lo.y/65536) (IntKind.i64.wrap (hi.y - 1)/65536) (lo.z/65536)
 (IntKind.i64.wrap (hi.z - 1)/65536) then
 some (SV.bool false,[])
 else some (SV.bool true,[])
 else none
 else none
 else none
 else none
 else none:=by kernel_rfl
theorem IT {w d h:Int} {len off:Nat} {xs:List Bool} {lo hi:V3} (hm:aP w d h len=true) (f1:lo.fits) (f2:hi.fits) (hl:off+len≤xs.length):aH HO (aF [U0]) 300 41 Tryz.f41 0 [bB w d h (.slice 0 1 off len none) .unk,.agg lo.sv,.agg hi.sv] [.vec true .bool xs]=some (.bool ((af w d h len fun j=>xs.getD (off+j) false).clear lo hi),[]):=by
 rw [Dl]
 simp only [cY]
 refine rn (fun h0=>?_) (fun h0=>?_)
 · rw [Mp.clear_true]
   simp only [Bool.or_eq_true,decide_eq_true_eq] at h0
   rcases h0 with (h0 |h0)|h0
   · exact .inl (by omega)
   · exact .inr (.inl (by omega))
   · exact .inr (.inr (.inl (by omega)))
 · simp only [Bool.or_eq_false_iff,decide_eq_false_iff_not] at h0
   obtain ⟨⟨l1,l2⟩,l3⟩:=h0
   have a1:=f1.1;have a2:=f1.2.1;have a3:=f1.2.2
   have b1:=f2.1;have b2:=f2.2.1;have b3:=f2.2.2
   have g1:aU (hi.x - 1):=by unfold aU at*;omega
   have g2:aU (hi.y - 1):=by unfold aU at*;omega
   have g3:aU (hi.z - 1):=by unfold aU at*;omega
   rw [IntWalk.i64_in (hi.x - 1) g1,IntWalk.i64_in (hi.y - 1) g2,IntWalk.i64_in (hi.z - 1) g3]
   rw [aB.2 f1,aB.2 (show (V3.mk (hi.x - 1) (hi.y - 1) (hi.z - 1)).fits from ⟨g1,g2,g3⟩),hm,fQ a1,fQ a2,fQ a3,fQ g1,fQ g2,fQ g3,decide_eq_true hl]
   simp only [Bool.and_self,Bool.and_true,Bool.true_or,cond_true]
   cases s1:(af w d h len fun j=>xs.getD (off+j) false).solid (lo.x/65536) (lo.y/65536) (lo.z/65536) with
   | true=>
    rw [Mp.clear_false]
    · rfl
    · rintro (k |k |k |k)
      · omega
      · omega
      · omega
      · rw [k _ _ _ (Int.le_refl _) (by omega) (Int.le_refl _) (by omega) (Int.le_refl _) (by omega)] at s1
        cases s1
   | false=>
    cases s2:(af w d h len fun j=>xs.getD (off+j) false).solid ((hi.x - 1)/65536) ((hi.y - 1)/65536) ((hi.z - 1)/65536) with
    | true=>
     rw [Mp.clear_false]
     · rfl
     · rintro (k |k |k |k)
       · omega
       · omega
       · omega
       · rw [k _ _ _ (by omega) (Int.le_refl _) (by omega) (Int.le_refl _) (by omega) (Int.le_refl _)] at s2
         cases s2
    | false=>
     obtain ⟨c1,c2,c3⟩:=Mp.solid_in s1
     obtain ⟨d1,d2,d3⟩:=Mp.solid_in s2
     rw [i7.2 ⟨c1.1,show lo.x/65536≤(hi.x - 1)/65536 by omega,by omega⟩,i7.2 ⟨c2.1,show lo.y/65536≤(hi.y - 1)/65536 by omega,by omega⟩,i7.2 ⟨c3.1,show lo.z/65536≤(hi.z - 1)/65536 by omega,by omega⟩]
     rw [show pE w d h off len xs=true by unfold pE;rw [hm,decide_eq_true hl];rfl]
     simp only [Bool.or_self,Bool.and_self,cond_true,cond_false]
     cases hs:(af w d h len fun j=>xs.getD (off+j) false).solZ (lo.x/65536) ((hi.x - 1)/65536) (lo.y/65536) ((hi.y - 1)/65536) (lo.z/65536) ((hi.z - 1)/65536) with
     |false=>rw [Mp.clear_true (.inr (.inr (.inr (ze.1 hs))))];rfl
     | true=>
      rw [Mp.clear_false]
      · rfl
      · rintro (k |k |k |k)
        · omega
        · omega
        · omega
        · rw [ze.2 k] at hs
          cases hs
noncomputable def CR (args:List SV) (rows:List Row):Option aL:=
 match args with
 |[.agg [.int .i64 w,.int .i64 d,.int .i64 h,.slice id st off len _,sp],.agg [.int .i64 x,.int .i64 y,.int .i64 z],.agg [.int .i64 p,.int .i64 q,.int .i64 r]]=>match rows[id]? with
  |some (.vec _ .bool xs)=>bif Nat.beq st 1&&sp.one then some {ok:=aP w d h len&&(aw ⟨x,y,z⟩&&(aw ⟨p,q,r⟩&&decide (off+len≤xs.length))),val:=.bool ((af w d h len fun j=>xs.getD (off+j) false).clear ⟨x,y,z⟩ ⟨p,q,r⟩),rd:=[id]} else none
  |_=>none
 |_=>none
theorem HC {args:List SV} {rows:List Row} {n:Nat} {e:aL} (h:CR args rows=some e) (hok:e.ok=true):aN Tryz.prog 41 args (rows[·]?) n e:=by
 unfold CR at h
 split at h
 · rename_i wd dd hd id st off len cap sp x y z p q r
   split at h
   · rename_i ro xs hrow
     obtain ⟨hb,h⟩:=al h
     cases h
     simp only [Bool.and_eq_true,decide_eq_true_eq,aB] at hok
     exact iq qX aG Tryz.func41 hb hrow rfl rfl (IT (lo:=⟨x,y,z⟩) (hi:=⟨p,q,r⟩) hok.1 hok.2.1 hok.2.2.1 hok.2.2.2)
   · cases h
 · cases h
noncomputable def yS:bY:=⟨41,CR,fun _ _ _ h hok=>HC h hok,aq Tryz.func41 (by kernel_rfl)⟩
noncomputable def Uq:bS:=aV [33] []
theorem xP:bV Tryz.prog Uq:=aD (by kernel_rfl)
def eU (id:Int) (a:V3):Pl:=⟨id,a,⟨0,0,0⟩,false,100,0,0,10,5,0,0⟩
def qi (a:Int) (q p:Pl):Pl×Int:=bif decide (p.dead>0) then (p,10) else bif decide (p.wait>0) then (p,8) else bif decide (a≤0) then (p,9) else (q,0)
def c9 (p:Pl) (k:Int):Pl×Int:=bif k==0 then qi p.a0 {p with a0:=IntKind.i64.wrap (p.a0 - 1),wait:=10} p else qi p.a1 {p with a1:=IntKind.i64.wrap (p.a1 - 1),wait:=10} p
def dC (p:Pl):Pl:={p with wait:=IntKind.i64.wrap (p.wait - min (max p.wait 0) 1),dead:=IntKind.i64.wrap (p.dead - min (max p.dead 0) 1)}
def sW (p:Pl) (a:V3):Pl:=⟨p.id,a,⟨0,0,0⟩,false,100,0,p.score,10,5,0,0⟩
theorem Ic (id:Int) (p:V3):aH Uq (fun _ _=>none) 200 33 Tryz.f33 0 [.int .i64 id,.agg p.sv] []=some (.agg (eU id p).sv,[]):=by kernel_rfl
def fh (p:Pl) (e:Int):Option aj:=some (.tuple [.agg p.sv,.int .i64 e],[])
theorem CD (p:Pl):aH Uq (fun _ _=>none) 200 36 Tryz.f36 0 [.agg p.sv,.int .i64 0] []=
    bif decide (p.dead>0) then fh p 10 else bif decide (p.wait>0) then fh p 8 else bif decide (p.a0≤0) then fh p 9 else fh {p with a0:=IntKind.i64.wrap (p.a0 - 1),wait:=10} 0:=by kernel_rfl
theorem Dz (p:Pl):aH Uq (fun _ _=>none) 200 36 Tryz.f36 0 [.agg p.sv,.int .i64 1] []=
    bif decide (p.dead>0) then fh p 10 else bif decide (p.wait>0) then fh p 8 else bif decide (p.a1≤0) then fh p 9 else fh {p with a1:=IntKind.i64.wrap (p.a1 - 1),wait:=10} 0:=by kernel_rfl
theorem MH (p:Pl) (k:Int) (hk:k=0∨k=1):aH Uq (fun _ _=>none) 200 36 Tryz.f36 0 [.agg p.sv,.int .i64 k] []=some (.tuple [.agg (c9 p k).1.sv,.int .i64 (c9 p k).2],[]):=by
 rcases hk with rfl |rfl
 · rw [CD]
   unfold c9 qi fh
   cases decide (p.dead>0)<;>cases decide (p.wait>0)<;>cases decide (p.a0≤0)<;>rfl
 · rw [Dz]
   unfold c9 qi fh
   cases decide (p.dead>0)<;>cases decide (p.wait>0)<;>cases decide (p.a1≤0)<;>rfl
theorem It (p:Pl):aH Uq (fun _ _=>none) 200 38 Tryz.f38 0 [.agg p.sv] []=some (.tuple [.agg (dC p).sv,.bool (p.dead==1)],[]):=by kernel_rfl
theorem ME (p:Pl) (a:V3):aH Uq (fun _ _=>none) 200 39 Tryz.f39 0 [.agg p.sv,.agg a.sv] []=some (.agg (sW p a).sv,[]):=by kernel_rfl
theorem iT {l:List SV} {p:Pl} (h:Jj l=some p):l=p.sv:=(aA.enc_dec (k:=.pl) h).symm
theorem gl {l:List SV} {p:V3} (h:sd l=some p):l=p.sv:=(aA.enc_dec (k:=.vec) h).symm
theorem fE {l:List SV} {p:Sh} (h:JQ l=some p):l=p.sv:=(aA.enc_dec (k:=.sh) h).symm
def pu:List SV→Option aL
 |[.int .i64 id,.agg cs]=>match sd cs with
  |some a=>some {val:=.agg (eU id a).sv}
  |none=>none
 |_=>none
theorem JO {m:Nat→Option Row} {n:Nat} {args:List SV} {e:aL} (h:pu args=some e):aN Tryz.prog 33 args m n e:=by
 unfold pu at h
 split at h
 · split at h
   · rename_i a ha
     cases h
     rw [gl ha]
     obtain ⟨rows',hc,_⟩:=aC xP ag Tryz.func33 (Ic _ a)
     exact aM hc rfl rfl
   · cases h
 · cases h
noncomputable def zN:bY:=⟨33,fun args _=>pu args,fun _ _ _ h _=>JO h,aq Tryz.func33 (by kernel_rfl)⟩
def uA:List SV→Option aL
 |[.agg cs,.int .i64 k]=>match Jj cs with
  |some p=>some {ok:=k==0||k==1,val:=.tuple [.agg (c9 p k).1.sv,.int .i64 (c9 p k).2]}
  |none=>none
 |_=>none
theorem MT {m:Nat→Option Row} {n:Nat} {args:List SV} {e:aL} (h:uA args=some e) (hok:e.ok=true):aN Tryz.prog 36 args m n e:=by
 unfold uA at h
 split at h
 · split at h
   · rename_i p hp
     cases h
     rw [iT hp]
     simp only [Bool.or_eq_true,beq_iff_eq] at hok
     obtain ⟨rows',hc,_⟩:=aC xP ag Tryz.func36 (MH p _ hok)
     exact aM hc rfl rfl
   · cases h
 · cases h
noncomputable def G2:bY:=⟨36,fun args _=>uA args,fun _ _ _ h hok=>MT h hok,aq Tryz.func36 (by kernel_rfl)⟩
def Eh:List SV→Option aL
 |[.agg cs]=>match Jj cs with
  |some p=>some {val:=.tuple [.agg (dC p).sv,.bool (p.dead==1)]}
  |none=>none
 |_=>none
theorem IB {m:Nat→Option Row} {n:Nat} {args:List SV} {e:aL} (h:Eh args=some e):aN Tryz.prog 38 args m n e:=by
 unfold Eh at h
 split at h
 · split at h
   · rename_i p hp
     cases h
     rw [iT hp]
     obtain ⟨rows',hc,_⟩:=aC xP ag Tryz.func38 (It p)
     exact aM hc rfl rfl
   · cases h
 · cases h
noncomputable def AN:bY:=⟨38,fun args _=>Eh args,fun _ _ _ h _=>IB h,aq Tryz.func38 (by kernel_rfl)⟩
def vB:List SV→Option aL
 |[.agg cs,.agg ds]=>match Jj cs,sd ds with
  |some p,some a=>some {val:=.agg (sW p a).sv}
  |_,_=>none
 |_=>none
theorem NE {m:Nat→Option Row} {n:Nat} {args:List SV} {e:aL} (h:vB args=some e):aN Tryz.prog 39 args m n e:=by
 unfold vB at h
 split at h
 · split at h
   · rename_i p a hp ha
     cases h
     rw [iT hp,gl ha]
     obtain ⟨rows',hc,_⟩:=aC xP ag Tryz.func39 (ME p a)
     exact aM hc rfl rfl
   · cases h
 · cases h
noncomputable def FE:bY:=⟨39,fun args _=>vB args,fun _ _ _ h _=>NE h,aq Tryz.func39 (by kernel_rfl)⟩
noncomputable def wk:bS:=aV [142,123] []
theorem ge:bV Tryz.prog wk:=aD (by kernel_rfl)
def AU (n i:Int):List SV:=[.ptr 1 0 0 0,.int .i64 0,.int .u64 n,.int .i64 i]
def tB (ds:List Int) (b:Bool) (off len:Nat):List Row:=[.vec true .u64 ds,.own [.bool b,.slice 0 1 off len none]]
noncomputable def X1:List SV→List Row→Option aj:=bj wk (fun _ _=>none) 100 101 [0,1,0,1,1] (bg Tryz.f101 [0,1,0,1,1]) 38 2 [1,2,3,4]
theorem zU (ds:List Int) (b:Bool) (off len:Nat) (n i:Int):X1 (AU n i) (tB ds b off len)=
 bif decide (i≥0) then
 bif decide (n≥281474976710656) then
 bif b then
 some
 (SV.tuple [SV.nils,SV.tuple [SV.ptr 1 0 0 0,.int .i64 (-9223372036854775808),.int .u64 n,.int .i64 i]],
 [Row.vec true aA.u64 ds,Row.own [SV.bool b,SV.slice 0 1 off len none]])
 else
 some
 (SV.tuple [SV.nils,SV.tuple [SV.ptr 1 0 0 0,.int .i64 9223372036854775807,.int .u64 n,.int .i64 i]],
 [Row.vec true aA.u64 ds,Row.own [SV.bool b,SV.slice 0 1 off len none]])
 else
 bif decide (0≤i)&&decide (i<(↑len:Int)) then
 bif decide (off+i.toNat<ds.length) then
 some
 (SV.tuple
 [SV.nilp,
 SV.tuple
 [SV.ptr 1 0 0 0,.int .i64 0,.int .u64 (IntKind.u64.wrap (IntKind.u64.wrap (n*65536)+ds.getD (off+i.toNat) aA.u64.dflt)),
 .int .i64 (IntKind.i64.wrap (i - 1))]],
 [Row.vec true aA.u64 ds,Row.own [SV.bool b,SV.slice 0 1 off len none]])
 else none
 else none
 else
 some
 (SV.tuple [SV.ptr 0 0 0 0,SV.tuple [SV.ptr 1 0 0 0,.int .i64 0,.int .u64 n,.int .i64 i]],[Row.vec true aA.u64 ds,Row.own [SV.bool b,SV.slice 0 1 off len none]]):=by kernel_rfl
noncomputable def Sb:List SV→List Row→Option aj:=bj wk (fun _ _=>none) 100 100 [0,0,1,1] (bg Tryz.f100 [0,0,1,1]) 26 2 [0,2,3]
def kT (n:Int):List SV:=[.int .i64 n,.ptr 0 0 0 0,.ptr 1 0 0 0]
def ye (b:Bool):List Row:=[.own [.bool false,.nils],.own [.bool b,.nils]]
def lw (b:Bool) (ds:List Int) (len:Nat):List Row:=[.own [.bool false,.nils],.own [.bool b,.slice 2 1 0 len none],.vec false .u64 ds]
theorem uw (n:Int) (b:Bool):Sb (kT n) (ye b)=
 bif n !=0 then
 bif decide (n.tmod 65536<0) then
 some
 (SV.tuple [SV.nilp,SV.tuple [.int .i64 (IntKind.i64.wrap (n.tdiv 65536)),SV.ptr 0 0 0 0,SV.ptr 1 0 0 0]],
 [Row.own [SV.bool false,SV.nils],Row.own [SV.bool b,SV.slice 2 aA.u64.st 0 1 none],Row.vec false aA.u64 [IntKind.u64.wrap (IntKind.i64.wrap (0 - n.tmod 65536))]])
 else
 some
 (SV.tuple [SV.nilp,SV.tuple [.int .i64 (IntKind.i64.wrap (n.tdiv 65536)),SV.ptr 0 0 0 0,SV.ptr 1 0 0 0]],
 [Row.own [SV.bool false,SV.nils],Row.own [SV.bool b,SV.slice 2 aA.u64.st 0 1 none],Row.vec false aA.u64 [IntKind.u64.wrap (n.tmod 65536)]])
 else some (SV.tuple [SV.ptr 0 0 0 0,SV.tuple [.int .i64 n,SV.ptr 0 0 0 0,SV.ptr 1 0 0 0]],[Row.own [SV.bool false,SV.nils],Row.own [SV.bool b,SV.nils]]):=by kernel_rfl
def FP (len:Nat) (ds:List Int) (d:Int):Bool:=decide (0+1≤[d].length)&&((decide (0<len)||(none:Option Nat).isSome)&&(decide (len≤ds.length)&&(decide (len+1≤9223372036854775807)&&decide ((len+1)*8≤140737488355328))))
theorem pd (n:Int) (b:Bool) (ds:List Int) (len:Nat):Sb (kT n) (lw b ds len)=
 bif n !=0 then
  bif decide (n.tmod 65536<0) then
   bif FP len ds (IntKind.u64.wrap (IntKind.i64.wrap (0 - n.tmod 65536))) then
    some (.tuple [.nilp,.tuple (kT (IntKind.i64.wrap (n.tdiv 65536)))],lw b (ds.take len++[IntKind.u64.wrap (IntKind.i64.wrap (0 - n.tmod 65536))]) (len+1))
   else none
  else
   bif FP len ds (IntKind.u64.wrap (n.tmod 65536)) then
    some (.tuple [.nilp,.tuple (kT (IntKind.i64.wrap (n.tdiv 65536)))],lw b (ds.take len++[IntKind.u64.wrap (n.tmod 65536)]) (len+1))
   else none
 else some (.tuple [.ptr 0 0 0 0,.tuple (kT n)],lw b ds len):=by kernel_rfl
def aK:Nat→Nat→List Int
 |0,_=>[]
 |k+1,m=>bif m !=0 then ((m%65536:Nat):Int)::aK k (m/65536) else []
theorem vE {a:Int} (h1:0≤a) (h2:a<65536):IntKind.u64.wrap a=a:=by
 unfold IntKind.wrap
 simp [IntKind.signed,IntKind.bits]
 omega
theorem zp {n:Int} (h: ¬ n.tmod 65536<0):IntKind.u64.wrap (n.tmod 65536)=((n.natAbs%65536:Nat):Int):=by
 have h2:=Int.tmod_lt_of_pos n (show (0:Int)<65536 by omega)
 rw [vE (by omega) h2]
 have h3:n.tmod 65536=n.sign*((n.natAbs%65536:Nat):Int):=by
  rcases Int.le_total 0 n with hn |hn
  · rw [Int.tmod_eq_emod_of_nonneg hn]
    rcases Int.lt_or_eq_of_le hn with h4 |h4
    · rw [Int.sign_eq_one_of_pos h4];omega
    · rw [←h4];rfl
  · rcases Int.lt_or_eq_of_le hn with h4 |h4
    · rw [Int.sign_eq_neg_one_of_neg h4]
      have:=Int.neg_tmod (-n) 65536
      rw [Int.neg_neg,Int.tmod_eq_emod_of_nonneg (a:= -n) (b:=65536) (by omega)] at this
      rw [this];omega
    · rw [h4];rfl
 rcases Int.lt_trichotomy n 0 with h4 |h4 |h4
 · rw [Int.sign_eq_neg_one_of_neg h4] at h3;omega
 · subst h4;rfl
 · rw [Int.sign_eq_one_of_pos h4] at h3;omega
theorem sT {n:Int} (h:n.tmod 65536<0):IntKind.u64.wrap (IntKind.i64.wrap (0 - n.tmod 65536))=((n.natAbs%65536:Nat):Int):=by
 have h2:=Int.lt_tmod_of_pos n (show (0:Int)<65536 by omega)
 rw [IntWalk.i64_in (0 - n.tmod 65536) (by omega),vE (by omega) (by omega)]
 have hn:n<0:=by
  rcases Int.lt_or_le n 0 with h4 |h4
  · exact h4
  · rw [Int.tmod_eq_emod_of_nonneg h4] at h;omega
 have:=Int.neg_tmod (-n) 65536
 rw [Int.neg_neg,Int.tmod_eq_emod_of_nonneg (a:= -n) (b:=65536) (by omega)] at this
 omega
theorem tz {n:Int} (h:aU n):IntKind.i64.wrap (n.tdiv 65536)=n.tdiv 65536∧aU (n.tdiv 65536)∧(n.tdiv 65536).natAbs=n.natAbs/65536:=by
 unfold aU at h ⊢
 rcases Int.le_total 0 n with hn |hn
 · rw [Int.tdiv_eq_ediv_of_nonneg hn]
   exact ⟨IntWalk.i64_in _ (by omega),by omega,by omega⟩
 · have:=Int.neg_tdiv (-n) 65536
   rw [Int.neg_neg,Int.tdiv_eq_ediv_of_nonneg (a:= -n) (b:=65536) (by omega)] at this
   rw [this]
   exact ⟨IntWalk.i64_in _ (by omega),by omega,by omega⟩
theorem Av {len:Nat} {ds:List Int} {d:Int} (h:len=ds.length) (h1:0<len) (h2:len≤1000):FP len ds d=true:=by
 unfold FP
 simp only [Bool.and_eq_true,Bool.or_eq_true,decide_eq_true_eq]
 exact ⟨by simp,.inl h1,by omega,by omega,by omega⟩
theorem zz {b:Bool}:∀(k:Nat) (n:Int) (ds:List Int) (len:Nat),len=ds.length→0<len→len+k≤1000→aU n→n.natAbs<65536 ^ k→
    aJ Sb (kT n) (lw b ds len) (.exit 0) (kT 0) (lw b (ds++aK k n.natAbs) (ds++aK k n.natAbs).length)
 |0,n,ds,len,h1,h2,h3,h4,h5=>by
  obtain rfl:n=0:=by simp at h5;omega
  refine .done ?_ (by simp)
  rw [pd,h1]
  simp only [aK,List.append_nil]
  rfl
 | k +1,n,ds,len,h1,h2,h3,h4,h5=>by
  by_cases h0:n=0
  · subst h0
    refine .done ?_ (by simp)
    rw [pd,h1]
    simp only [aK,Int.natAbs_zero,bne_self_eq_false,cond_false,List.append_nil]
    rfl
  · obtain ⟨e1,e2,e3⟩:=tz h4
    have hro:=pd n b ds len
    rw [show (n !=0)=true by simpa using h0,cond_true,e1] at hro
    have et:ds.take len=ds:=by rw [h1];exact List.take_length
    have hk:(n.tdiv 65536).natAbs<65536 ^ k:=by
     rw [e3]
     rw [Nat.pow_succ] at h5
     exact Nat.div_lt_of_lt_mul (by rw [Nat.mul_comm];exact h5)
    have hd:aK (k+1) n.natAbs=((n.natAbs%65536:Nat):Int)::aK k (n.tdiv 65536).natAbs:=by
     rw [e3]
     show (bif n.natAbs !=0 then _ else _)=_
     rw [show (n.natAbs !=0)=true by simpa using h0]
     rfl
    have ih:=zz (b:=b) k (n.tdiv 65536) (ds++[((n.natAbs%65536:Nat):Int)]) (len+1) (by simp [h1]) (by omega) (by omega) e2 hk
    rw [List.append_assoc,List.singleton_append,←hd] at ih
    cases hs:decide (n.tmod 65536<0) with
    |true=>
     rw [hs,cond_true,Av h1 h2 (by omega),cond_true,et,sT (of_decide_eq_true hs)] at hro
     exact .more hro ih
    |false=>
     rw [hs,cond_false,Av h1 h2 (by omega),cond_true,et,zp (of_decide_eq_false hs)] at hro
     exact .more hro ih
theorem KR {b:Bool} {n:Int} (h:aU n) (h0:n≠0):aJ Sb (kT n) (ye b) (.exit 0) (kT 0) (lw b (aK 5 n.natAbs) (aK 5 n.natAbs).length):=by
 obtain ⟨e1,e2,e3⟩:=tz h
 have hro:=uw n b
 rw [show (n !=0)=true by simpa using h0,cond_true,e1] at hro
 have hb:(n.tdiv 65536).natAbs<65536 ^ 4:=by
  rw [e3]
  unfold aU at h
  omega
 have hd:aK 5 n.natAbs=((n.natAbs%65536:Nat):Int)::aK 4 (n.tdiv 65536).natAbs:=by
  rw [e3]
  show (bif n.natAbs !=0 then _ else _)=_
  rw [show (n.natAbs !=0)=true by simpa using h0]
  rfl
 have ih:=zz (b:=b) 4 (n.tdiv 65536) [((n.natAbs%65536:Nat):Int)] 1 rfl (by omega) (by omega) e2 hb
 rw [List.singleton_append,←hd] at ih
 cases hs:decide (n.tmod 65536<0) with
 |true=>
  rw [hs,cond_true,sT (of_decide_eq_true hs)] at hro
  exact .more hro ih
 |false=>
  rw [hs,cond_false,zp (of_decide_eq_false hs)] at hro
  exact .more hro ih
noncomputable def TB (v:List SV) (R:List Row) (k:Ex→List SV→List Row→Option aj):Option aj:=match v,R with
 | [.int .i64 n,.ptr 0 0 0 0,.ptr 1 0 0 0],[.own [.bool false,.nils],.own [.bool b,.nils]]=>
     bif am n then (bif n==0 then k (.exit 0) (kT 0) (ye b) else k (.exit 0) (kT 0) (lw b (aK 5 n.natAbs) (aK 5 n.natAbs).length)) else none
 |_,_=>none
theorem LA:da 100 [0,0,1,1] (bG 26 [0,2,3] TB):=by
 intro b hat s K r h
 refine aQ (fuel:=100) ge ag hat (fun v R k r hr=>?_) h
 have hbody:=aZ Tryz.func100 hat
 subst hbody
 unfold TB at hr
 split at hr
 · rename_i n b
   obtain ⟨hb,hr2⟩:=al hr
   rw [ap] at hb
   cases h0:n==0 with
   |true=>
    rw [h0,cond_true] at hr2
    have hn:n=0:=by simpa using h0
    subst hn
    exact ⟨_,_,_,hr2,.done (by rw [show ([.own [.bool false,.nils],.own [.bool b,.nils]]:List Row)=ye b from rfl,show ([.int .i64 0,.ptr 0 0 0 0,.ptr 1 0 0 0]:List SV)=kT 0 from rfl];exact uw 0 b) (by simp)⟩
   |false=>
    rw [h0,cond_false] at hr2
    exact ⟨_,_,_,hr2,KR hb (by simpa using h0)⟩
 · cases hr
noncomputable def Tc:jh:=⟨_,_,_,LA⟩
theorem Gf (n:Int):aH wk (aF [Tc]) 300 100 Tryz.f100 9 [.int .i64 n] []=
 bif am n then
 bif n==0 then some (SV.agg [SV.bool (decide (n<0)),SV.nils],[Row.own [SV.bool (decide (n<0)),SV.nils],Row.own [SV.bool (decide (n<0)),SV.nils]])
 else
 some
 (SV.agg [SV.bool (decide (n<0)),SV.slice 2 1 0 (aK 5 n.natAbs).length none],
 [Row.own [SV.bool (decide (n<0)),SV.slice 2 1 0 (aK 5 n.natAbs).length none],Row.own [SV.bool (decide (n<0)),SV.slice 2 1 0 (aK 5 n.natAbs).length none],
 Row.vec false aA.u64
 (bif n.natAbs !=0 then
 (↑(n.natAbs%65536):Int)::
 bif n.natAbs/65536 !=0 then
 (↑(n.natAbs/65536%65536):Int)::
 bif n.natAbs/65536/65536 !=0 then
 (↑(n.natAbs/65536/65536%65536):Int)::
 bif n.natAbs/65536/65536/65536 !=0 then
 (↑(n.natAbs/65536/65536/65536%65536):Int)::
 bif n.natAbs/65536/65536/65536/65536 !=0 then [(↑(n.natAbs/65536/65536/65536/65536%65536):Int)] else []
 else []
 else []
 else []
 else [])])
 else none:=by kernel_rfl
theorem VQ {n:Int} (h:am n=true) (h0:(n==0)=false):aH wk (aF [Tc]) 300 100 Tryz.f100 9 [.int .i64 n] []=
    some (.agg [.bool (decide (n<0)),.slice 2 1 0 (aK 5 n.natAbs).length none],[.own [.bool (decide (n<0)),.slice 2 1 0 (aK 5 n.natAbs).length none],.own [.bool (decide (n<0)),.slice 2 1 0 (aK 5 n.natAbs).length none],.vec false .u64 (aK 5 n.natAbs)]):=by
 rw [Gf,h,h0]
 rfl
def Z9 (args:List SV) (rows:List Row):Option aL:=
 match args with
 |[.int .i64 n]=>some {ok:=am n,val:=.agg [.bool (decide (n<0)),.slice rows.length 1 0 (aK 5 n.natAbs).length none],nw:=[.vec true .u64 (aK 5 n.natAbs)]}
 |_=>none
theorem dv {α:Type} {l:List α} {k i:Nat} {r:List α} (h:l.take k=r) (hi:i<k):l[i]? =r[i]? :=by
 rw [←h,List.getElem?_take,if_pos hi]
theorem XF {args:List SV} {rows:List Row} {e:aL} (h:Z9 args rows=some e) (hok:e.ok=true):aN Tryz.prog 100 args (rows[·]?) rows.length e:=by
 unfold Z9 at h
 split at h
 · rename_i n
   cases h
   simp only at hok
   cases h0:n==0 with
   |true=>
    have hn:n=0:=by simpa using h0
    subst hn
    obtain ⟨rows',hc,_⟩:=aC ge aG Tryz.func100 (Gf 0)
    exact dS (C:=fun s=>.agg [.bool (decide ((0:Int)<0)),s]) (s0:=.nils) (ds:=[]) hc (mu _) (σ:=[]) rfl (by simp [SV.idsL,SV.ids]) (fun i row h=>by simp at h) (.inl ⟨rfl,rfl⟩)
   |false=>
    obtain ⟨rows',hc,ht⟩:=aC ge aG Tryz.func100 (VQ hok h0)
    exact dS (C:=fun s=>.agg [.bool (decide (n<0)),s]) (s0:=.slice 2 1 0 (aK 5 n.natAbs).length none) (ds:=aK 5 n.natAbs) hc (mu _) (σ:=[]) rfl (by simp [SV.idsL,SV.ids]) (fun i row h=>by simp at h) (.inr ⟨2,0,none,false,aK 5 n.natAbs,rfl,by simp,by rw [dv ht (by omega)];rfl,fun i _=>by rw [Nat.zero_add]⟩)
 · cases h
noncomputable def TH:bY:=⟨100,Z9,fun _ _ _ h hok=>XF h hok,aq Tryz.func100 (by kernel_rfl)⟩
def dP (ds:List Int) (off:Nat):Nat→Int→Bool×Int×Int
 |0,n=>(false,n,-1)
 |k+1,n=>bif decide (n≥281474976710656) then (true,n,k) else dP ds off k (IntKind.u64.wrap (IntKind.u64.wrap (n*65536)+ds.getD (off+k) aA.u64.dflt))
theorem Fe {ds:List Int} {b:Bool} {off len:Nat} (hl:off+len≤ds.length) (h64:len≤9223372036854775807):∀(k:Nat) (n:Int),k≤len→
    ((dP ds off k n).1=true→aJ X1 (AU n ((k:Int) - 1)) (tB ds b off len) .ret [.ptr 1 0 0 0,.int .i64 (bif b then -9223372036854775808 else 9223372036854775807),.int .u64 (dP ds off k n).2.1,.int .i64 (dP ds off k n).2.2] (tB ds b off len))∧
    ((dP ds off k n).1=false→aJ X1 (AU n ((k:Int) - 1)) (tB ds b off len) (.exit 0) (AU (dP ds off k n).2.1 (-1)) (tB ds b off len))
 |0,n,hk=>by
  refine ⟨fun h=>by simp [dP] at h,fun _=>.done ?_ (by simp)⟩
  rw [zU,decide_eq_false (by omega),cond_false]
  rfl
 | k+1,n,hk=>by
  have hro:=zU ds b off len n (((k+1:Nat):Int) - 1)
  have e1:(((k+1:Nat):Int) - 1)=(k:Int):=by omega
  rw [e1] at hro ⊢
  have e2:((k:Int)).toNat=k:=by omega
  rw [decide_eq_true (show (k:Int)≥0 by omega),cond_true,e2,decide_eq_true (show (k:Int)<(len:Int) by omega),decide_eq_true (show off+k<ds.length by omega),IntWalk.i64_in ((k:Int) - 1) (by omega)] at hro
  simp only [Bool.and_true,cond_true] at hro
  unfold dP
  cases hc:decide (n≥281474976710656) with
  |true=>
   rw [hc,cond_true] at hro
   simp only [cond_true]
   refine ⟨fun _=>?_,fun h=>by simp at h⟩
   cases b
   · exact .done hro (by simp)
   · exact .done hro (by simp)
  |false=>
   rw [hc,cond_false] at hro
   simp only [cond_false]
   have ih:=Fe (b:=b) hl h64 k (IntKind.u64.wrap (IntKind.u64.wrap (n*65536)+ds.getD (off+k) aA.u64.dflt)) (by omega)
   exact ⟨fun h=>.more hro (ih.1 h),fun h=>.more hro (ih.2 h)⟩
noncomputable def U7 (v:List SV) (R:List Row) (k:Ex→List SV→List Row→Option aj):Option aj:=match v,R with
 | [.ptr 1 0 0 0,.int .i64 z,.int .u64 n,.int .i64 i],[.vec true .u64 ds,.own [.bool b,.slice 0 1 off len none]]=>
     bif decide (z=0)&&(decide (i=(len:Int) - 1)&&(decide (off+len≤ds.length)&&decide (len≤9223372036854775807))) then
      (bif (dP ds off len n).1 then k .ret [.ptr 1 0 0 0,.int .i64 (bif b then -9223372036854775808 else 9223372036854775807),.int .u64 (dP ds off len n).2.1,.int .i64 (dP ds off len n).2.2] (tB ds b off len)
      else k (.exit 0) (AU (dP ds off len n).2.1 (-1)) (tB ds b off len)) else none
 |_,_=>none
theorem Ky:da 101 [0,1,0,1,1] (bG 38 [1,2,3,4] U7):=by
 intro b hat s K r h
 refine aQ (fuel:=100) ge ag hat (fun v R k r hr=>?_) h
 have hbody:=aZ Tryz.func101 hat
 subst hbody
 unfold U7 at hr
 split at hr
 · rename_i z n i ds b off len
   obtain ⟨hb,hr2⟩:=al hr
   simp only [Bool.and_eq_true,decide_eq_true_eq] at hb
   obtain ⟨h1,h2,h3,h4⟩:=hb
   subst h1 h2
   have hl:=Fe (b:=b) h3 h4 len n (Nat.le_refl _)
   cases hq:(dP ds off len n).1 with
   |true=>
    rw [hq,cond_true] at hr2
    exact ⟨_,_,_,hr2,hl.1 hq⟩
   |false=>
    rw [hq,cond_false] at hr2
    exact ⟨_,_,_,hr2,hl.2 hq⟩
 · cases hr
noncomputable def U3:jh:=⟨_,_,_,Ky⟩
theorem PT (ds:List Int) (b:Bool) (off len:Nat):aH wk (aF [U3]) 300 101 Tryz.f101 0 [.agg [.bool b,.slice 0 1 off len none]] [.vec true .u64 ds]=
 bif decide (IntKind.i64.wrap ((↑len:Int) - 1)=(↑len:Int) - 1)&&(decide (off+len≤ds.length)&&decide (len≤9223372036854775807)) then
 bif (dP ds off len 0).fst then some (.int .i64 (bif b then -9223372036854775808 else 9223372036854775807),[])
 else
 bif decide ((dP ds off len 0).snd.fst>9223372036854775807) then bif b then some (.int .i64 (-9223372036854775808),[]) else some (.int .i64 9223372036854775807,[])
 else
 bif b then some (.int .i64 (IntKind.i64.wrap (0 - IntKind.i64.wrap (dP ds off len 0).snd.fst)),[]) else some (.int .i64 (IntKind.i64.wrap (dP ds off len 0).snd.fst),[])
 else none:=by kernel_rfl
def ch (f:Nat→Int):Nat→Nat→Int
 |0,_=>0
 |m+1,i=>f i+65536*ch f m (i+1)
def dY (ds:List Int) (off:Nat) (i:Nat):Int:=ds.getD (off+i) 0
def bu (ds:List Int):Prop:=∀d∈ds,0≤d∧d<65536
theorem f7 {ds:List Int} (h:bu ds) (off i:Nat):0≤dY ds off i∧dY ds off i<65536:=by
 unfold dY
 rw [List.getD_eq_getElem?_getD]
 cases hg:ds[off+i]? with
 |none=>simp
 |some d=>exact h d (List.mem_of_getElem? hg)
theorem j9 {f:Nat→Int} (hf:∀i,0≤f i∧f i<65536):∀m i,0≤ch f m i
 |0,_=>Int.le_refl _
 |m+1,i=>by
  have:=j9 hf m (i+1)
  have:=(hf i).1
  unfold ch
  omega
theorem w6 {f:Nat→Int} (hf:∀i,0≤f i∧f i<65536):∀(k m i:Nat),ch f m (i+k)≤ch f (m+k) i
 |0,m,i=>Int.le_refl _
 |k+1,m,i=>by
  have h1:=w6 hf k m (i+1)
  have h2:=j9 hf (m+k) (i+1)
  have h3:=(hf i).1
  have e:ch f (m+(k+1)) i=f i+65536*ch f (m+k) (i+1):=rfl
  rw [e,show i+(k+1)=i+1+k by omega]
  omega
theorem eW {a:Int} (h1:0≤a) (h2:a<18446744073709551616):IntKind.u64.wrap a=a:=by
 unfold IntKind.wrap
 simp [IntKind.signed,IntKind.bits]
 omega
theorem Ak {ds:List Int} {off len:Nat} (h:bu ds):∀(k:Nat) (n:Int),k≤len→n=ch (dY ds off) (len - k) k→
    ((dP ds off k n).1=true→18446744073709551616≤ch (dY ds off) len 0)∧((dP ds off k n).1=false→(dP ds off k n).2.1=ch (dY ds off) len 0)
 |0,n,hk,hn=>⟨fun h=>by simp [dP] at h,fun _=>hn⟩
 | k+1,n,hk,hn=>by
  have hd:=f7 h off k
  have e:ch (dY ds off) (len - k) k=dY ds off k+65536*n:=by
   rw [hn,show len - k=(len - (k+1))+1 by omega]
   rfl
  unfold dP
  by_cases hc:n≥281474976710656
  · rw [decide_eq_true hc]
    simp only [cond_true]
    refine ⟨fun _=>?_,fun h=>by simp at h⟩
    have:=w6 (f7 h off) k (len - k) 0
    rw [Nat.zero_add,e,show len - k+k=len by omega] at this
    omega
  · rw [decide_eq_false hc]
    simp only [cond_false]
    have n0:0≤n:=by rw [hn];exact j9 (f7 h off) _ _
    rw [eW (a:=n*65536) (by omega) (by omega),show ds.getD (off+k) aA.u64.dflt=dY ds off k from rfl,eW (by omega) (by omega)]
    exact Ak h k _ (by omega) (by rw [e];omega)
def OJ (b:Bool) (v:Int):Int:=ak (bif b then -v else v)
theorem UT {ds:List Int} {b:Bool} {off len:Nat} (h:bu ds) (hl:off+len≤ds.length) (h64:len≤9223372036854775807):
    aH wk (aF [U3]) 300 101 Tryz.f101 0 [.agg [.bool b,.slice 0 1 off len none]] [.vec true .u64 ds]=some (.int .i64 (OJ b (ch (dY ds off) len 0)),[]):=by
 rw [PT,decide_eq_true (show IntKind.i64.wrap ((len:Int) - 1)=(len:Int) - 1 from IntWalk.i64_in _ (by omega)),decide_eq_true hl,decide_eq_true h64]
 simp only [Bool.and_true,cond_true]
 obtain ⟨p1,p2⟩:=Ak h len 0 (Nat.le_refl _) (by rw [Nat.sub_self];rfl) (off:=off)
 have p0:=j9 (f7 h off) len 0
 unfold OJ
 cases hq:(dP ds off len 0).1 with
 |true=>
  have:=p1 hq
  simp only [cond_true]
  cases b
  · simp only [cond_false];unfold ak;congr 3;omega
  · simp only [cond_true];unfold ak;congr 3;omega
 | false=>
  rw [p2 hq]
  simp only [cond_false]
  generalize ch (dY ds off) len 0=V at p0
  by_cases hV:V>9223372036854775807
  · rw [decide_eq_true hV,cond_true]
    cases b
    · simp only [cond_false];unfold ak;congr 3;omega
    · simp only [cond_true];unfold ak;congr 3;omega
  · rw [decide_eq_false hV,cond_false,IntWalk.i64_in V (by omega),IntWalk.i64_in (0 - V) (by omega)]
    cases b
    · simp only [cond_false];unfold ak;congr 3;omega
    · simp only [cond_true];unfold ak;congr 3;omega
def bm (ds:List Int):Bool:=ds.all fun d=>decide (0≤d)&&decide (d<65536)
theorem bo {ds:List Int}:bm ds=true↔bu ds:=by
 unfold bm bu
 rw [List.all_eq_true]
 simp only [Bool.and_eq_true,decide_eq_true_eq]
def Mw (args:List SV) (rows:List Row):Option aL:=
 match args with
 |[.agg [.bool b,.slice id 1 off len none]]=>match rows[id]? with
  |some (.vec _ .u64 ds)=>some {ok:=bm ds&&(decide (off+len≤ds.length)&&decide (len≤9223372036854775807)),val:=.int .i64 (OJ b (ch (dY ds off) len 0)),rd:=[id]}
  |_=>none
 |_=>none
theorem Kb {args:List SV} {rows:List Row} {n:Nat} {e:aL} (h:Mw args rows=some e) (hok:e.ok=true):aN Tryz.prog 101 args (rows[·]?) n e:=by
 unfold Mw at h
 split at h
 · rename_i b id off len
   split at h
   · rename_i ro ds hrow
     cases h
     simp only [Bool.and_eq_true,decide_eq_true_eq,bo] at hok
     obtain ⟨h1,h2,h3⟩:=hok
     obtain ⟨rows',hc,_⟩:=aC ge aG Tryz.func101 (UT (b:=b) (bo.1 h1) h2 h3)
     refine eK hc rfl (σ:=[id]) rfl (fun i hi=>by simp [SV.idsL,SV.ids] at hi;subst hi;simp) (fun i row hr=>?_)
     match i with
     |0=>simp at hr;subst hr;exact ⟨.u64,ds,ro,rfl,hrow⟩
     |i+1=>simp at hr
   · cases h
 · cases h
noncomputable def Fh:bY:=⟨101,Mw,fun _ _ _ h hok=>Kb h hok,aq Tryz.func101 (by kernel_rfl)⟩
theorem eI:∀(k m:Nat),bu (aK k m)
 |0,_=>by unfold bu aK;simp
 | k+1,m=>by
  unfold aK
  cases m !=0
  · unfold bu;simp
  · have ih:=eI k (m/65536)
    intro d hd
    rcases List.mem_cons.1 hd with rfl |hd
    · omega
    · exact ih d hd
def aX:List Int→Int
 |[]=>0
 |d::l=>d+65536*aX l
theorem uU:∀(ds:List Int) (m i:Nat),m+i=ds.length→ch (dY ds 0) m i=aX (ds.drop i)
 |ds,0,i,h=>by rw [List.drop_eq_nil_of_le (by omega)];rfl
 |ds,m+1,i,h=>by
  have hi:i<ds.length:=by omega
  rw [List.drop_eq_getElem_cons hi]
  unfold ch aX
  rw [uU ds m (i+1) (by omega)]
  congr 1
  unfold dY
  rw [Nat.zero_add,List.getD_eq_getElem?_getD,List.getElem?_eq_getElem hi]
  rfl
theorem jn (ds:List Int):ch (dY ds 0) ds.length 0=aX ds:=by
 rw [uU ds ds.length 0 (by omega)]
 rfl
theorem g0:∀(k m:Nat),m<65536 ^ k→aX (aK k m)=m
 |0,m,h=>by simp at h;subst h;rfl
 | k+1,m,h=>by
  unfold aK
  by_cases h0:m=0
  · subst h0;rfl
  · rw [show (m !=0)=true by simpa using h0]
    simp only [cond_true]
    unfold aX
    rw [g0 k (m/65536) (by rw [Nat.pow_succ] at h;exact Nat.div_lt_of_lt_mul (by rw [Nat.mul_comm];exact h))]
    omega
noncomputable def Yz:List SV→List Row→Option aj:=bj wk (fun _ _=>none) 100 132 [0,0,1,1] (bg Tryz.f132 [0,0,1,1]) 21 1 [0,2,3]
def Gz (la:Nat) (n:Int):List SV:=[.slice 0 1 0 la none,.nils,.int .i64 n]
def qB (xs:List Int):List Row:=[.vec false .u64 xs]
theorem zS (xs:List Int) (la:Nat) (n:Int):Yz (Gz la n) (qB xs)=
 bif
 (decide (0≤IntKind.i64.wrap (n - 1))&&decide (IntKind.i64.wrap (n - 1)<(↑la:Int))&&(decide (0+(IntKind.i64.wrap (n - 1)).toNat<xs.length)&&true)&&true||
 decide (n>0) !=true)&&
 (true||decide (n>0)==true)&&
 true then
 bif bif decide (n>0)==true then xs.getD (0+(IntKind.i64.wrap (n - 1)).toNat) aA.u64.dflt==0 else false then
 some (SV.tuple [SV.nilp,SV.tuple [SV.slice 0 1 0 la none,SV.nils,.int .i64 (IntKind.i64.wrap (n - 1))]],[Row.vec false aA.u64 xs])
 else some (SV.tuple [SV.ptr 0 0 0 0,SV.tuple [SV.slice 0 1 0 la none,SV.nils,.int .i64 n]],[Row.vec false aA.u64 xs])
 else none:=by kernel_rfl
def d9 (xs:List Int):Nat→Nat
 |0=>0
 |k+1=>bif xs.getD (0+k) aA.u64.dflt==0 then d9 xs k else k+1
theorem dc (xs:List Int):∀k,d9 xs k≤k
 |0=>Nat.le_refl _
 |k+1=>by
  unfold d9
  have:=dc xs k
  cases xs.getD (0+k) aA.u64.dflt==0
  · exact Nat.le_refl _
  · simp only [cond_true];omega
theorem Gy {xs:List Int} {la:Nat} (hl:la≤xs.length) (h64:la≤9223372036854775807):∀(k:Nat),k≤la→aJ Yz (Gz la k) (qB xs) (.exit 0) (Gz la (d9 xs k:Nat)) (qB xs)
 |0,hk=>by
  refine .done ?_ (by simp)
  rw [zS]
  rfl
 | k+1,hk=>by
  have hro:=zS xs la ((k+1:Nat):Int)
  have e1:(((k+1:Nat):Int) - 1)=(k:Int):=by omega
  have e2:((k:Int)).toNat=k:=by omega
  rw [e1,IntWalk.i64_in (k:Int) (by omega),e2,decide_eq_true (show (0:Int)≤(k:Int) by omega),decide_eq_true (show (k:Int)<(la:Int) by omega),decide_eq_true (show 0+k<xs.length by omega),decide_eq_true (show ((k+1:Nat):Int)>0 by omega)] at hro
  simp only [Bool.and_true,Bool.true_or,cond_true,beq_self_eq_true] at hro
  unfold d9
  cases hc:xs.getD (0+k) aA.u64.dflt==0 with
  |true=>
   rw [hc,cond_true] at hro
   simp only [cond_true]
   exact .more hro (Gy hl h64 k (by omega))
  |false=>
   rw [hc,cond_false] at hro
   simp only [cond_false]
   exact .done hro (by simp)
noncomputable def U2 (v:List SV) (R:List Row) (k:Ex→List SV→List Row→Option aj):Option aj:=match v,R with
 | [.slice 0 1 0 la none,.nils,.int .i64 n],[.vec false .u64 xs]=>
     bif decide (n=(la:Int))&&(decide (la≤xs.length)&&decide (la≤9223372036854775807)) then k (.exit 0) (Gz la (d9 xs la:Nat)) (qB xs) else none
 |_,_=>none
theorem Nz:da 132 [0,0,1,1] (bG 21 [0,2,3] U2):=by
 intro b hat s K r h
 refine aQ (fuel:=100) ge ag hat (fun v R k r hr=>?_) h
 have hbody:=aZ Tryz.func132 hat
 subst hbody
 unfold U2 at hr
 split at hr
 · rename_i la n xs
   obtain ⟨hb,hr2⟩:=al hr
   simp only [Bool.and_eq_true,decide_eq_true_eq] at hb
   obtain ⟨h1,h3,h4⟩:=hb
   subst h1
   exact ⟨_,_,_,hr2,Gy h3 h4 la (Nat.le_refl _)⟩
 · cases hr
noncomputable def Tj:jh:=⟨_,_,_,Nz⟩
theorem Py (xs:List Int) (la:Nat):aH wk (aF [Tj]) 300 132 Tryz.f132 9 [.slice 0 1 0 la none] [.vec false .u64 xs]=
 bif decide ((↑la:Int)=(↑la:Int))&&(decide (la≤xs.length)&&decide (la≤9223372036854775807)) then
 bif decide (0≤(↑(d9 xs la):Int))&&decide ((↑(d9 xs la):Int)≤(↑(dm none la):Int)) then some (SV.slice 0 1 0 (↑(d9 xs la):Int).toNat none,[Row.vec false aA.u64 xs]) else none
 else none:=by kernel_rfl
theorem W9 {xs:List Int} {la:Nat} (h1:la≤xs.length) (h2:la≤9223372036854775807):aH wk (aF [Tj]) 300 132 Tryz.f132 9 [.slice 0 1 0 la none] [.vec false .u64 xs]=some (.slice 0 1 0 (d9 xs la) none,[.vec false .u64 xs]):=by
 have hn:=dc xs la
 rw [Py,decide_eq_true (show (la:Int)=(la:Int) from rfl),decide_eq_true h1,decide_eq_true h2,show dm none la=la from rfl,decide_eq_true (show (0:Int)≤((d9 xs la:Nat):Int) by omega),decide_eq_true (show ((d9 xs la:Nat):Int)≤((la:Nat):Int) by omega)]
 rfl
def Fq (args:List SV) (rows:List Row):Option aL:=
 match args with
 |[.slice id 1 0 la none]=>match rows[id]? with
  |some (.vec false .u64 xs)=>some {ok:=decide (la≤xs.length)&&decide (la≤9223372036854775807),val:=.slice id 1 0 (d9 xs la) none,rd:=[id],wr:=[(id,.vec false .u64 xs)]}
  |_=>none
 |_=>none
theorem yx {args:List SV} {rows:List Row} {e:aL} (h:Fq args rows=some e) (hok:e.ok=true):aN Tryz.prog 132 args (rows[·]?) rows.length e:=by
 unfold Fq at h
 split at h
 · rename_i id la
   split at h
   · rename_i xs hrow
     cases h
     simp only [Bool.and_eq_true,decide_eq_true_eq] at hok
     obtain ⟨h1,h2⟩:=hok
     obtain ⟨rows',hc,ht⟩:=aC ge aG Tryz.func132 (W9 (xs:=xs) h1 h2)
     have hr':rows'=[.vec false .u64 xs]:=by
      have hl:=congrArg List.length ht
      rw [List.length_take] at hl
      simp only [List.length_cons,List.length_nil] at hl
      rw [List.take_of_length_le (by omega)] at ht
      exact ht
     subst hr'
     have l1:=(List.getElem?_eq_some_iff.1 hrow).1
     refine lC hc (σ:=[id]) (n:=rows.length) (W:=[(id,.vec false .u64 xs)]) rfl ?_ ?_ ?_ ?_ ?_ ?_ ?_
     · simp
     · intro j hj
       simp at hj
       subst hj
       exact l1
     · intro i hi
       simp [SV.idsL,SV.ids] at hi
       subst hi
       simp
     · intro i row hr j hj
       match i,hr with
       |0,hr=>simp at hr;subst hr;simp [Row.idsR] at hj
       |i+1,hr=>simp at hr
     · intro i row hr
       match i,hr with
       |0,hr=>simp at hr;subst hr;exact ⟨_,hrow,fun h=>h,fun _ _ h=>h⟩
       |i+1,hr=>simp at hr
     · intro i row hr _
       match i,hr with
       |0,hr=>exact .inr ⟨_,rfl,List.mem_cons_self ..⟩
       |i+1,hr=>simp at hr
     · intro x hx
       simp only [List.mem_cons,List.not_mem_nil,or_false] at hx
       subst hx
       exact ⟨0,_,by simp,rfl,rfl⟩
   · cases h
 · cases h
noncomputable def RF:bY:=⟨132,Fq,fun _ _ _ h hok=>yx h hok,aq Tryz.func132 (by kernel_rfl)⟩
theorem Sr (ds:List Int) (off len:Nat) (i:Int):aH wk (fun _ _=>none) 300 142 Tryz.f142 0 [.slice 0 1 off len none,.int .i64 i] [.vec true .u64 ds]=
 bif decide (i<(↑len:Int)) then
 bif decide (0≤i)&&decide (i<(↑len:Int)) then bif decide (off+i.toNat<ds.length) then some (.int .u64 (ds.getD (off+i.toNat) aA.u64.dflt),[]) else none else none
 else some (.int .u64 0,[]):=by kernel_rfl
def kU (ds:List Int) (off len:Nat) (i:Int):Int:=bif decide (i<(len:Int)) then ds.getD (off+i.toNat) aA.u64.dflt else 0
theorem Vp {ds:List Int} {off len:Nat} {i:Int} (h0:decide (0≤i)=true) (hl:decide (off+len≤ds.length)=true):aH wk (fun _ _=>none) 300 142 Tryz.f142 0 [.slice 0 1 off len none,.int .i64 i] [.vec true .u64 ds]=some (.int .u64 (kU ds off len i),[]):=by
 rw [Sr,h0]
 unfold kU
 rw [decide_eq_true_eq] at h0 hl
 cases hc:decide (i<(len:Int)) with
 |true=>
  have:=of_decide_eq_true hc
  simp only [cond_true,Bool.true_and]
  rw [decide_eq_true (show off+i.toNat<ds.length by omega)]
  rfl
 |false=>rfl
def VS (args:List SV) (rows:List Row):Option aL:=
 match args with
 |[.slice id 1 off len none,.int .i64 i]=>match rows[id]? with
  |some (.vec _ .u64 ds)=>some {ok:=decide (0≤i)&&decide (off+len≤ds.length),val:=.int .u64 (kU ds off len i),rd:=[id]}
  |_=>none
 |_=>none
theorem QZ {args:List SV} {rows:List Row} {n:Nat} {e:aL} (h:VS args rows=some e) (hok:e.ok=true):aN Tryz.prog 142 args (rows[·]?) n e:=by
 unfold VS at h
 split at h
 · rename_i id off len i
   split at h
   · rename_i ro ds hrow
     cases h
     rw [Bool.and_eq_true] at hok
     obtain ⟨rows',hc,_⟩:=aC ge ag Tryz.func142 (Vp (ds:=ds) hok.1 hok.2)
     refine eK hc rfl (σ:=[id]) rfl (fun i hi=>by simp [SV.idsL,SV.ids] at hi;subst hi;simp) (fun i row hr=>?_)
     match i with
     |0=>simp at hr;subst hr;exact ⟨.u64,ds,ro,rfl,hrow⟩
     |i+1=>simp at hr
   · cases h
 · cases h
noncomputable def Oa:bY:=⟨142,VS,fun _ _ _ h hok=>QZ h hok,aq Tryz.func142 (by kernel_rfl)⟩
noncomputable def Z0:bS:=aV [] [Oa,RF]
theorem NU:bV Tryz.prog Z0:=aD (by kernel_rfl)
noncomputable def Q1:List SV→List Row→Option aj:=bj Z0 (fun _ _=>none) 100 124 [0,1,0,1,1,1] (bg Tryz.f124 [0,1,0,1,1,1]) 38 3 [0,1,4,5,6,7]
def n7 (oa la ob lb:Nat) (c i:Int):List SV:=[.slice 0 1 oa la none,.slice 1 1 ob lb none,.nils,.slice 2 1 0 0 (some 0),.int .u64 c,.int .i64 i]
def gT (oa la ob lb k:Nat) (c i:Int):List SV:=[.slice 0 1 oa la none,.slice 1 1 ob lb none,.nils,.slice 3 1 0 k none,.int .u64 c,.int .i64 i]
def mZ (xs ys:List Int):List Row:=[.vec true .u64 xs,.vec true .u64 ys,.vec false .u64 []]
def gR (xs ys ds:List Int):List Row:=[.vec true .u64 xs,.vec true .u64 ys,.gone,.vec false .u64 ds]
theorem Hq (xs ys:List Int) (oa la ob lb:Nat) (c i:Int):Q1 (n7 oa la ob lb c i) (mZ xs ys)=
 bif decide (i<IntKind.i64.wrap (max (↑la:Int) (↑lb:Int)+1)) then
 bif decide (0≤i)&&decide (oa+la≤xs.length) then
 bif decide (0≤i)&&decide (ob+lb≤ys.length) then
 some
 (SV.tuple
 [SV.nilp,
 SV.tuple
 [SV.slice 0 1 oa la none,SV.slice 1 1 ob lb none,SV.nils,SV.slice 3 aA.u64.st 0 (0+1) none,
 .int .u64 (IntKind.u64.wrap ((IntKind.u64.wrap (IntKind.u64.wrap (kU xs oa la i+kU ys ob lb i)+c)).tdiv 65536)),.int .i64 (IntKind.i64.wrap (i+1))]],
 [Row.vec true aA.u64 xs,Row.vec true aA.u64 ys,Row.gone,Row.vec false aA.u64 [(IntKind.u64.wrap (IntKind.u64.wrap (kU xs oa la i+kU ys ob lb i)+c)).tmod 65536]])
 else none
 else none
 else
 some
 (SV.tuple [SV.ptr 0 0 0 0,SV.tuple [SV.slice 0 1 oa la none,SV.slice 1 1 ob lb none,SV.nils,SV.slice 2 1 0 0 (some 0),.int .u64 c,.int .i64 i]],
 [Row.vec true aA.u64 xs,Row.vec true aA.u64 ys,Row.vec false aA.u64 []]):=by kernel_rfl
def x9 (k:Nat) (ds:List Int) (d:Int):Bool:=decide (0+1≤[d].length)&&((decide (0<k)||(none:Option Nat).isSome)&&(decide (k≤ds.length)&&(decide (k+1≤9223372036854775807)&&decide ((k+1)*8≤140737488355328))))
theorem ut (xs ys ds:List Int) (oa la ob lb k:Nat) (c i:Int):Q1 (gT oa la ob lb k c i) (gR xs ys ds)=
 bif decide (i<IntKind.i64.wrap (max (la:Int) (lb:Int)+1)) then
  bif decide (0≤i)&&decide (oa+la≤xs.length) then
   bif decide (0≤i)&&decide (ob+lb≤ys.length) then
    bif x9 k ds ((IntKind.u64.wrap (IntKind.u64.wrap (kU xs oa la i+kU ys ob lb i)+c)).tmod 65536) then
     some (.tuple [.nilp,.tuple (gT oa la ob lb (k+1) (IntKind.u64.wrap ((IntKind.u64.wrap (IntKind.u64.wrap (kU xs oa la i+kU ys ob lb i)+c)).tdiv 65536)) (IntKind.i64.wrap (i+1)))],
      gR xs ys (ds.take k++[(IntKind.u64.wrap (IntKind.u64.wrap (kU xs oa la i+kU ys ob lb i)+c)).tmod 65536]))
    else none
   else none
  else none
 else some (.tuple [.ptr 0 0 0 0,.tuple (gT oa la ob lb k c i)],gR xs ys ds):=by kernel_rfl
theorem vm {k:Nat} {ds:List Int} {d:Int} (h:k=ds.length) (h1:0<k) (h2:k≤10000):x9 k ds d=true:=by
 unfold x9
 simp only [Bool.and_eq_true,Bool.or_eq_true,decide_eq_true_eq]
 exact ⟨by simp,.inl h1,by omega,by omega,by omega⟩
def gW (f g:Nat→Int):Nat→Nat→Int→List Int
 |0,_,_=>[]
 |k+1,i,c=>(f i+g i+c)%65536::gW f g k (i+1) ((f i+g i+c)/65536)
def rD (f g:Nat→Int):Nat→Nat→Int→Int
 |0,_,c=>c
 |k+1,i,c=>rD f g k (i+1) ((f i+g i+c)/65536)
def cT (ds:List Int) (off len:Nat) (i:Nat):Int:=kU ds off len i
theorem lK {ds:List Int} (h:bu ds) (off len i:Nat):0≤cT ds off len i∧cT ds off len i<65536:=by
 unfold cT kU
 cases decide ((i:Int)<(len:Int))
 · simp
 · exact f7 h off ((i:Int)).toNat
section
variable {xs ys:List Int} {oa la ob lb:Nat}
theorem Gs (hx:bu xs) (hy:bu ys) {i:Nat} {c:Int} (hc:0≤c∧c≤1):
    (IntKind.u64.wrap (IntKind.u64.wrap (kU xs oa la i+kU ys ob lb i)+c)).tmod 65536=(cT xs oa la i+cT ys ob lb i+c)%65536∧
    IntKind.u64.wrap ((IntKind.u64.wrap (IntKind.u64.wrap (kU xs oa la i+kU ys ob lb i)+c)).tdiv 65536)=(cT xs oa la i+cT ys ob lb i+c)/65536∧0≤(cT xs oa la i+cT ys ob lb i+c)/65536∧(cT xs oa la i+cT ys ob lb i+c)/65536≤1:=by
 have h1:=lK hx oa la i
 have h2:=lK hy ob lb i
 rw [show kU xs oa la i=cT xs oa la i from rfl,show kU ys ob lb i=cT ys ob lb i from rfl]
 generalize cT xs oa la i=A at h1 ⊢
 generalize cT ys ob lb i=B at h2 ⊢
 rw [eW (a:=A+B) (by omega) (by omega),eW (a:=A+B+c) (by omega) (by omega),Int.tmod_eq_emod_of_nonneg (by omega),Int.tdiv_eq_ediv_of_nonneg (by omega),eW (by omega) (by omega)]
 exact ⟨rfl,rfl,by omega,by omega⟩
theorem zr (hx:bu xs) (hy:bu ys) (ha:oa+la≤xs.length) (hb:ob+lb≤ys.length) {M:Nat} (hM:M=max la lb+1) (hM2:M≤1000):∀(k i:Nat) (c:Int) (ds:List Int),ds.length=i→0<i→i+k=M→0≤c∧c≤1→
    aJ Q1 (gT oa la ob lb i c i) (gR xs ys ds) (.exit 0) (gT oa la ob lb M (rD (cT xs oa la) (cT ys ob lb) k i c) M) (gR xs ys (ds++gW (cT xs oa la) (cT ys ob lb) k i c))
 |0,i,c,ds,h1,h2,h3,h4=>by
  obtain rfl:i=M:=by omega
  refine .done ?_ (by simp)
  rw [ut,IntWalk.i64_in (max (la:Int) (lb:Int)+1) (by omega),decide_eq_false (by omega),cond_false]
  simp only [gW,List.append_nil]
  rfl
 |k+1,i,c,ds,h1,h2,h3,h4=>by
  obtain ⟨e1,e2,e3,e4⟩:=Gs (oa:=oa) (la:=la) (ob:=ob) (lb:=lb) (i:=i) hx hy h4
  have hro:=ut xs ys ds oa la ob lb i c i
  rw [IntWalk.i64_in (max (la:Int) (lb:Int)+1) (by omega),decide_eq_true (show (i:Int)<max (la:Int) (lb:Int)+1 by omega),decide_eq_true (show (0:Int)≤(i:Int) by omega),decide_eq_true ha,decide_eq_true hb,vm h1.symm h2 (by omega),e1,e2,IntWalk.i64_in ((i:Int)+1) (by omega)] at hro
  simp only [Bool.and_self,cond_true] at hro
  have et:ds.take i=ds:=by rw [←h1];exact List.take_length
  rw [et] at hro
  have ih:=zr hx hy ha hb hM hM2 k (i+1) ((cT xs oa la i+cT ys ob lb i+c)/65536) (ds++[(cT xs oa la i+cT ys ob lb i+c)%65536]) (by simp [h1]) (by omega) (by omega) ⟨e3,e4⟩
  rw [List.append_assoc,List.singleton_append] at ih
  exact .more hro ih
theorem P0 (hx:bu xs) (hy:bu ys) (ha:oa+la≤xs.length) (hb:ob+lb≤ys.length) {M:Nat} (hM:M=max la lb+1) (hM2:M≤1000):
    aJ Q1 (n7 oa la ob lb 0 0) (mZ xs ys) (.exit 0) (gT oa la ob lb M (rD (cT xs oa la) (cT ys ob lb) M 0 0) M) (gR xs ys (gW (cT xs oa la) (cT ys ob lb) M 0 0)):=by
 obtain ⟨e1,e2,e3,e4⟩:=Gs (oa:=oa) (la:=la) (ob:=ob) (lb:=lb) (i:=0) (c:=0) hx hy (by omega)
 have hro:=Hq xs ys oa la ob lb 0 0
 rw [IntWalk.i64_in (max (la:Int) (lb:Int)+1) (by omega),decide_eq_true (show (0:Int)<max (la:Int) (lb:Int)+1 by omega),decide_eq_true (show (0:Int)≤0 by omega),decide_eq_true ha,decide_eq_true hb] at hro
 simp only [Bool.and_self,cond_true] at hro
 rw [show ((0:Nat):Int)=0 from rfl] at e1 e2
 rw [e1,e2] at hro
 obtain ⟨k,rfl⟩:∃k,M=k+1:=⟨M - 1,by omega⟩
 have ih:=zr hx hy ha hb hM hM2 k 1 ((cT xs oa la 0+cT ys ob lb 0+0)/65536) [(cT xs oa la 0+cT ys ob lb 0+0)%65536] rfl (by omega) (by omega) ⟨e3,e4⟩
 rw [List.singleton_append] at ih
 exact .more hro ih
end
noncomputable def TA (v:List SV) (R:List Row) (k:Ex→List SV→List Row→Option aj):Option aj:=match v,R with
 | [.slice 0 1 oa la none,.slice 1 1 ob lb none,.nils,.slice 2 1 0 0 (some 0),.int .u64 c,.int .i64 i],[.vec true .u64 xs,.vec true .u64 ys,.vec false .u64 zs]=>
     bif (decide (c=0)&&(decide (i=0)&&zs.isEmpty))&&((bm xs&&bm ys)&&((decide (oa+la≤xs.length)&&decide (ob+lb≤ys.length))&&decide (max la lb+1≤1000))) then
      k (.exit 0) (gT oa la ob lb (max la lb+1) (rD (cT xs oa la) (cT ys ob lb) (max la lb+1) 0 0) (max la lb+1:Nat)) (gR xs ys (gW (cT xs oa la) (cT ys ob lb) (max la lb+1) 0 0)) else none
 |_,_=>none
theorem NP:da 124 [0,1,0,1,1,1] (bG 38 [0,1,4,5,6,7] TA):=by
 intro b hat s K r h
 refine aQ (fuel:=100) NU ag hat (fun v R k r hr=>?_) h
 have hbody:=aZ Tryz.func124 hat
 subst hbody
 unfold TA at hr
 split at hr
 · rename_i oa la ob lb c i xs ys zs
   obtain ⟨hb,hr2⟩:=al hr
   simp only [Bool.and_eq_true,decide_eq_true_eq] at hb
   obtain ⟨⟨h1,h2,h3⟩,⟨h4,h5⟩,⟨h6,h7⟩,h8⟩:=hb
   subst h1 h2
   rcases zs with _|⟨z,zs⟩
   · exact ⟨_,_,_,hr2,P0 (bo.1 h4) (bo.1 h5) h6 h7 rfl h8⟩
   · cases h3
 · cases hr
noncomputable def TT:jh:=⟨_,_,_,NP⟩
def lB (xs ys:List Int) (oa la ob lb:Nat):List Int:=gW (cT xs oa la) (cT ys ob lb) (max la lb+1) 0 0
theorem PP (xs ys:List Int) (oa la ob lb:Nat):aH Z0 (aF [TT]) 300 124 Tryz.f124 9 [.slice 0 1 oa la none,.slice 1 1 ob lb none] [.vec true .u64 xs,.vec true .u64 ys]=
 bif (bm xs&&bm ys)&&((decide (oa+la≤xs.length)&&decide (ob+lb≤ys.length))&&decide (max la lb+1≤1000)) then
  bif decide (max la lb+1≤(lB xs ys oa la ob lb).length)&&decide (max la lb+1≤9223372036854775807) then
   some (.slice 3 1 0 (d9 (lB xs ys oa la ob lb) (max la lb+1)) none,[.vec true .u64 xs,.vec true .u64 ys,.gone,.vec false .u64 (lB xs ys oa la ob lb)])
  else none
 else none:=by kernel_rfl
theorem jS (f g:Nat→Int):∀(k i:Nat) (c:Int),(gW f g k i c).length=k
 |0,_,_=>rfl
 |k+1,i,c=>by unfold gW;rw [List.length_cons,jS]
def l7 (xs ys:List Int) (oa la ob lb:Nat):List Int:=(lB xs ys oa la ob lb).take (d9 (lB xs ys oa la ob lb) (max la lb+1))
theorem nM (xs ys:List Int) (oa la ob lb:Nat):(l7 xs ys oa la ob lb).length=d9 (lB xs ys oa la ob lb) (max la lb+1):=by
 unfold l7
 rw [List.length_take,show (lB xs ys oa la ob lb).length=max la lb+1 from jS _ _ _ _ _]
 have:=dc (lB xs ys oa la ob lb) (max la lb+1)
 omega
theorem KK (xs ys:List Int) (oa la ob lb:Nat) {i:Nat} (hi:i<(l7 xs ys oa la ob lb).length):(lB xs ys oa la ob lb)[0+i]? =(l7 xs ys oa la ob lb)[i]? :=by
 rw [Nat.zero_add]
 rw [nM] at hi
 unfold l7
 rw [List.getElem?_take,if_pos hi]
theorem Vj {xs ys:List Int} {oa la ob lb:Nat} (hx:bm xs=true) (hy:bm ys=true) (ha:oa+la≤xs.length) (hb:ob+lb≤ys.length) (hM:max la lb+1≤1000):
    aH Z0 (aF [TT]) 300 124 Tryz.f124 9 [.slice 0 1 oa la none,.slice 1 1 ob lb none] [.vec true .u64 xs,.vec true .u64 ys]=
     some (.slice 3 1 0 (l7 xs ys oa la ob lb).length none,[.vec true .u64 xs,.vec true .u64 ys,.gone,.vec false .u64 (lB xs ys oa la ob lb)]):=by
 rw [PP,hx,hy,decide_eq_true ha,decide_eq_true hb,decide_eq_true hM,nM,show (lB xs ys oa la ob lb).length=max la lb+1 from jS _ _ _ _ _,decide_eq_true (Nat.le_refl _),decide_eq_true (show max la lb+1≤9223372036854775807 by omega)]
 rfl
def Ln (args:List SV) (rows:List Row):Option aL:=
 match args with
 |[.slice ia 1 oa la none,.slice ib 1 ob lb none]=>match rows[ia]?,rows[ib]? with
  |some (.vec _ .u64 xs),some (.vec _ .u64 ys)=>some {ok:=(bm xs&&bm ys)&&((decide (oa+la≤xs.length)&&decide (ob+lb≤ys.length))&&decide (max la lb+1≤1000)),val:=.slice rows.length 1 0 (l7 xs ys oa la ob lb).length none,rd:=[ia,ib],nw:=[.vec true .u64 (l7 xs ys oa la ob lb)]}
  |_,_=>none
 |_=>none
theorem KO {args:List SV} {rows:List Row} {e:aL} (h:Ln args rows=some e) (hok:e.ok=true):aN Tryz.prog 124 args (rows[·]?) rows.length e:=by
 unfold Ln at h
 split at h
 · rename_i ia oa la ib ob lb
   split at h
   · rename_i ra xs rb ys hxr hyr
     cases h
     simp only [Bool.and_eq_true,decide_eq_true_eq] at hok
     obtain ⟨⟨h1,h2⟩,⟨h3,h4⟩,h5⟩:=hok
     obtain ⟨rows',hc,ht⟩:=aC NU aG Tryz.func124 (Vj (xs:=xs) (ys:=ys) h1 h2 h3 h4 h5)
     refine dS (C:=fun s=>s) (s0:=.slice 3 1 0 (l7 xs ys oa la ob lb).length none) (ds:=l7 xs ys oa la ob lb) hc nL (σ:=[ia,ib]) rfl (fun i hi=>by simp [SV.idsL,SV.ids] at hi;rcases hi with rfl |rfl<;>simp) (fun i row hr=>?_) (.inr ⟨3,0,none,false,lB xs ys oa la ob lb,rfl,by simp,by rw [dv ht (by omega)];rfl,fun i hi=>?_⟩)
     · match i with
       |0=>simp at hr;subst hr;exact ⟨.u64,xs,ra,rfl,hxr⟩
       |1=>simp at hr;subst hr;exact ⟨.u64,ys,rb,rfl,hyr⟩
       |i+2=>simp at hr
     · exact KK xs ys oa la ob lb hi
   · cases h
 · cases h
noncomputable def Se:bY:=⟨124,Ln,fun _ _ _ h hok=>KO h hok,aq Tryz.func124 (by kernel_rfl)⟩
theorem H3:aH wk (fun _ _=>none) 300 132 Tryz.f132 9 [.slice 0 1 0 0 (some 0)] [.vec false .u64 []]=some (.slice 0 1 0 0 (some 0),[.vec false .u64 []]):=by kernel_rfl
def Oe (args:List SV) (rows:List Row):Option aL:=
 match args with
 |[.slice id 1 0 la (some c)]=>bif Nat.beq la 0&&Nat.beq c 0 then (match rows[id]? with
  |some (.vec false .u64 [])=>some {val:=.slice id 1 0 0 (some 0),rd:=[id],wr:=[(id,.vec false .u64 [])]}
  |_=>none) else none
 |_=>Fq args rows
theorem P9 {args:List SV} {rows:List Row} {e:aL} (h:Oe args rows=some e) (hok:e.ok=true):aN Tryz.prog 132 args (rows[·]?) rows.length e:=by
 unfold Oe at h
 split at h
 · rename_i id la c
   obtain ⟨hb,h⟩:=al h
   rw [Bool.and_eq_true] at hb
   have hb1:=Nat.eq_of_beq_eq_true hb.1
   have hb2:=Nat.eq_of_beq_eq_true hb.2
   subst hb1 hb2
   split at h
   · rename_i hrow
     cases h
     obtain ⟨rows',hc,ht⟩:=aC ge ag Tryz.func132 H3
     have hr':rows'=[.vec false .u64 []]:=by
      have hl:=congrArg List.length ht
      rw [List.length_take] at hl
      simp only [List.length_cons,List.length_nil] at hl
      rw [List.take_of_length_le (by omega)] at ht
      exact ht
     subst hr'
     have l1:=(List.getElem?_eq_some_iff.1 hrow).1
     refine lC hc (σ:=[id]) (n:=rows.length) (W:=[(id,.vec false .u64 [])]) rfl ?_ ?_ ?_ ?_ ?_ ?_ ?_
     · simp
     · intro j hj
       simp at hj
       subst hj
       exact l1
     · intro i hi
       simp [SV.idsL,SV.ids] at hi
       subst hi
       simp
     · intro i row hr j hj
       match i,hr with
       |0,hr=>simp at hr;subst hr;simp [Row.idsR] at hj
       |i+1,hr=>simp at hr
     · intro i row hr
       match i,hr with
       |0,hr=>simp at hr;subst hr;exact ⟨_,hrow,fun h=>h,fun _ _ h=>h⟩
       |i+1,hr=>simp at hr
     · intro i row hr _
       match i,hr with
       |0,hr=>exact .inr ⟨_,rfl,List.mem_cons_self ..⟩
       |i+1,hr=>simp at hr
     · intro x hx
       simp only [List.mem_cons,List.not_mem_nil,or_false] at hx
       subst hx
       exact ⟨0,_,by simp,rfl,rfl⟩
   · cases h
 · exact yx h hok
noncomputable def Ro:bY:=⟨132,Oe,fun _ _ _ h hok=>P9 h hok,aq Tryz.func132 (by kernel_rfl)⟩
noncomputable def Yv:bS:=aV [] [Oa,Ro]
theorem CX:bV Tryz.prog Yv:=aD (by kernel_rfl)
noncomputable def JI:List SV→List Row→Option aj:=bj Yv (fun _ _=>none) 100 126 [0,1,0,1,1,1] (bg Tryz.f126 [0,1,0,1,1,1]) 36 3 [0,1,4,5,6,7]
theorem vw (xs ys:List Int) (oa la ob lb:Nat) (c i:Int):JI (n7 oa la ob lb c i) (mZ xs ys)=
 bif decide (i<(↑la:Int)) then
 bif decide (0≤i)&&decide (oa+la≤xs.length) then
 bif decide (0≤i)&&decide (ob+lb≤ys.length) then
 some
 (SV.tuple
 [SV.nilp,
 SV.tuple
 [SV.slice 0 1 oa la none,SV.slice 1 1 ob lb none,SV.nils,SV.slice 3 aA.u64.st 0 (0+1) none,
 .int .u64 (IntKind.u64.wrap (1 - IntKind.u64.wrap ((IntKind.u64.wrap (IntKind.u64.wrap (IntKind.u64.wrap (kU xs oa la i+65536) - kU ys ob lb i) - c)).tdiv 65536))),
 .int .i64 (IntKind.i64.wrap (i+1))]],
 [Row.vec true aA.u64 xs,Row.vec true aA.u64 ys,Row.gone,
 Row.vec false aA.u64 [(IntKind.u64.wrap (IntKind.u64.wrap (IntKind.u64.wrap (kU xs oa la i+65536) - kU ys ob lb i) - c)).tmod 65536]])
 else none
 else none
 else
 some
 (SV.tuple [SV.ptr 0 0 0 0,SV.tuple [SV.slice 0 1 oa la none,SV.slice 1 1 ob lb none,SV.nils,SV.slice 2 1 0 0 (some 0),.int .u64 c,.int .i64 i]],
 [Row.vec true aA.u64 xs,Row.vec true aA.u64 ys,Row.vec false aA.u64 []]):=by kernel_rfl
theorem vu (xs ys ds:List Int) (oa la ob lb k:Nat) (c i:Int):JI (gT oa la ob lb k c i) (gR xs ys ds)=
 bif decide (i<(la:Int)) then
  bif decide (0≤i)&&decide (oa+la≤xs.length) then
   bif decide (0≤i)&&decide (ob+lb≤ys.length) then
    bif x9 k ds ((IntKind.u64.wrap (IntKind.u64.wrap (IntKind.u64.wrap (kU xs oa la i+65536) - kU ys ob lb i) - c)).tmod 65536) then
     some (.tuple [.nilp,.tuple (gT oa la ob lb (k+1) (IntKind.u64.wrap (1 - IntKind.u64.wrap ((IntKind.u64.wrap (IntKind.u64.wrap (IntKind.u64.wrap (kU xs oa la i+65536) - kU ys ob lb i) - c)).tdiv 65536))) (IntKind.i64.wrap (i+1)))],
      gR xs ys (ds.take k++[(IntKind.u64.wrap (IntKind.u64.wrap (IntKind.u64.wrap (kU xs oa la i+65536) - kU ys ob lb i) - c)).tmod 65536]))
    else none
   else none
  else none
 else some (.tuple [.ptr 0 0 0 0,.tuple (gT oa la ob lb k c i)],gR xs ys ds):=by kernel_rfl
def dO (f g:Nat→Int):Nat→Nat→Int→List Int
 |0,_,_=>[]
 |k+1,i,c=>(f i+65536 - g i - c)%65536::dO f g k (i+1) (1 - (f i+65536 - g i - c)/65536)
def kQ (f g:Nat→Int):Nat→Nat→Int→Int
 |0,_,c=>c
 |k+1,i,c=>kQ f g k (i+1) (1 - (f i+65536 - g i - c)/65536)
section
variable {xs ys:List Int} {oa la ob lb:Nat}
theorem F3 (hx:bu xs) (hy:bu ys) {i:Nat} {c:Int} (hc:0≤c∧c≤1):
    (IntKind.u64.wrap (IntKind.u64.wrap (IntKind.u64.wrap (kU xs oa la i+65536) - kU ys ob lb i) - c)).tmod 65536=(cT xs oa la i+65536 - cT ys ob lb i - c)%65536∧
    IntKind.u64.wrap (1 - IntKind.u64.wrap ((IntKind.u64.wrap (IntKind.u64.wrap (IntKind.u64.wrap (kU xs oa la i+65536) - kU ys ob lb i) - c)).tdiv 65536))=1 - (cT xs oa la i+65536 - cT ys ob lb i - c)/65536∧0≤1 - (cT xs oa la i+65536 - cT ys ob lb i - c)/65536∧1 - (cT xs oa la i+65536 - cT ys ob lb i - c)/65536≤1:=by
 have h1:=lK hx oa la i
 have h2:=lK hy ob lb i
 rw [show kU xs oa la i=cT xs oa la i from rfl,show kU ys ob lb i=cT ys ob lb i from rfl]
 generalize cT xs oa la i=A at h1 ⊢
 generalize cT ys ob lb i=B at h2 ⊢
 rw [eW (a:=A+65536) (by omega) (by omega),eW (a:=A+65536 - B) (by omega) (by omega),eW (a:=A+65536 - B - c) (by omega) (by omega),Int.tmod_eq_emod_of_nonneg (by omega),Int.tdiv_eq_ediv_of_nonneg (by omega),eW (a:=(A+65536 - B - c)/65536) (by omega) (by omega),eW (by omega) (by omega)]
 exact ⟨rfl,rfl,by omega,by omega⟩
theorem zx (hx:bu xs) (hy:bu ys) (ha:oa+la≤xs.length) (hb:ob+lb≤ys.length) (hM2:la≤1000):∀(k i:Nat) (c:Int) (ds:List Int),ds.length=i→0<i→i+k=la→0≤c∧c≤1→
    aJ JI (gT oa la ob lb i c i) (gR xs ys ds) (.exit 0) (gT oa la ob lb la (kQ (cT xs oa la) (cT ys ob lb) k i c) la) (gR xs ys (ds++dO (cT xs oa la) (cT ys ob lb) k i c))
 |0,i,c,ds,h1,h2,h3,h4=>by
  obtain rfl:i=la:=by omega
  refine .done ?_ (by simp)
  rw [vu,decide_eq_false (by omega),cond_false]
  simp only [dO,List.append_nil]
  rfl
 |k+1,i,c,ds,h1,h2,h3,h4=>by
  obtain ⟨e1,e2,e3,e4⟩:=F3 (oa:=oa) (la:=la) (ob:=ob) (lb:=lb) (i:=i) hx hy h4
  have hro:=vu xs ys ds oa la ob lb i c i
  rw [decide_eq_true (show (i:Int)<(la:Int) by omega),decide_eq_true (show (0:Int)≤(i:Int) by omega),decide_eq_true ha,decide_eq_true hb,vm h1.symm h2 (by omega),e1,e2,IntWalk.i64_in ((i:Int)+1) (by omega)] at hro
  simp only [Bool.and_self,cond_true] at hro
  have et:ds.take i=ds:=by rw [←h1];exact List.take_length
  rw [et] at hro
  have ih:=zx hx hy ha hb hM2 k (i+1) (1 - (cT xs oa la i+65536 - cT ys ob lb i - c)/65536) (ds++[(cT xs oa la i+65536 - cT ys ob lb i - c)%65536]) (by simp [h1]) (by omega) (by omega) ⟨e3,e4⟩
  rw [List.append_assoc,List.singleton_append] at ih
  exact .more hro ih
theorem Nv (hx:bu xs) (hy:bu ys) (ha:oa+la≤xs.length) (hb:ob+lb≤ys.length) (h0:0<la) (hM2:la≤1000):
    aJ JI (n7 oa la ob lb 0 0) (mZ xs ys) (.exit 0) (gT oa la ob lb la (kQ (cT xs oa la) (cT ys ob lb) la 0 0) la) (gR xs ys (dO (cT xs oa la) (cT ys ob lb) la 0 0)):=by
 obtain ⟨e1,e2,e3,e4⟩:=F3 (oa:=oa) (la:=la) (ob:=ob) (lb:=lb) (i:=0) (c:=0) hx hy (by omega)
 have hro:=vw xs ys oa la ob lb 0 0
 rw [decide_eq_true (show (0:Int)<(la:Int) by omega),decide_eq_true (show (0:Int)≤0 by omega),decide_eq_true ha,decide_eq_true hb] at hro
 simp only [Bool.and_self,cond_true] at hro
 rw [show ((0:Nat):Int)=0 from rfl] at e1 e2
 rw [e1,e2] at hro
 have key:∀k,la=k+1→aJ JI (gT oa la ob lb 1 (1 - (cT xs oa la 0+65536 - cT ys ob lb 0 - 0)/65536) 1) (gR xs ys [(cT xs oa la 0+65536 - cT ys ob lb 0 - 0)%65536]) (.exit 0) (gT oa la ob lb la (kQ (cT xs oa la) (cT ys ob lb) (k+1) 0 0) la) (gR xs ys (dO (cT xs oa la) (cT ys ob lb) (k+1) 0 0)):=by
  intro k hk
  have ih:=zx hx hy ha hb hM2 k 1 (1 - (cT xs oa la 0+65536 - cT ys ob lb 0 - 0)/65536) [(cT xs oa la 0+65536 - cT ys ob lb 0 - 0)%65536] rfl (by omega) (by omega) ⟨e3,e4⟩
  rw [List.singleton_append] at ih
  exact ih
 have h:=key (la - 1) (by omega)
 rw [show la - 1+1=la by omega] at h
 exact .more hro h
theorem P5:aJ JI (n7 oa 0 ob lb 0 0) (mZ xs ys) (.exit 0) (n7 oa 0 ob lb 0 0) (mZ xs ys):=by
 refine .done ?_ (by simp)
 rw [vw,decide_eq_false (by omega),cond_false]
 rfl
end
noncomputable def TE (v:List SV) (R:List Row) (k:Ex→List SV→List Row→Option aj):Option aj:=match v,R with
 | [.slice 0 1 oa la none,.slice 1 1 ob lb none,.nils,.slice 2 1 0 0 (some 0),.int .u64 c,.int .i64 i],[.vec true .u64 xs,.vec true .u64 ys,.vec false .u64 zs]=>
     bif (decide (c=0)&&(decide (i=0)&&zs.isEmpty))&&((bm xs&&bm ys)&&((decide (oa+la≤xs.length)&&decide (ob+lb≤ys.length))&&decide (la≤1000))) then
      (bif Nat.beq la 0 then k (.exit 0) (n7 oa 0 ob lb 0 0) (mZ xs ys)
      else k (.exit 0) (gT oa la ob lb la (kQ (cT xs oa la) (cT ys ob lb) la 0 0) la) (gR xs ys (dO (cT xs oa la) (cT ys ob lb) la 0 0))) else none
 |_,_=>none
theorem KA:da 126 [0,1,0,1,1,1] (bG 36 [0,1,4,5,6,7] TE):=by
 intro b hat s K r h
 refine aQ (fuel:=100) CX ag hat (fun v R k r hr=>?_) h
 have hbody:=aZ Tryz.func126 hat
 subst hbody
 unfold TE at hr
 split at hr
 · rename_i oa la ob lb c i xs ys zs
   obtain ⟨hb,hr2⟩:=al hr
   simp only [Bool.and_eq_true,decide_eq_true_eq] at hb
   obtain ⟨⟨h1,h2,h3⟩,⟨h4,h5⟩,⟨h6,h7⟩,h8⟩:=hb
   subst h1 h2
   rcases zs with _|⟨z,zs⟩
   · cases h0:Nat.beq la 0 with
     |true=>
      rw [h0,cond_true] at hr2
      have hl:=Nat.eq_of_beq_eq_true h0
      subst hl
      exact ⟨_,_,_,hr2,P5⟩
     |false=>
      rw [h0,cond_false] at hr2
      have hl:=Nat.ne_of_beq_eq_false h0
      exact ⟨_,_,_,hr2,Nv (bo.1 h4) (bo.1 h5) h6 h7 (by omega) h8⟩
   · cases h3
 · cases hr
noncomputable def Pj:jh:=⟨_,_,_,KA⟩
def fp (xs ys:List Int) (oa la ob lb:Nat):List Int:=dO (cT xs oa la) (cT ys ob lb) la 0 0
theorem F4 (xs ys:List Int) (oa la ob lb:Nat):aH Yv (aF [Pj]) 300 126 Tryz.f126 9 [.slice 0 1 oa la none,.slice 1 1 ob lb none] [.vec true .u64 xs,.vec true .u64 ys]=
 bif (bm xs&&bm ys)&&((decide (oa+la≤xs.length)&&decide (ob+lb≤ys.length))&&decide (la≤1000)) then
  bif Nat.beq la 0 then some (.slice 2 1 0 0 (some 0),[.vec true .u64 xs,.vec true .u64 ys,.vec false .u64 []])
  else
   bif decide (la≤(fp xs ys oa la ob lb).length)&&decide (la≤9223372036854775807) then
    some (.slice 3 1 0 (d9 (fp xs ys oa la ob lb) la) none,[.vec true .u64 xs,.vec true .u64 ys,.gone,.vec false .u64 (fp xs ys oa la ob lb)])
   else none
 else none:=by kernel_rfl
theorem iN (f g:Nat→Int):∀(k i:Nat) (c:Int),(dO f g k i c).length=k
 |0,_,_=>rfl
 |k+1,i,c=>by unfold dO;rw [List.length_cons,iN]
def fq (xs ys:List Int) (oa la ob lb:Nat):List Int:=(fp xs ys oa la ob lb).take (d9 (fp xs ys oa la ob lb) la)
theorem jF (xs ys:List Int) (oa la ob lb:Nat):(fq xs ys oa la ob lb).length=d9 (fp xs ys oa la ob lb) la:=by
 unfold fq
 rw [List.length_take,show (fp xs ys oa la ob lb).length=la from iN _ _ _ _ _]
 have:=dc (fp xs ys oa la ob lb) la
 omega
theorem Ja (xs ys:List Int) (oa la ob lb:Nat) {i:Nat} (hi:i<(fq xs ys oa la ob lb).length):(fp xs ys oa la ob lb)[0+i]? =(fq xs ys oa la ob lb)[i]? :=by
 rw [Nat.zero_add]
 rw [jF] at hi
 unfold fq
 rw [List.getElem?_take,if_pos hi]
theorem Wp {xs ys:List Int} {oa la ob lb:Nat} (hx:bm xs=true) (hy:bm ys=true) (ha:oa+la≤xs.length) (hb:ob+lb≤ys.length) (hM:la≤1000) (h0:Nat.beq la 0=false):
    aH Yv (aF [Pj]) 300 126 Tryz.f126 9 [.slice 0 1 oa la none,.slice 1 1 ob lb none] [.vec true .u64 xs,.vec true .u64 ys]=
     some (.slice 3 1 0 (fq xs ys oa la ob lb).length none,[.vec true .u64 xs,.vec true .u64 ys,.gone,.vec false .u64 (fp xs ys oa la ob lb)]):=by
 rw [F4,hx,hy,decide_eq_true ha,decide_eq_true hb,decide_eq_true hM,h0,jF,show (fp xs ys oa la ob lb).length=la from iN _ _ _ _ _,decide_eq_true (Nat.le_refl _),decide_eq_true (show la≤9223372036854775807 by omega)]
 rfl
theorem Rp {xs ys:List Int} {oa ob lb:Nat} (hx:bm xs=true) (hy:bm ys=true) (ha:oa+0≤xs.length) (hb:ob+lb≤ys.length):
    aH Yv (aF [Pj]) 300 126 Tryz.f126 9 [.slice 0 1 oa 0 none,.slice 1 1 ob lb none] [.vec true .u64 xs,.vec true .u64 ys]=
     some (.slice 2 1 0 0 (some 0),[.vec true .u64 xs,.vec true .u64 ys,.vec false .u64 []]):=by
 rw [F4,hx,hy,decide_eq_true ha,decide_eq_true hb]
 rfl
def EO (args:List SV) (rows:List Row):Option aL:=
 match args with
 |[.slice ia 1 oa la none,.slice ib 1 ob lb none]=>match rows[ia]?,rows[ib]? with
  |some (.vec _ .u64 xs),some (.vec _ .u64 ys)=>some {ok:=(bm xs&&bm ys)&&((decide (oa+la≤xs.length)&&decide (ob+lb≤ys.length))&&decide (la≤1000)),val:=.slice rows.length 1 0 (fq xs ys oa la ob lb).length none,rd:=[ia,ib],nw:=[.vec true .u64 (fq xs ys oa la ob lb)]}
  |_,_=>none
 |_=>none
theorem J4 {args:List SV} {rows:List Row} {e:aL} (h:EO args rows=some e) (hok:e.ok=true):aN Tryz.prog 126 args (rows[·]?) rows.length e:=by
 unfold EO at h
 split at h
 · rename_i ia oa la ib ob lb
   split at h
   · rename_i ra xs rb ys hxr hyr
     cases h
     simp only [Bool.and_eq_true,decide_eq_true_eq] at hok
     obtain ⟨⟨h1,h2⟩,⟨h3,h4⟩,h5⟩:=hok
     have hm:∀(i:Nat) (row:Row),([.vec true .u64 xs,.vec true .u64 ys]:List Row)[i]? =some row→∃(k:aA) (zs:List k.T) (ro:Bool),row=.vec true k zs∧rows[gV [ia,ib] rows.length i]? =some (.vec ro k zs):=by
      intro i row hr
      match i with
      |0=>simp at hr;subst hr;exact ⟨.u64,xs,ra,rfl,hxr⟩
      |1=>simp at hr;subst hr;exact ⟨.u64,ys,rb,rfl,hyr⟩
      |i+2=>simp at hr
     cases h0:Nat.beq la 0 with
     |true=>
      have hl:=Nat.eq_of_beq_eq_true h0
      subst hl
      obtain ⟨rows',hc,ht⟩:=aC CX aG Tryz.func126 (Rp (xs:=xs) (ys:=ys) h1 h2 h3 h4)
      exact dS (C:=fun s=>s) (s0:=.slice 2 1 0 0 (some 0)) (ds:=[]) hc nL (σ:=[ia,ib]) rfl (fun i hi=>by simp [SV.idsL,SV.ids] at hi;rcases hi with rfl |rfl<;>simp) hm (.inr ⟨2,0,some 0,false,[],rfl,by simp,by rw [dv ht (by omega)];rfl,fun i hi=>by simp at hi⟩)
     |false=>
      obtain ⟨rows',hc,ht⟩:=aC CX aG Tryz.func126 (Wp (xs:=xs) (ys:=ys) h1 h2 h3 h4 h5 h0)
      exact dS (C:=fun s=>s) (s0:=.slice 3 1 0 (fq xs ys oa la ob lb).length none) (ds:=fq xs ys oa la ob lb) hc nL (σ:=[ia,ib]) rfl (fun i hi=>by simp [SV.idsL,SV.ids] at hi;rcases hi with rfl |rfl<;>simp) hm (.inr ⟨3,0,none,false,fp xs ys oa la ob lb,rfl,by simp,by rw [dv ht (by omega)];rfl,fun i hi=>Ja xs ys oa la ob lb hi⟩)
   · cases h
 · cases h
noncomputable def MX:bY:=⟨126,EO,fun _ _ _ h hok=>J4 h hok,aq Tryz.func126 (by kernel_rfl)⟩
noncomputable def Wj:List SV→List Row→Option aj:=bj wk (fun _ _=>none) 100 125 [0,1,0,1,1] (bg Tryz.f125 [0,1,0,1,1]) 41 2 [0,1,4,5]
def s7 (oa la ob lb:Nat) (b:Bool) (i:Int):List SV:=[.slice 0 1 oa la none,.slice 1 1 ob lb none,.bool b,.int .i64 i]
def tQ (xs ys:List Int):List Row:=[.vec true .u64 xs,.vec true .u64 ys]
theorem Aj (xs ys:List Int) (oa la ob lb:Nat) (i:Int):Wj (s7 oa la ob lb false i) (tQ xs ys)=
 bif decide (i≥0) then
 bif decide (0≤i)&&decide (i<(↑la:Int)) then
 bif decide (oa+i.toNat<xs.length) then
 bif decide (0≤i)&&decide (i<(↑lb:Int)) then
 bif decide (ob+i.toNat<ys.length) then
 bif xs.getD (oa+i.toNat) aA.u64.dflt !=ys.getD (ob+i.toNat) aA.u64.dflt then
 bif decide (0≤i)&&decide (i<(↑la:Int)) then
 bif decide (oa+i.toNat<xs.length) then
 bif decide (0≤i)&&decide (i<(↑lb:Int)) then
 bif decide (ob+i.toNat<ys.length) then
 some
 (SV.tuple
 [SV.nils,
 SV.tuple
 [SV.slice 0 1 oa la none,SV.slice 1 1 ob lb none,SV.bool (decide (xs.getD (oa+i.toNat) aA.u64.dflt>ys.getD (ob+i.toNat) aA.u64.dflt)),.int .i64 i]],
 [Row.vec true aA.u64 xs,Row.vec true aA.u64 ys])
 else none
 else none
 else none
 else none
 else
 some
 (SV.tuple [SV.nilp,SV.tuple [SV.slice 0 1 oa la none,SV.slice 1 1 ob lb none,SV.bool false,.int .i64 (IntKind.i64.wrap (i - 1))]],
 [Row.vec true aA.u64 xs,Row.vec true aA.u64 ys])
 else none
 else none
 else none
 else none
 else some (SV.tuple [SV.ptr 0 0 0 0,SV.tuple [SV.slice 0 1 oa la none,SV.slice 1 1 ob lb none,SV.bool false,.int .i64 i]],[Row.vec true aA.u64 xs,Row.vec true aA.u64 ys]):=by kernel_rfl
def cV (xs ys:List Int) (oa ob:Nat):Nat→Bool×Bool×Int
 |0=>(false,false,-1)
 |k+1=>bif xs.getD (oa+k) aA.u64.dflt !=ys.getD (ob+k) aA.u64.dflt then (true,decide (xs.getD (oa+k) aA.u64.dflt>ys.getD (ob+k) aA.u64.dflt),k) else cV xs ys oa ob k
theorem Fg {xs ys:List Int} {oa la ob lb:Nat} (ha:oa+la≤xs.length) (hb:ob+lb≤ys.length) (h64:la≤9223372036854775807) (he:la=lb):∀(k:Nat),k≤la→
    ((cV xs ys oa ob k).1=true→aJ Wj (s7 oa la ob lb false ((k:Int) - 1)) (tQ xs ys) .ret (s7 oa la ob lb (cV xs ys oa ob k).2.1 (cV xs ys oa ob k).2.2) (tQ xs ys))∧
    ((cV xs ys oa ob k).1=false→aJ Wj (s7 oa la ob lb false ((k:Int) - 1)) (tQ xs ys) (.exit 0) (s7 oa la ob lb false (-1)) (tQ xs ys))
 |0,hk=>by
  refine ⟨fun h=>by simp [cV] at h,fun _=>.done ?_ (by simp)⟩
  rw [Aj,decide_eq_false (by omega),cond_false]
  rfl
 | k+1,hk=>by
  have hro:=Aj xs ys oa la ob lb (((k+1:Nat):Int) - 1)
  have e1:(((k+1:Nat):Int) - 1)=(k:Int):=by omega
  rw [e1] at hro ⊢
  have e2:((k:Int)).toNat=k:=by omega
  rw [decide_eq_true (show (k:Int)≥0 by omega),cond_true,e2,decide_eq_true (show (k:Int)<(la:Int) by omega),decide_eq_true (show (k:Int)<(lb:Int) by omega),decide_eq_true (show oa+k<xs.length by omega),decide_eq_true (show ob+k<ys.length by omega),IntWalk.i64_in ((k:Int) - 1) (by omega)] at hro
  simp only [Bool.and_true,cond_true] at hro
  unfold cV
  cases hc:xs.getD (oa+k) aA.u64.dflt !=ys.getD (ob+k) aA.u64.dflt with
  |true=>
   rw [hc,cond_true] at hro
   simp only [cond_true]
   exact ⟨fun _=>.done hro (by simp),fun h=>by simp at h⟩
  |false=>
   rw [hc,cond_false] at hro
   simp only [cond_false]
   have ih:=Fg ha hb h64 he k (by omega)
   exact ⟨fun h=>.more hro (ih.1 h),fun h=>.more hro (ih.2 h)⟩
noncomputable def Ui (v:List SV) (R:List Row) (k:Ex→List SV→List Row→Option aj):Option aj:=match v,R with
 | [.slice 0 1 oa la none,.slice 1 1 ob lb none,.bool false,.int .i64 i],[.vec true .u64 xs,.vec true .u64 ys]=>
     bif decide (i=(la:Int) - 1)&&((decide (oa+la≤xs.length)&&decide (ob+lb≤ys.length))&&(decide (la≤9223372036854775807)&&decide (la=lb))) then
      (bif (cV xs ys oa ob la).1 then k .ret (s7 oa la ob lb (cV xs ys oa ob la).2.1 (cV xs ys oa ob la).2.2) (tQ xs ys)
      else k (.exit 0) (s7 oa la ob lb false (-1)) (tQ xs ys)) else none
 |_,_=>none
theorem LD:da 125 [0,1,0,1,1] (bG 41 [0,1,4,5] Ui):=by
 intro b hat s K r h
 refine aQ (fuel:=100) ge ag hat (fun v R k r hr=>?_) h
 have hbody:=aZ Tryz.func125 hat
 subst hbody
 unfold Ui at hr
 split at hr
 · rename_i oa la ob lb i xs ys
   obtain ⟨hb,hr2⟩:=al hr
   simp only [Bool.and_eq_true,decide_eq_true_eq] at hb
   obtain ⟨h1,⟨h2,h3⟩,h4,h5⟩:=hb
   subst h1
   have hl:=Fg h2 h3 h4 h5 la (Nat.le_refl _)
   cases hq:(cV xs ys oa ob la).1 with
   |true=>
    rw [hq,cond_true] at hr2
    exact ⟨_,_,_,hr2,hl.1 hq⟩
   |false=>
    rw [hq,cond_false] at hr2
    exact ⟨_,_,_,hr2,hl.2 hq⟩
 · cases hr
noncomputable def TW:jh:=⟨_,_,_,LD⟩
theorem Ru (xs ys:List Int) (oa la ob lb:Nat):aH wk (aF [TW]) 300 125 Tryz.f125 0 [.slice 0 1 oa la none,.slice 1 1 ob lb none] [.vec true .u64 xs,.vec true .u64 ys]=
 bif (↑la:Int) !=(↑lb:Int) then some (SV.bool (decide ((↑la:Int)>(↑lb:Int))),[])
 else
 bif decide (IntKind.i64.wrap ((↑la:Int) - 1)=(↑la:Int) - 1)&&(decide (oa+la≤xs.length)&&decide (ob+lb≤ys.length)&&(decide (la≤9223372036854775807)&&decide (la=lb))) then
 bif (cV xs ys oa ob la).fst then some (SV.bool (cV xs ys oa ob la).snd.fst,[]) else some (SV.bool false,[])
 else none:=by kernel_rfl
def kK (xs ys:List Int) (oa la ob lb:Nat):Bool:=bif (la:Int) !=(lb:Int) then decide ((la:Int)>(lb:Int)) else bif (cV xs ys oa ob la).1 then (cV xs ys oa ob la).2.1 else false
theorem Uy {xs ys:List Int} {oa la ob lb:Nat} (ha:oa+la≤xs.length) (hb:ob+lb≤ys.length) (h64:la≤9223372036854775807):
    aH wk (aF [TW]) 300 125 Tryz.f125 0 [.slice 0 1 oa la none,.slice 1 1 ob lb none] [.vec true .u64 xs,.vec true .u64 ys]=some (.bool (kK xs ys oa la ob lb),[]):=by
 rw [Ru]
 unfold kK
 cases hc:(la:Int) !=(lb:Int) with
 |true=>rfl
 |false=>
  have he:(la:Int)=(lb:Int):=by simpa using hc
  rw [IntWalk.i64_in ((la:Int) - 1) (by omega),decide_eq_true (show (la:Int) - 1=(la:Int) - 1 from rfl),decide_eq_true ha,decide_eq_true hb,decide_eq_true h64,decide_eq_true (show la=lb by omega)]
  simp only [Bool.and_true,cond_true,cond_false]
  cases (cV xs ys oa ob la).1<;>rfl
def Ce (args:List SV) (rows:List Row):Option aL:=
 match args with
 |[.slice ia 1 oa la none,.slice ib 1 ob lb none]=>match rows[ia]?,rows[ib]? with
  |some (.vec _ .u64 xs),some (.vec _ .u64 ys)=>some {ok:=(decide (oa+la≤xs.length)&&decide (ob+lb≤ys.length))&&decide (la≤9223372036854775807),val:=.bool (kK xs ys oa la ob lb),rd:=[ia,ib]}
  |_,_=>none
 |_=>none
theorem I7 {args:List SV} {rows:List Row} {n:Nat} {e:aL} (h:Ce args rows=some e) (hok:e.ok=true):aN Tryz.prog 125 args (rows[·]?) n e:=by
 unfold Ce at h
 split at h
 · rename_i ia oa la ib ob lb
   split at h
   · rename_i ra xs rb ys hxr hyr
     cases h
     simp only [Bool.and_eq_true,decide_eq_true_eq] at hok
     obtain ⟨⟨h3,h4⟩,h5⟩:=hok
     obtain ⟨rows',hc,ht⟩:=aC ge aG Tryz.func125 (Uy (xs:=xs) (ys:=ys) h3 h4 h5)
     refine eK hc rfl (σ:=[ia,ib]) rfl (fun i hi=>by simp [SV.idsL,SV.ids] at hi;rcases hi with rfl |rfl<;>simp) (fun i row hr=>?_)
     match i with
     |0=>simp at hr;subst hr;exact ⟨.u64,xs,ra,rfl,hxr⟩
     |1=>simp at hr;subst hr;exact ⟨.u64,ys,rb,rfl,hyr⟩
     |i+2=>simp at hr
   · cases h
 · cases h
noncomputable def yF:bY:=⟨125,Ce,fun _ _ _ h hok=>I7 h hok,aq Tryz.func125 (by kernel_rfl)⟩
noncomputable def ZA:bS:=aV [] [Se,MX,yF]
theorem Xl:bV Tryz.prog ZA:=aD (by kernel_rfl)
end Go.Proofs.YtimkhidniolpeaaGreat
