/- Part of the proof. -/
import Derived.Test.YtimkhidniolpeaaGreatFx
import Derived.Test.YtimkhidniolpeaaGreatVmR
namespace Go.Proofs.YtimkhidniolpeaaGreat
set_option linter.unusedSimpArgs false
set_option linter.unusedVariables false
set_option maxRecDepth 100000
set_option maxHeartbeats 0
open Go.RowKit
def bW (p q:Bool) (xs ys:List Int) (oa la ob lb:Nat):Bool×List Int:=bif p==q then (p,l7 xs ys oa la ob lb) else bif kK ys xs ob lb oa la then (q,fq ys xs ob lb oa la) else (p,fq xs ys oa la ob lb)
def Nq (p q:Bool) (xs ys:List Int) (oa la ob lb:Nat) (b:Bool) (l:List Int):aj:=(.agg [.bool b,.slice 5 1 0 l.length none],[.vec true .u64 xs,.vec true .u64 ys,.own [.bool p,.slice 0 1 oa la none],.own [.bool q,.slice 1 1 ob lb none],.own [.bool b,.slice 5 1 0 l.length none],.vec true .u64 l])
theorem KP (xs ys:List Int) (p q:Bool) (oa la ob lb:Nat):aH ZA (fun _ _=>none) 300 102 Tryz.f102 9 [.agg [.bool p,.slice 0 1 oa la none],.agg [.bool q,.slice 1 1 ob lb none]] [.vec true .u64 xs,.vec true .u64 ys]=
 bif p==q then
  bif (bm xs&&bm ys)&&((decide (oa+la≤xs.length)&&decide (ob+lb≤ys.length))&&decide (max la lb+1≤1000)) then some (Nq p q xs ys oa la ob lb p (l7 xs ys oa la ob lb)) else none
 else
  bif (decide (ob+lb≤ys.length)&&decide (oa+la≤xs.length))&&decide (lb≤9223372036854775807) then
   bif kK ys xs ob lb oa la then
    bif (bm ys&&bm xs)&&((decide (ob+lb≤ys.length)&&decide (oa+la≤xs.length))&&decide (lb≤1000)) then some (Nq p q xs ys oa la ob lb q (fq ys xs ob lb oa la)) else none
   else
    bif (bm xs&&bm ys)&&((decide (oa+la≤xs.length)&&decide (ob+lb≤ys.length))&&decide (la≤1000)) then some (Nq p q xs ys oa la ob lb p (fq xs ys oa la ob lb)) else none
  else none:=by kernel_rfl
theorem Xc {xs ys:List Int} {p q:Bool} {oa la ob lb:Nat} (hx:bm xs=true) (hy:bm ys=true) (ha:oa+la≤xs.length) (hb:ob+lb≤ys.length) (hM:max la lb+1≤1000):
    aH ZA (fun _ _=>none) 300 102 Tryz.f102 9 [.agg [.bool p,.slice 0 1 oa la none],.agg [.bool q,.slice 1 1 ob lb none]] [.vec true .u64 xs,.vec true .u64 ys]=
     some (Nq p q xs ys oa la ob lb (bW p q xs ys oa la ob lb).1 (bW p q xs ys oa la ob lb).2):=by
 rw [KP,hx,hy,decide_eq_true ha,decide_eq_true hb,decide_eq_true hM,decide_eq_true (show lb≤9223372036854775807 by omega),decide_eq_true (show lb≤1000 by omega),decide_eq_true (show la≤1000 by omega)]
 unfold bW
 simp only [Bool.and_true,cond_true]
 cases p==q with
 |true=>rfl
 |false=>
  simp only [cond_false]
  cases kK ys xs ob lb oa la with
  |true=>rfl
  |false=>rfl
def EA (args:List SV) (rows:List Row):Option aL:=
 match args with
 |[.agg [.bool p,.slice ia 1 oa la none],.agg [.bool q,.slice ib 1 ob lb none]]=>match rows[ia]?,rows[ib]? with
  |some (.vec _ .u64 xs),some (.vec _ .u64 ys)=>some {ok:=(bm xs&&bm ys)&&((decide (oa+la≤xs.length)&&decide (ob+lb≤ys.length))&&decide (max la lb+1≤1000)),val:=.agg [.bool (bW p q xs ys oa la ob lb).1,.slice rows.length 1 0 (bW p q xs ys oa la ob lb).2.length none],rd:=[ia,ib],nw:=[.vec true .u64 (bW p q xs ys oa la ob lb).2]}
  |_,_=>none
 |_=>none
theorem IV {args:List SV} {rows:List Row} {e:aL} (h:EA args rows=some e) (hok:e.ok=true):aN Tryz.prog 102 args (rows[·]?) rows.length e:=by
 unfold EA at h
 split at h
 · rename_i p ia oa la q ib ob lb
   split at h
   · rename_i ra xs rb ys hxr hyr
     cases h
     simp only [Bool.and_eq_true,decide_eq_true_eq] at hok
     obtain ⟨⟨h1,h2⟩,⟨h3,h4⟩,h5⟩:=hok
     obtain ⟨rows',hc,ht⟩:=aC Xl ag Tryz.func102 (Xc (p:=p) (q:=q) (xs:=xs) (ys:=ys) h1 h2 h3 h4 h5)
     refine dS (C:=fun s=>.agg [.bool (bW p q xs ys oa la ob lb).1,s]) (s0:=.slice 5 1 0 (bW p q xs ys oa la ob lb).2.length none) (ds:=(bW p q xs ys oa la ob lb).2) hc (mu _) (σ:=[ia,ib]) rfl (fun i hi=>by simp [SV.idsL,SV.ids] at hi;rcases hi with rfl |rfl<;>simp) (fun i row hr=>?_) (.inr ⟨5,0,none,true,(bW p q xs ys oa la ob lb).2,rfl,by simp,by rw [dv ht (by omega)];rfl,fun i hi=>by rw [Nat.zero_add]⟩)
     match i with
     |0=>simp at hr;subst hr;exact ⟨.u64,xs,ra,rfl,hxr⟩
     |1=>simp at hr;subst hr;exact ⟨.u64,ys,rb,rfl,hyr⟩
     |i+2=>simp at hr
   · cases h
 · cases h
noncomputable def zI:bY:=⟨102,EA,fun _ _ _ h hok=>IV h hok,aq Tryz.func102 (by kernel_rfl)⟩
noncomputable def Yp:bS:=aV [] [TH,zI,Fh]
theorem MM:bV Tryz.prog Yp:=aD (by kernel_rfl)
theorem Nw (a b:Int):aH Yp (fun _ _=>none) 300 78 Tryz.f78 0 [.int .i64 a,.int .i64 b] []=
 bif am a then
 bif am b then
 bif
 bm (aK 5 a.natAbs)&&bm (aK 5 b.natAbs)&&
 (decide (0+(aK 5 a.natAbs).length≤(aK 5 a.natAbs).length)&&decide (0+(aK 5 b.natAbs).length≤(aK 5 b.natAbs).length)&&
 decide (max (aK 5 a.natAbs).length (aK 5 b.natAbs).length+1≤1000)) then
 bif
 bm (bW (decide (a<0)) (decide (b<0)) (aK 5 a.natAbs) (aK 5 b.natAbs) 0 (aK 5 a.natAbs).length 0 (aK 5 b.natAbs).length).snd&&
 (decide
 (0+(bW (decide (a<0)) (decide (b<0)) (aK 5 a.natAbs) (aK 5 b.natAbs) 0 (aK 5 a.natAbs).length 0 (aK 5 b.natAbs).length).snd.length≤
 (bW (decide (a<0)) (decide (b<0)) (aK 5 a.natAbs) (aK 5 b.natAbs) 0 (aK 5 a.natAbs).length 0 (aK 5 b.natAbs).length).snd.length)&&
 decide ((bW (decide (a<0)) (decide (b<0)) (aK 5 a.natAbs) (aK 5 b.natAbs) 0 (aK 5 a.natAbs).length 0 (aK 5 b.natAbs).length).snd.length≤9223372036854775807)) then
 some
 (SV.int IntKind.i64
 (OJ (bW (decide (a<0)) (decide (b<0)) (aK 5 a.natAbs) (aK 5 b.natAbs) 0 (aK 5 a.natAbs).length 0 (aK 5 b.natAbs).length).fst
 (ch (dY (bW (decide (a<0)) (decide (b<0)) (aK 5 a.natAbs) (aK 5 b.natAbs) 0 (aK 5 a.natAbs).length 0 (aK 5 b.natAbs).length).snd 0)
 (bW (decide (a<0)) (decide (b<0)) (aK 5 a.natAbs) (aK 5 b.natAbs) 0 (aK 5 a.natAbs).length 0 (aK 5 b.natAbs).length).snd.length 0)),
 [])
 else none
 else none
 else none
 else none:=by kernel_rfl
theorem Ka (a b:Int):aH Yp (fun _ _=>none) 300 77 Tryz.f77 0 [.int .i64 a,.int .i64 b] []=
 bif am b then
 bif am a then
 bif
 bm (aK 5 a.natAbs)&&bm (aK 5 b.natAbs)&&
 (decide (0+(aK 5 a.natAbs).length≤(aK 5 a.natAbs).length)&&decide (0+(aK 5 b.natAbs).length≤(aK 5 b.natAbs).length)&&
 decide (max (aK 5 a.natAbs).length (aK 5 b.natAbs).length+1≤1000)) then
 bif
 bm (bW (decide (a<0)) (!decide (b<0)) (aK 5 a.natAbs) (aK 5 b.natAbs) 0 (aK 5 a.natAbs).length 0 (aK 5 b.natAbs).length).snd&&
 (decide
 (0+(bW (decide (a<0)) (!decide (b<0)) (aK 5 a.natAbs) (aK 5 b.natAbs) 0 (aK 5 a.natAbs).length 0 (aK 5 b.natAbs).length).snd.length≤
 (bW (decide (a<0)) (!decide (b<0)) (aK 5 a.natAbs) (aK 5 b.natAbs) 0 (aK 5 a.natAbs).length 0 (aK 5 b.natAbs).length).snd.length)&&
 decide ((bW (decide (a<0)) (!decide (b<0)) (aK 5 a.natAbs) (aK 5 b.natAbs) 0 (aK 5 a.natAbs).length 0 (aK 5 b.natAbs).length).snd.length≤9223372036854775807)) then
 some
 (SV.int IntKind.i64
 (OJ (bW (decide (a<0)) (!decide (b<0)) (aK 5 a.natAbs) (aK 5 b.natAbs) 0 (aK 5 a.natAbs).length 0 (aK 5 b.natAbs).length).fst
 (ch (dY (bW (decide (a<0)) (!decide (b<0)) (aK 5 a.natAbs) (aK 5 b.natAbs) 0 (aK 5 a.natAbs).length 0 (aK 5 b.natAbs).length).snd 0)
 (bW (decide (a<0)) (!decide (b<0)) (aK 5 a.natAbs) (aK 5 b.natAbs) 0 (aK 5 a.natAbs).length 0 (aK 5 b.natAbs).length).snd.length 0)),
 [])
 else none
 else none
 else none
 else none:=by kernel_rfl
theorem vF (f g:Nat→Int):∀(k i:Nat) (c:Int),aX (gW f g k i c)+65536 ^ k*rD f g k i c=ch f k i+ch g k i+c
 |0,i,c=>by simp [gW,rD,ch,aX]
 |k+1,i,c=>by
  have ih:=vF f g k (i+1) ((f i+g i+c)/65536)
  unfold gW rD ch aX
  rw [Int.pow_succ]
  generalize aX (gW f g k (i+1) ((f i+g i+c)/65536))=A at ih ⊢
  generalize rD f g k (i+1) ((f i+g i+c)/65536)=C at ih ⊢
  generalize ch f k (i+1)=F at ih ⊢
  generalize ch g k (i+1)=G at ih ⊢
  have e:(65536:Int) ^ k*65536*C=65536*(65536 ^ k*C):=by grind
  rw [e]
  generalize (65536:Int) ^ k*C=Z at ih ⊢
  omega
theorem sD (f g:Nat→Int):∀(k i:Nat) (c:Int),aX (dO f g k i c)=ch f k i - ch g k i - c+65536 ^ k*kQ f g k i c
 |0,i,c=>by simp [dO,kQ,ch,aX];omega
 |k+1,i,c=>by
  have ih:=sD f g k (i+1) (1 - (f i+65536 - g i - c)/65536)
  unfold dO kQ ch aX
  rw [Int.pow_succ]
  generalize aX (dO f g k (i+1) (1 - (f i+65536 - g i - c)/65536))=A at ih ⊢
  generalize kQ f g k (i+1) (1 - (f i+65536 - g i - c)/65536)=C at ih ⊢
  generalize ch f k (i+1)=F at ih ⊢
  generalize ch g k (i+1)=G at ih ⊢
  have e:(65536:Int) ^ k*65536*C=65536*(65536 ^ k*C):=by grind
  rw [e]
  generalize (65536:Int) ^ k*C=Z at ih ⊢
  omega
theorem AA (f g:Nat→Int):∀(k i:Nat) (c:Int),bu (gW f g k i c)
 |0,_,_=>by unfold bu gW;simp
 |k+1,i,c=>by
  intro d hd
  unfold gW at hd
  rcases List.mem_cons.1 hd with rfl |hd
  · omega
  · exact AA f g k _ _ d hd
theorem w5 (f g:Nat→Int):∀(k i:Nat) (c:Int),bu (dO f g k i c)
 |0,_,_=>by unfold bu dO;simp
 |k+1,i,c=>by
  intro d hd
  unfold dO at hd
  rcases List.mem_cons.1 hd with rfl |hd
  · omega
  · exact w5 f g k _ _ d hd
theorem ik {l:List Int} (h:bu l) (n:Nat):bu (l.take n):=fun d hd=>h d (List.mem_of_mem_take hd)
theorem gE:∀(l m:List Int),aX (l++m)=aX l+65536 ^ l.length*aX m
 |[],m=>by simp [aX]
 |d::l,m=>by
  rw [List.cons_append,aX,aX,gE l m,List.length_cons,Int.pow_succ]
  have e:(65536:Int) ^ l.length*65536*aX m=65536*(65536 ^ l.length*aX m):=by grind
  rw [e]
  generalize (65536:Int) ^ l.length*aX m=Z
  omega
theorem gu {l:List Int} {k:Nat} (hk:k<l.length):l.take (k+1)=l.take k++[l.getD k 0]:=by
 rw [List.take_add_one,List.getD_eq_getElem?_getD,List.getElem?_eq_getElem hk]
 rfl
theorem ld {l:List Int}:∀(k:Nat),k≤l.length→aX (l.take (d9 l k))=aX (l.take k)
 |0,_=>rfl
 | k+1,hk=>by
  unfold d9
  rw [Nat.zero_add]
  cases hc:l.getD k aA.u64.dflt==0 with
  |false=>rfl
  |true=>
   simp only [cond_true]
   rw [ld k (by omega),gu (by omega),gE]
   have h0:l.getD k (0:Int)=0:=eq_of_beq hc
   rw [h0]
   simp [aX]
theorem wb {l:List Int}:∀(k:Nat),0<d9 l k→l.getD (d9 l k - 1) (0:Int)≠0
 |0,h=>by simp [d9] at h
 | k+1,h=>by
  unfold d9 at h ⊢
  rw [Nat.zero_add] at h ⊢
  cases hc:l.getD k aA.u64.dflt==0 with
  |false=>
   rw [hc] at h
   simp only [cond_false,Nat.add_sub_cancel]
   exact fun h0=>by rw [show l.getD k aA.u64.dflt=(0:Int) from h0] at hc;cases hc
  |true=>
   rw [hc] at h
   simp only [cond_true] at h ⊢
   exact wb k h
theorem oE (k:Nat):(0:Int)<65536 ^ k:=Int.pow_pos (by omega)
theorem sV {a b:Nat} (h:a≤b):(65536:Int) ^ a≤65536 ^ b:=by
 obtain ⟨k,rfl⟩:=Nat.exists_eq_add_of_le h
 rw [Int.pow_add]
 have h1:=oE a
 have h2:=oE k
 have:=Int.mul_le_mul_of_nonneg_left (show 1≤(65536:Int) ^ k by omega) (Int.le_of_lt h1)
 rw [Int.mul_one] at this
 exact this
theorem gr:∀{l:List Int},bu l→0≤aX l∧aX l<65536 ^ l.length
 |[],_=>⟨Int.le_refl _,by simp [aX]⟩
 |d::l,h=>by
  have h1:=h d (List.mem_cons_self ..)
  have ih:=gr (l:=l) fun x hx=>h x (List.mem_cons_of_mem _ hx)
  rw [aX,List.length_cons,Int.pow_succ]
  generalize aX l=A at ih ⊢
  generalize (65536:Int) ^ l.length=P at ih ⊢
  omega
theorem Ps (xs:List Int) (i:Nat):cT xs 0 xs.length i=dY xs 0 i:=by
 unfold cT kU dY
 by_cases h:(i:Int)<(xs.length:Int)
 · rw [decide_eq_true h]
   simp only [cond_true]
   rw [show ((i:Int)).toNat=i by omega]
   rfl
 · rw [decide_eq_false h]
   simp only [cond_false]
   rw [Nat.zero_add,List.getD_eq_getElem?_getD,List.getElem?_eq_none (by omega)]
   rfl
theorem zT {f g:Nat→Int} (h:∀i,f i=g i):∀m i,ch f m i=ch g m i
 |0,_=>rfl
 |m+1,i=>by unfold ch;rw [h,zT h m]
theorem vC {f:Nat→Int}:∀m i,(∀j,i≤j→f j=0)→ch f m i=0
 |0,_,_=>rfl
 |m+1,i,h=>by
  unfold ch
  rw [h i (Nat.le_refl _),vC m (i+1) fun j hj=>h j (by omega)]
  rfl
theorem vP {f:Nat→Int}:∀(m k i:Nat),(∀j,i+m≤j→f j=0)→ch f (m+k) i=ch f m i
 |0,k,i,h=>by rw [Nat.zero_add];exact vC k i fun j hj=>h j (by omega)
 |m+1,k,i,h=>by
  rw [show m+1+k=(m+k)+1 by omega]
  unfold ch
  rw [vP m k (i+1) fun j hj=>h j (by omega)]
theorem rC (xs:List Int) {M:Nat} (h:xs.length≤M):ch (cT xs 0 xs.length) M 0=aX xs:=by
 rw [zT (Ps xs)]
 obtain ⟨k,rfl⟩:∃k,M=xs.length+k:=⟨M - xs.length,by omega⟩
 rw [vP xs.length k 0 fun j hj=>?_,jn]
 unfold dY
 rw [List.getD_eq_getElem?_getD,List.getElem?_eq_none (by omega)]
 rfl
theorem Fi {f g:Nat→Int} (hf:∀i,0≤f i∧f i<65536) (hg:∀i,0≤g i∧g i<65536):∀(k i:Nat) (c:Int),0≤c∧c≤1→0≤rD f g k i c∧rD f g k i c≤1
 |0,_,_,h=>h
 |k+1,i,c,h=>by
  have h1:=hf i
  have h2:=hg i
  exact Fi hf hg k (i+1) _ (by omega)
theorem Bq {f g:Nat→Int} (hf:∀i,0≤f i∧f i<65536) (hg:∀i,0≤g i∧g i<65536):∀(k i:Nat) (c:Int),0≤c∧c≤1→0≤kQ f g k i c∧kQ f g k i c≤1
 |0,_,_,h=>h
 |k+1,i,c,h=>by
  have h1:=hf i
  have h2:=hg i
  exact Bq hf hg k (i+1) _ (by omega)
theorem KY {xs ys:List Int} (hx:bu xs) (hy:bu ys):aX (l7 xs ys 0 xs.length 0 ys.length)=aX xs+aX ys∧bu (l7 xs ys 0 xs.length 0 ys.length):=by
 have hlen:(lB xs ys 0 xs.length 0 ys.length).length=max xs.length ys.length+1:=jS _ _ _ _ _
 have hD:bu (lB xs ys 0 xs.length 0 ys.length):=AA _ _ _ _ _
 refine ⟨?_,ik hD _⟩
 unfold l7
 rw [ld _ (by omega),List.take_of_length_le (by omega)]
 have hv:=vF (cT xs 0 xs.length) (cT ys 0 ys.length) (max xs.length ys.length+1) 0 0
 have hc:=Fi (lK hx 0 xs.length) (lK hy 0 ys.length) (max xs.length ys.length+1) 0 0 (by omega)
 rw [rC xs (by omega),rC ys (by omega)] at hv
 have hb:=gr hD
 rw [hlen] at hb
 unfold lB at hb ⊢
 have bx:aX xs<65536 ^ (max xs.length ys.length):=Int.lt_of_lt_of_le (gr hx).2 (sV (by omega))
 have b_y:aX ys<65536 ^ (max xs.length ys.length):=Int.lt_of_lt_of_le (gr hy).2 (sV (by omega))
 rw [Int.pow_succ] at hv hb
 generalize rD (cT xs 0 xs.length) (cT ys 0 ys.length) (max xs.length ys.length+1) 0 0=C at hv hc
 generalize aX (gW (cT xs 0 xs.length) (cT ys 0 ys.length) (max xs.length ys.length+1) 0 0)=S at hv hb ⊢
 generalize (65536:Int) ^ (max xs.length ys.length)=P at hv hb bx b_y
 rcases (show C=0∨C=1 by omega) with rfl |rfl
 · omega
 · omega
theorem up {xs ys:List Int} (hx:bu xs) (hy:bu ys) (hl:ys.length≤xs.length) (h:aX ys≤aX xs):aX (fq xs ys 0 xs.length 0 ys.length)=aX xs - aX ys∧bu (fq xs ys 0 xs.length 0 ys.length):=by
 have hlen:(fp xs ys 0 xs.length 0 ys.length).length=xs.length:=iN _ _ _ _ _
 have hD:bu (fp xs ys 0 xs.length 0 ys.length):=w5 _ _ _ _ _
 refine ⟨?_,ik hD _⟩
 unfold fq
 rw [ld _ (by omega),List.take_of_length_le (by omega)]
 have hv:=sD (cT xs 0 xs.length) (cT ys 0 ys.length) xs.length 0 0
 have hc:=Bq (lK hx 0 xs.length) (lK hy 0 ys.length) xs.length 0 0 (by omega)
 rw [rC xs (Nat.le_refl _),rC ys hl] at hv
 have hb:=gr hD
 rw [hlen] at hb
 unfold fp at hb ⊢
 generalize kQ (cT xs 0 xs.length) (cT ys 0 ys.length) xs.length 0 0=C at hv hc
 generalize aX (dO (cT xs 0 xs.length) (cT ys 0 ys.length) xs.length 0 0)=S at hv hb ⊢
 generalize (65536:Int) ^ xs.length=P at hv hb
 rcases (show C=0∨C=1 by omega) with rfl |rfl
 · omega
 · omega
def jD (l:List Int):Prop:=0<l.length→l.getD (l.length - 1) 0≠0
theorem L2 {l:List Int} (h:bu l) (ht:jD l) (h0:0<l.length):65536 ^ (l.length - 1)≤aX l:=by
 have hl:=ht h0
 have e:l=l.take (l.length - 1)++[l.getD (l.length - 1) 0]:=by
  rw [←gu (by omega),show l.length - 1+1=l.length by omega,List.take_length]
 have hv:=gE (l.take (l.length - 1)) [l.getD (l.length - 1) 0]
 rw [←e,List.length_take,show min (l.length - 1) l.length=l.length - 1 by omega] at hv
 have hA:=(gr (ik h (l.length - 1))).1
 have hd:1≤l.getD (l.length - 1) 0:=by
  have:=f7 h 0 (l.length - 1)
  unfold dY at this
  rw [Nat.zero_add] at this
  omega
 rw [hv]
 generalize aX (l.take (l.length - 1))=A at hA ⊢
 have hP:=oE (l.length - 1)
 have e2:aX [l.getD (l.length - 1) 0]=l.getD (l.length - 1) 0:=by simp [aX]
 rw [e2]
 generalize l.getD (l.length - 1) 0=d at hd ⊢
 generalize (65536:Int) ^ (l.length - 1)=P at hP ⊢
 have:=Int.mul_le_mul_of_nonneg_left hd (Int.le_of_lt hP)
 omega
theorem sR {xs ys:List Int} (hx:bu xs) (hy:bu ys):∀(k:Nat),k≤xs.length→k≤ys.length→
    ((cV xs ys 0 0 k).1=false→aX (xs.take k)=aX (ys.take k))∧((cV xs ys 0 0 k).1=true→(cV xs ys 0 0 k).2.1=decide (aX (xs.take k)>aX (ys.take k)))
 |0,_,_=>⟨fun _=>rfl,fun h=>by simp [cV] at h⟩
 | k +1,h1,h2=>by
  have ih:=sR hx hy k (by omega) (by omega)
  have bx:=gr (ik hx k)
  have b_y:=gr (ik hy k)
  rw [List.length_take,show min k xs.length=k by omega] at bx
  rw [List.length_take,show min k ys.length=k by omega] at b_y
  unfold cV
  rw [gu (l:=xs) (by omega),gu (l:=ys) (by omega),gE,gE,List.length_take,List.length_take,show min k xs.length=k by omega,show min k ys.length=k by omega,Nat.zero_add]
  rw [show xs.getD k aA.u64.dflt=xs.getD k (0:Int) from rfl,show ys.getD k aA.u64.dflt=ys.getD k (0:Int) from rfl]
  have ex:∀d:Int,aX [d]=d:=fun d=>by simp [aX]
  rw [ex,ex]
  generalize xs.getD k (0:Int)=d
  generalize ys.getD k (0:Int)=e
  generalize aX (xs.take k)=A at ih bx ⊢
  generalize aX (ys.take k)=B at ih b_y ⊢
  have hP:=oE k
  generalize (65536:Int) ^ k=P at bx b_y hP ⊢
  by_cases hde:d=e
  · subst hde
    simp only [bne_self_eq_false,cond_false]
    refine ⟨fun h=>by rw [ih.1 h],fun h=>?_⟩
    rw [ih.2 h,decide_eq_decide]
    omega
  · have hn:(d !=e)=true:=by simpa using hde
    rw [hn]
    simp only [cond_true]
    refine ⟨fun h=>by simp at h,fun _=>?_⟩
    rw [decide_eq_decide]
    rcases Int.lt_or_gt_of_ne hde with h |h
    · have:=Int.mul_le_mul_of_nonneg_left (show d+1≤e by omega) (Int.le_of_lt hP)
      rw [Int.mul_add,Int.mul_one] at this
      omega
    · have:=Int.mul_le_mul_of_nonneg_left (show e+1≤d by omega) (Int.le_of_lt hP)
      rw [Int.mul_add,Int.mul_one] at this
      omega
theorem wj {xs ys:List Int} (hx:bu xs) (hy:bu ys) (tx:jD xs) (h:ys.length<xs.length):aX ys<aX xs:=by
 have h1:=L2 hx tx (by omega)
 have h2:=(gr hy).2
 have h3:=sV (show ys.length≤xs.length - 1 by omega)
 omega
theorem pD {xs ys:List Int} (hx:bu xs) (hy:bu ys) (tx:jD xs) (ty:jD ys):kK xs ys 0 xs.length 0 ys.length=decide (aX xs>aX ys):=by
 unfold kK
 by_cases he:xs.length=ys.length
 · rw [show ((xs.length:Int) !=(ys.length:Int))=false by simp [he]]
   simp only [cond_false]
   obtain ⟨m1,m2⟩:=sR hx hy xs.length (Nat.le_refl _) (by omega)
   rw [List.take_length,he,List.take_length] at m1 m2
   rw [he]
   cases hq:(cV xs ys 0 0 ys.length).1 with
   |true=>exact m2 hq
   |false=>
    have:=m1 hq
    simp only [cond_false]
    rw [this]
    exact (decide_eq_false (by omega)).symm
 · rw [show ((xs.length:Int) !=(ys.length:Int))=true by simp;omega]
   simp only [cond_true]
   rw [decide_eq_decide]
   rcases Nat.lt_or_gt_of_ne he with h |h
   · have:=wj hy hx ty h
     omega
   · have:=wj hx hy tx h
     omega
theorem iz:∀(k m:Nat),m<65536 ^ k→jD (aK k m)
 |0,_,_=>fun h=>by simp [aK] at h
 | k +1,m,hm=>by
  have hk:m/65536<65536 ^ k:=by rw [Nat.pow_succ] at hm;exact Nat.div_lt_of_lt_mul (by rw [Nat.mul_comm];exact hm)
  have ih:=iz k (m/65536) hk
  have hv:=g0 k (m/65536) hk
  by_cases h0:m=0
  · subst h0;intro h;simp [aK] at h
  · have e:aK (k+1) m=((m%65536:Nat):Int)::aK k (m/65536):=by
     show (bif m !=0 then _ else _)=_
     rw [show (m !=0)=true by simpa using h0]
     rfl
    rw [e]
    intro _
    cases hd:aK k (m/65536) with
    |nil=>
     rw [hd] at hv
     simp only [aX] at hv
     simp
     omega
    |cons d l=>
     rw [hd] at ih
     have:=ih (by simp)
     simpa using this
def sg (b:Bool) (v:Int):Int:=bif b then -v else v
theorem mz {xs ys:List Int} {p q:Bool} (hx:bu xs) (hy:bu ys) (tx:jD xs) (ty:jD ys):
    sg (bW p q xs ys 0 xs.length 0 ys.length).1 (aX (bW p q xs ys 0 xs.length 0 ys.length).2)=sg p (aX xs)+sg q (aX ys)∧bu (bW p q xs ys 0 xs.length 0 ys.length).2:=by
 unfold bW
 cases hpq:p==q with
 |true=>
  have :p=q:=by simpa using hpq
  subst this
  obtain ⟨s1,s2⟩:=KY hx hy
  simp only [cond_true]
  refine ⟨?_,s2⟩
  rw [s1]
  cases p
  · rfl
  · simp only [sg,cond_true];omega
 | false=>
  simp only [cond_false]
  rw [pD hy hx ty tx]
  by_cases hm:aX ys>aX xs
  · have hl:xs.length≤ys.length:=by
     rcases Nat.lt_or_ge ys.length xs.length with h |h
     · have:=wj hx hy tx h;omega
     · exact h
    obtain ⟨s1,s2⟩:=up hy hx hl (by omega)
    rw [decide_eq_true hm]
    simp only [cond_true]
    refine ⟨?_,s2⟩
    rw [s1]
    cases p<;>cases q<;>simp_all only [sg,cond_true,cond_false]<;>first |omega |cases hpq
  · have hl:ys.length≤xs.length:=by
     rcases Nat.lt_or_ge xs.length ys.length with h |h
     · have:=wj hy hx ty h;omega
     · exact h
    obtain ⟨s1,s2⟩:=up hx hy hl (by omega)
    rw [decide_eq_false hm]
    simp only [cond_false]
    refine ⟨?_,s2⟩
    rw [s1]
    cases p<;>cases q<;>simp_all only [sg,cond_true,cond_false]<;>first |omega |cases hpq
theorem fA:∀(k m:Nat),(aK k m).length≤k
 |0,_=>Nat.le_refl _
 |k+1,m=>by
  unfold aK
  have:=fA k (m/65536)
  cases m !=0
  · simp
  · simp only [cond_true,List.length_cons];omega
theorem Dn (a:Int):sg (decide (a<0)) (a.natAbs:Int)=a:=by
 unfold sg
 by_cases h:a<0
 · rw [decide_eq_true h];simp only [cond_true];omega
 · rw [decide_eq_false h];simp only [cond_false];omega
theorem Qi (a:Int):sg (!decide (a<0)) (a.natAbs:Int)= -a:=by
 unfold sg
 by_cases h:a<0
 · rw [decide_eq_true h];simp only [Bool.not_true,cond_false];omega
 · rw [decide_eq_false h];simp only [Bool.not_false,cond_true];omega
theorem lg {a:Int} (h:aU a):a.natAbs<65536 ^ 5:=by unfold aU at h;omega
theorem uv (p q:Bool) (xs ys:List Int) (hx:xs.length≤5) (hy:ys.length≤5):(bW p q xs ys 0 xs.length 0 ys.length).2.length≤6:=by
 unfold bW
 have h1:=nM xs ys 0 xs.length 0 ys.length
 have h2:=jF xs ys 0 xs.length 0 ys.length
 have h3:=jF ys xs 0 ys.length 0 xs.length
 have k1:=dc (lB xs ys 0 xs.length 0 ys.length) (max xs.length ys.length+1)
 have k2:=dc (fp xs ys 0 xs.length 0 ys.length) xs.length
 have k3:=dc (fp ys xs 0 ys.length 0 xs.length) ys.length
 cases p==q
 · cases kK ys xs 0 ys.length 0 xs.length
   · simp only [cond_false];omega
   · simp only [cond_true,cond_false];omega
 · simp only [cond_true];omega
theorem Sv {a b:Int} (ha:aU a) (hb:aU b):aH Yp (fun _ _=>none) 300 78 Tryz.f78 0 [.int .i64 a,.int .i64 b] []=some (.int .i64 (ak (a+b)),[]):=by
 rw [Nw,ap.2 ha,ap.2 hb]
 have la:=fA 5 a.natAbs
 have lb:=fA 5 b.natAbs
 obtain ⟨s1,s2⟩:=mz (p:=decide (a<0)) (q:=decide (b<0)) (eI 5 a.natAbs) (eI 5 b.natAbs) (iz 5 a.natAbs (lg ha)) (iz 5 b.natAbs (lg hb))
 have ll:=uv (decide (a<0)) (decide (b<0)) _ _ la lb
 rw [g0 5 _ (lg ha),g0 5 _ (lg hb),Dn,Dn] at s1
 rw [bo.2 (eI 5 a.natAbs),bo.2 (eI 5 b.natAbs),bo.2 s2,jn]
 rw [decide_eq_true (show 0+(aK 5 a.natAbs).length≤(aK 5 a.natAbs).length by omega),decide_eq_true (show 0+(aK 5 b.natAbs).length≤(aK 5 b.natAbs).length by omega),decide_eq_true (show max (aK 5 a.natAbs).length (aK 5 b.natAbs).length+1≤1000 by omega)]
 generalize bW (decide (a<0)) (decide (b<0)) (aK 5 a.natAbs) (aK 5 b.natAbs) 0 (aK 5 a.natAbs).length 0 (aK 5 b.natAbs).length=S at s1 ll ⊢
 rw [decide_eq_true (show 0+S.2.length≤S.2.length by omega),decide_eq_true (show S.2.length≤9223372036854775807 by omega),←s1]
 rfl
theorem SJ {a b:Int} (ha:aU a) (hb:aU b):aH Yp (fun _ _=>none) 300 77 Tryz.f77 0 [.int .i64 a,.int .i64 b] []=some (.int .i64 (ak (a - b)),[]):=by
 rw [Ka,ap.2 ha,ap.2 hb]
 have la:=fA 5 a.natAbs
 have lb:=fA 5 b.natAbs
 obtain ⟨s1,s2⟩:=mz (p:=decide (a<0)) (q:= !decide (b<0)) (eI 5 a.natAbs) (eI 5 b.natAbs) (iz 5 a.natAbs (lg ha)) (iz 5 b.natAbs (lg hb))
 have ll:=uv (decide (a<0)) (!decide (b<0)) _ _ la lb
 rw [g0 5 _ (lg ha),g0 5 _ (lg hb),Dn,Qi] at s1
 rw [bo.2 (eI 5 a.natAbs),bo.2 (eI 5 b.natAbs),bo.2 s2,jn]
 rw [decide_eq_true (show 0+(aK 5 a.natAbs).length≤(aK 5 a.natAbs).length by omega),decide_eq_true (show 0+(aK 5 b.natAbs).length≤(aK 5 b.natAbs).length by omega),decide_eq_true (show max (aK 5 a.natAbs).length (aK 5 b.natAbs).length+1≤1000 by omega)]
 generalize bW (decide (a<0)) (!decide (b<0)) (aK 5 a.natAbs) (aK 5 b.natAbs) 0 (aK 5 a.natAbs).length 0 (aK 5 b.natAbs).length=S at s1 ll ⊢
 rw [decide_eq_true (show 0+S.2.length≤S.2.length by omega),decide_eq_true (show S.2.length≤9223372036854775807 by omega),Int.sub_eq_add_neg,←s1]
 rfl
def Lq:List SV→Option aL
 |[.int .i64 a,.int .i64 b]=>some {ok:=am a&&am b,val:=.int .i64 (ak (a+b))}
 |_=>none
theorem KD {m:Nat→Option Row} {n:Nat} {args:List SV} {e:aL} (h:Lq args=some e) (hok:e.ok=true):aN Tryz.prog 78 args m n e:=by
 unfold Lq at h
 split at h
 · rename_i a b
   cases h
   rw [Bool.and_eq_true] at hok
   obtain ⟨rows',hc,_⟩:=aC MM ag Tryz.func78 (Sv (ap.1 hok.1) (ap.1 hok.2))
   exact aM hc rfl rfl
 · cases h
noncomputable def FT:bY:=⟨78,fun args _=>Lq args,fun _ _ _ h hok=>KD h hok,aq Tryz.func78 (by kernel_rfl)⟩
noncomputable def XK:bS:=aV [] [FT]
theorem QN:bV Tryz.prog XK:=aD (by kernel_rfl)
def Mq:List SV→Option aL
 |[.int .i64 a,.int .i64 b]=>some {ok:=am a&&am b,val:=.int .i64 (ak (a - b))}
 |_=>none
theorem Kh {m:Nat→Option Row} {n:Nat} {args:List SV} {e:aL} (h:Mq args=some e) (hok:e.ok=true):aN Tryz.prog 77 args m n e:=by
 unfold Mq at h
 split at h
 · rename_i a b
   cases h
   rw [Bool.and_eq_true] at hok
   obtain ⟨rows',hc,_⟩:=aC MM ag Tryz.func77 (SJ (ap.1 hok.1) (ap.1 hok.2))
   exact aM hc rfl rfl
 · cases h
noncomputable def R6:bY:=⟨77,fun args _=>Mq args,fun _ _ _ h hok=>Kh h hok,aq Tryz.func77 (by kernel_rfl)⟩
noncomputable def Y0:bS:=aV [] [R6]
theorem NB:bV Tryz.prog Y0:=aD (by kernel_rfl)
theorem PG (a b:V3):aH XK (fun _ _=>none) 300 50 Tryz.f50 0 [.agg a.sv,.agg b.sv] []=
 bif am a.x&&am b.x then
 bif am a.y&&am b.y then
 bif am a.z&&am b.z then some (SV.agg [.int .i64 (ak (a.x+b.x)),.int .i64 (ak (a.y+b.y)),.int .i64 (ak (a.z+b.z))],[]) else none
 else none
 else none:=by kernel_rfl
theorem QY (a b:V3):aH Y0 (fun _ _=>none) 300 49 Tryz.f49 0 [.agg a.sv,.agg b.sv] []=
 bif am a.x&&am b.x then
 bif am a.y&&am b.y then
 bif am a.z&&am b.z then some (SV.agg [.int .i64 (ak (a.x - b.x)),.int .i64 (ak (a.y - b.y)),.int .i64 (ak (a.z - b.z))],[]) else none
 else none
 else none:=by kernel_rfl
def ua:List SV→Option aL
 |[.agg [.int .i64 a,.int .i64 b,.int .i64 c],.agg [.int .i64 p,.int .i64 q,.int .i64 r]]=>some {ok:=aw ⟨a,b,c⟩&&aw ⟨p,q,r⟩,val:=.agg (V3.plus ⟨a,b,c⟩ ⟨p,q,r⟩).sv}
 |_=>none
theorem Ap {m:Nat→Option Row} {n:Nat} {args:List SV} {e:aL} (h:ua args=some e) (hok:e.ok=true):aN Tryz.prog 50 args m n e:=by
 unfold ua at h
 split at h
 · rename_i a b c p q r
   cases h
   rw [Bool.and_eq_true] at hok
   have f1:=aB.1 hok.1
   have f2:=aB.1 hok.2
   have hv:aH XK (fun _ _=>none) 300 50 Tryz.f50 0 [.agg (V3.mk a b c).sv,.agg (V3.mk p q r).sv] []=some (.agg (V3.plus ⟨a,b,c⟩ ⟨p,q,r⟩).sv,[]):=by
    rw [PG,ap.2 f1.1,ap.2 f1.2.1,ap.2 f1.2.2,ap.2 f2.1,ap.2 f2.2.1,ap.2 f2.2.2]
    rfl
   obtain ⟨rows',hc,_⟩:=aC QN ag Tryz.func50 hv
   exact aM hc rfl rfl
 · cases h
noncomputable def sF:bY:=⟨50,fun args _=>ua args,fun _ _ _ h hok=>Ap h hok,aq Tryz.func50 (by kernel_rfl)⟩
def p9:List SV→Option aL
 |[.agg [.int .i64 a,.int .i64 b,.int .i64 c],.agg [.int .i64 p,.int .i64 q,.int .i64 r]]=>some {ok:=aw ⟨a,b,c⟩&&aw ⟨p,q,r⟩,val:=.agg (V3.minus ⟨a,b,c⟩ ⟨p,q,r⟩).sv}
 |_=>none
theorem wO {m:Nat→Option Row} {n:Nat} {args:List SV} {e:aL} (h:p9 args=some e) (hok:e.ok=true):aN Tryz.prog 49 args m n e:=by
 unfold p9 at h
 split at h
 · rename_i a b c p q r
   cases h
   rw [Bool.and_eq_true] at hok
   have f1:=aB.1 hok.1
   have f2:=aB.1 hok.2
   have hv:aH Y0 (fun _ _=>none) 300 49 Tryz.f49 0 [.agg (V3.mk a b c).sv,.agg (V3.mk p q r).sv] []=some (.agg (V3.minus ⟨a,b,c⟩ ⟨p,q,r⟩).sv,[]):=by
    rw [QY,ap.2 f1.1,ap.2 f1.2.1,ap.2 f1.2.2,ap.2 f2.1,ap.2 f2.2.1,ap.2 f2.2.2]
    rfl
   obtain ⟨rows',hc,_⟩:=aC NB ag Tryz.func49 hv
   exact aM hc rfl rfl
 · cases h
noncomputable def lN:bY:=⟨49,fun args _=>p9 args,fun _ _ _ h hok=>wO h hok,aq Tryz.func49 (by kernel_rfl)⟩
def Kp:List SV→Option aL
 |[.int .i64 n,.int .i64 m]=>some {ok:=decide (0≤m)&&am m,val:=.int .i64 (av m n)}
 |_=>none
theorem GJ (n m:Int):aH Y0 (fun _ _=>none) 300 144 Tryz.f144 0 [.int .i64 n,.int .i64 m] []=
    bif decide (n>m) then some (.int .i64 m,[]) else bif decide (n<IntKind.i64.wrap (0 - m)) then some (.int .i64 (IntKind.i64.wrap (0 - m)),[]) else some (.int .i64 n,[]):=by kernel_rfl
theorem Ow {n m:Int} (h0:0≤m) (h:aU m):aH Y0 (fun _ _=>none) 300 144 Tryz.f144 0 [.int .i64 n,.int .i64 m] []=some (.int .i64 (av m n),[]):=by
 unfold aU at h
 rw [GJ,IntWalk.i64_in (0 - m) (by omega)]
 have e:av m n=bif decide (n>m) then m else bif decide (n<0 - m) then 0 - m else n:=by
  unfold av
  by_cases h1:n>m
  · rw [decide_eq_true h1];simp only [cond_true];omega
  · rw [decide_eq_false h1]
    by_cases h2:n<0 - m
    · rw [decide_eq_true h2];simp only [cond_true,cond_false];omega
    · rw [decide_eq_false h2];simp only [cond_false];omega
 rw [e]
 cases decide (n>m)
 · cases decide (n<0 - m)<;>rfl
 · rfl
theorem JV {k:Nat→Option Row} {j:Nat} {args:List SV} {e:aL} (h:Kp args=some e) (hok:e.ok=true):aN Tryz.prog 144 args k j e:=by
 unfold Kp at h
 split at h
 · rename_i n m
   cases h
   rw [Bool.and_eq_true,decide_eq_true_eq] at hok
   obtain ⟨rows',hc,_⟩:=aC NB ag Tryz.func144 (Ow (n:=n) hok.1 (ap.1 hok.2))
   exact aM hc rfl rfl
 · cases h
noncomputable def S9:bY:=⟨144,fun args _=>Kp args,fun _ _ _ h hok=>JV h hok,aq Tryz.func144 (by kernel_rfl)⟩
noncomputable def Zg:bS:=aV [] [S9]
theorem Wd:bV Tryz.prog Zg:=aD (by kernel_rfl)
theorem E3 (a:V3) (n:Int):aH Zg (fun _ _=>none) 300 129 Tryz.f129 0 [.agg a.sv,.int .i64 n] []=
 bif decide (n<0) then some (SV.agg [.int .i64 (av 0 a.x),.int .i64 (av 0 a.y),.int .i64 (av 0 a.z)],[])
 else
 bif decide (0≤n)&&am n then
 bif decide (0≤n)&&am n then
 bif decide (0≤n)&&am n then some (SV.agg [.int .i64 (av n a.x),.int .i64 (av n a.y),.int .i64 (av n a.z)],[]) else none
 else none
 else none:=by kernel_rfl
theorem Ix {a:V3} {n:Int} (h:aU n):aH Zg (fun _ _=>none) 300 129 Tryz.f129 0 [.agg a.sv,.int .i64 n] []=some (.agg (a.clamp n).sv,[]):=by
 rw [E3]
 by_cases h0:n<0
 · have e:∀x,av n x=av 0 x:=fun x=>by unfold av;rw [show max n 0=0 by omega,show max (0:Int) 0=0 from rfl]
   rw [decide_eq_true h0]
   unfold V3.clamp
   rw [e,e,e]
   rfl
 · rw [decide_eq_false h0,decide_eq_true (show 0≤n by omega),ap.2 h]
   rfl
def ww:List SV→Option aL
 |[.agg [.int .i64 a,.int .i64 b,.int .i64 c],.int .i64 n]=>some {ok:=am n,val:=.agg (V3.clamp ⟨a,b,c⟩ n).sv}
 |_=>none
theorem EP {k:Nat→Option Row} {j:Nat} {args:List SV} {e:aL} (h:ww args=some e) (hok:e.ok=true):aN Tryz.prog 129 args k j e:=by
 unfold ww at h
 split at h
 · rename_i a b c n
   cases h
   obtain ⟨rows',hc,_⟩:=aC Wd ag Tryz.func129 (Ix (a:=⟨a,b,c⟩) (ap.1 hok))
   exact aM hc rfl rfl
 · cases h
noncomputable def J3:bY:=⟨129,fun args _=>ww args,fun _ _ _ h hok=>EP h hok,aq Tryz.func129 (by kernel_rfl)⟩
noncomputable def UF:bS:=aV [48] []
theorem ER:bV Tryz.prog UF:=aD (by kernel_rfl)
theorem AP (w d h:Int) (len off:Nat) (xs:List Bool):aH UF (fun _ _=>none) 300 48 Tryz.f48 0 [bB w d h (.slice 0 1 off len none) .unk] [.vec true .bool xs]=
 bif bif decide (min (min w d) h<1)==false then decide (max (max w d) h>32) else true then some (SV.bool false,[])
 else some (SV.bool ((↑len:Int)==IntKind.i64.wrap (IntKind.i64.wrap (w*d)*h)),[]):=by kernel_rfl
theorem zk (w d h:Int) (len off:Nat) (xs:List Bool) (x y z:Int):aH UF (fun _ _=>none) 300 80 Tryz.f80 0 [bB w d h (.slice 0 1 off len none) .unk,.int .i64 x,.int .i64 y,.int .i64 z] [.vec true .bool xs]=
 bif bif decide (min (min w d) h<1)==false then decide (max (max w d) h>32) else true then some (SV.bool true,[])
 else
 bif
 bif
 (bif (bif (bif (!(↑len:Int)==IntKind.i64.wrap (IntKind.i64.wrap (w*d)*h))==false then decide (min (min x y) z<0) else true)==false then decide (x≥w) else true)==false then
 decide (y≥d)
 else true)==
 false then
 decide (z≥h)
 else true then
 some (SV.bool true,[])
 else
 bif
 decide (0≤IntKind.i64.wrap (x+IntKind.i64.wrap (w*IntKind.i64.wrap (y+IntKind.i64.wrap (d*z)))))&&
 decide (IntKind.i64.wrap (x+IntKind.i64.wrap (w*IntKind.i64.wrap (y+IntKind.i64.wrap (d*z))))<(↑len:Int)) then
 bif decide (off+(IntKind.i64.wrap (x+IntKind.i64.wrap (w*IntKind.i64.wrap (y+IntKind.i64.wrap (d*z))))).toNat<xs.length) then
 some (SV.bool (xs.getD (off+(IntKind.i64.wrap (x+IntKind.i64.wrap (w*IntKind.i64.wrap (y+IntKind.i64.wrap (d*z))))).toNat) aA.bool.dflt),[])
 else none
 else none:=by kernel_rfl
theorem BC (c lo hi:Int):aH UF (fun _ _=>none) 300 79 Tryz.f79 0 [.int .i64 c,.int .i64 lo,.int .i64 hi] []=
 some (SV.bool (decide (max lo (IntKind.i64.wrap (c*65536))≤min (IntKind.i64.wrap (hi - 1)) (IntKind.i64.wrap (IntKind.i64.wrap (c*65536)+65535)))),[]):=by kernel_rfl
theorem EM {w d h:Int} {len off:Nat} {xs:List Bool}:aH UF (fun _ _=>none) 300 48 Tryz.f48 0 [bB w d h (.slice 0 1 off len none) .unk] [.vec true .bool xs]=some (.bool (af w d h len fun j=>xs.getD (off+j) false).sized,[]):=by
 rw [AP,cY]
 have hs:=mc (m:=af w d h len fun j=>xs.getD (off+j) false)
 rw [show (af w d h len fun j=>xs.getD (off+j) false).w=w from rfl,show (af w d h len fun j=>xs.getD (off+j) false).d=d from rfl,show (af w d h len fun j=>xs.getD (off+j) false).h=h from rfl,show (af w d h len fun j=>xs.getD (off+j) false).len=len from rfl] at hs
 generalize (af w d h len fun j=>xs.getD (off+j) false).sized=S at hs ⊢
 cases hc:decide (min (min w d) h<1)||decide (max (max w d) h>32) with
 | true=>
  have :S=false:=by
   rw [Bool.eq_false_iff]
   intro h1
   have:=(hs.1 h1).1
   simp only [Bool.or_eq_true,decide_eq_true_eq] at hc
   omega
  rw [this]
  rfl
 | false=>
  simp only [Bool.or_eq_false_iff,decide_eq_false_iff_not] at hc
  obtain ⟨p1,p2⟩:=mC (show 1≤w∧w≤32 by omega) (show 1≤d∧d≤32 by omega)
  obtain ⟨q1,q2⟩:=mC (a:=w*d) (b:=h) (show 1≤w*d∧w*d≤1024 by omega) (show 1≤h∧h≤32 by omega)
  rw [IntWalk.i64_in (w*d) (by omega),IntWalk.i64_in (w*d*h) (by omega)]
  have :S=((len:Int)==w*d*h):=by
   rw [Bool.eq_iff_iff,hs,beq_iff_eq]
   exact ⟨fun h1=>h1.2,fun h1=>⟨by omega,h1⟩⟩
  rw [this]
  rfl
theorem E4 {w d h:Int} {len off:Nat} {xs:List Bool} {x y z:Int} (hl:off+len≤xs.length):aH UF (fun _ _=>none) 300 80 Tryz.f80 0 [bB w d h (.slice 0 1 off len none) .unk,.int .i64 x,.int .i64 y,.int .i64 z] [.vec true .bool xs]=some (.bool ((af w d h len fun j=>xs.getD (off+j) false).solid x y z),[]):=by
 rw [zk]
 simp only [cY]
 have hs:=mc (m:=af w d h len fun j=>xs.getD (off+j) false)
 have hi:=@Mp.idx_lt (af w d h len fun j=>xs.getD (off+j) false) x y z
 unfold Mp.solid
 have eM:(af w d h len fun j=>xs.getD (off+j) false).s=fun j=>xs.getD (off+j) false:=rfl
 rw [eM]
 rw [show (af w d h len fun j=>xs.getD (off+j) false).w=w from rfl,show (af w d h len fun j=>xs.getD (off+j) false).d=d from rfl,show (af w d h len fun j=>xs.getD (off+j) false).h=h from rfl,show (af w d h len fun j=>xs.getD (off+j) false).len=len from rfl] at*
 generalize (af w d h len fun j=>xs.getD (off+j) false).sized=S at hs hi ⊢
 generalize (af w d h len fun j=>xs.getD (off+j) false).idx x y z=I at hi ⊢
 cases hc:decide (min (min w d) h<1)||decide (max (max w d) h>32) with
 | true=>
  have :S=false:=by
   rw [Bool.eq_false_iff]
   intro h1
   have:=(hs.1 h1).1
   simp only [Bool.or_eq_true,decide_eq_true_eq] at hc
   omega
  rw [this]
  rfl
 | false=>
  simp only [Bool.or_eq_false_iff,decide_eq_false_iff_not] at hc
  obtain ⟨p1,p2⟩:=mC (show 1≤w∧w≤32 by omega) (show 1≤d∧d≤32 by omega)
  obtain ⟨q1,q2⟩:=mC (a:=w*d) (b:=h) (show 1≤w*d∧w*d≤1024 by omega) (show 1≤h∧h≤32 by omega)
  rw [IntWalk.i64_in (w*d) (by omega),IntWalk.i64_in (w*d*h) (by omega)]
  have eS:((len:Int)==w*d*h)=S:=by
   rw [Bool.eq_iff_iff,hs,beq_iff_eq]
   exact ⟨fun h1=>⟨by omega,h1⟩,fun h1=>h1.2⟩
  rw [eS]
  simp only [cond_false]
  by_cases hin:S=true∧(0≤x∧x<w)∧(0≤y∧y<d)∧(0≤z∧z<h)
  · obtain ⟨h1,h2,h3,h4⟩:=hin
    have bx:kN x w=true:=by unfold kN;rw [decide_eq_true h2.1,decide_eq_true h2.2];rfl
    have b_y:kN y d=true:=by unfold kN;rw [decide_eq_true h3.1,decide_eq_true h3.2];rfl
    have bz:kN z h=true:=by unfold kN;rw [decide_eq_true h4.1,decide_eq_true h4.2];rfl
    obtain ⟨i1,i2,i3,i4,i5,i6⟩:=hi h1 bx b_y bz
    rw [h1,bx,b_y,bz,decide_eq_false (show ¬ min (min x y) z<0 by omega),decide_eq_false (show ¬ x≥w by omega),decide_eq_false (show ¬ y≥d by omega),decide_eq_false (show ¬ z≥h by omega)]
    rw [Int.mul_comm d z,IntWalk.i64_in (z*d) (by omega),Int.add_comm y (z*d),IntWalk.i64_in (z*d+y) (by omega),Int.mul_comm w (z*d+y),IntWalk.i64_in ((z*d+y)*w) (by omega),Int.add_comm x ((z*d+y)*w),i5,IntWalk.i64_in (I:Int) (by omega),show ((I:Int)).toNat=I by omega,decide_eq_true (show (0:Int)≤(I:Int) by omega),decide_eq_true (show (I:Int)<(len:Int) by omega),decide_eq_true (show off+I<xs.length by omega)]
    rfl
  · have e1:((((!S||decide (min (min x y) z<0))||decide (x≥w))||decide (y≥d))||decide (z≥h))=true:=by
     cases S
     · rfl
     · simp only [Bool.not_true,Bool.false_or,Bool.or_eq_true,decide_eq_true_eq]
       simp only [true_and] at hin
       omega
    have e2:(!S|| !kN x w|| !kN y d|| !kN z h||xs.getD (off+I) false)=true:=by
     cases S
     · rfl
     · unfold kN
       simp only [Bool.not_true,Bool.false_or,Bool.or_eq_true,Bool.not_eq_true',Bool.and_eq_false_iff,decide_eq_false_iff_not]
       simp only [true_and] at hin
       left
       omega
    rw [e1,e2]
    rfl
def yb (args:List SV) (rows:List Row):Option aL:=
 match args with
 |[.agg [.int .i64 w,.int .i64 d,.int .i64 h,.slice id st off len _,sp],.int .i64 x,.int .i64 y,.int .i64 z]=>match rows[id]? with
  |some (.vec _ .bool xs)=>bif Nat.beq st 1&&sp.one then some {ok:=decide (off+len≤xs.length),val:=.bool ((af w d h len fun j=>xs.getD (off+j) false).solid x y z),rd:=[id]} else none
  |_=>none
 |_=>none
theorem D8 {args:List SV} {rows:List Row} {n:Nat} {e:aL} (h:yb args rows=some e) (hok:e.ok=true):aN Tryz.prog 80 args (rows[·]?) n e:=by
 unfold yb at h
 split at h
 · rename_i w d hh id st off len cap sp x y z
   split at h
   · rename_i ro xs hrow
     cases hb:Nat.beq st 1&&sp.one with
     |false=>simp [hb] at h
     |true=>
      simp only [hb,cond_true,Option.some.injEq] at h
      subst h
      rw [Bool.and_eq_true] at hb
      have hst:=Nat.eq_of_beq_eq_true hb.1
      subst hst
      obtain ⟨rows',hc,_⟩:=aC ER ag Tryz.func80 (E4 (w:=w) (d:=d) (h:=hh) (x:=x) (y:=y) (z:=z) (xs:=xs) (of_decide_eq_true hok))
      exact c7 hb.2 hc rfl rfl hrow
   · cases h
 · cases h
noncomputable def pj:bY:=⟨80,yb,fun _ _ _ h hok=>D8 h hok,aq Tryz.func80 (by kernel_rfl)⟩
def xm (args:List SV) (rows:List Row):Option aL:=
 match args with
 |[.agg [.int .i64 w,.int .i64 d,.int .i64 h,.slice id st off len _,sp]]=>match rows[id]? with
  |some (.vec _ .bool xs)=>bif Nat.beq st 1&&sp.one then some {val:=.bool (af w d h len fun j=>xs.getD (off+j) false).sized,rd:=[id]} else none
  |_=>none
 |_=>none
theorem DQ {args:List SV} {rows:List Row} {n:Nat} {e:aL} (h:xm args rows=some e) (hok:e.ok=true):aN Tryz.prog 48 args (rows[·]?) n e:=by
 unfold xm at h
 split at h
 · rename_i w d hh id st off len cap sp
   split at h
   · rename_i ro xs hrow
     cases hb:Nat.beq st 1&&sp.one with
     |false=>simp [hb] at h
     |true=>
      simp only [hb,cond_true,Option.some.injEq] at h
      subst h
      rw [Bool.and_eq_true] at hb
      have hst:=Nat.eq_of_beq_eq_true hb.1
      subst hst
      obtain ⟨rows',hc,_⟩:=aC ER ag Tryz.func48 (EM (w:=w) (d:=d) (h:=hh) (len:=len) (off:=off) (xs:=xs))
      exact c7 hb.2 hc rfl rfl hrow
   · cases h
 · cases h
noncomputable def uJ:bY:=⟨48,xm,fun _ _ _ h hok=>DQ h hok,aq Tryz.func48 (by kernel_rfl)⟩
def cF (c lo hi:Int):Bool:=decide (max lo (c*65536)≤min (hi - 1) (c*65536+65535))
def jc (c lo hi:Int):Bool:=(decide (0≤c)&&decide (c≤32))&&((am lo&&am hi)&&decide (lo<hi))
theorem HU {c lo hi:Int} (h:jc c lo hi=true):aH UF (fun _ _=>none) 300 79 Tryz.f79 0 [.int .i64 c,.int .i64 lo,.int .i64 hi] []=some (.bool (cF c lo hi),[]):=by
 unfold jc at h
 simp only [Bool.and_eq_true,decide_eq_true_eq,ap] at h
 obtain ⟨⟨h1,h2⟩,⟨h3,h4⟩,h5⟩:=h
 unfold aU at h3 h4
 rw [BC,IntWalk.i64_in (c*65536) (by omega),IntWalk.i64_in (hi - 1) (by omega),IntWalk.i64_in (c*65536+65535) (by omega)]
 rfl
def DK:List SV→Option aL
 |[.int .i64 c,.int .i64 lo,.int .i64 hi]=>some {ok:=jc c lo hi,val:=.bool (cF c lo hi)}
 |_=>none
theorem Hp {m:Nat→Option Row} {n:Nat} {args:List SV} {e:aL} (h:DK args=some e) (hok:e.ok=true):aN Tryz.prog 79 args m n e:=by
 unfold DK at h
 split at h
 · rename_i c lo hi
   cases h
   obtain ⟨rows',hc,_⟩:=aC ER ag Tryz.func79 (HU hok)
   exact aM hc rfl rfl
 · cases h
noncomputable def KW:bY:=⟨79,fun args _=>DK args,fun _ _ _ h hok=>Hp h hok,aq Tryz.func79 (by kernel_rfl)⟩
theorem Ai {m:Mp} {x y z:Int} (h:m.solid x y z=false):m.sized=true∧(0≤x∧x<m.w)∧(0≤y∧y<m.d)∧(0≤z∧z<m.h):=by
 unfold Mp.solid kN at h
 simp only [Bool.or_eq_false_iff,Bool.not_eq_false',Bool.and_eq_true,decide_eq_true_eq] at h
 obtain ⟨⟨⟨⟨h1,h2⟩,h3⟩,h4⟩,_⟩:=h
 exact ⟨h1,h2,h3,h4⟩
theorem ga {c lo hi:Int} (h:lo<hi):cF c lo hi=true↔lo/65536≤c∧c≤(hi - 1)/65536:=by
 unfold cF
 rw [decide_eq_true_eq]
 omega
def Mp.hitX (m:Mp) (lo hi:V3) (z y x:Int):Bool:=((cF x lo.x hi.x&&cF y lo.y hi.y)&&cF z lo.z hi.z)&&m.solid x y z
def Mp.hitY (m:Mp) (lo hi:V3) (z y:Int):Bool:=gC (m.hitX lo hi z y) m.w.toNat 0
def Mp.hitZ (m:Mp) (lo hi:V3) (z:Int):Bool:=gC (m.hitY lo hi z) m.d.toNat 0
def Mp.hitAll (m:Mp) (lo hi:V3):Bool:=gC (m.hitZ lo hi) m.h.toNat 0
theorem vd {m:Mp} {lo hi:V3} (h1:lo.x<hi.x) (h2:lo.y<hi.y) (h3:lo.z<hi.z)
    (h:m.sized=false∨lo.x<0∨lo.y<0∨lo.z<0∨hi.x>m.w*65536∨hi.y>m.d*65536∨hi.z>m.h*65536):m.clear lo hi=false:=by
 rw [Bool.eq_false_iff]
 intro hc
 rcases Mp.clear_iff.1 hc with k |k |k |k
 · omega
 · omega
 · omega
 · obtain ⟨a1,a2,a3,a4⟩:=Ai (k (lo.x/65536) (lo.y/65536) (lo.z/65536) (by omega) (by omega) (by omega) (by omega) (by omega) (by omega))
   obtain ⟨b1,b2,b3,b4⟩:=Ai (k ((hi.x - 1)/65536) ((hi.y - 1)/65536) ((hi.z - 1)/65536) (by omega) (by omega) (by omega) (by omega) (by omega) (by omega))
   rcases h with h |h |h |h |h |h |h
   · rw [h] at a1;cases a1
   all_goals omega
theorem Jh {m:Mp} {lo hi:V3} (h1:lo.x<hi.x) (h2:lo.y<hi.y) (h3:lo.z<hi.z) (a1:0≤lo.x) (a2:0≤lo.y) (a3:0≤lo.z) (b1:hi.x≤m.w*65536) (b2:hi.y≤m.d*65536) (b3:hi.z≤m.h*65536):m.clear lo hi= !m.hitAll lo hi:=by
 rw [Bool.eq_iff_iff,Mp.clear_iff,Bool.not_eq_true',←Bool.not_eq_true]
 unfold Mp.hitAll
 constructor
 · intro hc hh
   rcases hc with k |k |k |k
   · omega
   · omega
   · omega
   · obtain ⟨z,z1,z2,hz⟩:=ew.1 hh
     obtain ⟨y,y1,y2,hy⟩:=ew.1 hz
     obtain ⟨x,x1,x2,hx⟩:=ew.1 hy
     unfold Mp.hitX at hx
     simp only [Bool.and_eq_true,ga h1,ga h2,ga h3] at hx
     obtain ⟨⟨⟨hx1,hx2⟩,hx3⟩,hx4⟩:=hx
     rw [k x y z hx1.1 hx1.2 hx2.1 hx2.2 hx3.1 hx3.2] at hx4
     cases hx4
 · intro hh
   refine .inr (.inr (.inr fun i j k i1 i2 j1 j2 k1 k2=>?_))
   rw [←Bool.not_eq_true]
   intro hs
   refine hh (ew.2 ⟨k,by omega,by omega,ew.2 ⟨j,by omega,by omega,ew.2 ⟨i,by omega,by omega,?_⟩⟩⟩)
   unfold Mp.hitX
   simp only [Bool.and_eq_true,ga h1,ga h2,ga h3]
   exact ⟨⟨⟨⟨i1,i2⟩,j1,j2⟩,k1,k2⟩,hs⟩
noncomputable def XT:bS:=aV [] [uJ,KW,pj]
theorem wM:bV Tryz.prog XT:=aD (by kernel_rfl)
def ii (w d h:Int) (off len:Nat) (xs:List Bool) (lo hi:V3):List Row:=[.vec true .bool xs,.own [.int .i64 w,.int .i64 d,.int .i64 h,.slice 0 1 off len none,.unk],.own lo.sv,.own hi.sv]
def o8 (b:Bool) (z y x:Int):List SV:=[.ptr 1 0 0 0,.ptr 2 0 0 0,.ptr 3 0 0 0,.bool b,.int .i64 z,.int .i64 y,.int .i64 x]
def nN (b:Bool) (z y:Int):List SV:=[.ptr 1 0 0 0,.ptr 2 0 0 0,.ptr 3 0 0 0,.bool b,.int .i64 z,.int .i64 y]
def nE (b:Bool) (z:Int):List SV:=[.ptr 1 0 0 0,.ptr 2 0 0 0,.ptr 3 0 0 0,.bool b,.int .i64 z]
noncomputable def R5:List SV→List Row→Option aj:=bj XT (fun _ _=>none) 100 51 [0,1,0,0,1,0,0,1,0,0,1,0,0,1,0,1,1,1,1] (bg Tryz.f51 [0,1,0,0,1,0,0,1,0,0,1,0,0,1,0,1,1,1,1]) 117 4 [3,4,5,6,8,9,10]
theorem zi (w d h:Int) (off len:Nat) (xs:List Bool) (lo hi:V3) (z y x:Int):R5 (o8 false z y x) (ii w d h off len xs lo hi)=
 bif decide (x<w) then
 bif jc x lo.x hi.x then
 bif (jc y lo.y hi.y&&true&&true||cF x lo.x hi.x !=true)&&(true||cF x lo.x hi.x==true)&&true then
 bif
 (jc z lo.z hi.z&&true&&true||(bif cF x lo.x hi.x==true then cF y lo.y hi.y else false) !=true)&&
 (true||(bif cF x lo.x hi.x==true then cF y lo.y hi.y else false)==true)&&
 true then
 bif
 (decide (off+len≤xs.length)&&true&&true||(bif (bif cF x lo.x hi.x==true then cF y lo.y hi.y else false)==true then cF z lo.z hi.z else false) !=true)&&
 (true||(bif (bif cF x lo.x hi.x==true then cF y lo.y hi.y else false)==true then cF z lo.z hi.z else false)==true)&&
 true then
 bif
 bif (bif (bif cF x lo.x hi.x==true then cF y lo.y hi.y else false)==true then cF z lo.z hi.z else false)==true then
 (af w d h len fun j=>xs.getD (off+j) false).solid x y z
 else false then
 some
 (SV.tuple [SV.nils,SV.tuple [SV.ptr 1 0 0 0,SV.ptr 2 0 0 0,SV.ptr 3 0 0 0,SV.bool false,.int .i64 z,.int .i64 y,.int .i64 x]],
 [Row.vec true aA.bool xs,Row.own [.int .i64 w,.int .i64 d,.int .i64 h,SV.slice 0 1 off len none,SV.unk],
 Row.own [.int .i64 lo.x,.int .i64 lo.y,.int .i64 lo.z],Row.own [.int .i64 hi.x,.int .i64 hi.y,.int .i64 hi.z]])
 else
 some
 (SV.tuple [SV.nilp,SV.tuple [SV.ptr 1 0 0 0,SV.ptr 2 0 0 0,SV.ptr 3 0 0 0,SV.bool false,.int .i64 z,.int .i64 y,.int .i64 (IntKind.i64.wrap (x+1))]],
 [Row.vec true aA.bool xs,Row.own [.int .i64 w,.int .i64 d,.int .i64 h,SV.slice 0 1 off len none,SV.unk],
 Row.own [.int .i64 lo.x,.int .i64 lo.y,.int .i64 lo.z],Row.own [.int .i64 hi.x,.int .i64 hi.y,.int .i64 hi.z]])
 else none
 else none
 else none
 else none
 else
 some
 (SV.tuple [SV.ptr 4 0 0 0,SV.tuple [SV.ptr 1 0 0 0,SV.ptr 2 0 0 0,SV.ptr 3 0 0 0,SV.bool false,.int .i64 z,.int .i64 y,.int .i64 x]],
 [Row.vec true aA.bool xs,Row.own [.int .i64 w,.int .i64 d,.int .i64 h,SV.slice 0 1 off len none,SV.unk],
 Row.own [.int .i64 lo.x,.int .i64 lo.y,.int .i64 lo.z],Row.own [.int .i64 hi.x,.int .i64 hi.y,.int .i64 hi.z]]):=by kernel_rfl
def Pb (w d h:Int) (off len:Nat) (xs:List Bool) (lo hi:V3):Bool:=((decide (0≤w)&&decide (w≤32))&&((decide (0≤d)&&decide (d≤32))&&(decide (0≤h)&&decide (h≤32))))&&((aw lo&&aw hi)&&((decide (lo.x<hi.x)&&(decide (lo.y<hi.y)&&decide (lo.z<hi.z)))&&decide (off+len≤xs.length)))
theorem re {w d h:Int} {off len:Nat} {xs:List Bool} {lo hi:V3}:Pb w d h off len xs lo hi=true↔((0≤w∧w≤32)∧(0≤d∧d≤32)∧(0≤h∧h≤32))∧(lo.fits∧hi.fits)∧(lo.x<hi.x∧lo.y<hi.y∧lo.z<hi.z)∧off+len≤xs.length:=by
 unfold Pb
 simp only [Bool.and_eq_true,decide_eq_true_eq,aB]
theorem nv {c lo hi:Int} (h0:0≤c) (h1:c≤32) (h2:aU lo) (h3:aU hi) (h4:lo<hi):jc c lo hi=true:=by
 unfold jc
 simp only [Bool.and_eq_true,decide_eq_true_eq,ap]
 exact ⟨⟨h0,h1⟩,⟨h2,h3⟩,h4⟩
section
variable {w d h:Int} {off len:Nat} {xs:List Bool} {lo hi:V3}
theorem PV (hc:Pb w d h off len xs lo hi=true) {z y:Int} (hz:0≤z∧z≤31) (hy:0≤y∧y≤31):
    ((af w d h len fun j=>xs.getD (off+j) false).hitY lo hi z y=true→aJ R5 (o8 false z y 0) (ii w d h off len xs lo hi) .ret (o8 false z y (kA ((af w d h len fun j=>xs.getD (off+j) false).hitX lo hi z y) w.toNat 0)) (ii w d h off len xs lo hi))∧
    ((af w d h len fun j=>xs.getD (off+j) false).hitY lo hi z y=false→aJ R5 (o8 false z y 0) (ii w d h off len xs lo hi) (.exit 4) (o8 false z y w) (ii w d h off len xs lo hi)):=by
 obtain ⟨⟨h1,h2,h3⟩,⟨f1,f2⟩,⟨l1,l2,l3⟩,h4⟩:=re.1 hc
 have key:=fz (rd:=R5) (val:=o8 false z y) (valR:=o8 false z y) (R:=ii w d h off len xs lo hi) (p:=(af w d h len fun j=>xs.getD (off+j) false).hitX lo hi z y) (W:=w) (ex:=4) (i0:=0) (fun x x0 x1=>?_) ?_ w.toNat 0 (by omega) (by omega)
 · exact key
 · rw [zi,decide_eq_true x1,nv x0 (by omega) f1.1 f2.1 l1,nv (c:=y) (by omega) (by omega) f1.2.1 f2.2.1 l2,nv (c:=z) (by omega) (by omega) f1.2.2 f2.2.2 l3,decide_eq_true h4,IntWalk.i64_in (x+1) (by omega)]
   simp only [dh]
   unfold Mp.hitX
   generalize cF x lo.x hi.x=a
   generalize cF y lo.y hi.y=b
   generalize cF z lo.z hi.z=c
   cases a
   · rfl
   · cases b
     · rfl
     · cases c
       · rfl
       · simp only [Bool.and_self,Bool.true_and,Bool.true_or,cond_true,Bool.and_true]
         rfl
 · rw [zi,decide_eq_false (by omega)]
   rfl
end
noncomputable def Uh (v:List SV) (R:List Row) (k:Ex→List SV→List Row→Option aj):Option aj:=match v,R with
 | [.ptr 1 0 0 0,.ptr 2 0 0 0,.ptr 3 0 0 0,.bool b,.int .i64 z,.int .i64 y,.int .i64 x],[.vec true .bool xs,.own [.int .i64 w,.int .i64 d,.int .i64 h,.slice 0 1 off len none,.unk],.own [.int .i64 lx,.int .i64 ly,.int .i64 lz],.own [.int .i64 hx,.int .i64 hy,.int .i64 hz]]=>
     bif (!b&&decide (x=0))&&(((decide (0≤z)&&decide (z≤31))&&(decide (0≤y)&&decide (y≤31)))&&Pb w d h off len xs ⟨lx,ly,lz⟩ ⟨hx,hy,hz⟩) then
      (bif (af w d h len fun j=>xs.getD (off+j) false).hitY ⟨lx,ly,lz⟩ ⟨hx,hy,hz⟩ z y then k .ret (o8 false z y (kA ((af w d h len fun j=>xs.getD (off+j) false).hitX ⟨lx,ly,lz⟩ ⟨hx,hy,hz⟩ z y) w.toNat 0)) (ii w d h off len xs ⟨lx,ly,lz⟩ ⟨hx,hy,hz⟩)
      else k (.exit 4) (o8 false z y w) (ii w d h off len xs ⟨lx,ly,lz⟩ ⟨hx,hy,hz⟩)) else none
 |_,_=>none
theorem OI:da 51 [0,1,0,0,1,0,0,1,0,0,1,0,0,1,0,1,1,1,1] (bG 117 [3,4,5,6,8,9,10] Uh):=by
 intro b hat s K r h
 refine aQ (fuel:=100) wM ag hat (fun v R k r hr=>?_) h
 have hbody:=aZ Tryz.func51 hat
 subst hbody
 unfold Uh at hr
 split at hr
 · rename_i bb z y x xs w d h off len lx ly lz hx hy hz
   obtain ⟨hb,hr2⟩:=al hr
   simp only [Bool.and_eq_true,decide_eq_true_eq,Bool.not_eq_true'] at hb
   obtain ⟨⟨rfl,rfl⟩,⟨h1,h2⟩,h3⟩:=hb
   obtain ⟨k1,k2⟩:=PV h3 h1 h2
   cases hq:(af w d h len fun j=>xs.getD (off+j) false).hitY ⟨lx,ly,lz⟩ ⟨hx,hy,hz⟩ z y with
   |true=>rw [hq,cond_true] at hr2;exact ⟨_,_,_,hr2,k1 hq⟩
   |false=>rw [hq,cond_false] at hr2;exact ⟨_,_,_,hr2,k2 hq⟩
 · cases hr
noncomputable def Ty:jh:=⟨_,_,_,OI⟩
noncomputable def QM:List SV→List Row→Option aj:=bj XT (aF [Ty]) 100 51 [0,1,0,0,1,0,0,1,0,1,1,1,1] (bg Tryz.f51 [0,1,0,0,1,0,0,1,0,1,1,1,1]) 117 4 [3,4,5,6,8,9]
theorem Bl (w d h:Int) (off len:Nat) (xs:List Bool) (lo hi:V3) (z y:Int):QM (nN false z y) (ii w d h off len xs lo hi)=
 bif decide (y<d) then
 bif decide (0≤z)&&decide (z≤31)&&(decide (0≤y)&&decide (y≤31))&&Pb w d h off len xs lo hi then
 bif (af w d h len fun j=>xs.getD (off+j) false).hitY lo hi z y then
 some
 (SV.tuple [SV.nils,SV.tuple [SV.ptr 1 0 0 0,SV.ptr 2 0 0 0,SV.ptr 3 0 0 0,SV.bool false,.int .i64 z,.int .i64 y]],
 [Row.vec true aA.bool xs,Row.own [.int .i64 w,.int .i64 d,.int .i64 h,SV.slice 0 1 off len none,SV.unk],
 Row.own [.int .i64 lo.x,.int .i64 lo.y,.int .i64 lo.z],Row.own [.int .i64 hi.x,.int .i64 hi.y,.int .i64 hi.z]])
 else
 some
 (SV.tuple [SV.nilp,SV.tuple [SV.ptr 1 0 0 0,SV.ptr 2 0 0 0,SV.ptr 3 0 0 0,SV.bool false,.int .i64 z,.int .i64 (IntKind.i64.wrap (y+1))]],
 [Row.vec true aA.bool xs,Row.own [.int .i64 w,.int .i64 d,.int .i64 h,SV.slice 0 1 off len none,SV.unk],
 Row.own [.int .i64 lo.x,.int .i64 lo.y,.int .i64 lo.z],Row.own [.int .i64 hi.x,.int .i64 hi.y,.int .i64 hi.z]])
 else none
 else
 some
 (SV.tuple [SV.ptr 2 0 0 0,SV.tuple [SV.ptr 1 0 0 0,SV.ptr 2 0 0 0,SV.ptr 3 0 0 0,SV.bool false,.int .i64 z,.int .i64 y]],
 [Row.vec true aA.bool xs,Row.own [.int .i64 w,.int .i64 d,.int .i64 h,SV.slice 0 1 off len none,SV.unk],
 Row.own [.int .i64 lo.x,.int .i64 lo.y,.int .i64 lo.z],Row.own [.int .i64 hi.x,.int .i64 hi.y,.int .i64 hi.z]]):=by kernel_rfl
section
variable {w d h:Int} {off len:Nat} {xs:List Bool} {lo hi:V3}
theorem Q2 (hc:Pb w d h off len xs lo hi=true) {z:Int} (hz:0≤z∧z≤31):
    ((af w d h len fun j=>xs.getD (off+j) false).hitZ lo hi z=true→aJ QM (nN false z 0) (ii w d h off len xs lo hi) .ret (nN false z (kA ((af w d h len fun j=>xs.getD (off+j) false).hitY lo hi z) d.toNat 0)) (ii w d h off len xs lo hi))∧
    ((af w d h len fun j=>xs.getD (off+j) false).hitZ lo hi z=false→aJ QM (nN false z 0) (ii w d h off len xs lo hi) (.exit 2) (nN false z d) (ii w d h off len xs lo hi)):=by
 obtain ⟨⟨h1,h2,h3⟩,⟨f1,f2⟩,⟨l1,l2,l3⟩,h4⟩:=re.1 hc
 have key:=fz (rd:=QM) (val:=nN false z) (valR:=nN false z) (R:=ii w d h off len xs lo hi) (p:=(af w d h len fun j=>xs.getD (off+j) false).hitY lo hi z) (W:=d) (ex:=2) (i0:=0) (fun y y0 y1=>?_) ?_ d.toNat 0 (by omega) (by omega)
 · exact key
 · rw [Bl,decide_eq_true y1,hc,decide_eq_true hz.1,decide_eq_true hz.2,decide_eq_true y0,decide_eq_true (show y≤31 by omega),IntWalk.i64_in (y+1) (by omega)]
   rfl
 · rw [Bl,decide_eq_false (by omega)]
   rfl
end
noncomputable def U8 (v:List SV) (R:List Row) (k:Ex→List SV→List Row→Option aj):Option aj:=match v,R with
 | [.ptr 1 0 0 0,.ptr 2 0 0 0,.ptr 3 0 0 0,.bool b,.int .i64 z,.int .i64 y],[.vec true .bool xs,.own [.int .i64 w,.int .i64 d,.int .i64 h,.slice 0 1 off len none,.unk],.own [.int .i64 lx,.int .i64 ly,.int .i64 lz],.own [.int .i64 hx,.int .i64 hy,.int .i64 hz]]=>
     bif (!b&&decide (y=0))&&((decide (0≤z)&&decide (z≤31))&&Pb w d h off len xs ⟨lx,ly,lz⟩ ⟨hx,hy,hz⟩) then
      (bif (af w d h len fun j=>xs.getD (off+j) false).hitZ ⟨lx,ly,lz⟩ ⟨hx,hy,hz⟩ z then k .ret (nN false z (kA ((af w d h len fun j=>xs.getD (off+j) false).hitY ⟨lx,ly,lz⟩ ⟨hx,hy,hz⟩ z) d.toNat 0)) (ii w d h off len xs ⟨lx,ly,lz⟩ ⟨hx,hy,hz⟩)
      else k (.exit 2) (nN false z d) (ii w d h off len xs ⟨lx,ly,lz⟩ ⟨hx,hy,hz⟩)) else none
 |_,_=>none
theorem Ox:da 51 [0,1,0,0,1,0,0,1,0,1,1,1,1] (bG 117 [3,4,5,6,8,9] U8):=by
 intro b hat s K r h
 refine aQ (fuel:=100) wM (aG (l:=[Ty])) hat (fun v R k r hr=>?_) h
 have hbody:=aZ Tryz.func51 hat
 subst hbody
 unfold U8 at hr
 split at hr
 · rename_i bb z y xs w d h off len lx ly lz hx hy hz
   obtain ⟨hb,hr2⟩:=al hr
   simp only [Bool.and_eq_true,decide_eq_true_eq,Bool.not_eq_true'] at hb
   obtain ⟨⟨rfl,rfl⟩,h1,h3⟩:=hb
   obtain ⟨k1,k2⟩:=Q2 h3 h1
   cases hq:(af w d h len fun j=>xs.getD (off+j) false).hitZ ⟨lx,ly,lz⟩ ⟨hx,hy,hz⟩ z with
   |true=>rw [hq,cond_true] at hr2;exact ⟨_,_,_,hr2,k1 hq⟩
   |false=>rw [hq,cond_false] at hr2;exact ⟨_,_,_,hr2,k2 hq⟩
 · cases hr
noncomputable def U6:jh:=⟨_,_,_,Ox⟩
noncomputable def SI:List SV→List Row→Option aj:=bj XT (aF [U6]) 100 51 [0,1,0,1,1,1,1] (bg Tryz.f51 [0,1,0,1,1,1,1]) 117 4 [3,4,5,6,8]
theorem Au (w d h:Int) (off len:Nat) (xs:List Bool) (lo hi:V3) (z:Int):SI (nE false z) (ii w d h off len xs lo hi)=
 bif decide (z<h) then
 bif decide (0≤z)&&decide (z≤31)&&Pb w d h off len xs lo hi then
 bif (af w d h len fun j=>xs.getD (off+j) false).hitZ lo hi z then
 some
 (SV.tuple [SV.nils,SV.tuple [SV.ptr 1 0 0 0,SV.ptr 2 0 0 0,SV.ptr 3 0 0 0,SV.bool false,.int .i64 z]],
 [Row.vec true aA.bool xs,Row.own [.int .i64 w,.int .i64 d,.int .i64 h,SV.slice 0 1 off len none,SV.unk],
 Row.own [.int .i64 lo.x,.int .i64 lo.y,.int .i64 lo.z],Row.own [.int .i64 hi.x,.int .i64 hi.y,.int .i64 hi.z]])
 else
 some
 (SV.tuple [SV.nilp,SV.tuple [SV.ptr 1 0 0 0,SV.ptr 2 0 0 0,SV.ptr 3 0 0 0,SV.bool false,.int .i64 (IntKind.i64.wrap (z+1))]],
 [Row.vec true aA.bool xs,Row.own [.int .i64 w,.int .i64 d,.int .i64 h,SV.slice 0 1 off len none,SV.unk],
 Row.own [.int .i64 lo.x,.int .i64 lo.y,.int .i64 lo.z],Row.own [.int .i64 hi.x,.int .i64 hi.y,.int .i64 hi.z]])
 else none
 else
 some
 (SV.tuple [SV.ptr 0 0 0 0,SV.tuple [SV.ptr 1 0 0 0,SV.ptr 2 0 0 0,SV.ptr 3 0 0 0,SV.bool false,.int .i64 z]],
 [Row.vec true aA.bool xs,Row.own [.int .i64 w,.int .i64 d,.int .i64 h,SV.slice 0 1 off len none,SV.unk],
 Row.own [.int .i64 lo.x,.int .i64 lo.y,.int .i64 lo.z],Row.own [.int .i64 hi.x,.int .i64 hi.y,.int .i64 hi.z]]):=by kernel_rfl
section
variable {w d h:Int} {off len:Nat} {xs:List Bool} {lo hi:V3}
theorem Qc (hc:Pb w d h off len xs lo hi=true):
    ((af w d h len fun j=>xs.getD (off+j) false).hitAll lo hi=true→aJ SI (nE false 0) (ii w d h off len xs lo hi) .ret (nE false (kA ((af w d h len fun j=>xs.getD (off+j) false).hitZ lo hi) h.toNat 0)) (ii w d h off len xs lo hi))∧
    ((af w d h len fun j=>xs.getD (off+j) false).hitAll lo hi=false→aJ SI (nE false 0) (ii w d h off len xs lo hi) (.exit 0) (nE false h) (ii w d h off len xs lo hi)):=by
 obtain ⟨⟨h1,h2,h3⟩,⟨f1,f2⟩,⟨l1,l2,l3⟩,h4⟩:=re.1 hc
 have key:=fz (rd:=SI) (val:=nE false) (valR:=nE false) (R:=ii w d h off len xs lo hi) (p:=(af w d h len fun j=>xs.getD (off+j) false).hitZ lo hi) (W:=h) (ex:=0) (i0:=0) (fun z z0 z1=>?_) ?_ h.toNat 0 (by omega) (by omega)
 · exact key
 · rw [Au,decide_eq_true z1,hc,decide_eq_true z0,decide_eq_true (show z≤31 by omega),IntWalk.i64_in (z+1) (by omega)]
   rfl
 · rw [Au,decide_eq_false (by omega)]
   rfl
end
noncomputable def T6 (v:List SV) (R:List Row) (k:Ex→List SV→List Row→Option aj):Option aj:=match v,R with
 | [.ptr 1 0 0 0,.ptr 2 0 0 0,.ptr 3 0 0 0,.bool b,.int .i64 z],[.vec true .bool xs,.own [.int .i64 w,.int .i64 d,.int .i64 h,.slice 0 1 off len none,.unk],.own [.int .i64 lx,.int .i64 ly,.int .i64 lz],.own [.int .i64 hx,.int .i64 hy,.int .i64 hz]]=>
     bif (!b&&decide (z=0))&&Pb w d h off len xs ⟨lx,ly,lz⟩ ⟨hx,hy,hz⟩ then
      (bif (af w d h len fun j=>xs.getD (off+j) false).hitAll ⟨lx,ly,lz⟩ ⟨hx,hy,hz⟩ then k .ret (nE false (kA ((af w d h len fun j=>xs.getD (off+j) false).hitZ ⟨lx,ly,lz⟩ ⟨hx,hy,hz⟩) h.toNat 0)) (ii w d h off len xs ⟨lx,ly,lz⟩ ⟨hx,hy,hz⟩)
      else k (.exit 0) (nE false h) (ii w d h off len xs ⟨lx,ly,lz⟩ ⟨hx,hy,hz⟩)) else none
 |_,_=>none
theorem Ng:da 51 [0,1,0,1,1,1,1] (bG 117 [3,4,5,6,8] T6):=by
 intro b hat s K r h
 refine aQ (fuel:=100) wM (aG (l:=[U6])) hat (fun v R k r hr=>?_) h
 have hbody:=aZ Tryz.func51 hat
 subst hbody
 unfold T6 at hr
 split at hr
 · rename_i bb z xs w d h off len lx ly lz hx hy hz
   obtain ⟨hb,hr2⟩:=al hr
   simp only [Bool.and_eq_true,decide_eq_true_eq,Bool.not_eq_true'] at hb
   obtain ⟨⟨rfl,rfl⟩,h3⟩:=hb
   obtain ⟨k1,k2⟩:=Qc h3
   cases hq:(af w d h len fun j=>xs.getD (off+j) false).hitAll ⟨lx,ly,lz⟩ ⟨hx,hy,hz⟩ with
   |true=>rw [hq,cond_true] at hr2;exact ⟨_,_,_,hr2,k1 hq⟩
   |false=>rw [hq,cond_false] at hr2;exact ⟨_,_,_,hr2,k2 hq⟩
 · cases hr
noncomputable def Th:jh:=⟨_,_,_,Ng⟩
theorem By (w d h:Int) (len off:Nat) (xs:List Bool) (lo hi:V3):aH XT (aF [Th]) 300 51 Tryz.f51 0 [bB w d h (.slice 0 1 off len none) .unk,.agg lo.sv,.agg hi.sv] [.vec true .bool xs]=
 bif bif (bif decide (lo.x≥hi.x)==false then decide (lo.y≥hi.y) else true)==false then decide (lo.z≥hi.z) else true then some (SV.bool true,[])
 else
 bif
 bif
 (bif
 (bif (bif (!(af w d h len fun j=>xs.getD (off+j) false).sized)==false then decide (min (min lo.x lo.y) lo.z<0) else true)==false then
 decide (hi.x>IntKind.i64.wrap (w*65536))
 else true)==
 false then
 decide (hi.y>IntKind.i64.wrap (d*65536))
 else true)==
 false then
 decide (hi.z>IntKind.i64.wrap (h*65536))
 else true then
 some (SV.bool false,[])
 else bif Pb w d h off len xs lo hi then bif (af w d h len fun j=>xs.getD (off+j) false).hitAll lo hi then some (SV.bool false,[]) else some (SV.bool true,[]) else none:=by kernel_rfl
theorem Ci {w d h:Int} {len off:Nat} {xs:List Bool} {lo hi:V3} (f1:lo.fits) (f2:hi.fits) (hl:off+len≤xs.length):aH XT (aF [Th]) 300 51 Tryz.f51 0 [bB w d h (.slice 0 1 off len none) .unk,.agg lo.sv,.agg hi.sv] [.vec true .bool xs]=some (.bool ((af w d h len fun j=>xs.getD (off+j) false).clear lo hi),[]):=by
 rw [By]
 simp only [cY]
 refine rn (fun h0=>?_) (fun h0=>?_)
 · rw [Mp.clear_true]
   simp only [Bool.or_eq_true,decide_eq_true_eq] at h0
   rcases h0 with (h0 |h0)|h0
   · exact .inl (by omega)
   · exact .inr (.inl (by omega))
   · exact .inr (.inr (.inl (by omega)))
 · simp only [Bool.or_eq_false_iff,decide_eq_false_iff_not] at h0
   obtain ⟨⟨l1,l2⟩,l3⟩:=h0
   cases hs:(af w d h len fun j=>xs.getD (off+j) false).sized with
   |false=>
    rw [vd (by omega) (by omega) (by omega) (.inl hs)]
    simp only [Bool.not_false,Bool.true_or,cond_true]
   | true=>
    have hz:=(mc.1 hs).1
    have e1:(af w d h len fun j=>xs.getD (off+j) false).w=w:=rfl
    have e2:(af w d h len fun j=>xs.getD (off+j) false).d=d:=rfl
    have e3:(af w d h len fun j=>xs.getD (off+j) false).h=h:=rfl
    rw [e1,e2,e3] at hz
    rw [IntWalk.i64_in (w*65536) (by omega),IntWalk.i64_in (d*65536) (by omega),IntWalk.i64_in (h*65536) (by omega)]
    simp only [Bool.not_true,Bool.false_or]
    refine rn (fun h1=>?_) (fun h1=>?_)
    · rw [vd (by omega) (by omega) (by omega) (.inr ?_)]
      rw [e1,e2,e3]
      simp only [Bool.or_eq_true,decide_eq_true_eq] at h1
      omega
    · simp only [Bool.or_eq_false_iff,decide_eq_false_iff_not] at h1
      rw [Jh (by omega) (by omega) (by omega) (by omega) (by omega) (by omega) (by rw [e1];omega) (by rw [e2];omega) (by rw [e3];omega)]
      rw [re.2 ⟨⟨by omega,by omega,by omega⟩,⟨f1,f2⟩,⟨by omega,by omega,by omega⟩,hl⟩]
      simp only [cond_true]
      cases (af w d h len fun j=>xs.getD (off+j) false).hitAll lo hi<;>rfl
def yI (v:Mp→V3→V3→Bool) (args:List SV) (rows:List Row):Option aL:=
 match args with
 |[.agg [.int .i64 w,.int .i64 d,.int .i64 h,.slice id st off len _,sp],.agg [.int .i64 a,.int .i64 b,.int .i64 c],.agg [.int .i64 p,.int .i64 q,.int .i64 r]]=>match rows[id]? with
  |some (.vec _ .bool xs)=>bif Nat.beq st 1&&sp.one then some {ok:=(aw ⟨a,b,c⟩&&aw ⟨p,q,r⟩)&&decide (off+len≤xs.length),val:=.bool (v (af w d h len fun j=>xs.getD (off+j) false) ⟨a,b,c⟩ ⟨p,q,r⟩),rd:=[id]} else none
  |_=>none
 |_=>none
noncomputable def xz:=yI Mp.clear
theorem Dc {args:List SV} {rows:List Row} {n:Nat} {e:aL} (h:xz args rows=some e) (hok:e.ok=true):aN Tryz.prog 51 args (rows[·]?) n e:=by
 unfold xz yI at h
 split at h
 · rename_i w d hh id st off len cap sp a b c p q r
   split at h
   · rename_i ro xs hrow
     cases hb:Nat.beq st 1&&sp.one with
     |false=>simp [hb] at h
     |true=>
      simp only [hb,cond_true,Option.some.injEq] at h
      subst h
      rw [Bool.and_eq_true] at hb
      have hst:=Nat.eq_of_beq_eq_true hb.1
      subst hst
      simp only [Bool.and_eq_true,decide_eq_true_eq,aB] at hok
      obtain ⟨rows',hc,_⟩:=aC wM aG Tryz.func51 (Ci (w:=w) (d:=d) (h:=hh) hok.1.1 hok.1.2 hok.2)
      exact c7 hb.2 hc rfl rfl hrow
   · cases h
 · cases h
noncomputable def w7:bY:=⟨51,xz,fun _ _ _ h hok=>Dc h hok,aq Tryz.func51 (by kernel_rfl)⟩
noncomputable def ZC:bS:=aV [] [yS,Gl,sx]
theorem VM:bV Tryz.prog ZC:=aD (by kernel_rfl)
theorem If (w d h:Int) (len off:Nat) (xs:List Bool) (p:V3):aH ZC (fun _ _=>none) 300 128 Tryz.f128 0 [bB w d h (.slice 0 1 off len none) .unk,.agg p.sv] [.vec true .bool xs]=
 bif aw p&&aw (V3.mk 26214 26214 58982) then
 bif aw p&&aw (V3.mk 26214 26214 58982) then
 bif aP w d h len&&(aw (p.minus (V3.mk 26214 26214 58982))&&(aw (p.plus (V3.mk 26214 26214 58982))&&decide (off+len≤xs.length))) then
 some (SV.bool ((af w d h len fun j=>xs.getD (off+j) false).clear (p.minus (V3.mk 26214 26214 58982)) (p.plus (V3.mk 26214 26214 58982))),[])
 else none
 else none
 else none:=by kernel_rfl
theorem Kq {w d h:Int} {len off:Nat} {xs:List Bool} {p:V3} (hm:aP w d h len=true) (f1:p.fits) (hl:off+len≤xs.length):aH ZC (fun _ _=>none) 300 128 Tryz.f128 0 [bB w d h (.slice 0 1 off len none) .unk,.agg p.sv] [.vec true .bool xs]=some (.bool ((af w d h len fun j=>xs.getD (off+j) false).free p),[]):=by
 rw [If]
 simp only [aB.2 f1,show aw (V3.mk 26214 26214 58982)=true from rfl,aB.2 (kG _ _),aB.2 (mh _ _),decide_eq_true hl,hm,Bool.and_self,cond_true]
 rfl
noncomputable def Oy (args:List SV) (rows:List Row):Option aL:=
 match args with
 |[.agg [.int .i64 w,.int .i64 d,.int .i64 h,.slice id st off len _,sp],.agg [.int .i64 x,.int .i64 y,.int .i64 z]]=>match rows[id]? with
  |some (.vec _ .bool xs)=>bif Nat.beq st 1&&sp.one then some {ok:=aP w d h len&&(aw ⟨x,y,z⟩&&decide (off+len≤xs.length)),val:=.bool ((af w d h len fun j=>xs.getD (off+j) false).free ⟨x,y,z⟩),rd:=[id]} else none
  |_=>none
 |_=>none
theorem Ma {args:List SV} {rows:List Row} {n:Nat} {e:aL} (h:Oy args rows=some e) (hok:e.ok=true):aN Tryz.prog 128 args (rows[·]?) n e:=by
 unfold Oy at h
 split at h
 · rename_i wd dd hd id st off len cap sp x y z
   split at h
   · rename_i ro xs hrow
     obtain ⟨hb,h⟩:=al h
     cases h
     simp only [Bool.and_eq_true,decide_eq_true_eq,aB] at hok
     exact iq VM ag Tryz.func128 hb hrow rfl rfl (Kq (p:=⟨x,y,z⟩) hok.1 hok.2.1 hok.2.2)
   · cases h
 · cases h
section
noncomputable def Di:bS:=aV [] [⟨74,fun args _=>SZ args,fun _ _ _ h hok=>FH h hok,aq Tryz.func74 (by kernel_rfl)⟩,⟨127,fun args _=>Er args,fun _ _ _ h hok=>GI h hok,aq Tryz.func127 (by kernel_rfl)⟩,⟨128,Oy,fun _ _ _ h hok=>Ma h hok,aq Tryz.func128 (by kernel_rfl)⟩]
theorem IS:bV Tryz.prog Di:=aD (by kernel_rfl)
end
theorem CG (w d h:Int) (len off:Nat) (xs:List Bool) (px py pz bx b_y bz:Int):aH Di (fun _ _=>none) 200 106 Tryz.f106 0 [bB w d h (.slice 0 1 off len none) .unk,.agg [.int .i64 px,.int .i64 py,.int .i64 pz],.agg [.int .i64 bx,.int .i64 b_y,.int .i64 bz]] [.vec true .bool xs]=
 bif am px && am (av 32768 bx) then
  bif aP w d h len&&(aw {x:=ak (px+av 32768 bx),y:=py,z:=pz}&&decide (off+len≤xs.length)) then
   bif (af w d h len fun j=>xs.getD (off+j) false).free {x:=ak (px+av 32768 bx),y:=py,z:=pz} then
    bif am py &&am (av 32768 b_y) then
     bif aP w d h len&&(aw {x:=ak (px+av 32768 bx),y:=ak (py+av 32768 b_y),z:=pz}&&decide (off+len≤xs.length)) then
      bif (af w d h len fun j=>xs.getD (off+j) false).free {x:=ak (px+av 32768 bx),y:=ak (py+av 32768 b_y),z:=pz} then
       bif am pz&&am (av 32768 bz) then
        bif aP w d h len&&(aw {x:=ak (px+av 32768 bx),y:=ak (py+av 32768 b_y),z:=ak (pz+av 32768 bz)}&&decide (off+len≤xs.length)) then
         bif (af w d h len fun j=>xs.getD (off+j) false).free {x:=ak (px+av 32768 bx),y:=ak (py+av 32768 b_y),z:=ak (pz+av 32768 bz)} then
          some
           (SV.tuple
               [SV.agg [.int .i64 (ak (px+av 32768 bx)),.int .i64 (ak (py+av 32768 b_y)),.int .i64 (ak (pz+av 32768 bz))],
                SV.agg [SV.bool false,SV.bool false,SV.bool false]],
            [])
         else
          some
           (SV.tuple
               [SV.agg [.int .i64 (ak (px+av 32768 bx)),.int .i64 (ak (py+av 32768 b_y)),.int .i64 pz],
                SV.agg [SV.bool false,SV.bool false,SV.bool (av 32768 bz !=0)]],
            [])
        else none
       else none
      else
       bif am pz&&am (av 32768 bz) then
        bif aP w d h len&&(aw {x:=ak (px+av 32768 bx),y:=py,z:=ak (pz+av 32768 bz)}&&decide (off+len≤xs.length)) then
         bif (af w d h len fun j=>xs.getD (off+j) false).free {x:=ak (px+av 32768 bx),y:=py,z:=ak (pz+av 32768 bz)} then
          some
           (SV.tuple
               [SV.agg [.int .i64 (ak (px+av 32768 bx)),.int .i64 py,.int .i64 (ak (pz+av 32768 bz))],
                SV.agg [SV.bool false,SV.bool (av 32768 b_y !=0),SV.bool false]],
            [])
         else
          some
           (SV.tuple
               [SV.agg [.int .i64 (ak (px+av 32768 bx)),.int .i64 py,.int .i64 pz],
                SV.agg [SV.bool false,SV.bool (av 32768 b_y !=0),SV.bool (av 32768 bz !=0)]],
            [])
        else none
       else none
     else none
    else none
   else
    bif am py &&am (av 32768 b_y) then
     bif aP w d h len&&(aw {x:=px,y:=ak (py+av 32768 b_y),z:=pz}&&decide (off+len≤xs.length)) then
      bif (af w d h len fun j=>xs.getD (off+j) false).free {x:=px,y:=ak (py+av 32768 b_y),z:=pz} then
       bif am pz&&am (av 32768 bz) then
        bif aP w d h len&&(aw {x:=px,y:=ak (py+av 32768 b_y),z:=ak (pz+av 32768 bz)}&&decide (off+len≤xs.length)) then
         bif (af w d h len fun j=>xs.getD (off+j) false).free {x:=px,y:=ak (py+av 32768 b_y),z:=ak (pz+av 32768 bz)} then
          some
           (SV.tuple
               [SV.agg [.int .i64 px,.int .i64 (ak (py+av 32768 b_y)),.int .i64 (ak (pz+av 32768 bz))],
                SV.agg [SV.bool (av 32768 bx !=0),SV.bool false,SV.bool false]],
            [])
         else
          some
           (SV.tuple
               [SV.agg [.int .i64 px,.int .i64 (ak (py+av 32768 b_y)),.int .i64 pz],
                SV.agg [SV.bool (av 32768 bx !=0),SV.bool false,SV.bool (av 32768 bz !=0)]],
            [])
        else none
       else none
      else
       bif am pz&&am (av 32768 bz) then
        bif aP w d h len&&(aw {x:=px,y:=py,z:=ak (pz+av 32768 bz)}&&decide (off+len≤xs.length)) then
         bif (af w d h len fun j=>xs.getD (off+j) false).free {x:=px,y:=py,z:=ak (pz+av 32768 bz)} then
          some
           (SV.tuple
               [SV.agg [.int .i64 px,.int .i64 py,.int .i64 (ak (pz+av 32768 bz))],
                SV.agg [SV.bool (av 32768 bx !=0),SV.bool (av 32768 b_y !=0),SV.bool false]],
            [])
         else
          some
           (SV.tuple
               [SV.agg [.int .i64 px,.int .i64 py,.int .i64 pz],
                SV.agg [SV.bool (av 32768 bx !=0),SV.bool (av 32768 b_y !=0),SV.bool (av 32768 bz !=0)]],
            [])
        else none
       else none
     else none
    else none
  else none
 else none:=by kernel_rfl
noncomputable def Mp.stepB (m:Mp) (p q:V3) (d:Int):V3×Bool:=bif m.free q then (q,false) else (p,d !=0)
noncomputable def Mp.slide (m:Mp) (p b:V3):V3×Bool×Bool×Bool:=
 let r1:=m.stepB p ⟨ak (p.x+av 32768 b.x),p.y,p.z⟩ (av 32768 b.x)
 let r2:=m.stepB r1.1 ⟨r1.1.x,ak (r1.1.y+av 32768 b.y),r1.1.z⟩ (av 32768 b.y)
 let r3:=m.stepB r2.1 ⟨r2.1.x,r2.1.y,ak (r2.1.z+av 32768 b.z)⟩ (av 32768 b.z)
 (r3.1,r1.2,r2.2,r3.2)
def nk (r:V3×Bool×Bool×Bool):SV:=.tuple [.agg [.int .i64 r.1.x,.int .i64 r.1.y,.int .i64 r.1.z],.agg [.bool r.2.1,.bool r.2.2.1,.bool r.2.2.2]]
theorem vA (z:Int):am (ak z)=true:=ap.2 (cj z)
theorem j8 (a:Int):am (av 32768 a)=true:=by rw [ap];unfold aU av;omega
theorem H7 {w d h:Int} {len off:Nat} {xs:List Bool} {px py pz bx b_y bz:Int} (hm:aP w d h len=true) (hl:decide (off+len≤xs.length)=true) (h1:am px=true) (h2:am py=true) (h3:am pz=true):
    aH Di (fun _ _=>none) 200 106 Tryz.f106 0 [bB w d h (.slice 0 1 off len none) .unk,.agg [.int .i64 px,.int .i64 py,.int .i64 pz],.agg [.int .i64 bx,.int .i64 b_y,.int .i64 bz]] [.vec true .bool xs]=
    some (nk ((af w d h len fun j=>xs.getD (off+j) false).slide ⟨px,py,pz⟩ ⟨bx,b_y,bz⟩),[]):=by
 rw [CG]
 simp only [hm,hl,h1,h2,h3,aw,vA,j8,Bool.and_true,cond_true]
 unfold nk Mp.slide Mp.stepB
 dsimp only
 generalize (af w d h len fun j=>xs.getD (off+j) false).free=F
 cases h1:F ⟨ak (px+av 32768 bx),py,pz⟩
 · simp only [cond_false]
   cases h2:F ⟨px,ak (py+av 32768 b_y),pz⟩
   · simp only [cond_false]
     cases h3:F ⟨px,py,ak (pz+av 32768 bz)⟩<;>rfl
   · simp only [cond_true]
     cases h3:F ⟨px,ak (py+av 32768 b_y),ak (pz+av 32768 bz)⟩<;>rfl
 · simp only [cond_true]
   cases h2:F ⟨ak (px+av 32768 bx),ak (py+av 32768 b_y),pz⟩
   · simp only [cond_false]
     cases h3:F ⟨ak (px+av 32768 bx),py,ak (pz+av 32768 bz)⟩<;>rfl
   · simp only [cond_true]
     cases h3:F ⟨ak (px+av 32768 bx),ak (py+av 32768 b_y),ak (pz+av 32768 bz)⟩<;>rfl
noncomputable def rV (args:List SV) (rows:List Row):Option aL:=
 match args with
 |[.agg [.int .i64 w,.int .i64 d,.int .i64 h,.slice id st off len _,sp],.agg [.int .i64 x,.int .i64 y,.int .i64 z],.agg [.int .i64 p,.int .i64 q,.int .i64 r]]=>match rows[id]? with
  |some (.vec _ .bool xs)=>bif Nat.beq st 1&&sp.one then some {ok:=aP w d h len&&(aw ⟨x,y,z⟩&&decide (off+len≤xs.length)),val:=nk ((af w d h len fun j=>xs.getD (off+j) false).slide ⟨x,y,z⟩ ⟨p,q,r⟩),rd:=[id]} else none
  |_=>none
 |_=>none
theorem uW {args:List SV} {rows:List Row} {n:Nat} {e:aL} (h:rV args rows=some e) (hok:e.ok=true):aN Tryz.prog 106 args (rows[·]?) n e:=by
 unfold rV at h
 split at h
 · rename_i wd dd hd id st off len cap sp x y z p q r
   split at h
   · rename_i ro xs hrow
     cases hb:Nat.beq st 1&&sp.one with
     |false=>simp [hb] at h
     |true=>
      simp only [hb,cond_true,Option.some.injEq] at h
      subst h
      rw [Bool.and_eq_true] at hb
      have hst:=Nat.eq_of_beq_eq_true hb.1
      subst hst
      simp only [Bool.and_eq_true,aw] at hok
      obtain ⟨h1,⟨h2,h3,h4⟩,h5⟩:=hok
      obtain ⟨rows',hc,_⟩:=aC IS ag Tryz.func106 (H7 (bx:=p) (b_y:=q) (bz:=r) h1 h5 h2 h3 h4)
      exact c7 hb.2 hc rfl rfl hrow
   · cases h
 · cases h
def z8 (p:Int→Bool):Nat→Int→Bool
 |0,_=>true
 |n+1,i=>p i&&z8 p n (i+1)
def Lg (a b:Int) (p:Int→Bool):Bool:=z8 p (b+1 - a).toNat a
theorem uM {p:Int→Bool}:∀{n:Nat} {a:Int},z8 p n a=true↔∀i,a≤i→i<a+n→p i=true
 |0,a=>by simp [z8];intro i h1 h2;omega
 | n+1,a=>by
  rw [z8,Bool.and_eq_true,uM]
  constructor
  · rintro ⟨h1,h2⟩ i h3 h4
    by_cases hi:i=a
    · subst hi;exact h1
    · exact h2 i (by omega) (by omega)
  · intro h
    exact ⟨h a (by omega) (by omega),fun i h3 h4=>h i (by omega) (by omega)⟩
theorem JU {a b:Int} {p:Int→Bool}:Lg a b p=true↔∀i,a≤i→i≤b→p i=true:=by
 unfold Lg
 rw [uM]
 constructor
 · intro h i h1 h2;exact h i h1 (by omega)
 · intro h i h1 h2;exact h i h1 (by omega)
def Mp.clearC (m:Mp) (lo hi:V3):Bool:=decide (hi.x≤lo.x)||(decide (hi.y≤lo.y)||(decide (hi.z≤lo.z)||
 Lg (lo.x/65536) ((hi.x - 1)/65536) fun i=>Lg (lo.y/65536) ((hi.y - 1)/65536) fun j=>Lg (lo.z/65536) ((hi.z - 1)/65536) fun k=> !m.solid i j k))
theorem Kl (m:Mp) (lo hi:V3):m.clear lo hi=m.clearC lo hi:=by
 rw [Bool.eq_iff_iff,Mp.clear_iff]
 unfold Mp.Clear Mp.boxFree Mp.clearC
 simp only [Bool.or_eq_true,decide_eq_true_eq,JU,Bool.not_eq_true']
 constructor
 · rintro (h |h |h |h)
   · exact .inl h
   · exact .inr (.inl h)
   · exact .inr (.inr (.inl h))
   · exact .inr (.inr (.inr fun i h1 h2 j h3 h4 k h5 h6=>h i j k h1 h2 h3 h4 h5 h6))
 · rintro (h |h |h |h)
   · exact .inl h
   · exact .inr (.inl h)
   · exact .inr (.inr (.inl h))
   · exact .inr (.inr (.inr fun i j k h1 h2 h3 h4 h5 h6=>h i h1 h2 j h3 h4 k h5 h6))
def Mp.freeC (m:Mp) (p:V3):Bool:=m.clearC (p.minus P1) (p.plus P1)
theorem F1 (m:Mp) (p:V3):m.free p=m.freeC p:=Kl m _ _
def Mp.stepC (m:Mp) (p q:V3) (d:Int):V3×Bool:=bif m.freeC q then (q,false) else (p,d !=0)
def Mp.slideC (m:Mp) (p b:V3):V3×Bool×Bool×Bool:=
 let r1:=m.stepC p ⟨ak (p.x+av 32768 b.x),p.y,p.z⟩ (av 32768 b.x)
 let r2:=m.stepC r1.1 ⟨r1.1.x,ak (r1.1.y+av 32768 b.y),r1.1.z⟩ (av 32768 b.y)
 let r3:=m.stepC r2.1 ⟨r2.1.x,r2.1.y,ak (r2.1.z+av 32768 b.z)⟩ (av 32768 b.z)
 (r3.1,r1.2,r2.2,r3.2)
theorem Md (m:Mp) (p b:V3):m.slide p b=m.slideC p b:=by
 unfold Mp.slide Mp.slideC Mp.stepB Mp.stepC
 simp only [F1]
noncomputable def yn (args:List SV) (rows:List Row):Option aL:=
 match args with
 |[.agg [.int .i64 w,.int .i64 d,.int .i64 h,.slice id st off len _,sp],.agg [.int .i64 x,.int .i64 y,.int .i64 z],.agg [.int .i64 p,.int .i64 q,.int .i64 r]]=>match rows[id]? with
  |some (.vec _ .bool xs)=>bif Nat.beq st 1&&sp.one then some {ok:=aP w d h len&&(aw ⟨x,y,z⟩&&decide (off+len≤xs.length)),val:=nk ((af w d h len fun j=>xs.getD (off+j) false).slideC ⟨x,y,z⟩ ⟨p,q,r⟩),rd:=[id]} else none
  |_=>none
 |_=>none
theorem Cl {args:List SV} {rows:List Row} {e:aL} (h:yn args rows=some e):rV args rows=some e:=by
 unfold yn at h
 split at h
 · split at h
   · rename_i h1
     unfold rV
     simp only [h1,Md]
     exact h
   · cases h
 · cases h
noncomputable def XO:bY:=⟨106,yn,fun _ _ _ h hok=>uW (Cl h) hok,aq Tryz.func106 (by kernel_rfl)⟩
noncomputable def K8:bY:=⟨106,rV,fun _ _ _ h hok=>uW h hok,aq Tryz.func106 (by kernel_rfl)⟩
noncomputable def YW:bS:=aV [] []
theorem M6:bV Tryz.prog YW:=aD (by kernel_rfl)
theorem GM (s wn sh:Int):aH YW (fun _ _=>none) 200 103 Tryz.f103 0 [.int .i64 s,.int .i8 wn,.int .i64 sh] []=
 bif !decide (sh=0) then
 some (.int .i64 (IntKind.i64.wrap (s+IntKind.i64.wrap ((IntKind.i64.wrap (IntKind.i64.wrap ((IntKind.i64.wrap (IntKind.i64.wrap wn*16384)).tdiv 127) - s)).tdiv sh))),[])
 else none:=by kernel_rfl
theorem NC (n:Int):aH YW (fun _ _=>none) 200 105 Tryz.f105 0 [.int .i64 n] []=
 some (.int .i64 (min (max n (-32768)) 32768),[]):=by kernel_rfl
def Gg (s wn sh:Int):Int:=IntKind.i64.wrap (s+IntKind.i64.wrap ((IntKind.i64.wrap (IntKind.i64.wrap ((IntKind.i64.wrap (IntKind.i64.wrap wn*16384)).tdiv 127) - s)).tdiv sh))
def Ez (n:Int):Int:=min (max n (-32768)) 32768
theorem OF {s wn sh:Int} (h:decide (sh=0)=false):aH YW (fun _ _=>none) 200 103 Tryz.f103 0 [.int .i64 s,.int .i8 wn,.int .i64 sh] []=some (.int .i64 (Gg s wn sh),[]):=by
 rw [GM,h]
 rfl
def LJ:List SV→Option aL
 |[.int .i64 s,.int .i8 wn,.int .i64 sh]=>some {ok:= !decide (sh=0),val:=.int .i64 (Gg s wn sh)}
 |_=>none
theorem NQ {m:Nat→Option Row} {n:Nat} {args:List SV} {e:aL} (h:LJ args=some e) (hok:e.ok=true):aN Tryz.prog 103 args m n e:=by
 unfold LJ at h
 split at h
 · rename_i s wn sh
   cases h
   simp only [Bool.not_eq_true'] at hok
   obtain ⟨rows',hc,_⟩:=aC M6 ag Tryz.func103 (OF (s:=s) (wn:=wn) hok)
   exact aM hc rfl rfl
 · cases h
noncomputable def Q9:bY:=⟨103,fun args _=>LJ args,fun _ _ _ h hok=>NQ h hok,aq Tryz.func103 (by kernel_rfl)⟩
def Wa:List SV→Option aL
 |[.int .i64 n]=>some {val:=.int .i64 (Ez n)}
 |_=>none
theorem QO {m:Nat→Option Row} {n:Nat} {args:List SV} {e:aL} (h:Wa args=some e):aN Tryz.prog 105 args m n e:=by
 unfold Wa at h
 split at h
 · rename_i k
   cases h
   obtain ⟨rows',hc,_⟩:=aC M6 ag Tryz.func105 (NC k)
   exact aM hc rfl rfl
 · cases h
noncomputable def Xs:bY:=⟨105,fun args _=>Wa args,fun _ _ _ h _=>QO h,aq Tryz.func105 (by kernel_rfl)⟩
noncomputable def Zv:bS:=aV [104] [Q9,Xs,K8]
theorem XA:bV Tryz.prog Zv:=aD (by kernel_rfl)
def AV (p:Pl) (c:Cm):Bool:=p.ground&&(IntKind.u8.wrap ((BitVec.ofInt IntKind.u8.bits c.buttons&&&BitVec.ofInt IntKind.u8.bits 2).toNat:Int)==0)
def yY (p:Pl) (c:Cm):Bool:=p.ground&&(IntKind.u8.wrap ((BitVec.ofInt IntKind.u8.bits c.buttons&&&BitVec.ofInt IntKind.u8.bits 1).toNat:Int) !=0)
def oT (f j:Bool) (p:Pl) (c:Cm):V3:=⟨Ez (Gg p.vel.x c.dx (bif f then 4 else 16)),Ez (Gg p.vel.y c.dy (bif f then 4 else 16)),Ez (IntKind.i64.wrap ((bif j then 24576 else p.vel.z) - 1024))⟩
def TG (p:Pl) (v:V3) (r:V3×Bool×Bool×Bool):Pl:=⟨p.id,r.1,⟨bif r.2.1 then 0 else v.x,bif r.2.2.1 then 0 else v.y,bif r.2.2.2 then 0 else v.z⟩,r.2.2.2&&decide (v.z<0),p.health,p.armour,p.score,p.a0,p.a1,p.wait,p.dead⟩
def tickP (S:V3→V3→V3×Bool×Bool×Bool) (p:Pl) (c:Cm):Pl:=bif decide (p.dead>0) then p else TG p (oT (AV p c) (yY p c) p c) (S p.pos (oT (AV p c) (yY p c) p c))
def ql (p:Pl) (v:V3) (r:V3×Bool×Bool×Bool) (b1 b2 b3:Bool):Option aj:=
 some (.agg [.int .i64 p.id,.int .i64 r.1.x,.int .i64 r.1.y,.int .i64 r.1.z,.int .i64 (bif b1 then 0 else v.x),.int .i64 (bif b2 then 0 else v.y),.int .i64 (bif b3 then 0 else v.z),.bool (bif r.2.2.2==true then decide (v.z<0) else false),.int .i64 p.health,.int .i64 p.armour,.int .i64 p.score,.int .i64 p.a0,.int .i64 p.a1,.int .i64 p.wait,.int .i64 p.dead],[])
def LW (p:Pl) (v:V3) (r:V3×Bool×Bool×Bool):Option aj:=
 bif r.2.1 then (bif r.2.2.1 then (bif r.2.2.2 then ql p v r true true true else ql p v r true true false) else (bif r.2.2.2 then ql p v r true false true else ql p v r true false false))
 else (bif r.2.2.1 then (bif r.2.2.2 then ql p v r false true true else ql p v r false true false) else (bif r.2.2.2 then ql p v r false false true else ql p v r false false false))
noncomputable def Lm (w d h:Int) (len off:Nat) (xs:List Bool) (p:Pl) (c:Cm) (f j:Bool):Option aj:=
 bif aP w d h len&&(aw p.pos&&decide (off+len≤xs.length)) then LW p (oT f j p c) ((af w d h len fun j=>xs.getD (off+j) false).slide p.pos (oT f j p c)) else none
def Lr (p:Pl) (c:Cm):Bool:=bif p.ground==true then (IntKind.u8.wrap ((BitVec.ofInt IntKind.u8.bits c.buttons&&&BitVec.ofInt IntKind.u8.bits 2).toNat:Int)==0) else false
def yN (p:Pl) (c:Cm):Bool:=bif p.ground==true then (IntKind.u8.wrap ((BitVec.ofInt IntKind.u8.bits c.buttons&&&BitVec.ofInt IntKind.u8.bits 1).toNat:Int) !=0) else false
theorem IC (w d h:Int) (len off:Nat) (xs:List Bool) (p:Pl) (c:Cm):aH Zv (fun _ _=>none) 400 81 Tryz.f81 0 [bB w d h (.slice 0 1 off len none) .unk,.agg p.sv,.agg c.sv] [.vec true .bool xs]=
 bif decide (p.dead>0) then some (.agg p.sv,[]) else
 bif Lr p c then (bif yN p c then Lm w d h len off xs p c true true else Lm w d h len off xs p c true false)
 else (bif yN p c then Lm w d h len off xs p c false true else Lm w d h len off xs p c false false):=by kernel_rfl
theorem zL (p:Pl) (c:Cm):Lr p c=AV p c:=dh _ _
theorem Bg (p:Pl) (c:Cm):yN p c=yY p c:=dh _ _
theorem A9 (p:Pl) (v:V3) (r:V3×Bool×Bool×Bool):LW p v r=some (.agg (TG p v r).sv,[]):=by
 obtain ⟨q,b1,b2,b3⟩:=r
 cases b1<;>cases b2<;>cases b3<;>rfl
theorem M4 {w d h:Int} {len off:Nat} {xs:List Bool} {p:Pl} {c:Cm} (hm:aP w d h len=true) (hl:decide (off+len≤xs.length)=true) (hp:p.pos.fits):
    aH Zv (fun _ _=>none) 400 81 Tryz.f81 0 [bB w d h (.slice 0 1 off len none) .unk,.agg p.sv,.agg c.sv] [.vec true .bool xs]=some (.agg (tickP (af w d h len fun j=>xs.getD (off+j) false).slide p c).sv,[]):=by
 rw [IC,zL,Bg]
 unfold Lm tickP
 rw [hm,hl,aB.2 hp]
 simp only [A9,Bool.and_true,cond_true]
 cases decide (p.dead>0)<;>cases AV p c<;>cases yY p c<;>rfl
noncomputable def O8 (args:List SV) (rows:List Row):Option aL:=
 match args with
 |[.agg [.int .i64 w,.int .i64 d,.int .i64 h,.slice id st off len _,sp],.agg [.int .i64 a0,.int .i64 a1,.int .i64 a2,.int .i64 a3,.int .i64 a4,.int .i64 a5,.int .i64 a6,.bool a7,.int .i64 a8,.int .i64 a9,.int .i64 a10,.int .i64 a11,.int .i64 a12,.int .i64 a13,.int .i64 a14],.agg [.int .u16 c0,.int .u8 c1,.int .i8 c2,.int .i8 c3,.int .i64 c4]]=>match rows[id]? with
  |some (.vec _ .bool xs)=>bif Nat.beq st 1&&sp.one then some {ok:=aP w d h len&&(aw ⟨a1,a2,a3⟩&&decide (off+len≤xs.length)),val:=.agg (tickP (af w d h len fun j=>xs.getD (off+j) false).slide ⟨a0,⟨a1,a2,a3⟩,⟨a4,a5,a6⟩,a7,a8,a9,a10,a11,a12,a13,a14⟩ ⟨c0,c1,c2,c3,c4⟩).sv,rd:=[id]} else none
  |_=>none
 |_=>none
theorem OU {args:List SV} {rows:List Row} {n:Nat} {e:aL} (h:O8 args rows=some e) (hok:e.ok=true):aN Tryz.prog 81 args (rows[·]?) n e:=by
 unfold O8 at h
 split at h
 · rename_i wd dd hd id st off len cap sp a0 a1 a2 a3 a4 a5 a6 a7 a8 a9 a10 a11 a12 a13 a14 c0 c1 c2 c3 c4
   split at h
   · rename_i ro xs hrow
     cases hb:Nat.beq st 1&&sp.one with
     |false=>simp [hb] at h
     |true=>
      simp only [hb,cond_true,Option.some.injEq] at h
      subst h
      rw [Bool.and_eq_true] at hb
      have hst:=Nat.eq_of_beq_eq_true hb.1
      subst hst
      simp only [Bool.and_eq_true,aB] at hok
      obtain ⟨h1,h2,h3⟩:=hok
      obtain ⟨rows',hc,_⟩:=aC XA ag Tryz.func81 (M4 (p:=⟨a0,⟨a1,a2,a3⟩,⟨a4,a5,a6⟩,a7,a8,a9,a10,a11,a12,a13,a14⟩) (c:=⟨c0,c1,c2,c3,c4⟩) h1 h3 h2)
      exact c7 hb.2 hc rfl rfl hrow
   · cases h
 · cases h
noncomputable def PO:bY:=⟨81,O8,fun _ _ _ h hok=>OU h hok,aq Tryz.func81 (by kernel_rfl)⟩
noncomputable def Z5:bS:=aV [] [PO]
theorem Lx:bV Tryz.prog Z5:=aD (by kernel_rfl)
def uL (n i:Int):List SV:=[.ptr 1 0 0 0,.ptr 2 0 0 0,.ptr 3 0 0 0,.ptr 4 0 0 0,.int .i64 n,.int .i64 i]
def kS (w d h:Int) (len off:Nat) (xs:List Bool) (p:Pl) (c:Cm) (r:Pl):List Row:=[.vec true .bool xs,.own [.int .i64 w,.int .i64 d,.int .i64 h,.slice 0 1 off len none,.unk],.own p.sv,.own c.sv,.own r.sv]
noncomputable def Yk:List SV→List Row→Option aj:=bj Z5 (fun _ _=>none) 100 52 [0,1,0,1,1] (bg Tryz.f52 [0,1,0,1,1]) 26 5 [3,4,5,6,17,18]
theorem yB (w d h:Int) (len off:Nat) (xs:List Bool) (p:Pl) (c:Cm) (r:Pl) (n i:Int):Yk (uL n i) (kS w d h len off xs p c r)=
 bif decide (i<n) then
 bif aP w d h len&&(aw p.pos&&decide (off+len≤xs.length)) then
 some (.tuple [.nilp,.tuple (uL n (IntKind.i64.wrap (i+1)))],kS w d h len off xs (tickP (af w d h len fun j=>xs.getD (off+j) false).slide p c) c r)
 else none
 else
 some (.tuple [.ptr 0 0 0 0,.tuple (uL n i)],kS w d h len off xs p c r):=by kernel_rfl
theorem nA (m:Mp) (p q:V3) (d:Int) (hp:p.fits) (hq:q.fits):(m.stepB p q d).1.fits:=by
 unfold Mp.stepB
 cases m.free q
 · exact hp
 · exact hq
theorem AD (m:Mp) (p b:V3) (hp:p.fits):(m.slide p b).1.fits:=by
 unfold Mp.slide
 dsimp only
 have h1:=nA m p ⟨ak (p.x+av 32768 b.x),p.y,p.z⟩ (av 32768 b.x) hp ⟨cj _,hp.2.1,hp.2.2⟩
 have h2:=nA m _ ⟨(m.stepB p ⟨ak (p.x+av 32768 b.x),p.y,p.z⟩ (av 32768 b.x)).1.x,ak ((m.stepB p ⟨ak (p.x+av 32768 b.x),p.y,p.z⟩ (av 32768 b.x)).1.y+av 32768 b.y),(m.stepB p ⟨ak (p.x+av 32768 b.x),p.y,p.z⟩ (av 32768 b.x)).1.z⟩ (av 32768 b.y) h1 ⟨h1.1,cj _,h1.2.2⟩
 exact nA m _ _ _ h2 ⟨h2.1,h2.2.1,cj _⟩
theorem ns {m:Mp} {p:Pl} {c:Cm} (hp:p.pos.fits):(tickP m.slide p c).pos.fits:=by
 unfold tickP
 cases decide (p.dead>0)
 · exact AD m _ _ hp
 · exact hp
def mN (S:V3→V3→V3×Bool×Bool×Bool) (c:Cm):Nat→Pl→Pl
 |0,p=>p
 |k+1,p=>mN S c k (tickP S p c)
theorem rK {m:Mp} {c:Cm}:∀(k:Nat) (p:Pl),p.pos.fits→(mN m.slide c k p).pos.fits
 |0,_,h=>h
 |k+1,_,h=>rK k _ (ns h)
section
variable {w d h:Int} {len off:Nat} {xs:List Bool}
theorem G0 (hm:aP w d h len=true) (hl:decide (off+len≤xs.length)=true) {n:Int} {c:Cm} {r:Pl}:∀(k:Nat) (i:Int) (p:Pl),p.pos.fits→i+k=n→0≤i→n≤9223372036854775807→
    aJ Yk (uL n i) (kS w d h len off xs p c r) (.exit 0) (uL n n) (kS w d h len off xs (mN (af w d h len fun j=>xs.getD (off+j) false).slide c k p) c r)
 |0,i,p,hp,h1,h2,h3=>by
  obtain rfl:i=n:=by omega
  refine .done ?_ (by simp)
  rw [yB,decide_eq_false (by omega),cond_false]
  rfl
 |k+1,i,p,hp,h1,h2,h3=>by
  have hr:=yB w d h len off xs p c r n i
  rw [decide_eq_true (by omega),cond_true,hm,hl,aB.2 hp,IntWalk.i64_in (i+1) (by omega)] at hr
  simp only [Bool.and_true,cond_true] at hr
  exact .more hr (G0 hm hl k (i+1) _ (ns hp) (by omega) (by omega) h3)
end
noncomputable def Ug (v:List SV) (R:List Row) (k:Ex→List SV→List Row→Option aj):Option aj:=match v,R with
 | [.ptr 1 0 0 0,.ptr 2 0 0 0,.ptr 3 0 0 0,.ptr 4 0 0 0,.int .i64 n,.int .i64 i],
  [.vec true .bool xs,.own [.int .i64 w,.int .i64 d,.int .i64 h,.slice 0 1 off len none,.unk],.own [.int .i64 a0,.int .i64 a1,.int .i64 a2,.int .i64 a3,.int .i64 a4,.int .i64 a5,.int .i64 a6,.bool a7,.int .i64 a8,.int .i64 a9,.int .i64 a10,.int .i64 a11,.int .i64 a12,.int .i64 a13,.int .i64 a14],.own [.int .u16 c0,.int .u8 c1,.int .i8 c2,.int .i8 c3,.int .i64 c4],.own [.int .i64 b0,.int .i64 b1,.int .i64 b2,.int .i64 b3,.int .i64 b4,.int .i64 b5,.int .i64 b6,.bool b7,.int .i64 b8,.int .i64 b9,.int .i64 b10,.int .i64 b11,.int .i64 b12,.int .i64 b13,.int .i64 b14]]=>
   bif (decide (i=0)&&(decide (0≤n)&&decide (n≤9223372036854775807)))&&(aP w d h len&&(decide (off+len≤xs.length)&&aw ⟨a1,a2,a3⟩)) then
    k (.exit 0) (uL n n) (kS w d h len off xs (mN (af w d h len fun j=>xs.getD (off+j) false).slide ⟨c0,c1,c2,c3,c4⟩ n.toNat ⟨a0,⟨a1,a2,a3⟩,⟨a4,a5,a6⟩,a7,a8,a9,a10,a11,a12,a13,a14⟩) ⟨c0,c1,c2,c3,c4⟩ ⟨b0,⟨b1,b2,b3⟩,⟨b4,b5,b6⟩,b7,b8,b9,b10,b11,b12,b13,b14⟩) else none
 |_,_=>none
theorem Mt:da 52 [0,1,0,1,1] (bG 26 [3,4,5,6,17,18] Ug):=by
 intro b hat s K r h
 refine aQ (fuel:=100) Lx ag hat (fun v R k r hr=>?_) h
 have hbody:=aZ Tryz.func52 hat
 subst hbody
 unfold Ug at hr
 split at hr
 · rename_i n i xs w d h off len a0 a1 a2 a3 a4 a5 a6 a7 a8 a9 a10 a11 a12 a13 a14 c0 c1 c2 c3 c4 b0 b1 b2 b3 b4 b5 b6 b7 b8 b9 b10 b11 b12 b13 b14
   obtain ⟨hb,hr2⟩:=al hr
   simp only [Bool.and_eq_true,decide_eq_true_eq,aB] at hb
   obtain ⟨⟨h1,h2,h3⟩,h5,h6,h7⟩:=hb
   subst h1
   exact ⟨_,_,_,hr2,G0 (n:=n) (c:=⟨c0,c1,c2,c3,c4⟩) (r:=⟨b0,⟨b1,b2,b3⟩,⟨b4,b5,b6⟩,b7,b8,b9,b10,b11,b12,b13,b14⟩) h5 (decide_eq_true h6) n.toNat 0 ⟨a0,⟨a1,a2,a3⟩,⟨a4,a5,a6⟩,a7,a8,a9,a10,a11,a12,a13,a14⟩ h7 (by omega) (by omega) h3⟩
 · cases hr
noncomputable def T8:jh:=⟨_,_,_,Mt⟩
theorem Sn (w d h:Int) (len off:Nat) (xs:List Bool) (p:Pl) (c:Cm):aH Z5 (aF [T8]) 300 52 Tryz.f52 0 [bB w d h (.slice 0 1 off len none) .unk,.agg p.sv,.agg c.sv] [.vec true .bool xs]=
 bif bif decide (c.ticks<1)==false then decide (c.ticks>8) else true then some (.agg p.sv,[])
 else
 bif decide (0≤c.ticks)&&decide (c.ticks≤9223372036854775807)&&(aP w d h len&&(decide (off+len≤xs.length)&&aw p.pos)) then
 some (.agg (mN (af w d h len fun j=>xs.getD (off+j) false).slide c c.ticks.toNat p).sv,[])
 else none:=by kernel_rfl
def fe (S:V3→V3→V3×Bool×Bool×Bool) (p:Pl) (c:Cm):Pl:=bif decide (c.ticks<1)||decide (c.ticks>8) then p else mN S c c.ticks.toNat p
theorem DU {m:Mp} {p:Pl} {c:Cm} (hp:p.pos.fits):(fe m.slide p c).pos.fits:=by
 unfold fe
 cases (decide (c.ticks<1)||decide (c.ticks>8))
 · exact rK _ _ hp
 · exact hp
theorem Xh {w d h:Int} {len off:Nat} {xs:List Bool} {p:Pl} {c:Cm} (hm:aP w d h len=true) (hl:decide (off+len≤xs.length)=true) (hp:p.pos.fits):
    aH Z5 (aF [T8]) 300 52 Tryz.f52 0 [bB w d h (.slice 0 1 off len none) .unk,.agg p.sv,.agg c.sv] [.vec true .bool xs]=some (.agg (fe (af w d h len fun j=>xs.getD (off+j) false).slide p c).sv,[]):=by
 rw [Sn]
 simp only [cY]
 unfold fe
 cases hc:(decide (c.ticks<1)||decide (c.ticks>8)) with
 |true=>rfl
 |false=>
  simp only [Bool.or_eq_false_iff,decide_eq_false_iff_not] at hc
  rw [decide_eq_true (show 0≤c.ticks by omega),decide_eq_true (show c.ticks≤9223372036854775807 by omega),hm,hl,aB.2 hp]
  rfl
noncomputable def EK (args:List SV) (rows:List Row):Option aL:=
 match args with
 |[.agg [.int .i64 w,.int .i64 d,.int .i64 h,.slice id st off len _,sp],.agg [.int .i64 a0,.int .i64 a1,.int .i64 a2,.int .i64 a3,.int .i64 a4,.int .i64 a5,.int .i64 a6,.bool a7,.int .i64 a8,.int .i64 a9,.int .i64 a10,.int .i64 a11,.int .i64 a12,.int .i64 a13,.int .i64 a14],.agg [.int .u16 c0,.int .u8 c1,.int .i8 c2,.int .i8 c3,.int .i64 c4]]=>match rows[id]? with
  |some (.vec _ .bool xs)=>bif Nat.beq st 1&&sp.one then some {ok:=aP w d h len&&(aw ⟨a1,a2,a3⟩&&decide (off+len≤xs.length)),val:=.agg (fe (af w d h len fun j=>xs.getD (off+j) false).slide ⟨a0,⟨a1,a2,a3⟩,⟨a4,a5,a6⟩,a7,a8,a9,a10,a11,a12,a13,a14⟩ ⟨c0,c1,c2,c3,c4⟩).sv,rd:=[id]} else none
  |_=>none
 |_=>none
theorem J2 {args:List SV} {rows:List Row} {n:Nat} {e:aL} (h:EK args rows=some e) (hok:e.ok=true):aN Tryz.prog 52 args (rows[·]?) n e:=by
 unfold EK at h
 split at h
 · rename_i wd dd hd id st off len cap sp a0 a1 a2 a3 a4 a5 a6 a7 a8 a9 a10 a11 a12 a13 a14 c0 c1 c2 c3 c4
   split at h
   · rename_i ro xs hrow
     cases hb:Nat.beq st 1&&sp.one with
     |false=>simp [hb] at h
     |true=>
      simp only [hb,cond_true,Option.some.injEq] at h
      subst h
      rw [Bool.and_eq_true] at hb
      have hst:=Nat.eq_of_beq_eq_true hb.1
      subst hst
      simp only [Bool.and_eq_true,aB] at hok
      obtain ⟨h1,h2,h3⟩:=hok
      obtain ⟨rows',hc,_⟩:=aC Lx aG Tryz.func52 (Xh (p:=⟨a0,⟨a1,a2,a3⟩,⟨a4,a5,a6⟩,a7,a8,a9,a10,a11,a12,a13,a14⟩) (c:=⟨c0,c1,c2,c3,c4⟩) h1 h3 h2)
      exact c7 hb.2 hc rfl rfl hrow
   · cases h
 · cases h
noncomputable def A7:bY:=⟨52,EK,fun _ _ _ h hok=>J2 h hok,aq Tryz.func52 (by kernel_rfl)⟩
mutual
theorem C5 {ρ ρ0:aR}:∀{s:SV} {u:Value},aE ρ s u→(∀i∈s.ids,ρ0 i=(ρ i).map (fun p=>{p with mine:=false}))→aE ρ0 s u
 |.top,_,_,_=>by simp [aE]
 |.unk,_,r,_=>by simpa only [aE] using r
 |.int ..,_,r,_=>by simpa [aE] using r
 |.bool _,_,r,_=>by simpa [aE] using r
 |.nilp,_,r,_=>by simpa [aE] using r
 |.nils,_,r,_=>by simpa [aE] using r
 |.ptr id _ _ _,_,r,h=>by
  simp only [aE] at r ⊢
  obtain ⟨p,hp,hv⟩:=r
  exact ⟨{p with mine:=false},by rw [h id (by simp [SV.ids]),hp];rfl,hv⟩
 |.slice id _ _ _ _,_,r,h=>by
  simp only [aE] at r ⊢
  rcases r with ⟨p,o,c,hp,hv,h1,h2,h3,_⟩|r
  · exact .inl ⟨{p with mine:=false},o,c,by rw [h id (by simp [SV.ids]),hp];rfl,hv,h1,h2,h3,fun h=>by cases h⟩
  · exact .inr r
 |.agg xs,_,r,h=>by
  simp only [aE] at r ⊢
  obtain ⟨vs,hv,hr⟩:=r
  exact ⟨vs,hv,gy hr fun i hi=>h i (by simpa [SV.ids] using hi)⟩
 |.tuple xs,_,r,h=>by
  simp only [aE] at r ⊢
  obtain ⟨vs,hv,hr⟩:=r
  exact ⟨vs,hv,gy hr fun i hi=>h i (by simpa [SV.ids] using hi)⟩
 |.fn _ xs,_,r,h=>by
  simp only [aE] at r ⊢
  obtain ⟨vs,hv,hr⟩:=r
  exact ⟨vs,hv,gy hr fun i hi=>h i (by simpa [SV.ids] using hi)⟩
theorem gy {ρ ρ0:aR}:∀{s:List SV} {us:List Value},au ρ s us→(∀i∈SV.idsL s,ρ0 i=(ρ i).map (fun p=>{p with mine:=false}))→au ρ0 s us
 |[],_,r,_=>by simpa [au] using r
 |x::xs,_,r,h=>by
  simp only [au] at r ⊢
  obtain ⟨v,vs,hv,h1,h2⟩:=r
  exact ⟨v,vs,hv,C5 h1 fun i hi=>h i (by simp [SV.idsL,hi]),gy h2 fun i hi=>h i (by simp [SV.idsL,hi])⟩
end
theorem qM {P:Program} {f:Nat} {ok:Bool} {args0:List SV} {k1 k2:aA} {xs:List k1.T} {ys:List k2.T} {v:SV} {rows':List Row} (hc:cQ P f args0 [.vec true k1 xs,.vec true k2 ys] v rows') {rows:List Row} {i1 i2:Nat} (l1:i1<rows.length) (l2:i2<rows.length) (hne:i1≠i2)
    (h1:rows[i1]? =some (.vec true k1 xs)) (h2:rows[i2]? =some (.vec true k2 ys)) (hv:v.ids=[]) (ha:∀i∈SV.idsL args0,i<2):aN P f (d8 (gV [i1,i2] rows.length) args0) (rows[·]?) rows.length {ok:=ok,val:=v,rd:=[i1,i2]}:=by
 intro ρ pres vargs w hargs hg hap hrd hfree
 let ρ0:aR:=fun i=>if i=0 then (ρ i1).map (fun p=>{p with mine:=false}) else if i=1 then (ρ i2).map (fun p=>{p with mine:=false}) else none
 have frz:∀(j:Nat) (k:aA) (zs:List k.T) (i:Nat),bk ρ j (.vec true k zs) w→ρ0 i=(ρ j).map (fun p=>{p with mine:=false})→bk ρ0 i (.vec true k zs) w:=by
  intro j k zs i hr he
  rcases hr with ⟨_,h0⟩|⟨p,hp,hm,_,hcell⟩
  · exact .inl ⟨rfl,h0⟩
  · exact .inr ⟨{p with mine:=false},by rw [he,hp];rfl,fun _=>rfl,fun h=>(by cases h),hcell⟩
 have r1:=(hrd i1 (by simp) _ h1).1
 have r2:=(hrd i2 (by simp) _ h2).1
 have m1:∀p,ρ i1=some p→∃q,ρ0 0=some q∧q.b=p.b∧q.base=p.base∧q.size=p.size∧q.mine=false:=fun p hp=>⟨{p with mine:=false},by simp [ρ0,hp],rfl,rfl,rfl,rfl⟩
 have hargs0:au ρ0 args0 vargs:=by
  rw [bE] at hargs
  refine gy hargs fun i hi=>?_
  have:=ha i hi
  match i,this with
  |0,_=>simp [ρ0,gV]
  |1,_=>simp [ρ0,gV]
 have hmine:∀i p,ρ0 i=some p→p.mine=false∧p.b<w.heap.size:=by
  intro i p h
  simp only [ρ0] at h
  split at h
  · cases hq:ρ i1 with
    |none=>simp [hq] at h
    |some q=>simp [hq] at h;subst h;exact ⟨rfl,hg i1 q hq⟩
  · split at h
    · cases hq:ρ i2 with
      |none=>simp [hq] at h
      |some q=>simp [hq] at h;subst h;exact ⟨rfl,hg i2 q hq⟩
    · cases h
 have hcall:=hc ρ0 vargs w hargs0 (fun i p h=>(hmine i p h).2) (fun i row h=>by
     match i,h with
     |0,h=>simp at h;subst h;exact frz i1 k1 xs 0 r1 (by simp [ρ0])
     |1,h=>simp at h;subst h;exact frz i2 k2 ys 1 r2 (by simp [ρ0])
     |i+2,h=>simp at h)
  (fun i j p q _ _ hij hp hq hm=>by rw [(hmine i p hp).1,(hmine j q hq).1] at hm;cases hm)
  (fun i hi=>by simp at hi;simp only [ρ0];rw [if_neg (by omega),if_neg (by omega)])
 refine hcall.mono ?_
 rintro e w' ⟨v',ρ',rfl,hr,_,_,_,_,hp⟩
 refine ⟨v',ρ,rfl,⟨aR.le.refl ρ,fun i p h=>Nat.lt_of_lt_of_le (hg i p h) hp.frm.size,fun _ _ h=>.inl h,fun i p h1 h2=>by simp at h2;omega,?_,aE.only _ _ (fun i hmem=>by rw [hv] at hmem;cases hmem) hr,by simp,by simp,?_⟩⟩
 · intro i j p q hi hj
   refine hap i j p q ?_ ?_
   · rcases hi with h |h
     · exact h.1
     · simp at h;omega
   · rcases hj with h |h
     · exact h.1
     · simp at h;omega
 · refine hp.frm.weaken fun b _ hb=>?_
   obtain ⟨i,p,_,h3,h4,_⟩:=hb
   rw [(hmine i p h3).1] at h4
   cases h4
noncomputable def Z1:bS:=aV [40,45,76] [zo,yS,Gl,sx]
theorem Ns:bV Tryz.prog Z1:=aD (by kernel_rfl)
noncomputable def u5 (ls:Nat) (off2:Nat) (s i:Int):List SV:=[.slice 1 3 off2 ls none,.fn 40 [.ptr 2 0 0 0,.ptr 3 0 0 0],.int .i64 s,.int .i64 (ls:Int),.int .i64 i]
def iI (w d h:Int) (len off:Nat) (xs:List Bool) (ls off2:Nat) (sp:List V3):List Row:=[.vec true .bool xs,.vec true .vec sp,.own [.int .i64 w,.int .i64 d,.int .i64 h,.slice 0 1 off len none,.slice 1 3 off2 ls none],.own [.int .i64 26214,.int .i64 26214,.int .i64 58982]]
noncomputable def Vn:List SV→List Row→Option aj:=bj Z1 (fun _ _=>none) 100 76 [0,1,0,1] (bg Tryz.f76 [0,1,0,1]) 19 4 [0,1,4,7,8]
theorem Ba (w d h:Int) (len off:Nat) (xs:List Bool) (ls off2:Nat) (sp:List V3) (i:Int):Vn (u5 ls off2 0 i) (iI w d h len off xs ls off2 sp)=
 bif decide (i<(↑ls:Int)) then
 bif decide (0≤i)&&decide (i<(↑ls:Int)) then
 bif decide (off2+i.toNat<sp.length) then
 bif aw (sp.getD (off2+i.toNat) aA.vec.dflt)&&aw (V3.mk 26214 26214 58982) then
 bif aw (sp.getD (off2+i.toNat) aA.vec.dflt)&&aw (V3.mk 26214 26214 58982) then
 bif
 aP w d h len&&
 (aw (V3.minus (sp.getD (off2+i.toNat) aA.vec.dflt) (V3.mk 26214 26214 58982))&&
 (aw (V3.plus (sp.getD (off2+i.toNat) aA.vec.dflt) (V3.mk 26214 26214 58982))&&decide (off+len≤xs.length))) then
 bif
 !(af w d h len fun j=>xs.getD (off+j) false).clear (V3.minus (sp.getD (off2+i.toNat) aA.vec.dflt) (V3.mk 26214 26214 58982))
 (V3.plus (sp.getD (off2+i.toNat) aA.vec.dflt) (V3.mk 26214 26214 58982)) then
 some
 (SV.tuple [SV.nils,SV.tuple [SV.slice 1 3 off2 ls none,SV.fn 40 [SV.ptr 2 0 0 0,SV.ptr 3 0 0 0],.int .i64 i,.int .i64 (↑ls:Int),.int .i64 i]],
 [Row.vec true aA.bool xs,Row.vec true aA.vec sp,Row.own [.int .i64 w,.int .i64 d,.int .i64 h,SV.slice 0 1 off len none,SV.slice 1 3 off2 ls none],
 Row.own [.int .i64 26214,.int .i64 26214,.int .i64 58982]])
 else
 some
 (SV.tuple
 [SV.nilp,
 SV.tuple
 [SV.slice 1 3 off2 ls none,SV.fn 40 [SV.ptr 2 0 0 0,SV.ptr 3 0 0 0],.int .i64 0,.int .i64 (↑ls:Int),.int .i64 (IntKind.i64.wrap (i+1))]],
 [Row.vec true aA.bool xs,Row.vec true aA.vec sp,Row.own [.int .i64 w,.int .i64 d,.int .i64 h,SV.slice 0 1 off len none,SV.slice 1 3 off2 ls none],
 Row.own [.int .i64 26214,.int .i64 26214,.int .i64 58982]])
 else none
 else none
 else none
 else none
 else none
 else
 some
 (SV.tuple [SV.ptr 0 0 0 0,SV.tuple [SV.slice 1 3 off2 ls none,SV.fn 40 [SV.ptr 2 0 0 0,SV.ptr 3 0 0 0],.int .i64 0,.int .i64 (↑ls:Int),.int .i64 i]],
 [Row.vec true aA.bool xs,Row.vec true aA.vec sp,Row.own [.int .i64 w,.int .i64 d,.int .i64 h,SV.slice 0 1 off len none,SV.slice 1 3 off2 ls none],
 Row.own [.int .i64 26214,.int .i64 26214,.int .i64 58982]]):=by kernel_rfl
noncomputable def db (f:V3→Bool) (sp:Nat→V3):Nat→Nat→Bool
 |0,_=>true
 |n+1,i=>f (sp i)&&db f sp n (i+1)
noncomputable def jU (f:V3→Bool) (sp:Nat→V3):Nat→Nat→Nat
 |0,i=>i
 |n+1,i=>bif f (sp i) then jU f sp n (i+1) else i
def gf (sp:List V3) (off:Nat) (i:Nat):V3:=sp.getD (off+i) ⟨0,0,0⟩
section
variable {w d h:Int} {len off:Nat} {xs:List Bool} {ls off2:Nat} {sp:List V3}
theorem F8 (hm:aP w d h len=true) (hl:decide (off+len≤xs.length)=true) (h2:off2+ls≤sp.length) (h3:ls≤9223372036854775807) (hf:sp.all aw=true):∀(n i:Nat),i+n=ls→
    (db (af w d h len fun j=>xs.getD (off+j) false).free (gf sp off2) n i=true→aJ Vn (u5 ls off2 0 i) (iI w d h len off xs ls off2 sp) (.exit 0) (u5 ls off2 0 ls) (iI w d h len off xs ls off2 sp))∧
    (db (af w d h len fun j=>xs.getD (off+j) false).free (gf sp off2) n i=false→aJ Vn (u5 ls off2 0 i) (iI w d h len off xs ls off2 sp) .ret (u5 ls off2 (jU (af w d h len fun j=>xs.getD (off+j) false).free (gf sp off2) n i) (jU (af w d h len fun j=>xs.getD (off+j) false).free (gf sp off2) n i)) (iI w d h len off xs ls off2 sp))
 |0,i,hi=>by
  obtain rfl:i=ls:=by omega
  refine ⟨fun _=>.done ?_ (by simp),fun h=>by simp [db] at h⟩
  rw [Ba,decide_eq_false (by omega),cond_false]
  rfl
 | n+1,i,hi=>by
  have hr:=Ba w d h len off xs ls off2 sp i
  have hfi:aw (sp.getD (off2+i) aA.vec.dflt)=true:=by
   show aw (sp.getD (off2+i) ⟨0,0,0⟩)=true
   rw [List.getD_eq_getElem?_getD,List.getElem?_eq_getElem (by omega)]
   exact List.all_eq_true.1 hf _ (List.getElem_mem _)
  have e1:((i:Int)).toNat=i:=by omega
  have hb:aw (V3.mk 26214 26214 58982)=true:=aB.2 vL
  have hc1:aw ((sp.getD (off2+i) aA.vec.dflt).minus (V3.mk 26214 26214 58982))=true:=aB.2 (kG _ _)
  have hc2:aw ((sp.getD (off2+i) aA.vec.dflt).plus (V3.mk 26214 26214 58982))=true:=aB.2 (mh _ _)
  rw [e1,decide_eq_true (show (i:Int)<(ls:Int) by omega),decide_eq_true (show (0:Int)≤(i:Int) by omega),decide_eq_true (show off2+i<sp.length by omega),hfi,hb,hm,hl,hc1,hc2,IntWalk.i64_in ((i:Int)+1) (by omega)] at hr
  simp only [Bool.and_true,cond_true] at hr
  rw [show (af w d h len fun j=>xs.getD (off+j) false).clear ((sp.getD (off2+i) aA.vec.dflt).minus (V3.mk 26214 26214 58982)) ((sp.getD (off2+i) aA.vec.dflt).plus (V3.mk 26214 26214 58982))=(af w d h len fun j=>xs.getD (off+j) false).free (gf sp off2 i) from rfl] at hr
  have ih:=F8 hm hl h2 h3 hf n (i+1) (by omega)
  unfold db jU
  cases hq:(af w d h len fun j=>xs.getD (off+j) false).free (gf sp off2 i) with
  |true=>
   rw [hq,Bool.not_true,cond_false] at hr
   simp only [Bool.true_and,cond_true]
   rw [show (i:Int)+1=((i+1:Nat):Int) by omega] at hr
   exact ⟨fun h=>.more hr (ih.1 h),fun h=>.more hr (ih.2 h)⟩
  |false=>
   rw [hq,Bool.not_false,cond_true] at hr
   simp only [Bool.false_and,cond_false]
   exact ⟨fun h=>(by cases h),fun _=>.done hr (by simp)⟩
end
noncomputable def TY (v:List SV) (R:List Row) (k:Ex→List SV→List Row→Option aj):Option aj:=match v,R with
 | [.slice 1 3 off2 ls none,.fn fid [.ptr 2 0 0 0,.ptr 3 0 0 0],.int .i64 s,.int .i64 l,.int .i64 i],
  [.vec true .bool xs,.vec true .vec sp,.own [.int .i64 w,.int .i64 d,.int .i64 h,.slice 0 1 off len none,.slice 1 3 off2' ls' none],.own [.int .i64 b0,.int .i64 b1,.int .i64 b2]]=>
   bif (Nat.beq fid 40&&(decide (s=0)&&(decide (l=(ls:Int))&&(decide (i=0)&&(decide (off2'=off2)&&(decide (ls'=ls)&&(decide (b0=26214)&&(decide (b1=26214)&&decide (b2=58982)))))))))&&(aP w d h len&&(decide (off+len≤xs.length)&&(decide (off2+ls≤sp.length)&&(decide (ls≤9223372036854775807)&&sp.all aw)))) then
    (bif db (af w d h len fun j=>xs.getD (off+j) false).free (gf sp off2) ls 0 then k (.exit 0) (u5 ls off2 0 ls) (iI w d h len off xs ls off2 sp)
    else k .ret (u5 ls off2 (jU (af w d h len fun j=>xs.getD (off+j) false).free (gf sp off2) ls 0) (jU (af w d h len fun j=>xs.getD (off+j) false).free (gf sp off2) ls 0)) (iI w d h len off xs ls off2 sp)) else none
 |_,_=>none
theorem Ph:da 76 [0,1,0,1] (bG 19 [0,1,4,7,8] TY):=by
 intro b hat s K r h
 refine aQ (fuel:=100) Ns ag hat (fun v R k r hr=>?_) h
 have hbody:=aZ Tryz.func76 hat
 subst hbody
 unfold TY at hr
 split at hr
 · rename_i off2 ls fid s l i xs sp w d h off len off2' ls' b0 b1 b2
   obtain ⟨hb,hr2⟩:=al hr
   simp only [Bool.and_eq_true,decide_eq_true_eq] at hb
   obtain ⟨⟨h1,h2,h3,h4,h5,h6,h7,h8,h9⟩,k1,k2,k3,k4,k5⟩:=hb
   obtain rfl:=Nat.eq_of_beq_eq_true h1
   subst h2 h3 h4 h5 h6 h7 h8 h9
   have hl:=F8 k1 (decide_eq_true k2) k3 k4 k5 ls' 0 (by omega)
   cases hq:db (af w d h len fun j=>xs.getD (off+j) false).free (gf sp off2') ls' 0 with
   |true=>
    rw [hq,cond_true] at hr2
    exact ⟨_,_,_,hr2,hl.1 hq⟩
   |false=>
    rw [hq,cond_false] at hr2
    exact ⟨_,_,_,hr2,hl.2 hq⟩
 · cases hr
noncomputable def TL:jh:=⟨_,_,_,Ph⟩
theorem Cz (w d h:Int) (len off:Nat) (xs:List Bool) (ls off2:Nat) (sp:List V3):aH Z1 (aF [TL]) 300 21 Tryz.f21 0 [bB w d h (.slice 0 1 off len none) (.slice 1 3 off2 ls none)] [.vec true .bool xs,.vec true .vec sp]=
 bif aP w d h len&&decide (off+len≤xs.length) then
 bif bif (bif (!(af w d h len fun j=>xs.getD (off+j) false).sized)==false then (↑ls:Int)==0 else true)==false then decide ((↑ls:Int)>64) else true then
 some (.int .i64 1,[])
 else
 bif
 decide ((↑ls:Int)=(↑ls:Int))&&(decide (off2=off2)&&(decide (ls=ls)&&true))&&
 (aP w d h len&&(decide (off+len≤xs.length)&&(decide (off2+ls≤sp.length)&&(decide (ls≤9223372036854775807)&&sp.all aw)))) then
 bif db (af w d h len fun j=>xs.getD (off+j) false).free (gf sp off2) ls 0 then some (.int .i64 0,[]) else some (.int .i64 1,[])
 else none
 else none:=by kernel_rfl
def kf (b:Bool):Int:=bif b then 0 else 1
noncomputable def Mp.right (m:Mp) (sp:Nat→V3) (ls:Nat):Bool:=(m.sized&&(!((ls:Int)==0)&& !decide ((ls:Int)>64)))&&db m.free sp ls 0
theorem qo {f:V3→Bool} {sp:Nat→V3}:∀{n i:Nat},db f sp n i=true↔∀j,i≤j→j<i+n→f (sp j)=true
 |0,i=>by simp [db];intro j h1 h2;omega
 | n+1,i=>by
  rw [db,Bool.and_eq_true,qo]
  constructor
  · rintro ⟨h1,h2⟩ j h3 h4
    by_cases hj:j=i
    · subst hj;exact h1
    · exact h2 j (by omega) (by omega)
  · intro h
    exact ⟨h i (by omega) (by omega),fun j h3 h4=>h j (by omega) (by omega)⟩
theorem Hz {w d h:Int} {len off:Nat} {xs:List Bool} {ls off2:Nat} {sp:List V3} (hm:aP w d h len=true) (hl:decide (off+len≤xs.length)=true) (h2:off2+ls≤sp.length) (h3:ls≤9223372036854775807) (hf:sp.all aw=true):
    aH Z1 (aF [TL]) 300 21 Tryz.f21 0 [bB w d h (.slice 0 1 off len none) (.slice 1 3 off2 ls none)] [.vec true .bool xs,.vec true .vec sp]=
     some (.int .i64 (kf ((af w d h len fun j=>xs.getD (off+j) false).right (gf sp off2) ls)),[]):=by
 rw [Cz]
 have c1:(decide ((ls:Int)=(ls:Int))&&(decide (off2=off2)&&(decide (ls=ls)&&true)))=true:=by simp
 rw [c1,hm,hl,decide_eq_true h2,decide_eq_true h3,hf]
 unfold Mp.right
 simp only [Bool.and_true,cond_true,cY]
 cases (af w d h len fun j=>xs.getD (off+j) false).sized<;>cases ((ls:Int)==0)<;>cases decide ((ls:Int)>64)<;>cases db (af w d h len fun j=>xs.getD (off+j) false).free (gf sp off2) ls 0<;>rfl
noncomputable def DA (args:List SV) (rows:List Row):Option aL:=
 match args with
 |[.agg [.int .i64 w,.int .i64 d,.int .i64 h,.slice id 1 off len none,.slice id2 3 off2 ls none]]=>match rows[id]?,rows[id2]? with
  |some (.vec true .bool xs),some (.vec true .vec sp)=>some {ok:=aP w d h len&&(decide (off+len≤xs.length)&&(decide (off2+ls≤sp.length)&&(decide (ls≤9223372036854775807)&&sp.all aw))),val:=.int .i64 (kf ((af w d h len fun j=>xs.getD (off+j) false).right (gf sp off2) ls)),rd:=[id,id2]}
  |_,_=>none
 |_=>none
theorem J0 {args:List SV} {rows:List Row} {e:aL} (h:DA args rows=some e) (hok:e.ok=true):aN Tryz.prog 21 args (rows[·]?) rows.length e:=by
 unfold DA at h
 split at h
 · rename_i wd dd hd id off len id2 off2 ls
   split at h
   · rename_i xs sp h1 h2
     cases h
     simp only [Bool.and_eq_true,decide_eq_true_eq] at hok
     obtain ⟨k1,k2,k3,k4,k5⟩:=hok
     obtain ⟨rows',hc,_⟩:=aC Ns aG Tryz.func21 (Hz (xs:=xs) (sp:=sp) k1 (decide_eq_true k2) k3 k4 k5)
     have l1:=(List.getElem?_eq_some_iff.1 h1).1
     have l2:=(List.getElem?_eq_some_iff.1 h2).1
     have hne:id≠id2:=by intro he;subst he;rw [h1] at h2;cases h2
     refine qM hc l1 l2 hne h1 h2 rfl ?_
     intro i hi
     simp [SV.idsL,SV.ids,bB] at hi
     omega
   · cases h
 · cases h
noncomputable def An:bY:=⟨21,DA,fun _ _ _ h hok=>J0 h hok,aq Tryz.func21 (by kernel_rfl)⟩
theorem pU {w d h:Int} {len ls:Nat} {xs:List Bool} {sp:List V3} (hw:aU w) (hd:aU d) (hh:aU h) (hl:len≤9223372036854775807) (hx:xs.length=len) (hs:ls≤9223372036854775807) (hy:sp.length=ls) (hf:∀p∈sp,p.fits):
    (aP w d h len&&(decide (0+len≤xs.length)&&(decide (0+ls≤sp.length)&&(decide (ls≤9223372036854775807)&&sp.all aw))))=true∧aP w d h len=true∧decide (0+len≤xs.length)=true:=by
 have h1:aP w d h len=true:=by
  unfold aP
  simp only [Bool.and_eq_true,ap,decide_eq_true_eq]
  exact ⟨hw,hd,hh,by omega⟩
 have h2:decide (0+len≤xs.length)=true:=by rw [decide_eq_true_eq];omega
 refine ⟨?_,h1,h2⟩
 rw [h1,h2]
 simp only [Bool.true_and,Bool.and_eq_true,decide_eq_true_eq]
 exact ⟨by omega,hs,List.all_eq_true.2 fun p hp=>aB.2 (hf p hp)⟩
noncomputable def Z6:bS:=aV [] [uJ,lN,sF,w7]
theorem Ms:bV Tryz.prog Z6:=aD (by kernel_rfl)
def vS (i:Int):List SV:=[.ptr 2 0 0 0,.int .i64 0,.ptr 3 0 0 0,.int .i64 i]
def La (i:Int):List SV:=[.ptr 2 0 0 0,.int .i64 1,.ptr 3 0 0 0,.int .i64 i]
noncomputable def PZ:List SV→List Row→Option aj:=bj Z6 (fun _ _=>none) 100 23 [0,1,0,1,1,1,1] (bg Tryz.f23 [0,1,0,1,1,1,1]) 53 4 [1,2,4,5]
theorem A8 (w d h:Int) (len off:Nat) (xs:List Bool) (ls off2:Nat) (sp:List V3) (i:Int):PZ (vS i) (iI w d h len off xs ls off2 sp)=
 bif decide (i<(↑ls:Int)) then
 bif decide (0≤i)&&decide (i<(↑ls:Int)) then
 bif decide (off2+i.toNat<sp.length) then
 bif aw (sp.getD (off2+i.toNat) aA.vec.dflt)&&aw (V3.mk 26214 26214 58982) then
 bif decide (0≤i)&&decide (i<(↑ls:Int)) then
 bif decide (off2+i.toNat<sp.length) then
 bif aw (sp.getD (off2+i.toNat) aA.vec.dflt)&&aw (V3.mk 26214 26214 58982) then
 bif
 aw (V3.minus (sp.getD (off2+i.toNat) aA.vec.dflt) (V3.mk 26214 26214 58982))&&aw (V3.plus (sp.getD (off2+i.toNat) aA.vec.dflt) (V3.mk 26214 26214 58982))&&
 decide (off+len≤xs.length) then
 bif
 !(af w d h len fun j=>xs.getD (off+j) false).clear (V3.minus (sp.getD (off2+i.toNat) aA.vec.dflt) (V3.mk 26214 26214 58982))
 (V3.plus (sp.getD (off2+i.toNat) aA.vec.dflt) (V3.mk 26214 26214 58982)) then
 some
 (SV.tuple [SV.nils,SV.tuple [SV.ptr 2 0 0 0,.int .i64 1,SV.ptr 3 0 0 0,.int .i64 i]],
 [Row.vec true aA.bool xs,Row.vec true aA.vec sp,
 Row.own [.int .i64 w,.int .i64 d,.int .i64 h,SV.slice 0 1 off len none,SV.slice 1 3 off2 ls none],
 Row.own [.int .i64 26214,.int .i64 26214,.int .i64 58982]])
 else
 some
 (SV.tuple [SV.nilp,SV.tuple [SV.ptr 2 0 0 0,.int .i64 0,SV.ptr 3 0 0 0,.int .i64 (IntKind.i64.wrap (i+1))]],
 [Row.vec true aA.bool xs,Row.vec true aA.vec sp,
 Row.own [.int .i64 w,.int .i64 d,.int .i64 h,SV.slice 0 1 off len none,SV.slice 1 3 off2 ls none],
 Row.own [.int .i64 26214,.int .i64 26214,.int .i64 58982]])
 else none
 else none
 else none
 else none
 else none
 else none
 else none
 else
 some
 (SV.tuple [SV.ptr 0 0 0 0,SV.tuple [SV.ptr 2 0 0 0,.int .i64 0,SV.ptr 3 0 0 0,.int .i64 i]],
 [Row.vec true aA.bool xs,Row.vec true aA.vec sp,Row.own [.int .i64 w,.int .i64 d,.int .i64 h,SV.slice 0 1 off len none,SV.slice 1 3 off2 ls none],
 Row.own [.int .i64 26214,.int .i64 26214,.int .i64 58982]]):=by kernel_rfl
theorem O2 {f:V3→Bool} {sp:Nat→V3} {ls:Nat}:gC (fun i=> !f (sp i.toNat)) ls 0= !db f sp ls 0:=by
 rw [Bool.eq_iff_iff,ew,Bool.not_eq_true',←Bool.not_eq_true,qo]
 constructor
 · rintro ⟨j,h1,h2,h3⟩ h
   rw [h j.toNat (by omega) (by omega)] at h3
   cases h3
 · intro h
   refine Classical.byContradiction fun hn=>h fun j _ h2=>?_
   cases hf:f (sp j) with
   |true=>rfl
   |false=>exact absurd ⟨(j:Int),by omega,by omega,by rw [show ((j:Int)).toNat=j by omega,hf];rfl⟩ hn
section
variable {w d h:Int} {len off:Nat} {xs:List Bool} {ls off2:Nat} {sp:List V3}
theorem QK (hl:decide (off+len≤xs.length)=true) (h2:off2+ls≤sp.length) (h3:ls≤9223372036854775807) (hf:sp.all aw=true):
    (gC (fun i=> !(af w d h len fun j=>xs.getD (off+j) false).free (gf sp off2 i.toNat)) ls 0=true→aJ PZ (vS 0) (iI w d h len off xs ls off2 sp) .ret (La (kA (fun i=> !(af w d h len fun j=>xs.getD (off+j) false).free (gf sp off2 i.toNat)) ls 0)) (iI w d h len off xs ls off2 sp))∧
    (gC (fun i=> !(af w d h len fun j=>xs.getD (off+j) false).free (gf sp off2 i.toNat)) ls 0=false→aJ PZ (vS 0) (iI w d h len off xs ls off2 sp) (.exit 0) (vS (ls:Int)) (iI w d h len off xs ls off2 sp)):=by
 have key:=fz (rd:=PZ) (val:=vS) (valR:=La) (R:=iI w d h len off xs ls off2 sp) (p:=fun i=> !(af w d h len fun j=>xs.getD (off+j) false).free (gf sp off2 i.toNat)) (W:=(ls:Int)) (ex:=0) (i0:=0) (fun i i0 i1=>?_) ?_ ls 0 (by omega) (by omega)
 · exact key
 · obtain ⟨i,rfl⟩:∃k:Nat,i=k:=⟨i.toNat,by omega⟩
   have hfi:aw (sp.getD (off2+i) aA.vec.dflt)=true:=by
    show aw (sp.getD (off2+i) ⟨0,0,0⟩)=true
    rw [List.getD_eq_getElem?_getD,List.getElem?_eq_getElem (by omega)]
    exact List.all_eq_true.1 hf _ (List.getElem_mem _)
   have e1:((i:Int)).toNat=i:=by omega
   have hb:aw (V3.mk 26214 26214 58982)=true:=aB.2 vL
   have hc1:aw ((sp.getD (off2+i) aA.vec.dflt).minus (V3.mk 26214 26214 58982))=true:=aB.2 (kG _ _)
   have hc2:aw ((sp.getD (off2+i) aA.vec.dflt).plus (V3.mk 26214 26214 58982))=true:=aB.2 (mh _ _)
   rw [A8,e1,decide_eq_true (show (i:Int)<(ls:Int) by omega),decide_eq_true (show (0:Int)≤(i:Int) by omega),decide_eq_true (show off2+i<sp.length by omega),hfi,hb,hl,hc1,hc2,IntWalk.i64_in ((i:Int)+1) (by omega)]
   simp only [Bool.and_true,cond_true]
   rfl
 · rw [A8,decide_eq_false (by omega)]
   rfl
end
noncomputable def Tg (v:List SV) (R:List Row) (k:Ex→List SV→List Row→Option aj):Option aj:=match v,R with
 | [.ptr 2 0 0 0,.int .i64 r,.ptr 3 0 0 0,.int .i64 i],
  [.vec true .bool xs,.vec true .vec sp,.own [.int .i64 w,.int .i64 d,.int .i64 h,.slice 0 1 off len none,.slice 1 3 off2 ls none],.own [.int .i64 b0,.int .i64 b1,.int .i64 b2]]=>
   bif ((decide (r=0)&&decide (i=0))&&(decide (b0=26214)&&(decide (b1=26214)&&decide (b2=58982))))&&(decide (off+len≤xs.length)&&(decide (off2+ls≤sp.length)&&(decide (ls≤9223372036854775807)&&sp.all aw))) then
    (bif gC (fun i=> !(af w d h len fun j=>xs.getD (off+j) false).free (gf sp off2 i.toNat)) ls 0 then k .ret (La (kA (fun i=> !(af w d h len fun j=>xs.getD (off+j) false).free (gf sp off2 i.toNat)) ls 0)) (iI w d h len off xs ls off2 sp)
    else k (.exit 0) (vS (ls:Int)) (iI w d h len off xs ls off2 sp)) else none
 |_,_=>none
theorem MC:da 23 [0,1,0,1,1,1,1] (bG 53 [1,2,4,5] Tg):=by
 intro b hat s K r h
 refine aQ (fuel:=100) Ms ag hat (fun v R k r hr=>?_) h
 have hbody:=aZ Tryz.func23 hat
 subst hbody
 unfold Tg at hr
 split at hr
 · rename_i r i xs sp w d h off len off2 ls b0 b1 b2
   obtain ⟨hb,hr2⟩:=al hr
   simp only [Bool.and_eq_true,decide_eq_true_eq] at hb
   obtain ⟨⟨⟨rfl,rfl⟩,rfl,rfl,rfl⟩,h1,h2,h3,h4⟩:=hb
   have hl:=QK (w:=w) (d:=d) (h:=h) (decide_eq_true h1) h2 h3 h4
   cases hq:gC (fun i=> !(af w d h len fun j=>xs.getD (off+j) false).free (gf sp off2 i.toNat)) ls 0 with
   |true=>
    rw [hq,cond_true] at hr2
    exact ⟨_,_,_,hr2,hl.1 hq⟩
   |false=>
    rw [hq,cond_false] at hr2
    exact ⟨_,_,_,hr2,hl.2 hq⟩
 · cases hr
noncomputable def Tr:jh:=⟨_,_,_,MC⟩
theorem A5 (w d h:Int) (len off:Nat) (xs:List Bool) (ls off2:Nat) (sp:List V3):aH Z6 (aF [Tr]) 300 23 Tryz.f23 0 [bB w d h (.slice 0 1 off len none) (.slice 1 3 off2 ls none)] [.vec true .bool xs,.vec true .vec sp]=
 bif bif (bif (!(af w d h len fun j=>xs.getD (off+j) false).sized)==false then decide ((↑ls:Int)<1) else true)==false then decide ((↑ls:Int)>64) else true then
 some (.int .i64 1,[])
 else
 bif decide (off+len≤xs.length)&&(decide (off2+ls≤sp.length)&&(decide (ls≤9223372036854775807)&&sp.all aw)) then
 bif gC (fun i=> !(af w d h len fun j=>xs.getD (off+j) false).free (gf sp off2 i.toNat)) ls 0 then some (.int .i64 1,[]) else some (.int .i64 0,[])
 else none:=by kernel_rfl
theorem BS {w d h:Int} {len off:Nat} {xs:List Bool} {ls off2:Nat} {sp:List V3} (hl:decide (off+len≤xs.length)=true) (h2:off2+ls≤sp.length) (h3:ls≤9223372036854775807) (hf:sp.all aw=true):
    aH Z6 (aF [Tr]) 300 23 Tryz.f23 0 [bB w d h (.slice 0 1 off len none) (.slice 1 3 off2 ls none)] [.vec true .bool xs,.vec true .vec sp]=some (.int .i64 (kf ((af w d h len fun j=>xs.getD (off+j) false).right (gf sp off2) ls)),[]):=by
 rw [A5]
 simp only [cY,hl,decide_eq_true h2,decide_eq_true h3,hf,O2,Bool.and_self,cond_true]
 unfold Mp.right
 cases (af w d h len fun j=>xs.getD (off+j) false).sized with
 |false=>rfl
 | true=>
  simp only [Bool.not_true,Bool.false_or,Bool.true_and]
  by_cases h0:ls=0
  · subst h0;rfl
  · rw [decide_eq_false (show ¬ (ls:Int)<1 by omega),show ((ls:Int)==0)=false by rw [beq_eq_false_iff_ne];omega]
    cases decide ((ls:Int)>64)
    · cases db (af w d h len fun j=>xs.getD (off+j) false).free (gf sp off2) ls 0<;>rfl
    · rfl
noncomputable def yi (args:List SV) (rows:List Row):Option aL:=
 match args with
 |[.agg [.int .i64 w,.int .i64 d,.int .i64 h,.slice id 1 off len none,.slice id2 3 off2 ls none]]=>match rows[id]?,rows[id2]? with
  |some (.vec true .bool xs),some (.vec true .vec sp)=>some {ok:=decide (off+len≤xs.length)&&(decide (off2+ls≤sp.length)&&(decide (ls≤9223372036854775807)&&sp.all aw)),val:=.int .i64 (kf ((af w d h len fun j=>xs.getD (off+j) false).right (gf sp off2) ls)),rd:=[id,id2]}
  |_,_=>none
 |_=>none
theorem Cy {args:List SV} {rows:List Row} {e:aL} (h:yi args rows=some e) (hok:e.ok=true):aN Tryz.prog 23 args (rows[·]?) rows.length e:=by
 unfold yi at h
 split at h
 · rename_i wd dd hd id off len id2 off2 ls
   split at h
   · rename_i xs sp h1 h2
     cases h
     simp only [Bool.and_eq_true,decide_eq_true_eq] at hok
     obtain ⟨k2,k3,k4,k5⟩:=hok
     obtain ⟨rows',hc,_⟩:=aC Ms aG Tryz.func23 (BS (w:=wd) (d:=dd) (h:=hd) (xs:=xs) (sp:=sp) (decide_eq_true k2) k3 k4 k5)
     have l1:=(List.getElem?_eq_some_iff.1 h1).1
     have l2:=(List.getElem?_eq_some_iff.1 h2).1
     have hne:id≠id2:=by intro he;subst he;rw [h1] at h2;cases h2
     refine qM hc l1 l2 hne h1 h2 rfl ?_
     intro i hi
     simp [SV.idsL,SV.ids,bB] at hi
     omega
   · cases h
 · cases h
noncomputable def HG:bY:=⟨23,yi,fun _ _ _ h hok=>Cy h hok,aq Tryz.func23 (by kernel_rfl)⟩
noncomputable def Zr:bS:=aV [] []
theorem Vv:bV Tryz.prog Zr:=aD (by kernel_rfl)
theorem GN (n:Int):aH Zr (fun _ _=>none) 200 133 Tryz.f133 0 [.int .i64 n] []=
 bif decide (IntKind.i64.wrap (IntKind.i64.wrap (n.tdiv 65536)*65536)>n) then some (.int .i64 (IntKind.i64.wrap (IntKind.i64.wrap (n.tdiv 65536) - 1)),[])
 else some (.int .i64 (IntKind.i64.wrap (n.tdiv 65536)),[]):=by kernel_rfl
theorem LI {n:Int} (h:aU n):aH Zr (fun _ _=>none) 200 133 Tryz.f133 0 [.int .i64 n] []=some (.int .i64 (n/65536),[]):=by
 have hn:=h
 unfold aU at h
 rw [GN]
 obtain ⟨e1,e2,e3⟩:=tz hn
 unfold aU at e2
 have b: -9223372036854775808≤n.tdiv 65536*65536∧n.tdiv 65536*65536≤9223372036854775807:=by
  rcases Int.le_total 0 n with h0 |h0
  · rw [Int.tdiv_eq_ediv_of_nonneg h0];omega
  · have:=Int.neg_tdiv (-n) 65536
    rw [Int.neg_neg,Int.tdiv_eq_ediv_of_nonneg (a:= -n) (b:=65536) (by omega)] at this
    rw [this];omega
 rw [e1,IntWalk.i64_in (n.tdiv 65536*65536) b]
 have key:n/65536=bif decide (n.tdiv 65536*65536>n) then n.tdiv 65536 - 1 else n.tdiv 65536:=by
  rcases Int.le_total 0 n with h0 |h0
  · rw [Int.tdiv_eq_ediv_of_nonneg h0,decide_eq_false (by omega)];rfl
  · have:=Int.neg_tdiv (-n) 65536
    rw [Int.neg_neg,Int.tdiv_eq_ediv_of_nonneg (a:= -n) (b:=65536) (by omega)] at this
    rw [this]
    by_cases hc: -(-n/65536)*65536>n
    · rw [decide_eq_true hc];simp only [cond_true];omega
    · rw [decide_eq_false hc];simp only [cond_false];omega
 rw [key]
 cases hc:decide (n.tdiv 65536*65536>n) with
 | true=>
  have : -9223372036854775808≤n.tdiv 65536 - 1:=by
   have:=of_decide_eq_true hc
   omega
  simp only [cond_true]
  rw [IntWalk.i64_in (n.tdiv 65536 - 1) (by omega)]
 |false=>rfl
def Em:List SV→Option aL
 |[.int .i64 n]=>some {ok:=am n,val:=.int .i64 (n/65536)}
 |_=>none
theorem I0 {m:Nat→Option Row} {n:Nat} {args:List SV} {e:aL} (h:Em args=some e) (hok:e.ok=true):aN Tryz.prog 133 args m n e:=by
 unfold Em at h
 split at h
 · rename_i k
   cases h
   obtain ⟨rows',hc,_⟩:=aC Vv ag Tryz.func133 (LI (ap.1 hok))
   exact aM hc rfl rfl
 · cases h
noncomputable def yC:bY:=⟨133,fun args _=>Em args,fun _ _ _ h hok=>I0 h hok,aq Tryz.func133 (by kernel_rfl)⟩
theorem mi (x:Int):am (IntKind.i64.wrap x)=true:=by
 rw [ap,IntKind.wrap_i64]
 unfold aU
 omega
theorem DY {α β:Type} {c:Bool} {f:α→β} {x y:α} {x' y':β} (h1:x'=f x) (h2:y'=f y):(bif c then x' else y')=f (bif c then x else y):=by cases c;exact h2;exact h1
noncomputable def NJ:bS:=aV [63] []
theorem JX:bV Tryz.prog NJ:=aD (by kernel_rfl)
theorem GL (v:V3):aH NJ (fun _ _=>none) 200 120 Tryz.f120 0 [.agg v.sv] []=
 bif bif decide (v.x≥2048)==false then decide (v.x≤ -2048) else true then some (SV.bool false,[])
 else
  bif bif decide (v.y≥2048)==false then decide (v.y≤ -2048) else true then some (SV.bool false,[])
  else bif bif decide (v.z≥2048)==false then decide (v.z≤ -2048) else true then some (SV.bool false,[]) else some (SV.bool true,[]):=by kernel_rfl
def jv (n:Int):Bool:=decide (n<2048)&&decide (n> -2048)
def lr (v:V3):Bool:=jv v.x&&(jv v.y&&jv v.z)
noncomputable def ZK:bS:=aV [70] [sE]
theorem WA:bV Tryz.prog ZK:=aD (by kernel_rfl)
theorem AJ (w d h:Int) (len off:Nat) (xs:List Bool) (p:V3):aH ZK (fun _ _=>none) 200 119 Tryz.f119 0 [bB w d h (.slice 0 1 off len none) .unk,.agg p.sv] [.vec true .bool xs]=
 bif
     aP w d h len&&
      (am (p.x.fdiv (2 ^ min (Int.toNat 16) IntKind.i64.bits))&&
       (am (p.y.fdiv (2 ^ min (Int.toNat 16) IntKind.i64.bits))&&(am (p.z.fdiv (2 ^ min (Int.toNat 16) IntKind.i64.bits))&&decide (off+len≤xs.length)))) then
  some
   (SV.bool
       ((af w d h len fun j=>xs.getD (off+j) false).solid (p.x.fdiv (2 ^ min (Int.toNat 16) IntKind.i64.bits)) (p.y.fdiv (2 ^ min (Int.toNat 16) IntKind.i64.bits))
        (p.z.fdiv (2 ^ min (Int.toNat 16) IntKind.i64.bits))),
    [])
 else none:=by kernel_rfl
theorem M9 (v:V3):aH NJ (fun _ _=>none) 200 120 Tryz.f120 0 [.agg v.sv] []=some (.bool (lr v),[]):=by
 rw [GL]
 have e:∀n:Int,(decide (n≥2048)||decide (n≤ -2048))= !jv n:=by
  intro n
  rw [Bool.eq_iff_iff]
  unfold jv
  simp only [Bool.or_eq_true,decide_eq_true_eq,Bool.not_eq_true',Bool.and_eq_false_iff,decide_eq_false_iff_not]
  omega
 simp only [cY,e]
 unfold lr
 cases jv v.x<;>cases jv v.y<;>cases jv v.z<;>rfl
def Lf:List SV→Option aL
 |[.agg [.int .i64 x,.int .i64 y,.int .i64 z]]=>some {val:=.bool (lr ⟨x,y,z⟩)}
 |_=>none
theorem KH {m:Nat→Option Row} {n:Nat} {args:List SV} {e:aL} (h:Lf args=some e):aN Tryz.prog 120 args m n e:=by
 unfold Lf at h
 split at h
 · rename_i x y z
   cases h
   obtain ⟨rows',hc,_⟩:=aC JX ag Tryz.func120 (M9 ⟨x,y,z⟩)
   exact aM hc rfl rfl
 · cases h
noncomputable def RX:bY:=⟨120,fun args _=>Lf args,fun _ _ _ h _=>KH h,aq Tryz.func120 (by kernel_rfl)⟩
def Mp.at (m:Mp) (v:V3):Bool:=m.solid (v.x/65536) (v.y/65536) (v.z/65536)
theorem EQ {w d h:Int} {len off:Nat} {xs:List Bool} {p:V3} (hm:aP w d h len=true) (hl:decide (off+len≤xs.length)=true) (hp:p.fits):
    aH ZK (fun _ _=>none) 200 119 Tryz.f119 0 [bB w d h (.slice 0 1 off len none) .unk,.agg p.sv] [.vec true .bool xs]=some (.bool ((af w d h len fun j=>xs.getD (off+j) false).at p),[]):=by
 rw [AJ]
 simp only [FL,hm,hl,fQ hp.1,fQ hp.2.1,fQ hp.2.2,Bool.and_true,cond_true]
 rfl
noncomputable def xB (args:List SV) (rows:List Row):Option aL:=
 match args with
 |[.agg [.int .i64 w,.int .i64 d,.int .i64 h,.slice id st off len _,sp],.agg [.int .i64 x,.int .i64 y,.int .i64 z]]=>match rows[id]? with
  |some (.vec _ .bool xs)=>bif Nat.beq st 1&&sp.one then some {ok:=aP w d h len&&(aw ⟨x,y,z⟩&&decide (off+len≤xs.length)),val:=.bool ((af w d h len fun j=>xs.getD (off+j) false).at ⟨x,y,z⟩),rd:=[id]} else none
  |_=>none
 |_=>none
theorem EH {args:List SV} {rows:List Row} {n:Nat} {e:aL} (h:xB args rows=some e) (hok:e.ok=true):aN Tryz.prog 119 args (rows[·]?) n e:=by
 unfold xB at h
 split at h
 · rename_i wd dd hd id st off len cap sp x y z
   split at h
   · rename_i ro xs hrow
     cases hb:Nat.beq st 1&&sp.one with
     |false=>simp [hb] at h
     |true=>
      simp only [hb,cond_true,Option.some.injEq] at h
      subst h
      rw [Bool.and_eq_true] at hb
      have hst:=Nat.eq_of_beq_eq_true hb.1
      subst hst
      simp only [Bool.and_eq_true,aB] at hok
      obtain ⟨h1,h2,h3⟩:=hok
      obtain ⟨rows',hc,_⟩:=aC WA ag Tryz.func119 (EQ (p:=⟨x,y,z⟩) h1 h3 h2)
      exact c7 hb.2 hc rfl rfl hrow
   · cases h
 · cases h
noncomputable def HN:bY:=⟨119,xB,fun _ _ _ h hok=>EH h hok,aq Tryz.func119 (by kernel_rfl)⟩
noncomputable def ZF:bS:=aV [63,92,93] [RX,HN]
theorem WB:bV Tryz.prog ZF:=aD (by kernel_rfl)
def bn (n:Int):Int:=IntKind.i64.wrap ((IntKind.i64.wrap (0 - n)).tdiv 2)
def gD (n:Int):Int:=min (max n (-32768)) 32768
def iS (s:Sh):V3:=⟨IntKind.i64.wrap (s.pos.x+s.vel.x),IntKind.i64.wrap (s.pos.y+s.vel.y),IntKind.i64.wrap (s.pos.z+s.vel.z)⟩
def dH (v:V3):Int:=gD (IntKind.i64.wrap (v.z - 1024))
def qJ (p v:V3):V3:=⟨IntKind.i64.wrap (p.x+gD v.x),p.y,p.z⟩
def qm (p v:V3):V3:=⟨p.x,IntKind.i64.wrap (p.y+gD v.y),p.z⟩
def nB (p v:V3):V3:=⟨p.x,p.y,IntKind.i64.wrap (p.z+dH v)⟩
def ug (F:V3→Bool) (p v:V3):V3:=bif F (qJ p v) then p else qJ p v
def BJ (F:V3→Bool) (p v:V3):V3:=bif F (qm (ug F p v) v) then ug F p v else qm (ug F p v) v
def Yn (F:V3→Bool) (p v:V3):V3:=bif F (nB (BJ F p v) v) then BJ F p v else nB (BJ F p v) v
def wR (F:V3→Bool) (p v:V3):V3:=⟨bif F (qJ p v) then bn (gD v.x) else gD v.x,bif F (qm (ug F p v) v) then bn (gD v.y) else gD v.y,bif F (nB (BJ F p v) v) then bn (dH v) else dH v⟩
def BE (F:V3→Bool) (p v:V3):Bool:=F (nB (BJ F p v) v)&&decide (dH v<0)
def eE (s:Sh):Sh:={s with fuse:=IntKind.i64.wrap (s.fuse - 1)}
def bf (F:V3→Bool) (s:Sh):Sh×Bool:=
 bif decide (IntKind.i64.wrap (s.fuse - 1)≤0) then (eE s,true) else
 bif s.rest then (eE s,false) else
 bif s.kind==0 then (bif F (iS s) then (eE s,true) else ({eE s with pos:=iS s},false)) else
 bif BE F s.pos s.vel&&lr (wR F s.pos s.vel) then ({eE s with pos:=Yn F s.pos s.vel,vel:=⟨0,0,0⟩,rest:=true},false) else ({eE s with pos:=Yn F s.pos s.vel,vel:=wR F s.pos s.vel},false)
def Af (s:Sh) (b:Bool):Option aj:=some (.tuple [.agg s.sv,.bool b],[])
section
variable (F g:V3→Bool) (s:Sh)
def Yg (p:V3) (x y:Int):Option aj:=bif g (nB p s.vel) then (bif !F (nB p s.vel) then Af {eE s with pos:=nB p s.vel,vel:=⟨x,y,dH s.vel⟩} false else
 bif (bif (bif (IntKind.i64.wrap (IntKind.i64.wrap (0+1)+1)==2)==true then decide (dH s.vel<0) else false)==true then lr ⟨x,y,bn (dH s.vel)⟩ else false) then Af {eE s with pos:=p,vel:=⟨0,0,0⟩,rest:=true} false else Af {eE s with pos:=p,vel:=⟨x,y,bn (dH s.vel)⟩} false) else none
def YH (p:V3) (x:Int):Option aj:=bif g (qm p s.vel) then (bif !F (qm p s.vel) then Yg F g s (qm p s.vel) x (gD s.vel.y) else Yg F g s p x (bn (gD s.vel.y))) else none
def ZM (p:V3):Option aj:=bif g (qJ p s.vel) then (bif !F (qJ p s.vel) then YH F g s (qJ p s.vel) (gD s.vel.x) else YH F g s p (bn (gD s.vel.x))) else none
def LO:Option aj:=
 bif decide (IntKind.i64.wrap (s.fuse - 1)≤0) then Af (eE s) true else
 bif s.rest then Af (eE s) false else
 bif s.kind==0 then (bif g (iS s) then (bif F (iS s) then Af (eE s) true else Af {eE s with pos:=iS s} false) else none) else ZM F g s s.pos
end
theorem J5 (w d h:Int) (len off:Nat) (xs:List Bool) (s:Sh):aH ZF (fun _ _=>none) 300 65 Tryz.f65 0 [bB w d h (.slice 0 1 off len none) .unk,.agg s.sv] [.vec true .bool xs]=
 LO (af w d h len fun j=>xs.getD (off+j) false).at (fun v=>aP w d h len&&(aw v&&decide (off+len≤xs.length))) s:=by kernel_rfl
theorem Na (F:V3→Bool) (g:V3→Bool) (s:Sh) (hp:s.pos.fits) (hg:∀v,v.fits→g v=true):LO F g s=some (.tuple [.agg (bf F s).1.sv,.bool (bf F s).2],[]):=by
 have w:∀x:Int,aU (IntKind.i64.wrap x):=fun x=>ap.1 (mi x)
 have q1:∀p:V3,p.fits→(qJ p s.vel).fits:=fun p hp=>⟨w _,hp.2.1,hp.2.2⟩
 have q2:∀p:V3,p.fits→(qm p s.vel).fits:=fun p hp=>⟨hp.1,w _,hp.2.2⟩
 have q3:∀p:V3,p.fits→(nB p s.vel).fits:=fun p hp=>⟨hp.1,hp.2.1,w _⟩
 have hf:g (iS s)=true:=hg _ ⟨w _,w _,w _⟩
 have c2:(IntKind.i64.wrap (IntKind.i64.wrap (0+1)+1)==2)=true:=by decide
 have e3:∀(p:V3) (x y:Int),p.fits→Yg F g s p x y=(bif (F (nB p s.vel)&&decide (dH s.vel<0))&&lr ⟨x,y,bif F (nB p s.vel) then bn (dH s.vel) else dH s.vel⟩ then Af {eE s with pos:=bif F (nB p s.vel) then p else nB p s.vel,vel:=⟨0,0,0⟩,rest:=true} false else Af {eE s with pos:=bif F (nB p s.vel) then p else nB p s.vel,vel:=⟨x,y,bif F (nB p s.vel) then bn (dH s.vel) else dH s.vel⟩} false):=fun p x y hp=>by
  unfold Yg
  rw [hg _ (q3 p hp),cond_true,c2]
  cases F (nB p s.vel)
  · rfl
  · simp only [cond_true,Bool.true_and]
    cases decide (dH s.vel<0)<;>cases lr ⟨x,y,bn (dH s.vel)⟩<;>rfl
 have e2:∀(p:V3) (x:Int),p.fits→YH F g s p x=Yg F g s (bif F (qm p s.vel) then p else qm p s.vel) x (bif F (qm p s.vel) then bn (gD s.vel.y) else gD s.vel.y):=fun p x hp=>by
  unfold YH
  rw [hg _ (q2 p hp),cond_true]
  cases F (qm p s.vel)<;>rfl
 have e1:∀p:V3,p.fits→ZM F g s p=YH F g s (bif F (qJ p s.vel) then p else qJ p s.vel) (bif F (qJ p s.vel) then bn (gD s.vel.x) else gD s.vel.x):=fun p hp=>by
  unfold ZM
  rw [hg _ (q1 p hp),cond_true]
  cases F (qJ p s.vel)<;>rfl
 have f1:(ug F s.pos s.vel).fits:=by
  unfold ug
  cases F (qJ s.pos s.vel)
  · exact q1 _ hp
  · exact hp
 have f2:(BJ F s.pos s.vel).fits:=by
  unfold BJ
  cases F (qm (ug F s.pos s.vel) s.vel)
  · exact q2 _ f1
  · exact f1
 unfold LO bf
 rw [e1 _ hp,hf]
 rw [show (bif F (qJ s.pos s.vel) then s.pos else qJ s.pos s.vel)=ug F s.pos s.vel from rfl,e2 _ _ f1]
 rw [show (bif F (qm (ug F s.pos s.vel) s.vel) then ug F s.pos s.vel else qm (ug F s.pos s.vel) s.vel)=BJ F s.pos s.vel from rfl,e3 _ _ _ f2]
 unfold Af
 cases decide (IntKind.i64.wrap (s.fuse - 1)≤0)
 · cases s.rest
   · cases s.kind==0
     · simp only [cond_false]
       exact DY (f:=fun r:Sh×Bool=>(some (.tuple [.agg r.1.sv,.bool r.2],([]:List Row)):Option aj)) rfl rfl
     · simp only [cond_false,cond_true]
       cases F (iS s)<;>rfl
   · rfl
 · rfl
theorem OY {w d h:Int} {len off:Nat} {xs:List Bool} {s:Sh} (hm:aP w d h len=true) (hl:decide (off+len≤xs.length)=true) (hp:s.pos.fits):
    aH ZF (fun _ _=>none) 300 65 Tryz.f65 0 [bB w d h (.slice 0 1 off len none) .unk,.agg s.sv] [.vec true .bool xs]=
     some (.tuple [.agg (bf (af w d h len fun j=>xs.getD (off+j) false).at s).1.sv,.bool (bf (af w d h len fun j=>xs.getD (off+j) false).at s).2],[]):=by
 rw [J5]
 exact Na _ _ s hp fun v hv=>by rw [hm,aB.2 hv,hl];rfl
noncomputable def Ks (args:List SV) (rows:List Row):Option aL:=
 match args with
 |[.agg [.int .i64 w,.int .i64 d,.int .i64 h,.slice id st off len _,sp],.agg [.int .i64 a0,.int .i64 a1,.int .i64 a2,.int .i64 a3,.int .i64 a4,.int .i64 a5,.int .i64 a6,.int .i64 a7,.int .i64 a8,.int .i64 a9,.bool b]]=>match rows[id]? with
  |some (.vec _ .bool xs)=>bif Nat.beq st 1&&sp.one then some {ok:=aP w d h len&&(aw ⟨a3,a4,a5⟩&&decide (off+len≤xs.length)),val:=.tuple [.agg (bf (af w d h len fun j=>xs.getD (off+j) false).at ⟨a0,a1,a2,⟨a3,a4,a5⟩,⟨a6,a7,a8⟩,a9,b⟩).1.sv,.bool (bf (af w d h len fun j=>xs.getD (off+j) false).at ⟨a0,a1,a2,⟨a3,a4,a5⟩,⟨a6,a7,a8⟩,a9,b⟩).2],rd:=[id]} else none
  |_=>none
 |_=>none
theorem LX {args:List SV} {rows:List Row} {n:Nat} {e:aL} (h:Ks args rows=some e) (hok:e.ok=true):aN Tryz.prog 65 args (rows[·]?) n e:=by
 unfold Ks at h
 split at h
 · rename_i wd dd hd id st off len cap sp a0 a1 a2 a3 a4 a5 a6 a7 a8 a9 b
   split at h
   · rename_i ro xs hrow
     cases hb:Nat.beq st 1&&sp.one with
     |false=>simp [hb] at h
     |true=>
      simp only [hb,cond_true,Option.some.injEq] at h
      subst h
      rw [Bool.and_eq_true] at hb
      have hst:=Nat.eq_of_beq_eq_true hb.1
      subst hst
      simp only [Bool.and_eq_true,aB] at hok
      obtain ⟨h1,h2,h3⟩:=hok
      obtain ⟨rows',hc,_⟩:=aC WB ag Tryz.func65 (OY (s:=⟨a0,a1,a2,⟨a3,a4,a5⟩,⟨a6,a7,a8⟩,a9,b⟩) h1 h3 h2)
      exact c7 hb.2 hc rfl rfl hrow
   · cases h
 · cases h
noncomputable def F6:bY:=⟨65,Ks,fun _ _ _ h hok=>LX h hok,aq Tryz.func65 (by kernel_rfl)⟩
theorem kD {F:V3→Bool} {s:Sh} (hp:s.pos.fits):(bf F s).1.pos.fits:=by
 have w64:∀x:Int,aU (IntKind.i64.wrap x):=fun x=>ap.1 (mi x)
 have f1:(ug F s.pos s.vel).fits:=by unfold ug;cases F (qJ s.pos s.vel);exact ⟨w64 _,hp.2.1,hp.2.2⟩;exact hp
 have f2:(BJ F s.pos s.vel).fits:=by unfold BJ;cases F (qm (ug F s.pos s.vel) s.vel);exact ⟨f1.1,w64 _,f1.2.2⟩;exact f1
 have f3:(Yn F s.pos s.vel).fits:=by unfold Yn;cases F (nB (BJ F s.pos s.vel) s.vel);exact ⟨f2.1,f2.2.1,w64 _⟩;exact f2
 unfold bf
 cases decide (IntKind.i64.wrap (s.fuse - 1)≤0)
 · cases s.rest
   · cases s.kind==0
     · cases BE F s.pos s.vel&&lr (wR F s.pos s.vel)
       · exact f3
       · exact f3
     · simp only [cond_false,cond_true]
       cases F (iS s)
       · exact ⟨w64 _,w64 _,w64 _⟩
       · exact hp
   · exact hp
 · exact hp
noncomputable def UI:bS:=aV [] [yC,pj]
theorem Qq:bV Tryz.prog UI:=aD (by kernel_rfl)
theorem Nt (w d h:Int) (len off:Nat) (xs:List Bool) (p:V3):aH UI (fun _ _=>none) 200 112 Tryz.f112 0 [bB w d h (.slice 0 1 off len none) .unk,.agg p.sv] [.vec true .bool xs]=
 bif am p.x then bif am p.y then bif am p.z then bif decide (off+len≤xs.length) then some (.bool ((af w d h len fun j=>xs.getD (off+j) false).at p),[]) else none else none else none else none:=by kernel_rfl
theorem S0 {w d h:Int} {len off:Nat} {xs:List Bool} {p:V3} (hl:decide (off+len≤xs.length)=true) (hp:p.fits):
    aH UI (fun _ _=>none) 200 112 Tryz.f112 0 [bB w d h (.slice 0 1 off len none) .unk,.agg p.sv] [.vec true .bool xs]=some (.bool ((af w d h len fun j=>xs.getD (off+j) false).at p),[]):=by
 rw [Nt,ap.2 hp.1,ap.2 hp.2.1,ap.2 hp.2.2,hl]
 rfl
noncomputable def Mr (args:List SV) (rows:List Row):Option aL:=
 match args with
 |[.agg [.int .i64 w,.int .i64 d,.int .i64 h,.slice id st off len _,sp],.agg [.int .i64 x,.int .i64 y,.int .i64 z]]=>match rows[id]? with
  |some (.vec _ .bool xs)=>bif Nat.beq st 1&&sp.one then some {ok:=aw ⟨x,y,z⟩&&decide (off+len≤xs.length),val:=.bool ((af w d h len fun j=>xs.getD (off+j) false).at ⟨x,y,z⟩),rd:=[id]} else none
  |_=>none
 |_=>none
theorem Kf {args:List SV} {rows:List Row} {n:Nat} {e:aL} (h:Mr args rows=some e) (hok:e.ok=true):aN Tryz.prog 112 args (rows[·]?) n e:=by
 unfold Mr at h
 split at h
 · rename_i wd dd hd id st off len cap sp x y z
   split at h
   · rename_i ro xs hrow
     cases hb:Nat.beq st 1&&sp.one with
     |false=>simp [hb] at h
     |true=>
      simp only [hb,cond_true,Option.some.injEq] at h
      subst h
      rw [Bool.and_eq_true] at hb
      have hst:=Nat.eq_of_beq_eq_true hb.1
      subst hst
      simp only [Bool.and_eq_true,aB] at hok
      obtain ⟨h2,h3⟩:=hok
      obtain ⟨rows',hc,_⟩:=aC Qq ag Tryz.func112 (S0 (w:=wd) (d:=dd) (h:=hd) (p:=⟨x,y,z⟩) h3 h2)
      exact c7 hb.2 hc rfl rfl hrow
   · cases h
 · cases h
noncomputable def SW:bY:=⟨112,Mr,fun _ _ _ h hok=>Kf h hok,aq Tryz.func112 (by kernel_rfl)⟩
noncomputable def Vf:bS:=aV [] []
theorem Fs:bV Tryz.prog Vf:=aD (by kernel_rfl)
def si (n m:Int):Bool:=decide (n>m)||decide (n<IntKind.i64.wrap (0 - m))
theorem H1 (n m:Int):aH Vf (fun _ _=>none) 200 84 Tryz.f84 0 [.int .i64 n,.int .i64 m] []=
 some (.bool (bif decide (n>m)==false then decide (n<IntKind.i64.wrap (0 - m)) else true),[]):=by kernel_rfl
def ON:List SV→Option aL
 |[.int .i64 n,.int .i64 m]=>some {val:=.bool (si n m)}
 |_=>none
theorem ML {m:Nat→Option Row} {n:Nat} {args:List SV} {e:aL} (h:ON args=some e):aN Tryz.prog 84 args m n e:=by
 unfold ON at h
 split at h
 · rename_i k l
   cases h
   obtain ⟨rows',hc,_⟩:=aC Fs ag Tryz.func84 (H1 k l)
   rw [cY] at hc
   exact aM hc rfl rfl
 · cases h
noncomputable def Fn:bY:=⟨84,fun args _=>ON args,fun _ _ _ h _=>ML h,aq Tryz.func84 (by kernel_rfl)⟩
theorem AW (n:Int):aH Vf (fun _ _=>none) 200 113 Tryz.f113 0 [.int .i64 n] []=
 some (.int .i64 (max (-32768) (min n 32768)),[]):=by kernel_rfl
def wH:List SV→Option aL
 |[.int .i64 n]=>some {val:=.int .i64 (gD n)}
 |_=>none
theorem Dw {m:Nat→Option Row} {n:Nat} {args:List SV} {e:aL} (h:wH args=some e):aN Tryz.prog 113 args m n e:=by
 unfold wH at h
 split at h
 · rename_i k
   cases h
   obtain ⟨rows',hc,_⟩:=aC Fs ag Tryz.func113 ((AW k).trans (show _=some (SV.int .i64 (gD k),([]:List Row)) by unfold gD;congr 3;omega))
   exact aM hc rfl rfl
 · cases h
noncomputable def Jc:bY:=⟨113,fun args _=>wH args,fun _ _ _ h _=>Dw h,aq Tryz.func113 (by kernel_rfl)⟩
def zE (a b:Bool):Bool:=bif a==true then (bif true then b else false) else false
def O3 (s:Sh) (p v:V3) (hit dn:Bool):Option aj:=
 bif zE (zE (zE (zE hit dn) (!si v.x 2047)) (!si v.y 2047)) (!si v.z 2047) then Af {eE s with pos:=p,vel:=⟨0,0,0⟩,rest:=true} false else Af {eE s with pos:=p,vel:=v} false
section
variable (F g:V3→Bool) (s:Sh)
def Yi (p:V3) (x y:Int):Option aj:=bif g (nB p s.vel) then (bif F (nB p s.vel) then O3 s p ⟨x,y,bn (dH s.vel)⟩ (F (nB p s.vel)) (decide (dH s.vel<0)) else O3 s (nB p s.vel) ⟨x,y,dH s.vel⟩ (F (nB p s.vel)) (decide (dH s.vel<0))) else none
def YM (p:V3) (x:Int):Option aj:=bif g (qm p s.vel) then (bif F (qm p s.vel) then Yi F g s p x (bn (gD s.vel.y)) else Yi F g s (qm p s.vel) x (gD s.vel.y)) else none
def YT (p:V3):Option aj:=bif g (qJ p s.vel) then (bif F (qJ p s.vel) then YM F g s p (bn (gD s.vel.x)) else YM F g s (qJ p s.vel) (gD s.vel.x)) else none
def NN:Option aj:=
 bif decide (IntKind.i64.wrap (s.fuse - 1)≤0) then Af (eE s) true else
 bif s.rest then Af (eE s) false else
 bif s.kind==0 then (bif g (iS s) then (bif !F (iS s) then Af {eE s with pos:=iS s} (F (iS s)) else Af (eE s) (F (iS s))) else none) else YT F g s s.pos
end
noncomputable def Xk:bS:=aV [] [SW,Fn,Jc]
theorem Q4:bV Tryz.prog Xk:=aD (by kernel_rfl)
theorem QA (w d h:Int) (len off:Nat) (xs:List Bool) (s:Sh):aH Xk (fun _ _=>none) 300 86 Tryz.f86 0 [bB w d h (.slice 0 1 off len none) .unk,.agg s.sv] [.vec true .bool xs]=
 NN (af w d h len fun j=>xs.getD (off+j) false).at (fun v=>aw v&&decide (off+len≤xs.length)) s:=by kernel_rfl
theorem Ge (a b:Bool):zE a b=(a&&b):=by cases a<;>rfl
theorem SM (n:Int):(!si n 2047)=jv n:=by
 unfold si jv
 rw [show IntKind.i64.wrap (0 - 2047)= -2047 by decide,Bool.eq_iff_iff]
 simp only [Bool.not_eq_true',Bool.or_eq_false_iff,decide_eq_false_iff_not,Bool.and_eq_true,decide_eq_true_eq]
 omega
theorem P8 (F:V3→Bool) (g:V3→Bool) (s:Sh) (hp:s.pos.fits) (hg:∀v,v.fits→g v=true):NN F g s=some (.tuple [.agg (bf F s).1.sv,.bool (bf F s).2],[]):=by
 have w:∀x:Int,aU (IntKind.i64.wrap x):=fun x=>ap.1 (mi x)
 have q1:∀p:V3,p.fits→(qJ p s.vel).fits:=fun p hp=>⟨w _,hp.2.1,hp.2.2⟩
 have q2:∀p:V3,p.fits→(qm p s.vel).fits:=fun p hp=>⟨hp.1,w _,hp.2.2⟩
 have q3:∀p:V3,p.fits→(nB p s.vel).fits:=fun p hp=>⟨hp.1,hp.2.1,w _⟩
 have hf:g (iS s)=true:=hg _ ⟨w _,w _,w _⟩
 have e3:∀(p:V3) (x y:Int),p.fits→Yi F g s p x y=O3 s (bif F (nB p s.vel) then p else nB p s.vel) ⟨x,y,bif F (nB p s.vel) then bn (dH s.vel) else dH s.vel⟩ (F (nB p s.vel)) (decide (dH s.vel<0)):=fun p x y hp=>by
  unfold Yi
  rw [hg _ (q3 p hp),cond_true]
  cases F (nB p s.vel)<;>rfl
 have e2:∀(p:V3) (x:Int),p.fits→YM F g s p x=Yi F g s (bif F (qm p s.vel) then p else qm p s.vel) x (bif F (qm p s.vel) then bn (gD s.vel.y) else gD s.vel.y):=fun p x hp=>by
  unfold YM
  rw [hg _ (q2 p hp),cond_true]
  cases F (qm p s.vel)<;>rfl
 have e1:∀p:V3,p.fits→YT F g s p=YM F g s (bif F (qJ p s.vel) then p else qJ p s.vel) (bif F (qJ p s.vel) then bn (gD s.vel.x) else gD s.vel.x):=fun p hp=>by
  unfold YT
  rw [hg _ (q1 p hp),cond_true]
  cases F (qJ p s.vel)<;>rfl
 have f1:(ug F s.pos s.vel).fits:=by
  unfold ug
  cases F (qJ s.pos s.vel)
  · exact q1 _ hp
  · exact hp
 have f2:(BJ F s.pos s.vel).fits:=by
  unfold BJ
  cases F (qm (ug F s.pos s.vel) s.vel)
  · exact q2 _ f1
  · exact f1
 have hl:YT F g s s.pos=O3 s (Yn F s.pos s.vel) (wR F s.pos s.vel) (F (nB (BJ F s.pos s.vel) s.vel)) (decide (dH s.vel<0)):=by
  rw [e1 _ hp]
  rw [show (bif F (qJ s.pos s.vel) then s.pos else qJ s.pos s.vel)=ug F s.pos s.vel from rfl,e2 _ _ f1]
  rw [show (bif F (qm (ug F s.pos s.vel) s.vel) then ug F s.pos s.vel else qm (ug F s.pos s.vel) s.vel)=BJ F s.pos s.vel from rfl,e3 _ _ _ f2]
  rfl
 unfold NN bf
 rw [hl,hf]
 unfold O3 Af
 simp only [Ge,SM]
 cases decide (IntKind.i64.wrap (s.fuse - 1)≤0)
 · cases s.rest
   · cases s.kind==0
     · simp only [cond_false]
       rw [show (((F (nB (BJ F s.pos s.vel) s.vel)&&decide (dH s.vel<0))&&jv (wR F s.pos s.vel).x)&&jv (wR F s.pos s.vel).y&&jv (wR F s.pos s.vel).z)=(BE F s.pos s.vel&&lr (wR F s.pos s.vel)) by unfold BE lr;simp only [Bool.and_assoc]]
       cases BE F s.pos s.vel&&lr (wR F s.pos s.vel)<;>rfl
     · simp only [cond_false,cond_true]
       cases F (iS s)<;>rfl
   · rfl
 · rfl
theorem VA {w d h:Int} {len off:Nat} {xs:List Bool} {s:Sh} (hl:decide (off+len≤xs.length)=true) (hp:s.pos.fits):
    aH Xk (fun _ _=>none) 300 86 Tryz.f86 0 [bB w d h (.slice 0 1 off len none) .unk,.agg s.sv] [.vec true .bool xs]=
     some (.tuple [.agg (bf (af w d h len fun j=>xs.getD (off+j) false).at s).1.sv,.bool (bf (af w d h len fun j=>xs.getD (off+j) false).at s).2],[]):=by
 rw [QA]
 exact P8 _ _ s hp fun v hv=>by rw [aB.2 hv,hl];rfl
end Go.Proofs.YtimkhidniolpeaaGreat
