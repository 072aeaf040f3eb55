/- Part of the proof. -/
import Derived.Test.YtimkhidniolpeaaGreatVmDp
import Derived.Test.YtimkhidniolpeaaGreatFx
import Derived.Test.YtimkhidniolpeaaGreatVmI
namespace Go.Proofs.YtimkhidniolpeaaGreat
set_option linter.unusedSimpArgs false
set_option linter.unusedVariables false
set_option maxRecDepth 100000
set_option maxHeartbeats 0
open Go.RowKit
def i9 (A:Int) (g:Nat→Int) (i:Nat):Nat→Nat→List Int→Int→List Int×Int
 |0,_,O,c=>(O,c)
 |m+1,k,O,c=>i9 A g i m (k+1) (O.set (i+k) ((O.getD (i+k) 0+A*g k+c)%65536)) ((O.getD (i+k) 0+A*g k+c)/65536)
def jf (f g:Nat→Int) (lb:Nat):Nat→Nat→List Int→List Int
 |0,_,O=>O
 |m+1,i,O=>jf f g lb m (i+1) ((i9 (f i) g i lb 0 O 0).1.set (i+lb) (i9 (f i) g i lb 0 O 0).2)
theorem wX:∀{O:List Int} {j:Nat} (v:Int),j<O.length→aX (O.set j v)=aX O+65536 ^ j*(v - O.getD j 0)
 |[],j,v,h=>by simp at h
 |d::O,0,v,h=>by simp [aX];omega
 |d::O,j+1,v,h=>by
  rw [List.set_cons_succ,aX,aX,wX v (by simpa using h),Int.pow_succ,List.getD_cons_succ]
  grind
theorem o6 {O:List Int} (h:bu O) (j:Nat) {v:Int} (hv:0≤v∧v<65536):bu (O.set j v):=by
 intro d hd
 rcases List.mem_or_eq_of_mem_set hd with hd |rfl
 · exact h d hd
 · exact hv
theorem xA {O:List Int} (h:bu O) (j:Nat):0≤O.getD j 0∧O.getD j 0<65536:=by
 have:=f7 h 0 j
 unfold dY at this
 rwa [Nat.zero_add] at this
theorem yv {a b:Int} (ha:0≤a∧a<65536) (hb:0≤b∧b<65536):0≤a*b∧a*b≤4294836225:=by
 have h1:=Int.mul_nonneg ha.1 hb.1
 have h2:=Int.mul_le_mul (show a≤65535 by omega) (show b≤65535 by omega) hb.1 (by omega)
 exact ⟨h1,by omega⟩
theorem xM {o a b c:Int} (ho:0≤o∧o<65536) (ha:0≤a∧a<65536) (hb:0≤b∧b<65536) (hc:0≤c∧c<65536):
    0≤o+a*b+c∧o+a*b+c<4294967296∧(0≤(o+a*b+c)%65536∧(o+a*b+c)%65536<65536)∧(0≤(o+a*b+c)/65536∧(o+a*b+c)/65536<65536):=by
 have:=yv ha hb
 generalize a*b=P at this ⊢
 omega
theorem lX (A:Int) (g:Nat→Int) (i:Nat):∀(m k:Nat) (O:List Int) (c:Int),(i9 A g i m k O c).1.length=O.length
 |0,_,_,_=>rfl
 |m+1,k,O,c=>by unfold i9;rw [lX,List.length_set]
theorem wg {A:Int} {g:Nat→Int} {i:Nat} (hA:0≤A∧A<65536) (hg:∀i,0≤g i∧g i<65536):∀(m k:Nat) (O:List Int) (c:Int),bu O→0≤c∧c<65536→
    bu (i9 A g i m k O c).1∧0≤(i9 A g i m k O c).2∧(i9 A g i m k O c).2<65536
 |0,_,_,_,hO,hc=>⟨hO,hc⟩
 |m+1,k,O,c,hO,hc=>by
  obtain ⟨_,_,h3,h4⟩:=xM (xA hO (i+k)) hA (hg k) hc
  exact wg hA hg m (k+1) _ _ (o6 hO _ h3) h4
theorem Ay (A:Int) (g:Nat→Int) (i:Nat):∀(m k:Nat) (O:List Int) (c:Int) (j:Nat),i+k+m≤j→(i9 A g i m k O c).1.getD j 0=O.getD j 0
 |0,_,_,_,_,_=>rfl
 |m+1,k,O,c,j,hj=>by
  unfold i9
  rw [Ay A g i m (k+1) _ _ j (by omega),List.getD_eq_getElem?_getD,List.getElem?_set_ne (by omega),←List.getD_eq_getElem?_getD]
theorem zn (A:Int) (g:Nat→Int) (i:Nat):∀(m k:Nat) (O:List Int) (c:Int),i+k+m≤O.length→
    aX (i9 A g i m k O c).1+65536 ^ (i+k+m)*(i9 A g i m k O c).2=aX O+65536 ^ (i+k)*(c+A*ch g m k)
 |0,k,O,c,h=>by simp [i9,ch]
 |m+1,k,O,c,h=>by
  have ih:=zn A g i m (k+1) (O.set (i+k) ((O.getD (i+k) 0+A*g k+c)%65536)) ((O.getD (i+k) 0+A*g k+c)/65536) (by rw [List.length_set];omega)
  rw [wX _ (by omega),show i+(k+1)+m=i+k+(m+1) by omega,show i+(k+1)=i+k+1 by omega,Int.pow_succ] at ih
  unfold i9
  rw [ih]
  rw [ch]
  have hd:=Int.emod_add_mul_ediv (O.getD (i+k) 0+A*g k+c) 65536
  generalize (O.getD (i+k) 0+A*g k+c)%65536=R at hd ⊢
  generalize (O.getD (i+k) 0+A*g k+c)/65536=Q at hd ⊢
  generalize ch g m (k+1)=V
  generalize (65536:Int) ^ (i+k)=P
  generalize aX O=S
  generalize O.getD (i+k) 0=o at hd ⊢
  obtain rfl:R=o+A*g k+c - 65536*Q:=by omega
  grind
theorem vn (f g:Nat→Int) (lb:Nat):∀(m i:Nat) (O:List Int),(jf f g lb m i O).length=O.length
 |0,_,_=>rfl
 |m+1,i,O=>by unfold jf;rw [vn,List.length_set,lX]
theorem zH {f g:Nat→Int} {lb:Nat} (hf:∀i,0≤f i∧f i<65536) (hg:∀i,0≤g i∧g i<65536):∀(m i:Nat) (O:List Int),bu O→bu (jf f g lb m i O)
 |0,_,_,h=>h
 |m+1,i,O,h=>by
  obtain ⟨h1,h2⟩:=wg (i:=i) (hf i) hg lb 0 O 0 h (by omega)
  exact zH hf hg m (i+1) _ (o6 h1 _ h2)
theorem ur (f g:Nat→Int) (lb:Nat):∀(m i:Nat) (O:List Int),i+m+lb<O.length+1→(∀j,i+lb≤j→O.getD j 0=0)→
    aX (jf f g lb m i O)=aX O+65536 ^ i*(ch f m i*ch g lb 0)
 |0,i,O,_,_=>by simp [jf,ch]
 | m+1,i,O,hl,hz=>by
  have hv:=zn (f i) g i lb 0 O 0 (by omega)
  have hfar:=Ay (f i) g i lb 0 O 0
  unfold jf
  rw [ur f g lb m (i+1) _ (by rw [List.length_set,lX];omega) fun j hj=>?_]
  · rw [wX _ (by rw [lX];omega),hfar (i+lb) (by omega),hz (i+lb) (Nat.le_refl _),Int.pow_succ,ch]
    rw [Nat.add_zero] at hv
    generalize aX (i9 (f i) g i lb 0 O 0).1=X at hv ⊢
    generalize (i9 (f i) g i lb 0 O 0).2=Y at hv ⊢
    generalize (65536:Int) ^ (i+lb)=Z at hv ⊢
    generalize (65536:Int) ^ i=P at hv ⊢
    generalize ch g lb 0=G at hv ⊢
    generalize ch f m (i+1)=F
    generalize aX O=S at hv ⊢
    obtain rfl:X=S+P*(0+f i*G) - Z*Y:=by omega
    grind
  · rw [List.getD_eq_getElem?_getD,List.getElem?_set_ne (by omega),←List.getD_eq_getElem?_getD,hfar j (by omega)]
    exact hz j (by omega)
def eQ (xs ys:List Int) (oa la ob lb:Nat):List Int:=jf (dY xs oa) (dY ys ob) lb la 0 (List.replicate (la+lb+1) 0)
theorem tf (n:Nat):bu (List.replicate n 0):=fun d hd=>by rw [List.eq_of_mem_replicate hd];omega
theorem uC:∀n:Nat,aX (List.replicate n 0)=0
 |0=>rfl
 |n+1=>by rw [List.replicate_succ,aX,uC n];rfl
theorem JB (n j:Nat):(List.replicate n (0:Int)).getD j 0=0:=by
 rw [List.getD_eq_getElem?_getD,List.getElem?_replicate]
 split<;>rfl
theorem iC (xs ys:List Int) (oa la ob lb:Nat):(eQ xs ys oa la ob lb).length=la+lb+1:=by
 unfold eQ
 rw [vn,List.length_replicate]
def cR (xs ys:List Int) (oa la ob lb:Nat):List Int:=(eQ xs ys oa la ob lb).take (d9 (eQ xs ys oa la ob lb) (la+lb+1))
theorem nu {xs ys:List Int} (hx:bu xs) (hy:bu ys) (oa la ob lb:Nat):aX (cR xs ys oa la ob lb)=ch (dY xs oa) la 0*ch (dY ys ob) lb 0∧bu (cR xs ys oa la ob lb):=by
 have hD:bu (eQ xs ys oa la ob lb):=zH (f7 hx oa) (f7 hy ob) la 0 _ (tf _)
 refine ⟨?_,ik hD _⟩
 unfold cR
 rw [ld _ (by rw [iC];omega),List.take_of_length_le (by rw [iC];omega)]
 unfold eQ
 rw [ur _ _ lb la 0 _ (by rw [List.length_replicate];omega) fun j _=>JB _ j,uC]
 simp
theorem iX (xs ys:List Int) (oa la ob lb:Nat):(cR xs ys oa la ob lb).length=d9 (eQ xs ys oa la ob lb) (la+lb+1):=by
 unfold cR
 rw [List.length_take,iC]
 have:=dc (eQ xs ys oa la ob lb) (la+lb+1)
 omega
theorem Cp (xs ys:List Int) (oa la ob lb:Nat) {i:Nat} (hi:i<(cR xs ys oa la ob lb).length):(eQ xs ys oa la ob lb)[0+i]? =(cR xs ys oa la ob lb)[i]? :=by
 rw [Nat.zero_add]
 rw [iX] at hi
 unfold cR
 rw [List.getElem?_take,if_pos hi]
theorem rW {l:List Int} {n:Nat} (hn:n≤l.length):jD (l.take (d9 l n)):=by
 have hle:=dc l n
 intro h0
 rw [List.length_take] at h0 ⊢
 have h1:=wb (l:=l) n (by omega)
 rw [show min (d9 l n) l.length=d9 l n by omega,List.getD_eq_getElem?_getD,List.getElem?_take,if_pos (by omega),←List.getD_eq_getElem?_getD]
 exact h1
theorem lO (xs ys:List Int) (oa la ob lb:Nat):jD (cR xs ys oa la ob lb):=rW (by rw [iC];omega)
def mV (P:Int→Bool):Nat→Int→Int
 |0,n=>n
 |k+1,n=>mV P k (bif P (n+2 ^ k) then n+2 ^ k else n)
theorem oY {P:Int→Bool} (hP:∀x y,0≤y→y≤x→P x=true→P y=true):∀(k:Nat) (n:Int),0≤n→P n=true→
    P (mV P k n)=true∧n≤mV P k n∧mV P k n<n+2 ^ k∧∀x,n≤x→x<n+2 ^ k→P x=true→x≤mV P k n
 |0,n,h0,h=>⟨h,Int.le_refl _,by simp only [mV,Int.pow_zero];omega,fun x h1 h2 _=>by simp [mV] at*;omega⟩
 | k +1,n,h0,h=>by
  have hp:(0:Int)<2 ^ k:=Int.pow_pos (by omega)
  unfold mV
  rw [Int.pow_succ]
  cases hc:P (n+2 ^ k) with
  |true=>
   simp only [cond_true]
   obtain ⟨h1,h2,h3,h4⟩:=oY hP k (n+2 ^ k) (by omega) hc
   refine ⟨h1,by omega,by omega,fun x x1 x2 x3=>?_⟩
   rcases Int.lt_or_le x (n+2 ^ k) with hx |hx
   · omega
   · exact h4 x hx (by omega) x3
  | false=>
   simp only [cond_false]
   obtain ⟨h1,h2,h3,h4⟩:=oY hP k n h0 h
   refine ⟨h1,by omega,by omega,fun x x1 x2 x3=>?_⟩
   rcases Int.lt_or_le x (n+2 ^ k) with hx |hx
   · exact h4 x x1 hx x3
   · have:=hP x (n+2 ^ k) (by omega) hx x3
     rw [this] at hc;cases hc
noncomputable def Yt:List SV→List Row→Option aj:=bj wk (fun _ _=>none) 100 132 [0,0,1,1] (bg Tryz.f132 [0,0,1,1]) 21 1 [0,2,3]
def EX (la:Nat) (n:Int):List SV:=[.slice 0 1 0 la (some la),.nils,.int .i64 n]
theorem Ag (xs:List Int) (la:Nat) (n:Int):Yt (EX la n) (qB xs)=
 bif
 (decide (0≤IntKind.i64.wrap (n - 1))&&decide (IntKind.i64.wrap (n - 1)<(↑la:Int))&&(decide (0+(IntKind.i64.wrap (n - 1)).toNat<xs.length)&&true)&&true||
 decide (n>0) !=true)&&
 (true||decide (n>0)==true)&&
 true then
 bif bif decide (n>0)==true then xs.getD (0+(IntKind.i64.wrap (n - 1)).toNat) aA.u64.dflt==0 else false then
 some (SV.tuple [SV.nilp,SV.tuple [SV.slice 0 1 0 la (some la),SV.nils,.int .i64 (IntKind.i64.wrap (n - 1))]],[Row.vec false aA.u64 xs])
 else some (SV.tuple [SV.ptr 0 0 0 0,SV.tuple [SV.slice 0 1 0 la (some la),SV.nils,.int .i64 n]],[Row.vec false aA.u64 xs])
 else none:=by kernel_rfl
theorem ES {xs:List Int} {la:Nat} (hl:la≤xs.length) (h64:la≤9223372036854775807):∀(k:Nat),k≤la→aJ Yt (EX la k) (qB xs) (.exit 0) (EX la (d9 xs k:Nat)) (qB xs)
 |0,hk=>by
  refine .done ?_ (by simp)
  rw [Ag]
  rfl
 | k+1,hk=>by
  have hro:=Ag xs la ((k+1:Nat):Int)
  have e1:(((k+1:Nat):Int) - 1)=(k:Int):=by omega
  have e2:((k:Int)).toNat=k:=by omega
  rw [e1,IntWalk.i64_in (k:Int) (by omega),e2,decide_eq_true (show (0:Int)≤(k:Int) by omega),decide_eq_true (show (k:Int)<(la:Int) by omega),decide_eq_true (show 0+k<xs.length by omega),decide_eq_true (show ((k+1:Nat):Int)>0 by omega)] at hro
  simp only [Bool.and_true,Bool.true_or,cond_true,beq_self_eq_true] at hro
  unfold d9
  cases hc:xs.getD (0+k) aA.u64.dflt==0 with
  |true=>
   rw [hc,cond_true] at hro
   simp only [cond_true]
   exact .more hro (ES hl h64 k (by omega))
  |false=>
   rw [hc,cond_false] at hro
   simp only [cond_false]
   exact .done hro (by simp)
noncomputable def Tl (v:List SV) (R:List Row) (k:Ex→List SV→List Row→Option aj):Option aj:=match v,R with
 | [.slice 0 1 0 la (some c),.nils,.int .i64 n],[.vec false .u64 xs]=>
     bif (decide (c=la)&&decide (n=(la:Int)))&&(decide (la≤xs.length)&&decide (la≤9223372036854775807)) then k (.exit 0) (EX la (d9 xs la:Nat)) (qB xs) else none
 |_,_=>none
theorem NH:da 132 [0,0,1,1] (bG 21 [0,2,3] Tl):=by
 intro b hat s K r h
 refine aQ (fuel:=100) ge ag hat (fun v R k r hr=>?_) h
 have hbody:=aZ Tryz.func132 hat
 subst hbody
 unfold Tl at hr
 split at hr
 · rename_i la c n xs
   obtain ⟨hb,hr2⟩:=al hr
   simp only [Bool.and_eq_true,decide_eq_true_eq] at hb
   obtain ⟨⟨rfl,rfl⟩,h3,h4⟩:=hb
   exact ⟨_,_,_,hr2,ES h3 h4 c (Nat.le_refl _)⟩
 · cases hr
noncomputable def Te:jh:=⟨_,_,_,NH⟩
theorem Pr (xs:List Int) (la:Nat):aH wk (aF [Te]) 300 132 Tryz.f132 9 [.slice 0 1 0 la (some la)] [.vec false .u64 xs]=
 bif decide (la=la)&&decide ((↑la:Int)=(↑la:Int))&&(decide (la≤xs.length)&&decide (la≤9223372036854775807)) then
 bif decide (0≤(↑(d9 xs la):Int))&&decide ((↑(d9 xs la):Int)≤(↑(dm (some la) la):Int)) then some (SV.slice 0 1 0 (↑(d9 xs la):Int).toNat (some la),[Row.vec false aA.u64 xs])
 else none
 else none:=by kernel_rfl
noncomputable def Zz:bS:=aV [] []
theorem N5:bV Tryz.prog Zz:=aD (by kernel_rfl)
def vg (oa la ob lb n:Nat) (i c k:Int):List SV:=[.slice 0 1 oa la none,.slice 1 1 ob lb none,.nils,.slice 2 1 0 n (some n),.int .i64 i,.int .u64 c,.int .i64 k]
def vU (oa la ob lb n:Nat) (i:Int):List SV:=[.slice 0 1 oa la none,.slice 1 1 ob lb none,.nils,.slice 2 1 0 n (some n),.int .i64 i]
def kL (xs ys O:List Int):List Row:=[.vec true .u64 xs,.vec true .u64 ys,.vec false .u64 O]
noncomputable def YC:List SV→List Row→Option aj:=bj Zz (fun _ _=>none) 100 131 [0,1,0,1,0,0,1,0,0,1,0,1,1] (bg Tryz.f131 [0,1,0,1,0,0,1,0,0,1,0,1,1]) 65 3 [0,1,4,5,6,7,8]
def XN (xs ys O:List Int) (oa ob:Nat) (i c k:Int):Int:=IntKind.u64.wrap (IntKind.u64.wrap (O.getD (0+(IntKind.i64.wrap (i+k)).toNat) aA.u64.dflt+IntKind.u64.wrap (xs.getD (oa+i.toNat) aA.u64.dflt*ys.getD (ob+k.toNat) aA.u64.dflt))+c)
theorem Ab (xs ys O:List Int) (oa la ob lb n:Nat) (i c k:Int):YC (vg oa la ob lb n i c k) (kL xs ys O)=
 bif decide (k<(lb:Int)) then
 bif decide (0≤IntKind.i64.wrap (i+k))&&decide (IntKind.i64.wrap (i+k)<(n:Int)) then
 bif decide (0+(IntKind.i64.wrap (i+k)).toNat<O.length) then
 bif decide (0≤i)&&decide (i<(la:Int)) then
 bif decide (oa+i.toNat<xs.length) then
 bif decide (0≤k)&&decide (k<(lb:Int)) then
 bif decide (ob+k.toNat<ys.length) then
 bif decide (0≤IntKind.i64.wrap (i+k))&&decide (IntKind.i64.wrap (i+k)<(n:Int)) then
 bif decide (0+(IntKind.i64.wrap (i+k)).toNat<O.length) then
 some (.tuple [.nilp,.tuple (vg oa la ob lb n i (IntKind.u64.wrap ((XN xs ys O oa ob i c k).tdiv 65536)) (IntKind.i64.wrap (k+1)))],kL xs ys (O.set (0+(IntKind.i64.wrap (i+k)).toNat) ((XN xs ys O oa ob i c k).tmod 65536)))
 else none
 else none
 else none
 else none
 else none
 else none
 else none
 else none
 else some (.tuple [.ptr 2 0 0 0,.tuple (vg oa la ob lb n i c k)],kL xs ys O):=by kernel_rfl
section
variable {xs ys:List Int} {oa la ob lb n:Nat}
theorem QB (hx:bu xs) (hy:bu ys) {O:List Int} (hO:bu O) {i k:Nat} {c:Int} (hc:0≤c∧c<65536) (hi:i+k≤100000):
    (XN xs ys O oa ob i c k).tmod 65536=(O.getD (i+k) 0+dY xs oa i*dY ys ob k+c)%65536∧IntKind.u64.wrap ((XN xs ys O oa ob i c k).tdiv 65536)=(O.getD (i+k) 0+dY xs oa i*dY ys ob k+c)/65536∧(IntKind.i64.wrap ((i:Int)+(k:Int))).toNat=i+k∧IntKind.i64.wrap ((i:Int)+(k:Int))=((i+k:Nat):Int):=by
 have ho:=xA hO (i+k)
 have ha:=f7 hx oa i
 have hb:=f7 hy ob k
 obtain ⟨t1,t2,t3,t4⟩:=xM ho ha hb hc
 have hp:=yv ha hb
 have e1:IntKind.i64.wrap ((i:Int)+(k:Int))=((i+k:Nat):Int):=by rw [IntWalk.i64_in _ (by omega)];omega
 have e:XN xs ys O oa ob i c k=O.getD (i+k) 0+dY xs oa i*dY ys ob k+c:=by
  unfold XN
  rw [e1,show (((i+k:Nat):Int)).toNat=i+k by omega,show ((i:Int)).toNat=i by omega,show ((k:Int)).toNat=k by omega,Nat.zero_add]
  rw [show O.getD (i+k) aA.u64.dflt=O.getD (i+k) (0:Int) from rfl,show xs.getD (oa+i) aA.u64.dflt=dY xs oa i from rfl,show ys.getD (ob+k) aA.u64.dflt=dY ys ob k from rfl]
  rw [eW (a:=dY xs oa i*dY ys ob k) (by omega) (by omega),eW (a:=O.getD (i+k) (0:Int)+dY xs oa i*dY ys ob k) (by omega) (by omega),eW (by omega) (by omega)]
 rw [e,Int.tmod_eq_emod_of_nonneg t1,Int.tdiv_eq_ediv_of_nonneg t1,eW t4.1 (by omega),e1]
 exact ⟨rfl,rfl,by omega,rfl⟩
theorem EZ (hx:bu xs) (hy:bu ys) (ha:oa+la≤xs.length) (hb:ob+lb≤ys.length) (hn:n=la+lb+1) (hn2:n≤2000) {i:Nat} (hi:i<la):∀(m k:Nat) (O:List Int) (c:Int),bu O→O.length=n→0≤c∧c<65536→k+m=lb→
    aJ YC (vg oa la ob lb n i c k) (kL xs ys O) (.exit 2) (vg oa la ob lb n i (i9 (dY xs oa i) (dY ys ob) i m k O c).2 lb) (kL xs ys (i9 (dY xs oa i) (dY ys ob) i m k O c).1)
 |0,k,O,c,h1,h2,h3,h4=>by
  obtain rfl:k=lb:=by omega
  refine .done ?_ (by simp)
  rw [Ab,decide_eq_false (by omega),cond_false]
  rfl
 |m+1,k,O,c,h1,h2,h3,h4=>by
  obtain ⟨e1,e2,e3,e4⟩:=QB (oa:=oa) (ob:=ob) (i:=i) (k:=k) hx hy h1 h3 (by omega)
  obtain ⟨_,_,t3,t4⟩:=xM (xA h1 (i+k)) (f7 hx oa i) (f7 hy ob k) h3
  have hro:=Ab xs ys O oa la ob lb n i c k
  rw [e1,e2,e3,e4,decide_eq_true (show (k:Int)<(lb:Int) by omega),decide_eq_true (show (0:Int)≤((i+k:Nat):Int) by omega),decide_eq_true (show ((i+k:Nat):Int)<(n:Int) by omega),decide_eq_true (show 0+(i+k)<O.length by omega),decide_eq_true (show (0:Int)≤(i:Int) by omega),decide_eq_true (show (i:Int)<(la:Int) by omega),show ((i:Int)).toNat=i by omega,decide_eq_true (show oa+i<xs.length by omega),decide_eq_true (show (0:Int)≤(k:Int) by omega),show ((k:Int)).toNat=k by omega,decide_eq_true (show ob+k<ys.length by omega),IntWalk.i64_in ((k:Int)+1) (by omega),Nat.zero_add] at hro
  simp only [Bool.and_self,cond_true] at hro
  exact .more hro (EZ hx hy ha hb hn hn2 hi m (k+1) _ _ (o6 h1 _ t3) (by rw [List.length_set];exact h2) t4 (by omega))
end
def IJ (xs ys O:List Int) (oa la ob lb n:Nat):Bool:=(bm xs&&(bm ys&&bm O))&&((decide (oa+la≤xs.length)&&decide (ob+lb≤ys.length))&&(decide (n=la+lb+1)&&(decide (n≤2000)&&decide (O.length=n))))
theorem nZ {xs ys O:List Int} {oa la ob lb n:Nat}:IJ xs ys O oa la ob lb n=true↔(bu xs∧bu ys∧bu O)∧(oa+la≤xs.length∧ob+lb≤ys.length)∧n=la+lb+1∧n≤2000∧O.length=n:=by
 unfold IJ
 simp only [Bool.and_eq_true,decide_eq_true_eq,bo]
noncomputable def Uf (v:List SV) (R:List Row) (k:Ex→List SV→List Row→Option aj):Option aj:=match v,R with
 | [.slice 0 1 oa la none,.slice 1 1 ob lb none,.nils,.slice 2 1 0 n (some n'),.int .i64 i,.int .u64 c,.int .i64 j],[.vec true .u64 xs,.vec true .u64 ys,.vec false .u64 O]=>
     bif ((decide (c=0)&&decide (j=0))&&(decide (n'=n)&&(decide (0≤i)&&decide (i<(la:Int)))))&&IJ xs ys O oa la ob lb n then
      k (.exit 2) (vg oa la ob lb n i (i9 (dY xs oa i.toNat) (dY ys ob) i.toNat lb 0 O 0).2 lb) (kL xs ys (i9 (dY xs oa i.toNat) (dY ys ob) i.toNat lb 0 O 0).1) else none
 |_,_=>none
theorem KJ:da 131 [0,1,0,1,0,0,1,0,0,1,0,1,1] (bG 65 [0,1,4,5,6,7,8] Uf):=by
 intro b hat s K r h
 refine aQ (fuel:=100) N5 ag hat (fun v R k r hr=>?_) h
 have hbody:=aZ Tryz.func131 hat
 subst hbody
 unfold Uf at hr
 split at hr
 · rename_i oa la ob lb n n' i c j xs ys O
   obtain ⟨hb,hr2⟩:=al hr
   simp only [Bool.and_eq_true,decide_eq_true_eq] at hb
   obtain ⟨⟨⟨rfl,rfl⟩,rfl,h3,h4⟩,h5⟩:=hb
   obtain ⟨⟨k1,k2,k3⟩,⟨k4,k5⟩,k6,k7,k8⟩:=nZ.1 h5
   obtain ⟨i,rfl⟩:∃m:Nat,i=m:=⟨i.toNat,by omega⟩
   rw [show ((i:Int)).toNat=i by omega] at hr2
   exact ⟨_,_,_,hr2,EZ k1 k2 k4 k5 k6 k7 (by omega) lb 0 O 0 k3 k8 (by omega) (by omega)⟩
 · cases hr
noncomputable def TM:jh:=⟨_,_,_,KJ⟩
noncomputable def YI:List SV→List Row→Option aj:=bj Zz (aF [TM]) 100 131 [0,1,0,1,1] (bg Tryz.f131 [0,1,0,1,1]) 65 3 [0,1,4,5,6]
theorem AR (xs ys O:List Int) (oa la ob lb n:Nat) (i:Int):YI (vU oa la ob lb n i) (kL xs ys O)=
 bif decide (i<(la:Int)) then
 bif (decide (n=n)&&(decide (0≤i)&&decide (i<(la:Int))))&&IJ xs ys O oa la ob lb n then
 bif decide (0≤IntKind.i64.wrap (i+(lb:Int)))&&decide (IntKind.i64.wrap (i+(lb:Int))<(n:Int)) then
 bif decide (0+(IntKind.i64.wrap (i+(lb:Int))).toNat<(i9 (dY xs oa i.toNat) (dY ys ob) i.toNat lb 0 O 0).1.length) then
 some (.tuple [.nilp,.tuple (vU oa la ob lb n (IntKind.i64.wrap (i+1)))],kL xs ys ((i9 (dY xs oa i.toNat) (dY ys ob) i.toNat lb 0 O 0).1.set (0+(IntKind.i64.wrap (i+(lb:Int))).toNat) (i9 (dY xs oa i.toNat) (dY ys ob) i.toNat lb 0 O 0).2))
 else none
 else none
 else none
 else some (.tuple [.ptr 0 0 0 0,.tuple (vU oa la ob lb n i)],kL xs ys O):=by kernel_rfl
section
variable {xs ys:List Int} {oa la ob lb n:Nat}
theorem Gj (hx:bu xs) (hy:bu ys) (ha:oa+la≤xs.length) (hb:ob+lb≤ys.length) (hn:n=la+lb+1) (hn2:n≤2000):∀(m i:Nat) (O:List Int),bu O→O.length=n→i+m=la→
    aJ YI (vU oa la ob lb n i) (kL xs ys O) (.exit 0) (vU oa la ob lb n la) (kL xs ys (jf (dY xs oa) (dY ys ob) lb m i O))
 |0,i,O,h1,h2,h3=>by
  obtain rfl:i=la:=by omega
  refine .done ?_ (by simp)
  rw [AR,decide_eq_false (by omega),cond_false]
  rfl
 |m+1,i,O,h1,h2,h3=>by
  obtain ⟨d1,d2⟩:=wg (i:=i) (f7 hx oa i) (f7 hy ob) lb 0 O 0 h1 (by omega)
  have hl:=lX (dY xs oa i) (dY ys ob) i lb 0 O 0
  have hro:=AR xs ys O oa la ob lb n i
  have e4:IntKind.i64.wrap ((i:Int)+(lb:Int))=((i+lb:Nat):Int):=by rw [IntWalk.i64_in _ (by omega)];omega
  rw [show ((i:Int)).toNat=i by omega,e4,nZ.2 ⟨⟨hx,hy,h1⟩,⟨ha,hb⟩,hn,hn2,h2⟩,decide_eq_true (show (i:Int)<(la:Int) by omega),decide_eq_true (show (0:Int)≤(i:Int) by omega),decide_eq_true (show (0:Int)≤((i+lb:Nat):Int) by omega),decide_eq_true (show ((i+lb:Nat):Int)<(n:Int) by omega),show (((i+lb:Nat):Int)).toNat=i+lb by omega,decide_eq_true (show 0+(i+lb)<(i9 (dY xs oa i) (dY ys ob) i lb 0 O 0).1.length by omega),IntWalk.i64_in ((i:Int)+1) (by omega),Nat.zero_add] at hro
  simp only [decide_true,Bool.and_self,cond_true] at hro
  exact .more hro (Gj hx hy ha hb hn hn2 m (i+1) _ (o6 d1 _ d2) (by rw [List.length_set];omega) (by omega))
end
noncomputable def Tv (v:List SV) (R:List Row) (k:Ex→List SV→List Row→Option aj):Option aj:=match v,R with
 | [.slice 0 1 oa la none,.slice 1 1 ob lb none,.nils,.slice 2 1 0 n (some n'),.int .i64 i],[.vec true .u64 xs,.vec true .u64 ys,.vec false .u64 O]=>
     bif (decide (i=0)&&decide (n'=n))&&IJ xs ys O oa la ob lb n then
      k (.exit 0) (vU oa la ob lb n la) (kL xs ys (jf (dY xs oa) (dY ys ob) lb la 0 O)) else none
 |_,_=>none
theorem LU:da 131 [0,1,0,1,1] (bG 65 [0,1,4,5,6] Tv):=by
 intro b hat s K r h
 refine aQ (fuel:=100) N5 (aG (l:=[TM])) hat (fun v R k r hr=>?_) h
 have hbody:=aZ Tryz.func131 hat
 subst hbody
 unfold Tv at hr
 split at hr
 · rename_i oa la ob lb n n' i xs ys O
   obtain ⟨hb,hr2⟩:=al hr
   simp only [Bool.and_eq_true,decide_eq_true_eq] at hb
   obtain ⟨⟨rfl,rfl⟩,h5⟩:=hb
   obtain ⟨⟨k1,k2,k3⟩,⟨k4,k5⟩,k6,k7,k8⟩:=nZ.1 h5
   exact ⟨_,_,_,hr2,Gj k1 k2 k4 k5 k6 k7 la 0 O k3 k8 (by omega)⟩
 · cases hr
noncomputable def U9:jh:=⟨_,_,_,LU⟩
theorem XG {xs:List Int} {la:Nat} (h1:la≤xs.length) (h2:la≤9223372036854775807):aH wk (aF [Te]) 300 132 Tryz.f132 9 [.slice 0 1 0 la (some la)] [.vec false .u64 xs]=some (.slice 0 1 0 (d9 xs la) (some la),[.vec false .u64 xs]):=by
 have hn:=dc xs la
 rw [Pr,decide_eq_true (show (la:Int)=(la:Int) from rfl),decide_eq_true (show la=la from rfl),decide_eq_true h1,decide_eq_true h2,show dm (some la) la=la from rfl,decide_eq_true (show (0:Int)≤((d9 xs la:Nat):Int) by omega),decide_eq_true (show ((d9 xs la:Nat):Int)≤((la:Nat):Int) by omega)]
 rfl
def L1 (args:List SV) (rows:List Row):Option aL:=
 match args with
 |[.slice id 1 0 la (some c)]=>match rows[id]? with
  |some (.vec false .u64 xs)=>some {ok:=decide (c=la)&&(decide (la≤xs.length)&&decide (la≤9223372036854775807)),val:=.slice id 1 0 (d9 xs la) (some c),rd:=[id],wr:=[(id,.vec false .u64 xs)]}
  |_=>none
 |_=>none
theorem Nd {args:List SV} {rows:List Row} {e:aL} (h:L1 args rows=some e) (hok:e.ok=true):aN Tryz.prog 132 args (rows[·]?) rows.length e:=by
 unfold L1 at h
 split at h
 · rename_i id la c
   split at h
   · rename_i xs hrow
     cases h
     simp only [Bool.and_eq_true,decide_eq_true_eq] at hok
     obtain ⟨rfl,h1,h2⟩:=hok
     obtain ⟨rows',hc,ht⟩:=aC ge aG Tryz.func132 (XG (xs:=xs) h1 h2)
     have hr':rows'=[.vec false .u64 xs]:=by
      have hl:=congrArg List.length ht
      rw [List.length_take] at hl
      simp only [List.length_cons,List.length_nil] at hl
      rw [List.take_of_length_le (by omega)] at ht
      exact ht
     subst hr'
     have l1:=(List.getElem?_eq_some_iff.1 hrow).1
     refine lC hc (σ:=[id]) (n:=rows.length) (W:=[(id,.vec false .u64 xs)]) rfl ?_ ?_ ?_ ?_ ?_ ?_ ?_
     · simp
     · intro j hj
       simp at hj
       subst hj
       exact l1
     · intro i hi
       simp [SV.idsL,SV.ids] at hi
       subst hi
       simp
     · intro i row hr j hj
       match i,hr with
       |0,hr=>simp at hr;subst hr;simp [Row.idsR] at hj
       |i+1,hr=>simp at hr
     · intro i row hr
       match i,hr with
       |0,hr=>simp at hr;subst hr;exact ⟨_,hrow,fun h=>h,fun _ _ h=>h⟩
       |i+1,hr=>simp at hr
     · intro i row hr _
       match i,hr with
       |0,hr=>exact .inr ⟨_,rfl,List.mem_cons_self ..⟩
       |i+1,hr=>simp at hr
     · intro x hx
       simp only [List.mem_cons,List.not_mem_nil,or_false] at hx
       subst hx
       exact ⟨0,_,by simp,rfl,rfl⟩
   · cases h
 · cases h
noncomputable def G3:bY:=⟨132,L1,fun _ _ _ h hok=>Nd h hok,aq Tryz.func132 (by kernel_rfl)⟩
noncomputable def ZL:bS:=aV [] [G3]
theorem Vo:bV Tryz.prog ZL:=aD (by kernel_rfl)
def vl (la lb:Nat):Int:=IntKind.i64.wrap (IntKind.i64.wrap ((la:Int)+(lb:Int))+1)
theorem RB (xs ys:List Int) (oa la ob lb:Nat):aH ZL (aF [U9]) 300 131 Tryz.f131 9 [.slice 0 1 oa la none,.slice 1 1 ob lb none] [.vec true .u64 xs,.vec true .u64 ys]=
 bif decide (0≤vl la lb)&&(decide (vl la lb≤9223372036854775807)&&(decide (((8:Nat):Int)*vl la lb≤2 ^ 48)&&decide (vl la lb=vl la lb))) then
 bif decide ((vl la lb).toNat=(vl la lb).toNat)&&IJ xs ys (List.replicate (vl la lb).toNat 0) oa la ob lb (vl la lb).toNat then
 bif decide ((vl la lb).toNat=(vl la lb).toNat)&&(decide ((vl la lb).toNat≤(jf (dY xs oa) (dY ys ob) lb la 0 (List.replicate (vl la lb).toNat 0)).length)&&decide ((vl la lb).toNat≤9223372036854775807)) then
 some (.slice 2 1 0 (d9 (jf (dY xs oa) (dY ys ob) lb la 0 (List.replicate (vl la lb).toNat 0)) (vl la lb).toNat) (some (vl la lb).toNat),[.vec true .u64 xs,.vec true .u64 ys,.vec false .u64 (jf (dY xs oa) (dY ys ob) lb la 0 (List.replicate (vl la lb).toNat 0))])
 else none
 else none
 else none:=by kernel_rfl
theorem Wn {xs ys:List Int} {oa la ob lb:Nat} (hx:bu xs) (hy:bu ys) (ha:oa+la≤xs.length) (hb:ob+lb≤ys.length) (hM:la+lb+1≤2000):
    aH ZL (aF [U9]) 300 131 Tryz.f131 9 [.slice 0 1 oa la none,.slice 1 1 ob lb none] [.vec true .u64 xs,.vec true .u64 ys]=
     some (.slice 2 1 0 (cR xs ys oa la ob lb).length (some (la+lb+1)),[.vec true .u64 xs,.vec true .u64 ys,.vec false .u64 (eQ xs ys oa la ob lb)]):=by
 have eN:vl la lb=((la+lb+1:Nat):Int):=by
  unfold vl
  rw [IntWalk.i64_in ((la:Int)+(lb:Int)) (by omega),IntWalk.i64_in _ (by omega)]
  omega
 rw [RB,eN,show (((la+lb+1:Nat):Int)).toNat=la+lb+1 by omega]
 rw [nZ.2 ⟨⟨hx,hy,tf _⟩,⟨ha,hb⟩,rfl,hM,List.length_replicate⟩]
 rw [show jf (dY xs oa) (dY ys ob) lb la 0 (List.replicate (la+lb+1) 0)=eQ xs ys oa la ob lb from rfl,iC,iX]
 rw [decide_eq_true (show (0:Int)≤((la+lb+1:Nat):Int) by omega),decide_eq_true (show ((la+lb+1:Nat):Int)≤9223372036854775807 by omega),decide_eq_true (show ((8:Nat):Int)*((la+lb+1:Nat):Int)≤2 ^ 48 by omega),decide_eq_true (show la+lb+1≤9223372036854775807 by omega)]
 simp only [decide_true,Nat.le_refl,Bool.and_self,cond_true]
def xj (args:List SV) (rows:List Row):Option aL:=
 match args with
 |[.slice ia 1 oa la ca,.slice ib 1 ob lb cb]=>match rows[ia]?,rows[ib]? with
  |some (.vec _ .u64 xs),some (.vec _ .u64 ys)=>some {ok:=(bm xs&&bm ys)&&((decide (oa+la≤xs.length)&&decide (ob+lb≤ys.length))&&decide (la+lb+1≤2000)),val:=.slice rows.length 1 0 (cR xs ys oa la ob lb).length none,rd:=[ia,ib],nw:=[.vec true .u64 (cR xs ys oa la ob lb)]}
  |_,_=>none
 |_=>none
theorem Dg {args:List SV} {rows:List Row} {e:aL} (h:xj args rows=some e) (hok:e.ok=true):aN Tryz.prog 131 args (rows[·]?) rows.length e:=by
 unfold xj at h
 split at h
 · rename_i ia oa la ca ib ob lb cb
   split at h
   · rename_i ra xs rb ys hxr hyr
     cases h
     simp only [Bool.and_eq_true,decide_eq_true_eq] at hok
     obtain ⟨⟨h1,h2⟩,⟨h3,h4⟩,h5⟩:=hok
     obtain ⟨rows',hc,ht⟩:=aC Vo aG Tryz.func131 (Wn (xs:=xs) (ys:=ys) (bo.1 h1) (bo.1 h2) h3 h4 h5)
     refine cy (args:=[.slice ia 1 oa la none,.slice ib 1 ob lb none]) ?_ fun ρ vs hv=>?_
     · refine dS (C:=fun s=>s) (s0:=.slice 2 1 0 (cR xs ys oa la ob lb).length (some (la+lb+1))) (ds:=cR xs ys oa la ob lb) hc nL (σ:=[ia,ib]) rfl (fun i hi=>by simp [SV.idsL,SV.ids] at hi;rcases hi with rfl |rfl<;>simp) (fun i row hr=>?_) (.inr ⟨2,0,_,false,eQ xs ys oa la ob lb,rfl,by simp,by rw [dv ht (by omega)];rfl,fun i hi=>?_⟩)
       · match i with
         |0=>simp at hr;subst hr;exact ⟨.u64,xs,ra,rfl,hxr⟩
         |1=>simp at hr;subst hr;exact ⟨.u64,ys,rb,rfl,hyr⟩
         |i+2=>simp at hr
       · exact Cp xs ys oa la ob lb hi
     · rw [au] at hv ⊢
       obtain ⟨u,us,rfl,h6,h7⟩:=hv
       refine ⟨u,us,rfl,bP h6,?_⟩
       rw [au] at h7 ⊢
       obtain ⟨u,us,rfl,h6,h7⟩:=h7
       exact ⟨u,us,rfl,bP h6,h7⟩
   · cases h
 · cases h
noncomputable def vH:bY:=⟨131,xj,fun _ _ _ h hok=>Dg h hok,aq Tryz.func131 (by kernel_rfl)⟩
noncomputable def YV:bS:=aV [] [G3,vH,yF]
theorem DE:bV Tryz.prog YV:=aD (by kernel_rfl)
def pZ (lo:Nat) (n i:Int):List SV:=[.nils,.bool true,.slice 0 1 0 lo none,.int .u64 0,.int .u64 n,.int .i64 i]
def pW (os:List Int):List Row:=[.vec true .u64 os]
def qN (lb lo:Nat) (n i:Int):List SV:=[.slice 0 1 0 lb none,.bool false,.slice 1 1 0 lo none,.int .u64 0,.int .u64 n,.int .i64 i]
def q7 (bs os:List Int):List Row:=[.vec true .u64 bs,.vec true .u64 os]
noncomputable def J9 (n0:Nat):List SV→List Row→Option aj:=bj YV (fun _ _=>none) 100 111 [0,1,0,1,1] (bg Tryz.f111 [0,1,0,1,1]) 47 n0 [0,1,2,6,7,8]
def qa (n i:Int):Int:=IntKind.u64.wrap ((BitVec.ofInt IntKind.u64.bits n|||BitVec.ofInt IntKind.u64.bits (IntKind.u64.wrap (1*2 ^ min (IntKind.u64.wrap i).toNat IntKind.u64.bits))).toNat:Int)
def sC (x:Int):List Int:=[x.tmod 65536,(x.fdiv (2 ^ min (Int.toNat 16) IntKind.u64.bits)).tmod 65536,(x.fdiv (2 ^ min (Int.toNat 32) IntKind.u64.bits)).tmod 65536,x.fdiv (2 ^ min (Int.toNat 48) IntKind.u64.bits)]
def qr (x:Int):Nat:=d9 (sC x) 4
def oZ (x:Int):List Int:=cR (sC x) (sC x) 0 (qr x) 0 (qr x)
def pK (x:Int) (bs:List Int) (lb:Nat):List Int:=cR (sC x) bs 0 (qr x) 0 lb
theorem yM (os:List Int) (lo:Nat) (n i:Int):J9 1 (pZ lo n i) (pW os)=
 bif decide (i≥0) then
 bif !decide (IntKind.u64.wrap i<0) then
 bif (bm (sC (qa n i))&&bm (sC (qa n i)))&&((decide (0+qr (qa n i)≤(sC (qa n i)).length)&&decide (0+qr (qa n i)≤(sC (qa n i)).length))&&decide (qr (qa n i)+qr (qa n i)+1≤2000)) then
 bif (decide (0+(oZ (qa n i)).length≤(oZ (qa n i)).length)&&decide (0+lo≤os.length))&&decide ((oZ (qa n i)).length≤9223372036854775807) then
 bif !kK (oZ (qa n i)) os 0 (oZ (qa n i)).length 0 lo then some (.tuple [.nilp,.tuple (pZ lo (qa n i) (IntKind.i64.wrap (i - 1)))],pW os)
 else some (.tuple [.nilp,.tuple (pZ lo n (IntKind.i64.wrap (i - 1)))],pW os)
 else none
 else none
 else none
 else some (.tuple [.ptr 0 0 0 0,.tuple (pZ lo n i)],pW os):=by kernel_rfl
theorem AC (bs os:List Int) (lb lo:Nat) (n i:Int):J9 2 (qN lb lo n i) (q7 bs os)=
 bif decide (i≥0) then
 bif !decide (IntKind.u64.wrap i<0) then
 bif (bm (sC (qa n i))&&bm bs)&&((decide (0+qr (qa n i)≤(sC (qa n i)).length)&&decide (0+lb≤bs.length))&&decide (qr (qa n i)+lb+1≤2000)) then
 bif (decide (0+(pK (qa n i) bs lb).length≤(pK (qa n i) bs lb).length)&&decide (0+lo≤os.length))&&decide ((pK (qa n i) bs lb).length≤9223372036854775807) then
 bif !kK (pK (qa n i) bs lb) os 0 (pK (qa n i) bs lb).length 0 lo then some (.tuple [.nilp,.tuple (qN lb lo (qa n i) (IntKind.i64.wrap (i - 1)))],q7 bs os)
 else some (.tuple [.nilp,.tuple (qN lb lo n (IntKind.i64.wrap (i - 1)))],q7 bs os)
 else none
 else none
 else none
 else some (.tuple [.ptr 0 0 0 0,.tuple (qN lb lo n i)],q7 bs os):=by kernel_rfl
theorem tK {a:Int} (h1:0≤a) (h2:a<18446744073709551616):IntKind.u64.wrap a=a:=eW h1 h2
theorem ve (m:Nat) (h:m<18446744073709551616):(BitVec.ofInt IntKind.u64.bits (m:Int)).toNat=m:=by
 show (BitVec.ofInt 64 (m:Int)).toNat=m
 rw [BitVec.toNat_ofInt]
 show ((m:Int)%((2 ^ 64:Nat):Int)).toNat=m
 omega
theorem FG {k a:Nat} (hk:k<64) (h:2 ^ (k+1)*a+2 ^ (k+1)≤18446744073709551616):qa ((2 ^ (k+1)*a:Nat):Int) (k:Int)=((2 ^ (k+1)*a+2 ^ k:Nat):Int):=by
 have h1:2 ^ k<2 ^ (k+1):=Nat.pow_lt_pow_right (by omega) (by omega)
 have e1:(IntKind.u64.wrap (k:Int))=(k:Int):=tK (by omega) (by omega)
 have e2:min ((k:Int)).toNat IntKind.u64.bits=k:=by
  show min ((k:Int)).toNat 64=k
  omega
 have e3:IntKind.u64.wrap (1*2 ^ k)=((2 ^ k:Nat):Int):=by
  rw [Int.one_mul]
  have :((2:Int) ^ k)=((2 ^ k:Nat):Int):=by norm_cast
  rw [this]
  exact tK (by omega) (by omega)
 unfold qa
 rw [e1,e2,e3,BitVec.toNat_or,ve _ (by omega),ve _ (by omega),←Nat.two_pow_add_eq_or_of_lt h1 a]
 exact tK (by omega) (by omega)
theorem KZ {x:Int} (h1:0≤x) (h2:x<18446744073709551616):sC x=[x%65536,x/65536%65536,x/4294967296%65536,x/281474976710656]:=by
 have p16:(2 ^ min (Int.toNat 16) IntKind.u64.bits:Int)=65536:=by decide
 have p32:(2 ^ min (Int.toNat 32) IntKind.u64.bits:Int)=4294967296:=by decide
 have p48:(2 ^ min (Int.toNat 48) IntKind.u64.bits:Int)=281474976710656:=by decide
 unfold sC
 rw [p16,p32,p48,Int.fdiv_eq_ediv_of_nonneg _ (by omega),Int.fdiv_eq_ediv_of_nonneg _ (by omega),Int.fdiv_eq_ediv_of_nonneg _ (by omega),Int.tmod_eq_emod_of_nonneg h1,Int.tmod_eq_emod_of_nonneg (show 0≤x/65536 by omega),Int.tmod_eq_emod_of_nonneg (show 0≤x/4294967296 by omega)]
theorem sn {x:Int} (h1:0≤x) (h2:x<18446744073709551616):bu (sC x)∧aX (sC x)=x:=by
 rw [KZ h1 h2]
 refine ⟨fun d hd=>?_,?_⟩
 · simp only [List.mem_cons,List.not_mem_nil,or_false] at hd
   rcases hd with rfl |rfl |rfl |rfl<;>omega
 · simp only [aX]
   omega
theorem uH:∀(ds:List Int) (m i:Nat),m+i≤ds.length→ch (dY ds 0) m i=aX ((ds.drop i).take m)
 |ds,0,i,h=>rfl
 |ds,m+1,i,h=>by
  have hi:i<ds.length:=by omega
  rw [List.drop_eq_getElem_cons hi,List.take_succ_cons]
  unfold ch aX
  rw [uH ds m (i+1) (by omega)]
  congr 1
  unfold dY
  rw [Nat.zero_add,List.getD_eq_getElem?_getD,List.getElem?_eq_getElem hi]
  rfl
theorem CI (x:Int):qr x≤4:=dc _ _
theorem Gi {x:Int} (h1:0≤x) (h2:x<18446744073709551616):ch (dY (sC x) 0) (qr x) 0=x:=by
 have hl:(sC x).length=4:=rfl
 have hc:=CI x
 rw [uH _ _ _ (by omega),List.drop_zero]
 unfold qr
 rw [ld 4 (by omega),List.take_of_length_le (by omega)]
 exact (sn h1 h2).2
def L7 (l:List Int):Bool:=decide (l.length=0)|| !(l.getD (l.length - 1) 0==0)
theorem HS {l:List Int}:L7 l=true↔jD l:=by
 unfold L7 jD
 simp only [Bool.or_eq_true,decide_eq_true_eq,Bool.not_eq_true',beq_eq_false_iff_ne]
 constructor
 · rintro (h |h) h0
   · omega
   · exact h
 · intro h
   by_cases h0:l.length=0
   · exact .inl h0
   · exact .inr (h (by omega))
theorem zj {a b:Int}:(!decide (a>b))=decide (a≤b):=by
 rw [Bool.eq_iff_iff,Bool.not_eq_true',decide_eq_false_iff_not,decide_eq_true_eq]
 omega
theorem rp {rd:List SV→List Row→Option aj} {val:Int→Int→List SV} {R:List Row} {P:Int→Bool}
    (hr:∀k a:Nat,k<64→2 ^ (k+1)*a+2 ^ (k+1)≤18446744073709551616→rd (val ((2 ^ (k+1)*a:Nat):Int) (k:Int)) R=some (.tuple [.nilp,.tuple (val (bif P ((2 ^ (k+1)*a+2 ^ k:Nat):Int) then ((2 ^ (k+1)*a+2 ^ k:Nat):Int) else ((2 ^ (k+1)*a:Nat):Int)) ((k:Int) - 1))],R))
    (he:∀n,rd (val n (-1)) R=some (.tuple [.ptr 0 0 0 0,.tuple (val n (-1))],R)):∀(k a:Nat),k≤64→2 ^ k*a+2 ^ k≤18446744073709551616→
    aJ rd (val ((2 ^ k*a:Nat):Int) ((k:Int) - 1)) R (.exit 0) (val (mV P k ((2 ^ k*a:Nat):Int)) (-1)) R
 |0,a,h1,h2=>.done (he _) (by simp)
 | k+1,a,h1,h2=>by
  have hro:=hr k a (by omega) h2
  rw [show (((k+1:Nat):Int) - 1)=(k:Int) by omega]
  have e1:2 ^ (k+1)*a+2 ^ k=2 ^ k*(2*a+1):=by rw [Nat.pow_succ];grind
  have e2:2 ^ (k+1)*a=2 ^ k*(2*a):=by rw [Nat.pow_succ];grind
  have e3:(((2 ^ (k+1)*a:Nat):Int)+2 ^ k)=((2 ^ (k+1)*a+2 ^ k:Nat):Int):=by push_cast;rfl
  have hp:0<2 ^ k:=Nat.pow_pos (by omega)
  have e4:2 ^ (k+1)=2*2 ^ k:=by rw [Nat.pow_succ];omega
  unfold mV
  rw [e3]
  cases hc:P ((2 ^ (k+1)*a+2 ^ k:Nat):Int) with
  |true=>
   rw [hc,cond_true] at hro
   simp only [cond_true]
   have ih:=rp hr he k (2*a+1) (by omega) (by rw [←e1];omega)
   rw [←e1] at ih
   exact .more hro ih
  |false=>
   rw [hc,cond_false] at hro
   simp only [cond_false]
   have ih:=rp hr he k (2*a) (by omega) (by rw [←e2];omega)
   rw [←e2] at ih
   exact .more hro ih
theorem B9 {k a:Nat} (h:2 ^ (k+1)*a+2 ^ (k+1)≤18446744073709551616):(0:Int)≤((2 ^ (k+1)*a+2 ^ k:Nat):Int)∧((2 ^ (k+1)*a+2 ^ k:Nat):Int)<18446744073709551616:=by
 have h1:2 ^ k<2 ^ (k+1):=Nat.pow_lt_pow_right (by omega) (by omega)
 omega
theorem Pp {os:List Int} (ho:bu os) (ht:jD os) (hl:os.length≤1900):aJ (J9 1) (pZ os.length 0 63) (pW os) (.exit 0) (pZ os.length (mV (fun x=>decide (x*x≤aX os)) 64 0) (-1)) (pW os):=by
 have key:=rp (rd:=J9 1) (val:=pZ os.length) (R:=pW os) (P:=fun x=>decide (x*x≤aX os)) (fun k a hk h=>?_) (fun n=>?_) 64 0 (by omega) (by omega)
 · exact key
 · obtain ⟨x0,x1⟩:=B9 h
   rw [yM,FG hk h]
   generalize ((2 ^ (k+1)*a+2 ^ k:Nat):Int)=x at x0 x1 ⊢
   obtain ⟨d1,d2⟩:=sn x0 x1
   have hc:=CI x
   have hD:(sC x).length=4:=rfl
   have hT:=nu d1 d1 0 (qr x) 0 (qr x)
   have hTl:(oZ x).length≤9:=by
    unfold oZ
    rw [iX]
    have:=dc (eQ (sC x) (sC x) 0 (qr x) 0 (qr x)) (qr x+qr x+1)
    omega
   have hm:=pD (xs:=oZ x) (ys:=os) hT.2 ho (lO _ _ _ _ _ _) ht
   rw [show aX (oZ x)=x*x by unfold oZ;rw [hT.1,Gi x0 x1]] at hm
   rw [decide_eq_true (show (k:Int)≥0 by omega),show IntKind.u64.wrap (k:Int)=(k:Int) from tK (by omega) (by omega),decide_eq_false (show ¬ (k:Int)<0 by omega),bo.2 d1,decide_eq_true (show 0+qr x≤(sC x).length by omega),decide_eq_true (show qr x+qr x+1≤2000 by omega),decide_eq_true (show 0+(oZ x).length≤(oZ x).length by omega),decide_eq_true (show 0+os.length≤os.length by omega),decide_eq_true (show (oZ x).length≤9223372036854775807 by omega),hm,zj,IntWalk.i64_in ((k:Int) - 1) (by omega)]
   simp only [Bool.not_false,Bool.and_self,cond_true]
   cases decide (x*x≤aX os)<;>rfl
 · rw [yM,decide_eq_false (by omega)]
   rfl
theorem Rk {bs os:List Int} (hb:bu bs) (ho:bu os) (ht:jD os) (hl:os.length≤1900) (hk2:bs.length≤1900):aJ (J9 2) (qN bs.length os.length 0 63) (q7 bs os) (.exit 0) (qN bs.length os.length (mV (fun x=>decide (x*aX bs≤aX os)) 64 0) (-1)) (q7 bs os):=by
 have key:=rp (rd:=J9 2) (val:=qN bs.length os.length) (R:=q7 bs os) (P:=fun x=>decide (x*aX bs≤aX os)) (fun k a hk h=>?_) (fun n=>?_) 64 0 (by omega) (by omega)
 · exact key
 · obtain ⟨x0,x1⟩:=B9 h
   rw [AC,FG hk h]
   generalize ((2 ^ (k+1)*a+2 ^ k:Nat):Int)=x at x0 x1 ⊢
   obtain ⟨d1,d2⟩:=sn x0 x1
   have hc:=CI x
   have hD:(sC x).length=4:=rfl
   have hT:=nu d1 hb 0 (qr x) 0 bs.length
   have hTl:(pK x bs bs.length).length≤1905:=by
    unfold pK
    rw [iX]
    have:=dc (eQ (sC x) bs 0 (qr x) 0 bs.length) (qr x+bs.length+1)
    omega
   have hm:=pD (xs:=pK x bs bs.length) (ys:=os) hT.2 ho (lO _ _ _ _ _ _) ht
   rw [show aX (pK x bs bs.length)=x*aX bs by unfold pK;rw [hT.1,Gi x0 x1,jn]] at hm
   rw [decide_eq_true (show (k:Int)≥0 by omega),show IntKind.u64.wrap (k:Int)=(k:Int) from tK (by omega) (by omega),decide_eq_false (show ¬ (k:Int)<0 by omega),bo.2 d1,bo.2 hb,decide_eq_true (show 0+qr x≤(sC x).length by omega),decide_eq_true (show 0+bs.length≤bs.length by omega),decide_eq_true (show qr x+bs.length+1≤2000 by omega),decide_eq_true (show 0+(pK x bs bs.length).length≤(pK x bs bs.length).length by omega),decide_eq_true (show 0+os.length≤os.length by omega),decide_eq_true (show (pK x bs bs.length).length≤9223372036854775807 by omega),hm,zj,IntWalk.i64_in ((k:Int) - 1) (by omega)]
   simp only [Bool.not_false,Bool.and_self,cond_true]
   cases decide (x*aX bs≤aX os)<;>rfl
 · rw [AC,decide_eq_false (by omega)]
   rfl
def wx (os:List Int) (lo:Nat):Bool:=(bm os&&L7 os)&&(decide (lo=os.length)&&decide (lo≤1900))
theorem tv {os:List Int} {lo:Nat}:wx os lo=true↔(bu os∧jD os)∧lo=os.length∧lo≤1900:=by
 unfold wx
 simp only [Bool.and_eq_true,decide_eq_true_eq,bo,HS]
def ul (os:List Int):Int:=mV (fun x=>decide (x*x≤aX os)) 64 0
def Vx (bs os:List Int):Int:=mV (fun x=>decide (x*aX bs≤aX os)) 64 0
noncomputable def Ue (v:List SV) (R:List Row) (k:Ex→List SV→List Row→Option aj):Option aj:=match v,R with
 | [.nils,.bool true,.slice 0 1 0 lo none,.int .u64 r,.int .u64 n,.int .i64 i],[.vec true .u64 os]=>
     bif ((decide (r=0)&&decide (n=0))&&decide (i=63))&&wx os lo then k (.exit 0) (pZ lo (ul os) (-1)) (pW os) else none
 | [.slice 0 1 0 lb none,.bool false,.slice 1 1 0 lo none,.int .u64 r,.int .u64 n,.int .i64 i],[.vec true .u64 bs,.vec true .u64 os]=>
     bif ((decide (r=0)&&decide (n=0))&&decide (i=63))&&(wx os lo&&(bm bs&&(decide (lb=bs.length)&&decide (lb≤1900)))) then k (.exit 0) (qN lb lo (Vx bs os) (-1)) (q7 bs os) else none
 |_,_=>none
theorem NO:da 111 [0,1,0,1,1] (bG 47 [0,1,2,6,7,8] Ue):=by
 intro b hat s K r h
 refine aQ (fuel:=100) DE ag hat (fun v R k r hr=>?_) h
 have hbody:=aZ Tryz.func111 hat
 subst hbody
 unfold Ue at hr
 split at hr
 · rename_i lo r n i os
   obtain ⟨hb,hr2⟩:=al hr
   simp only [Bool.and_eq_true,decide_eq_true_eq] at hb
   obtain ⟨⟨⟨rfl,rfl⟩,rfl⟩,hg⟩:=hb
   obtain ⟨⟨k1,k2⟩,rfl,k4⟩:=tv.1 hg
   exact ⟨_,_,_,hr2,Pp k1 k2 k4⟩
 · rename_i lb lo r n i bs os
   obtain ⟨hb,hr2⟩:=al hr
   simp only [Bool.and_eq_true,decide_eq_true_eq] at hb
   obtain ⟨⟨⟨rfl,rfl⟩,rfl⟩,hg,k5,rfl,k7⟩:=hb
   obtain ⟨⟨k1,k2⟩,rfl,k4⟩:=tv.1 hg
   exact ⟨_,_,_,hr2,Rk (bo.1 k5) k1 k2 k4 k7⟩
 · cases hr
noncomputable def Ua:jh:=⟨_,_,_,NO⟩
theorem KL (os:List Int) (lo:Nat):aH YV (aF [Ua]) 300 111 Tryz.f111 0 [.nils,.bool true,.slice 0 1 0 lo none] [.vec true .u64 os]=
 bif wx os lo then some (.int .u64 (ul os),[]) else none:=by kernel_rfl
theorem O9 (bs os:List Int) (lb lo:Nat):aH YV (aF [Ua]) 300 111 Tryz.f111 0 [.slice 0 1 0 lb none,.bool false,.slice 1 1 0 lo none] [.vec true .u64 bs,.vec true .u64 os]=
 bif wx os lo&&(bm bs&&(decide (lb=bs.length)&&decide (lb≤1900))) then some (.int .u64 (Vx bs os),[]) else none:=by kernel_rfl
def E2 (args:List SV) (rows:List Row):Option aL:=
 match args with
 |[.nils,.bool true,.slice io 1 0 lo co]=>match rows[io]? with
  |some (.vec _ .u64 os)=>some {ok:=wx os lo,val:=.int .u64 (ul os),rd:=[io]}
  |_=>none
 |[.slice ib 1 0 lb cb,.bool false,.slice io 1 0 lo co]=>match rows[ib]?,rows[io]? with
  |some (.vec _ .u64 bs),some (.vec _ .u64 os)=>some {ok:=wx os lo&&(bm bs&&(decide (lb=bs.length)&&decide (lb≤1900))),val:=.int .u64 (Vx bs os),rd:=[ib,io]}
  |_,_=>none
 |_=>none
theorem JD {args:List SV} {rows:List Row} {n:Nat} {e:aL} (h:E2 args rows=some e) (hok:e.ok=true):aN Tryz.prog 111 args (rows[·]?) n e:=by
 unfold E2 at h
 split at h
 · rename_i io lo co
   split at h
   · rename_i ro os hrow
     cases h
     simp only at hok
     have hv:=(KL os lo).trans (tw hok rfl)
     obtain ⟨rows',hc,_⟩:=aC DE aG Tryz.func111 hv
     refine cy (args:=[.nils,.bool true,.slice io 1 0 lo none]) ?_ fun ρ vs hv=>?_
     · refine eK hc rfl (σ:=[io]) rfl (fun i hi=>by simp [SV.idsL,SV.ids] at hi;subst hi;simp) (fun i row hr=>?_)
       match i with
       |0=>simp at hr;subst hr;exact ⟨.u64,os,ro,rfl,hrow⟩
       |i+1=>simp at hr
     · rw [au] at hv ⊢
       obtain ⟨u,us,rfl,h6,h7⟩:=hv
       refine ⟨u,us,rfl,h6,?_⟩
       rw [au] at h7 ⊢
       obtain ⟨u,us,rfl,h6,h7⟩:=h7
       refine ⟨u,us,rfl,h6,?_⟩
       rw [au] at h7 ⊢
       obtain ⟨u,us,rfl,h6,h7⟩:=h7
       exact ⟨u,us,rfl,bP h6,h7⟩
   · cases h
 · rename_i ib lb cb io lo co
   split at h
   · rename_i rb bs ro os hbr hrow
     cases h
     simp only at hok
     have hv:=(O9 bs os lb lo).trans (tw hok rfl)
     obtain ⟨rows',hc,_⟩:=aC DE aG Tryz.func111 hv
     refine cy (args:=[.slice ib 1 0 lb none,.bool false,.slice io 1 0 lo none]) ?_ fun ρ vs hv=>?_
     · refine eK hc rfl (σ:=[ib,io]) rfl (fun i hi=>by simp [SV.idsL,SV.ids] at hi;rcases hi with rfl |rfl<;>simp) (fun i row hr=>?_)
       match i with
       |0=>simp at hr;subst hr;exact ⟨.u64,bs,rb,rfl,hbr⟩
       |1=>simp at hr;subst hr;exact ⟨.u64,os,ro,rfl,hrow⟩
       |i+2=>simp at hr
     · rw [au] at hv ⊢
       obtain ⟨u,us,rfl,h6,h7⟩:=hv
       refine ⟨u,us,rfl,bP h6,?_⟩
       rw [au] at h7 ⊢
       obtain ⟨u,us,rfl,h6,h7⟩:=h7
       refine ⟨u,us,rfl,h6,?_⟩
       rw [au] at h7 ⊢
       obtain ⟨u,us,rfl,h6,h7⟩:=h7
       exact ⟨u,us,rfl,bP h6,h7⟩
   · cases h
 · cases h
noncomputable def N4:bY:=⟨111,E2,fun _ _ _ h hok=>JD h hok,aq Tryz.func111 (by kernel_rfl)⟩
def ta (W r:Nat):Prop:=r*r≤W∧W<(r+1)*(r+1)
theorem A0 {W r s:Nat} (hr:ta W r) (hs:ta W s):r=s:=by
 rcases Nat.lt_trichotomy r s with h |h |h
 · have :(r+1)*(r+1)≤s*s:=Nat.mul_le_mul h h
   have h1:=hr.2;have h2:=hs.1;omega
 · exact h
 · have :(s+1)*(s+1)≤r*r:=Nat.mul_le_mul h h
   have h1:=hs.2;have h2:=hr.1;omega
theorem lG {W:Nat}:∀(k n:Nat),n*n≤W→W<(n+2 ^ k)*(n+2 ^ k)→ta W (iH W k n)
 |0,n,h1,h2=>⟨h1,by simpa [iH] using h2⟩
 | k+1,n,h1,h2=>by
  rw [iH]
  cases hb:Nat.ble ((n+2 ^ k)*(n+2 ^ k)) W with
  |true=>
   refine lG k (n+2 ^ k) (Nat.le_of_ble_eq_true hb) ?_
   rw [show n+2 ^ k+2 ^ k=n+2 ^ (k+1) by rw [Nat.pow_succ];omega]
   exact h2
  |false=>
   refine lG k n h1 ?_
   rcases Nat.lt_or_ge W ((n+2 ^ k)*(n+2 ^ k)) with h |h
   · exact h
   · rw [Nat.ble_eq_true_of_le h] at hb;cases hb
theorem tE {W:Nat} (h:W<340282366920938463463374607431768211456):ta W (jT W):=lG 64 0 (Nat.zero_le _) (by
 have :(0+2 ^ 64)*(0+2 ^ 64)=340282366920938463463374607431768211456:=by decide
 omega)
theorem MB {a:V3} (h:a.fits):yp a<340282366920938463463374607431768211456:=by
 have le:∀x:Int,aU x→x.natAbs*x.natAbs≤85070591730234615865843651857942052864:=fun x hx=>by unfold aU at hx;exact Nat.mul_le_mul (show x.natAbs≤9223372036854775808 by omega) (show x.natAbs≤9223372036854775808 by omega)
 have h1:=le _ h.1
 have h2:=le _ h.2.1
 have h3:=le _ h.2.2
 unfold yp
 omega
theorem M7 {x y:Int} (hy:0≤y) (h:x*x<y*y):x<y:=by
 rcases Int.lt_or_le x y with h1 |h1
 · exact h1
 · have:=Int.mul_le_mul h1 h1 hy (by omega)
   omega
def V3.sq (a:V3):Int:=a.x*a.x+a.y*a.y+a.z*a.z
theorem K0 (a:V3):((yp a:Nat):Int)=a.sq:=by
 unfold yp V3.sq
 rw [Int.natCast_add,Int.natCast_add,Int.natAbs_mul_self,Int.natAbs_mul_self,Int.natAbs_mul_self]
theorem u7 {x:Int} {b:Int} (h1: -b≤x) (h2:x≤b):x*x≤b*b:=by
 have h3:0≤b:=by omega
 rcases Int.le_total 0 x with h |h
 · exact Int.mul_le_mul h2 h2 h h3
 · have:=Int.mul_le_mul (a:= -x) (b:= -x) (c:=b) (d:=b) (by omega) (by omega) (by omega) (by omega)
   grind
theorem V2 {x:Int} (h:x≠0):0<x*x:=by
 rcases Int.lt_trichotomy x 0 with h1 |h1 |h1
 · exact Int.mul_pos_of_neg_of_neg h1 h1
 · exact absurd h1 h
 · exact Int.mul_pos h1 h1
theorem pP (x:Int):0≤x*x:=by
 by_cases h:x=0
 · subst h;omega
 · exact Int.le_of_lt (V2 h)
def V3.within (a:V3) (b:Int):Prop:=(-b≤a.x∧a.x≤b)∧(-b≤a.y∧a.y≤b)∧(-b≤a.z∧a.z≤b)
theorem Jn {a:V3} (h:a.within 2147483648):a.sq≤13835058055282163712:=by
 have h1:=u7 h.1.1 h.1.2
 have h2:=u7 h.2.1.1 h.2.1.2
 have h3:=u7 h.2.2.1 h.2.2.2
 unfold V3.sq
 omega
theorem lW {a:V3} (h:a.within 2147483648):a.fits:=by
 unfold V3.within at h
 refine ⟨?_,?_,?_⟩<;>(unfold aU;omega)
theorem GV {a:V3} (h:a.within 2147483648):0≤a.long∧a.long<4294967296∧a.long*a.long≤a.sq∧a.sq<(a.long+1)*(a.long+1):=by
 have hr:ta (yp a) (jT (yp a)):=tE (MB (lW h))
 have h1:=Int.ofNat_le.2 hr.1
 have h2:=Int.ofNat_lt.2 hr.2
 have h3:=Jn h
 rw [Int.natCast_mul,K0] at h1
 rw [Int.natCast_mul,Int.natCast_add,K0] at h2
 have hlt:((jT (yp a):Nat):Int)<4294967296:=M7 (by omega) (by omega)
 have e:a.long=((jT (yp a):Nat):Int):=by
  unfold V3.long
  omega
 rw [e]
 exact ⟨Int.natCast_nonneg _,hlt,h1,by simpa using h2⟩
theorem jZ {a:V3} (h:a.within 2147483648) {x:Int} (hx:x*x≤a.sq):x≤a.long∧ -x≤a.long:=by
 obtain ⟨h0,_,_,h2⟩:=GV h
 have e:(-x)*(-x)=x*x:=by grind
 have h3:=M7 (x:=x) (y:=a.long+1) (by omega) (by omega)
 have h4:=M7 (x:= -x) (y:=a.long+1) (by omega) (by omega)
 omega
theorem Rj (a:V3):a.x*a.x≤a.sq∧a.y*a.y≤a.sq∧a.z*a.z≤a.sq:=by
 have h1:=pP a.x
 have h2:=pP a.y
 have h3:=pP a.z
 unfold V3.sq
 omega
theorem Nu {a:V3} (h:a.within 2147483648) (h0: ¬ (a.x=0∧a.y=0∧a.z=0)):0<a.long:=by
 have hs:=Rj a
 have h1:=jZ h hs.1
 have h2:=jZ h hs.2.1
 have h3:=jZ h hs.2.2
 omega
noncomputable def ZN:bS:=aV [] [vH]
theorem Ve:bV Tryz.prog ZN:=aD (by kernel_rfl)
theorem R8 (xs ys:List Int) (p q:Bool) (oa la ob lb:Nat):aH ZN (fun _ _=>none) 300 110 Tryz.f110 9 [.agg [.bool p,.slice 0 1 oa la none],.agg [.bool q,.slice 1 1 ob lb none]] [.vec true .u64 xs,.vec true .u64 ys]=
 bif (bm xs&&bm ys)&&((decide (oa+la≤xs.length)&&decide (ob+lb≤ys.length))&&decide (la+lb+1≤2000)) then
 some (Nq p q xs ys oa la ob lb (!(p==q)) (cR xs ys oa la ob lb))
 else none:=by kernel_rfl
def CV (args:List SV) (rows:List Row):Option aL:=
 match args with
 |[.agg [.bool p,.slice ia 1 oa la none],.agg [.bool q,.slice ib 1 ob lb none]]=>match rows[ia]?,rows[ib]? with
  |some (.vec _ .u64 xs),some (.vec _ .u64 ys)=>some {ok:=(bm xs&&bm ys)&&((decide (oa+la≤xs.length)&&decide (ob+lb≤ys.length))&&decide (la+lb+1≤2000)),val:=.agg [.bool (!(p==q)),.slice rows.length 1 0 (cR xs ys oa la ob lb).length none],rd:=[ia,ib],nw:=[.vec true .u64 (cR xs ys oa la ob lb)]}
  |_,_=>none
 |_=>none
theorem IR {args:List SV} {rows:List Row} {e:aL} (h:CV args rows=some e) (hok:e.ok=true):aN Tryz.prog 110 args (rows[·]?) rows.length e:=by
 unfold CV at h
 split at h
 · rename_i p ia oa la q ib ob lb
   split at h
   · rename_i ra xs rb ys hxr hyr
     cases h
     simp only at hok
     obtain ⟨rows',hc,ht⟩:=aC Ve ag Tryz.func110 ((R8 xs ys p q oa la ob lb).trans (tw hok rfl))
     refine dS (C:=fun s=>.agg [.bool (!(p==q)),s]) (s0:=.slice 5 1 0 (cR xs ys oa la ob lb).length none) (ds:=cR xs ys oa la ob lb) hc (mu _) (σ:=[ia,ib]) rfl (fun i hi=>by simp [SV.idsL,SV.ids] at hi;rcases hi with rfl |rfl<;>simp) (fun i row hr=>?_) (.inr ⟨5,0,none,true,cR xs ys oa la ob lb,rfl,by simp,by rw [dv ht (by omega)];rfl,fun i hi=>by rw [Nat.zero_add]⟩)
     match i with
     |0=>simp at hr;subst hr;exact ⟨.u64,xs,ra,rfl,hxr⟩
     |1=>simp at hr;subst hr;exact ⟨.u64,ys,rb,rfl,hyr⟩
     |i+2=>simp at hr
   · cases h
 · cases h
noncomputable def L5:bY:=⟨110,CV,fun _ _ _ h hok=>IR h hok,aq Tryz.func110 (by kernel_rfl)⟩
theorem Bk {a:Int} (h:aU a):aX (aK 5 a.natAbs)=(a.natAbs:Int)∧jD (aK 5 a.natAbs)∧bu (aK 5 a.natAbs):=by
 unfold aU at h
 have hb:a.natAbs<65536 ^ 5:=by
  have :a.natAbs≤9223372036854775808:=by omega
  have h2:(65536:Nat) ^ 5=1208925819614629174706176:=by decide
  omega
 exact ⟨g0 5 _ hb,iz 5 _ hb,eI 5 _⟩
theorem PY {V x y:Int} (h0:0≤y) (h:y≤x) (hx:decide (x*x≤V)=true):decide (y*y≤V)=true:=by
 rw [decide_eq_true_eq] at hx ⊢
 exact Int.le_trans (Int.mul_le_mul h h h0 (Int.le_trans h0 h)) hx
theorem GT {os : List Int} {W : Nat} (hv : aX os = (W:Int)) (hW:W<340282366920938463463374607431768211456):ul os=(jT W:Int)∧0≤ul os∧ul os<18446744073709551616:=by
 obtain ⟨h1,h2,h3,h4⟩:=oY (P:=fun x=>decide (x*x≤aX os)) (fun x y h0 h hx=>PY h0 h hx) 64 0 (Int.le_refl _) (by rw [hv,decide_eq_true_eq];omega)
 rw [show mV (fun x=>decide (x*x≤aX os)) 64 0=ul os from rfl] at h1 h2 h3 h4
 generalize ul os=r at h1 h2 h3 h4 ⊢
 obtain ⟨r,rfl⟩:∃n:Nat,r=n:=⟨r.toNat,by omega⟩
 have h3':(r:Int)<18446744073709551616:=by
  have :(0:Int)+2 ^ 64=18446744073709551616:=by decide
  omega
 refine ⟨?_,by omega,h3'⟩
 congr 1
 refine A0 ⟨?_,?_⟩ (tE hW)
 · rw [decide_eq_true_eq,hv] at h1
   exact_mod_cast h1
 · rcases Nat.lt_or_ge W ((r + 1) * (r + 1)) with h |h
   · exact h
   · exfalso
     have hr:r+1<18446744073709551616:=by
      rcases Nat.lt_or_ge (r+1) 18446744073709551616 with hh |hh
      · exact hh
      · have:=Nat.mul_le_mul hh hh
        omega
     have := h4 ((r + 1 : Nat) : Int) (by omega) (by have :(0:Int)+2 ^ 64=18446744073709551616:=by decide
                                                     omega) (by rw [decide_eq_true_eq,hv];exact_mod_cast h)
     omega
def nK (a b:Int):List Int:=cR (aK 5 a.natAbs) (aK 5 b.natAbs) 0 (aK 5 a.natAbs).length 0 (aK 5 b.natAbs).length
def Gc (a b:Int):Bool:= !(decide (a<0)==decide (b<0))
def Yd (a b:Int):Bool:=(bm (aK 5 a.natAbs)&&bm (aK 5 b.natAbs))&&((decide (0+(aK 5 a.natAbs).length≤(aK 5 a.natAbs).length)&&decide (0+(aK 5 b.natAbs).length≤(aK 5 b.natAbs).length))&&decide ((aK 5 a.natAbs).length+(aK 5 b.natAbs).length+1≤2000))
def XL (xs ys:List Int):Bool:=(bm xs&&bm ys)&&((decide (0+xs.length≤xs.length)&&decide (0+ys.length≤ys.length))&&decide (max xs.length ys.length+1≤1000))
def qT (a b:V3):Bool×List Int:=bW (Gc a.x b.x) (Gc a.y b.y) (nK a.x b.x) (nK a.y b.y) 0 (nK a.x b.x).length 0 (nK a.y b.y).length
def qS (a b:V3):Bool×List Int:=bW (qT a b).1 (Gc a.z b.z) (qT a b).2 (nK a.z b.z) 0 (qT a b).2.length 0 (nK a.z b.z).length
noncomputable def ZB:bS:=aV [] [TH,L5,zI,Fh,N4]
theorem W7:bV Tryz.prog ZB:=aD (by kernel_rfl)
theorem QF (a:V3):aH ZB (fun _ _=>none) 300 85 Tryz.f85 0 [.agg a.sv] []=
 bif am a.x then bif am a.x then bif Yd a.x a.x then
 bif am a.y then bif am a.y then bif Yd a.y a.y then
 bif am a.z then bif am a.z then bif Yd a.z a.z then
 bif XL (nK a.x a.x) (nK a.y a.y) then bif XL (qT a a).2 (nK a.z a.z) then
 bif wx (qS a a).2 (qS a a).2.length then
 bif decide (ul (qS a a).2>9223372036854775807) then some (.int .i64 9223372036854775807,[]) else some (.int .i64 (IntKind.i64.wrap (ul (qS a a).2)),[])
 else none else none else none else none else none else none else none else none else none else none else none else none:=by kernel_rfl
theorem DB (a b:Int):Yd a b=true:=by
 have h1:=fA 5 a.natAbs
 have h2:=fA 5 b.natAbs
 unfold Yd
 rw [bo.2 (eI 5 _),bo.2 (eI 5 _),decide_eq_true (by omega),decide_eq_true (by omega),decide_eq_true (by omega)]
 rfl
theorem MV {xs ys:List Int} (hx:bu xs) (hy:bu ys) (h1:xs.length≤500) (h2:ys.length≤500):XL xs ys=true:=by
 unfold XL
 rw [bo.2 hx,bo.2 hy,decide_eq_true (by omega),decide_eq_true (by omega),decide_eq_true (by omega)]
 rfl
theorem oN {a b:Int} (ha:aU a) (hb:aU b):bu (nK a b)∧jD (nK a b)∧(nK a b).length≤11∧aX (nK a b)=((a.natAbs*b.natAbs:Nat):Int)∧sg (Gc a b) (aX (nK a b))=a*b:=by
 obtain ⟨a1,a2,a3⟩:=Bk ha
 obtain ⟨b1,b2,b3⟩:=Bk hb
 have l1:=fA 5 a.natAbs
 have l2:=fA 5 b.natAbs
 obtain ⟨t1,t2⟩:=nu a3 b3 0 (aK 5 a.natAbs).length 0 (aK 5 b.natAbs).length
 have hv:aX (nK a b)=((a.natAbs*b.natAbs:Nat):Int):=by
  unfold nK
  rw [t1,jn,jn,a1,b1]
  push_cast
  rfl
 refine ⟨t2,lO _ _ _ _ _ _,?_,hv,?_⟩
 · unfold nK
   rw [iX]
   have:=dc (eQ (aK 5 a.natAbs) (aK 5 b.natAbs) 0 (aK 5 a.natAbs).length 0 (aK 5 b.natAbs).length) ((aK 5 a.natAbs).length+(aK 5 b.natAbs).length+1)
   omega
 · rw [hv]
   unfold sg Gc
   rcases Int.lt_or_le a 0 with h1 |h1<;>rcases Int.lt_or_le b 0 with h2 |h2
   · rw [decide_eq_true h1,decide_eq_true h2]
     show ((a.natAbs*b.natAbs:Nat):Int)=a*b
     rw [Int.natCast_mul,show (a.natAbs:Int)= -a by omega,show (b.natAbs:Int)= -b by omega,Int.neg_mul_neg]
   · rw [decide_eq_true h1,decide_eq_false (by omega)]
     show -((a.natAbs*b.natAbs:Nat):Int)=a*b
     rw [Int.natCast_mul,show (a.natAbs:Int)= -a by omega,show (b.natAbs:Int)=b by omega,Int.neg_mul,Int.neg_neg]
   · rw [decide_eq_false (by omega),decide_eq_true h2]
     show -((a.natAbs*b.natAbs:Nat):Int)=a*b
     rw [Int.natCast_mul,show (a.natAbs:Int)=a by omega,show (b.natAbs:Int)= -b by omega,Int.mul_neg,Int.neg_neg]
   · rw [decide_eq_false (by omega),decide_eq_false (by omega)]
     show ((a.natAbs*b.natAbs:Nat):Int)=a*b
     rw [Int.natCast_mul,show (a.natAbs:Int)=a by omega,show (b.natAbs:Int)=b by omega]
theorem sM {xs ys:List Int} {p q:Bool}:jD (bW p q xs ys 0 xs.length 0 ys.length).2∧(bW p q xs ys 0 xs.length 0 ys.length).2.length≤max xs.length ys.length+1:=by
 have hs:jD (l7 xs ys 0 xs.length 0 ys.length)∧(l7 xs ys 0 xs.length 0 ys.length).length≤max xs.length ys.length+1:=by
  refine ⟨rW (by rw [show (lB xs ys 0 xs.length 0 ys.length).length=max xs.length ys.length+1 from jS _ _ _ _ _];omega),?_⟩
  rw [nM]
  exact dc _ _
 have hl:∀{us vs:List Int},us.length≤max xs.length ys.length→jD (fq us vs 0 us.length 0 vs.length)∧(fq us vs 0 us.length 0 vs.length).length≤max xs.length ys.length+1:=by
  intro us vs h
  refine ⟨rW (by rw [show (fp us vs 0 us.length 0 vs.length).length=us.length from iN _ _ _ _ _];omega),?_⟩
  rw [jF]
  have:=dc (fp us vs 0 us.length 0 vs.length) us.length
  omega
 unfold bW
 cases p==q
 · cases kK ys xs 0 ys.length 0 xs.length
   · exact hl (by omega)
   · exact hl (by omega)
 · exact hs
theorem Cn {a b:V3} (ha:a.fits) (hb:b.fits):XL (nK a.x b.x) (nK a.y b.y)=true∧XL (qT a b).2 (nK a.z b.z)=true∧bu (qS a b).2∧jD (qS a b).2∧(qS a b).2.length≤13∧sg (qS a b).1 (aX (qS a b).2)=a.x*b.x+a.y*b.y+a.z*b.z:=by
 obtain ⟨x1,x2,x3,_,x5⟩:=oN ha.1 hb.1
 obtain ⟨y1,y2,y3,_,y5⟩:=oN ha.2.1 hb.2.1
 obtain ⟨z1,z2,z3,_,z5⟩:=oN ha.2.2 hb.2.2
 obtain ⟨p1,p2⟩:=mz (p:=Gc a.x b.x) (q:=Gc a.y b.y) x1 y1 x2 y2
 obtain ⟨p3,p4⟩:=sM (xs:=nK a.x b.x) (ys:=nK a.y b.y) (p:=Gc a.x b.x) (q:=Gc a.y b.y)
 rw [show bW (Gc a.x b.x) (Gc a.y b.y) (nK a.x b.x) (nK a.y b.y) 0 (nK a.x b.x).length 0 (nK a.y b.y).length=qT a b from rfl] at p1 p2 p3 p4
 obtain ⟨q1,q2⟩:=mz (p:=(qT a b).1) (q:=Gc a.z b.z) p2 z1 p3 z2
 obtain ⟨q3,q4⟩:=sM (xs:=(qT a b).2) (ys:=nK a.z b.z) (p:=(qT a b).1) (q:=Gc a.z b.z)
 rw [show bW (qT a b).1 (Gc a.z b.z) (qT a b).2 (nK a.z b.z) 0 (qT a b).2.length 0 (nK a.z b.z).length=qS a b from rfl] at q1 q2 q3 q4
 exact ⟨MV x1 y1 (by omega) (by omega),MV p2 z1 (by omega) (by omega),q2,q3,by omega,by rw [q1,p1,x5,y5,z5]⟩
theorem H2 {a:V3} (ha:a.fits):aH ZB (fun _ _=>none) 300 85 Tryz.f85 0 [.agg a.sv] []=some (.int .i64 a.long,[]):=by
 obtain ⟨k1,k2,k3,k4,k5,k6⟩:=Cn ha ha
 have hV:=(gr k3).1
 have hs:aX (qS a a).2=((yp a:Nat):Int):=by
  have hU:a.x*a.x+a.y*a.y+a.z*a.z=((yp a:Nat):Int):=by
   have e:∀c:Int,((c.natAbs*c.natAbs:Nat):Int)=c*c:=fun c=>Int.natAbs_mul_self
   unfold yp
   rw [Int.natCast_add,Int.natCast_add,e,e,e]
  rw [hU] at k6
  unfold sg at k6
  cases hq:(qS a a).1 with
  |true=>rw [hq] at k6;simp only [cond_true] at k6;omega
  |false=>rw [hq] at k6;exact k6
 obtain ⟨r1,r2,r3⟩:=GT hs (MB ha)
 rw [QF,ap.2 ha.1,ap.2 ha.2.1,ap.2 ha.2.2,DB,DB,DB,k1,k2,tv.2 ⟨⟨k3,k4⟩,rfl,by omega⟩,r1]
 rw [r1] at r2 r3
 simp only [cond_true]
 unfold V3.long
 generalize jT (yp a)=R at r2 r3 ⊢
 by_cases hR:(R:Int)>9223372036854775807
 · rw [decide_eq_true hR,Int.min_eq_right (by omega)];rfl
 · rw [decide_eq_false hR,IntWalk.i64_in (R:Int) (by omega),Int.min_eq_left (by omega)];rfl
def BT:List SV→Option aL
 |[.agg [.int .i64 a,.int .i64 b,.int .i64 c]]=>some {ok:=aw ⟨a,b,c⟩,val:=.int .i64 (V3.long ⟨a,b,c⟩)}
 |_=>none
theorem Ii {m:Nat→Option Row} {n:Nat} {args:List SV} {e:aL} (h:BT args=some e) (hok:e.ok=true):aN Tryz.prog 85 args m n e:=by
 unfold BT at h
 split at h
 · rename_i a b c
   cases h
   skip
   obtain ⟨rows',hc,_⟩:=aC W7 ag Tryz.func85 (H2 (a:=⟨a,b,c⟩) (aB.1 hok))
   exact aM hc rfl rfl
 · cases h
noncomputable def zK:bY:=⟨85,fun args _=>BT args,fun _ _ _ h hok=>Ii h hok,aq Tryz.func85 (by kernel_rfl)⟩
noncomputable def Zq:bS:=aV [63] [G9]
theorem V4:bV Tryz.prog Zq:=aD (by kernel_rfl)
def Mn (n:Int):Bool:=bif decide (n < -65536)==false then decide (n>65536) else true
def JS:Option aj:=some (.tuple [.agg (Sh.mk 0 0 0 ⟨0,0,0⟩ ⟨0,0,0⟩ 0 false).sv,.int .i64 1],[])
def Qb (d:V3) (K:Option aj):Option aj:=
 bif Mn d.x then (bif Mn d.y then (bif Mn d.z then JS else JS) else (bif Mn d.z then JS else JS))
 else (bif Mn d.y then (bif Mn d.z then JS else JS) else (bif Mn d.z then JS else K))
noncomputable def GY (id ow k:Int) (p d:V3) (sp fu:Int):Option aj:=
 bif aw d then bif !decide (d.long=0) then bif !decide (d.long=0) then bif !decide (d.long=0) then
  some (.tuple [.agg (Sh.mk id ow k p ⟨IntKind.i64.wrap ((IntKind.i64.wrap (d.x*sp)).tdiv d.long),IntKind.i64.wrap ((IntKind.i64.wrap (d.y*sp)).tdiv d.long),IntKind.i64.wrap ((IntKind.i64.wrap (d.z*sp)).tdiv d.long)⟩ fu false).sv,.int .i64 0],[]) else none else none else none else none
noncomputable def XP (id ow k:Int) (p d:V3) (sp fu:Int):Option aj:=bif bif (sp==0)==false then d.x==0&&(d.y==0&&(d.z==0&&true)) else true then JS else GY id ow k p d sp fu
theorem OG (id ow k:Int) (p d:V3):aH Zq (fun _ _=>none) 200 35 Tryz.f35 0 [.int .i64 id,.int .i64 ow,.int .i64 k,.agg p.sv,.agg d.sv] []=
 bif k==0 then Qb d (XP id ow k p d 26214 200) else bif k==1 then Qb d (XP id ow k p d 16384 60) else Qb d JS:=by kernel_rfl
def mI (n:Int):Bool:=decide (n < -65536)||decide (n>65536)
def ZS (k:Int):Int:=bif k==0 then 26214 else 16384
def ZR (k:Int):Int:=bif k==0 then 200 else 60
def dZ (k:Int) (d:V3):Bool:= !(k==0||k==1)||(mI d.x||(mI d.y||(mI d.z||(d.x==0&&(d.y==0&&d.z==0)))))
def Oj (s:Int) (d:V3):V3:=⟨(d.x*s).tdiv d.long,(d.y*s).tdiv d.long,(d.z*s).tdiv d.long⟩
def wo (id ow k:Int) (p d:V3):Sh:=bif dZ k d then ⟨0,0,0,⟨0,0,0⟩,⟨0,0,0⟩,0,false⟩ else ⟨id,ow,k,p,Oj (ZS k) d,ZR k,false⟩
def iU (k:Int) (d:V3):Int:=bif dZ k d then 1 else 0
theorem mb {a b s:Int} (ha: -65536≤a∧a≤65536) (hs:0≤s∧s≤26214) (hb:0<b):IntKind.i64.wrap ((IntKind.i64.wrap (a*s)).tdiv b)=(a*s).tdiv b:=by
 have h1: -1717960704≤a*s∧a*s≤1717960704:=by
  have h2:=Int.mul_le_mul_of_nonneg_right ha.1 hs.1
  have h3:=Int.mul_le_mul_of_nonneg_right ha.2 hs.1
  omega
 rw [IntWalk.i64_in (a*s) (by omega)]
 generalize a*s=m at h1
 have h4: -1717960704≤m.tdiv b∧m.tdiv b≤1717960704:=by
  have:=Int.natAbs_tdiv_le_natAbs m b
  omega
 rw [IntWalk.i64_in (m.tdiv b) (by omega)]
theorem fP {k:Int} {d:V3} (h:dZ k d=false):(k=0∨k=1)∧d.within 65536∧d.within 2147483648∧0<d.long:=by
 unfold dZ mI at h
 simp only [Bool.or_eq_false_iff,Bool.not_eq_false',Bool.or_eq_true,decide_eq_false_iff_not,beq_iff_eq,Bool.and_eq_false_iff,beq_eq_false_iff_ne] at h
 obtain ⟨hk,h1,h2,h3,h4⟩:=h
 have hw:d.within 2147483648:=by unfold V3.within;omega
 refine ⟨hk,by unfold V3.within;omega,hw,Nu hw (by omega)⟩
theorem Rb (id ow k:Int) (p d:V3):aH Zq (fun _ _=>none) 200 35 Tryz.f35 0 [.int .i64 id,.int .i64 ow,.int .i64 k,.agg p.sv,.agg d.sv] []=some (.tuple [.agg (wo id ow k p d).sv,.int .i64 (iU k d)],[]):=by
 have eo:∀n:Int,Mn n=mI n:=fun n=>cY _ _
 have key:dZ k d=false→∀sp fu:Int,1≤sp∧sp≤26214→Qb d (XP id ow k p d sp fu)=some (.tuple [.agg (Sh.mk id ow k p (Oj sp d) fu false).sv,.int .i64 0],[]):=fun hb sp fu hs=>by
  obtain ⟨hk,h1,h2,h3⟩:=fP hb
  unfold dZ at hb
  simp only [Bool.or_eq_false_iff] at hb
  obtain ⟨_,b1,b2,b3,b4⟩:=hb
  have h1':=h1
  unfold V3.within at h1'
  unfold Qb XP GY Oj
  rw [eo,eo,eo,b1,b2,b3,show (sp==0)=false by rw [beq_eq_false_iff_ne];omega,Bool.and_true,b4,aB.2 (lW h2),decide_eq_false (show ¬ d.long=0 by omega),mb (by omega) (by omega) h3,mb (by omega) (by omega) h3,mb (by omega) (by omega) h3]
  rfl
 have keyb:∀sp fu:Int,1≤sp→(mI d.x||(mI d.y||(mI d.z||(d.x==0&&(d.y==0&&d.z==0)))))=true→Qb d (XP id ow k p d sp fu)=JS:=fun sp fu hs hb=>by
  unfold Qb XP
  rw [eo,eo,eo,show (sp==0)=false by rw [beq_eq_false_iff_ne];omega,Bool.and_true]
  revert hb
  cases mI d.x<;>cases mI d.y<;>cases mI d.z<;>cases (d.x==0&&(d.y==0&&d.z==0))<;>intro hb<;>first |rfl |cases hb
 have keyn:Qb d JS=JS:=by
  unfold Qb
  cases Mn d.x<;>cases Mn d.y<;>cases Mn d.z<;>rfl
 rw [OG,keyn]
 unfold wo iU
 cases hb:dZ k d with
 | true=>
  have hb':=hb
  unfold dZ at hb'
  cases h0:k==0
  · cases h1:k==1
    · rfl
    · rw [h0,h1] at hb'
      rw [keyb 16384 60 (by omega) (by simpa using hb')]
      rfl
  · rw [h0] at hb'
    rw [keyb 26214 200 (by omega) (by simpa using hb')]
    rfl
 |false=>
  obtain ⟨hk,_⟩:=fP hb
  rw [key hb 26214 200 (by omega),key hb 16384 60 (by omega)]
  rcases hk with rfl |rfl<;>rfl
def Il:List SV→Option aL
 |[.int .i64 id,.int .i64 ow,.int .i64 k,.agg [.int .i64 px,.int .i64 py,.int .i64 pz],.agg [.int .i64 dx,.int .i64 dy,.int .i64 dz]]=>some {val:=.tuple [.agg (wo id ow k ⟨px,py,pz⟩ ⟨dx,dy,dz⟩).sv,.int .i64 (iU k ⟨dx,dy,dz⟩)]}
 |_=>none
theorem Rs {m:Nat→Option Row} {n:Nat} {args:List SV} {e:aL} (h:Il args=some e):aN Tryz.prog 35 args m n e:=by
 unfold Il at h
 split at h
 · rename_i id ow k px py pz dx dy dz
   cases h
   obtain ⟨rows',hc,_⟩:=aC V4 ag Tryz.func35 (Rb id ow k ⟨px,py,pz⟩ ⟨dx,dy,dz⟩)
   exact aM hc rfl rfl
 · cases h
noncomputable def Mm:bY:=⟨35,fun args _=>Il args,fun _ _ _ h _=>Rs h,aq Tryz.func35 (by kernel_rfl)⟩
noncomputable def sK (args:List SV) (rows:List Row):Option aL:=
 match args with
 |[.agg [.int .i64 w,.int .i64 d,.int .i64 h,.slice id st off len _,sp],.agg [.int .i64 a0,.int .i64 a1,.int .i64 a2,.int .i64 a3,.int .i64 a4,.int .i64 a5,.int .i64 a6,.int .i64 a7,.int .i64 a8,.int .i64 a9,.bool b]]=>match rows[id]? with
  |some (.vec _ .bool xs)=>bif Nat.beq st 1&&sp.one then some {ok:=aw ⟨a3,a4,a5⟩&&decide (off+len≤xs.length),val:=.tuple [.agg (bf (af w d h len fun j=>xs.getD (off+j) false).at ⟨a0,a1,a2,⟨a3,a4,a5⟩,⟨a6,a7,a8⟩,a9,b⟩).1.sv,.bool (bf (af w d h len fun j=>xs.getD (off+j) false).at ⟨a0,a1,a2,⟨a3,a4,a5⟩,⟨a6,a7,a8⟩,a9,b⟩).2],rd:=[id]} else none
  |_=>none
 |_=>none
theorem za {args:List SV} {rows:List Row} {n:Nat} {e:aL} (h:sK args rows=some e) (hok:e.ok=true):aN Tryz.prog 86 args (rows[·]?) n e:=by
 unfold sK at h
 split at h
 · rename_i wd dd hd id st off len cap sp a0 a1 a2 a3 a4 a5 a6 a7 a8 a9 b
   split at h
   · rename_i ro xs hrow
     cases hb:Nat.beq st 1&&sp.one with
     |false=>simp [hb] at h
     |true=>
      simp only [hb,cond_true,Option.some.injEq] at h
      subst h
      rw [Bool.and_eq_true] at hb
      have hst:=Nat.eq_of_beq_eq_true hb.1
      subst hst
      simp only [Bool.and_eq_true,aB] at hok
      obtain ⟨h2,h3⟩:=hok
      obtain ⟨rows',hc,_⟩:=aC Q4 ag Tryz.func86 (VA (w:=wd) (d:=dd) (h:=hd) (s:=⟨a0,a1,a2,⟨a3,a4,a5⟩,⟨a6,a7,a8⟩,a9,b⟩) h3 h2)
      exact c7 hb.2 hc rfl rfl hrow
   · cases h
 · cases h
noncomputable def Ew:bY:=⟨86,sK,fun _ _ _ h hok=>za h hok,aq Tryz.func86 (by kernel_rfl)⟩
noncomputable def Zo:bS:=aV [] [zK,Fn]
theorem X6:bV Tryz.prog Zo:=aD (by kernel_rfl)
def Y7 (a b:Bool):Bool:=bif a==false then (bif false then true else b) else true
theorem V0 (a b:Bool):Y7 a b=(a||b):=by cases a<;>rfl
def US (k:Int) (d:V3):Bool:=Y7 (Y7 (Y7 (Y7 (zE (k !=0) (k !=1)) (zE (zE (d.x==0) (d.y==0)) (d.z==0))) (si d.x 65536)) (si d.y 65536)) (si d.z 65536)
theorem PU (id ow k:Int) (p d:V3):aH Zo (fun _ _=>none) 300 56 Tryz.f56 0 [.int .i64 id,.int .i64 ow,.int .i64 k,.agg p.sv,.agg d.sv] []=
 bif US k d then some (.tuple [.agg (Sh.mk 0 0 0 ⟨0,0,0⟩ ⟨0,0,0⟩ 0 false).sv,.int .i64 1],[]) else
 bif k==1 then GY id ow k p d 16384 60 else GY id ow k p d 26214 200:=by kernel_rfl
theorem Qk (k:Int) (d:V3):US k d=dZ k d:=by
 have e:∀n:Int,si n 65536=mI n:=fun n=>by
  unfold si mI
  rw [show IntKind.i64.wrap (0 - 65536)= -65536 by decide,Bool.or_comm]
 unfold US dZ
 simp only [V0,Ge,e,bne]
 cases k==0<;>cases k==1<;>cases mI d.x<;>cases mI d.y<;>cases mI d.z<;>cases d.x==0<;>cases d.y==0<;>cases d.z==0<;>rfl
theorem WH (id ow k:Int) (p d:V3):aH Zo (fun _ _=>none) 300 56 Tryz.f56 0 [.int .i64 id,.int .i64 ow,.int .i64 k,.agg p.sv,.agg d.sv] []=some (.tuple [.agg (wo id ow k p d).sv,.int .i64 (iU k d)],[]):=by
 rw [PU,Qk]
 unfold wo iU
 cases hb:dZ k d with
 |true=>rfl
 | false=>
  obtain ⟨hk,h1,h2,h3⟩:=fP hb
  have h1':=h1
  unfold V3.within at h1'
  have key:∀sp fu:Int,0≤sp∧sp≤26214→GY id ow k p d sp fu=some (.tuple [.agg (Sh.mk id ow k p (Oj sp d) fu false).sv,.int .i64 0],[]):=fun sp fu hs=>by
   unfold GY Oj
   rw [aB.2 (lW h2),decide_eq_false (show ¬ d.long=0 by omega),mb (by omega) hs h3,mb (by omega) hs h3,mb (by omega) hs h3]
   rfl
  rw [key 16384 60 (by omega),key 26214 200 (by omega)]
  rcases hk with rfl |rfl<;>rfl
theorem Dt {m:Nat→Option Row} {n:Nat} {args:List SV} {e:aL} (h:Il args=some e):aN Tryz.prog 56 args m n e:=by
 unfold Il at h
 split at h
 · rename_i id ow k px py pz dx dy dz
   cases h
   obtain ⟨rows',hc,_⟩:=aC X6 ag Tryz.func56 (WH id ow k ⟨px,py,pz⟩ ⟨dx,dy,dz⟩)
   exact aM hc rfl rfl
 · cases h
noncomputable def GS:bY:=⟨56,fun args _=>Il args,fun _ _ _ h _=>Dt h,aq Tryz.func56 (by kernel_rfl)⟩
noncomputable def z9:bS:=aV [62] []
theorem qZ:bV Tryz.prog z9:=aD (by kernel_rfl)
theorem BN (id:Int) (p:V3):aH z9 (fun _ _=>none) 200 62 Tryz.f62 0 [.int .i64 id,.agg p.sv] []=some (.agg (eU id p).sv,[]):=by kernel_rfl
theorem zP (p:Pl):aH z9 (fun _ _=>none) 200 57 Tryz.f57 0 [.agg p.sv,.int .i64 0] []=
    bif decide (p.dead>0) then fh p 10 else bif decide (p.wait>0) then fh p 8 else bif decide (p.a0≤0) then fh p 9 else fh {p with a0:=IntKind.i64.wrap (p.a0 - 1),wait:=10} 0:=by kernel_rfl
theorem B0 (p:Pl):aH z9 (fun _ _=>none) 200 57 Tryz.f57 0 [.agg p.sv,.int .i64 1] []=
    bif decide (p.dead>0) then fh p 10 else bif decide (p.wait>0) then fh p 8 else bif decide (p.a1≤0) then fh p 9 else fh {p with a1:=IntKind.i64.wrap (p.a1 - 1),wait:=10} 0:=by kernel_rfl
theorem IA (p:Pl) (k:Int) (hk:k=0∨k=1):aH z9 (fun _ _=>none) 200 57 Tryz.f57 0 [.agg p.sv,.int .i64 k] []=some (.tuple [.agg (c9 p k).1.sv,.int .i64 (c9 p k).2],[]):=by
 rcases hk with rfl |rfl
 · rw [zP]
   unfold c9 qi fh
   cases decide (p.dead>0)<;>cases decide (p.wait>0)<;>cases decide (p.a0≤0)<;>rfl
 · rw [B0]
   unfold c9 qi fh
   cases decide (p.dead>0)<;>cases decide (p.wait>0)<;>cases decide (p.a1≤0)<;>rfl
def Z8 (p:Pl) (b:Bool):Option aj:=some (.tuple [.agg p.sv,.bool b],[])
theorem zX (p:Pl):aH z9 (fun _ _=>none) 200 59 Tryz.f59 0 [.agg p.sv] []=
    bif decide (p.wait>0) then (bif decide (p.dead>0) then Z8 {p with wait:=IntKind.i64.wrap (p.wait - 1),dead:=IntKind.i64.wrap (p.dead - 1)} (p.dead==1) else Z8 {p with wait:=IntKind.i64.wrap (p.wait - 1)} (p.dead==1))
    else (bif decide (p.dead>0) then Z8 {p with dead:=IntKind.i64.wrap (p.dead - 1)} (p.dead==1) else Z8 p (p.dead==1)):=by kernel_rfl
theorem EF (p:Pl) (h1:aU p.wait) (h2:aU p.dead):aH z9 (fun _ _=>none) 200 59 Tryz.f59 0 [.agg p.sv] []=some (.tuple [.agg (dC p).sv,.bool (p.dead==1)],[]):=by
 have e:∀x:Int,aU x→(bif decide (x>0) then IntKind.i64.wrap (x - 1) else x)=IntKind.i64.wrap (x - min (max x 0) 1):=fun x hx=>by
  by_cases h:x>0
  · rw [decide_eq_true h,show min (max x 0) 1=1 by omega];rfl
  · rw [decide_eq_false h,show min (max x 0) 1=0 by omega,Int.sub_zero,IntWalk.i64_in x hx];rfl
 rw [zX]
 unfold dC
 rw [←e _ h1,←e _ h2]
 cases decide (p.wait>0)<;>cases decide (p.dead>0)<;>rfl
theorem HQ (p:Pl) (a:V3):aH z9 (fun _ _=>none) 200 60 Tryz.f60 0 [.agg p.sv,.agg a.sv] []=some (.agg (sW p a).sv,[]):=by kernel_rfl
theorem CK {m:Nat→Option Row} {n:Nat} {args:List SV} {e:aL} (h:pu args=some e):aN Tryz.prog 62 args m n e:=by
 unfold pu at h
 split at h
 · split at h
   · rename_i a ha
     cases h
     rw [gl ha]
     obtain ⟨rows',hc,_⟩:=aC qZ ag Tryz.func62 (BN _ a)
     exact aM hc rfl rfl
   · cases h
 · cases h
noncomputable def Ha:bY:=⟨62,fun args _=>pu args,fun _ _ _ h _=>CK h,aq Tryz.func62 (by kernel_rfl)⟩
theorem HA {m:Nat→Option Row} {n:Nat} {args:List SV} {e:aL} (h:uA args=some e) (hok:e.ok=true):aN Tryz.prog 57 args m n e:=by
 unfold uA at h
 split at h
 · split at h
   · rename_i p hp
     cases h
     rw [iT hp]
     simp only [Bool.or_eq_true,beq_iff_eq] at hok
     obtain ⟨rows',hc,_⟩:=aC qZ ag Tryz.func57 (IA p _ hok)
     exact aM hc rfl rfl
   · cases h
 · cases h
noncomputable def MP:bY:=⟨57,fun args _=>uA args,fun _ _ _ h hok=>HA h hok,aq Tryz.func57 (by kernel_rfl)⟩
def xW:List SV→Option aL
 |[.agg cs]=>match Jj cs with
  |some p=>some {ok:=am p.wait&&am p.dead,val:=.tuple [.agg (dC p).sv,.bool (p.dead==1)]}
  |none=>none
 |_=>none
theorem Co {m:Nat→Option Row} {n:Nat} {args:List SV} {e:aL} (h:xW args=some e) (hok:e.ok=true):aN Tryz.prog 59 args m n e:=by
 unfold xW at h
 split at h
 · split at h
   · rename_i p hp
     cases h
     rw [iT hp]
     simp only [Bool.and_eq_true] at hok
     obtain ⟨rows',hc,_⟩:=aC qZ ag Tryz.func59 (EF p (ap.1 hok.1) (ap.1 hok.2))
     exact aM hc rfl rfl
   · cases h
 · cases h
noncomputable def HL:bY:=⟨59,fun args _=>xW args,fun _ _ _ h hok=>Co h hok,aq Tryz.func59 (by kernel_rfl)⟩
theorem I3 {m:Nat→Option Row} {n:Nat} {args:List SV} {e:aL} (h:vB args=some e):aN Tryz.prog 60 args m n e:=by
 unfold vB at h
 split at h
 · split at h
   · rename_i p a hp ha
     cases h
     rw [iT hp,gl ha]
     obtain ⟨rows',hc,_⟩:=aC qZ ag Tryz.func60 (HQ p a)
     exact aM hc rfl rfl
   · cases h
 · cases h
noncomputable def Ld:bY:=⟨60,fun args _=>vB args,fun _ _ _ h _=>I3 h,aq Tryz.func60 (by kernel_rfl)⟩
structure Ax where
 c:Int
 d:Int
 n:Int
 e:Int
def Ax.sv (a:Ax):List SV:=[.int .i64 a.c,.int .i64 a.d,.int .i64 a.n,.int .i64 a.e]
def Ax.due (a:Ax):Bool:=(decide (0<a.d)&&decide (a.n≤a.e))||(decide (a.d<0)&&decide (a.n<a.e))
def Ax.ahead (x y:Ax):Bool:=decide (IntKind.i64.wrap (x.n*y.e)<IntKind.i64.wrap (y.n*x.e))
def Ax.step (a:Ax):Ax:=⟨IntKind.i64.wrap (a.c+a.d),a.d,IntKind.i64.wrap (a.n+65536),a.e⟩
def aS (a b:Int):Ax:=bif decide (a<b) then ⟨a/65536,1,(a/65536+1)*65536 - a,b - a⟩ else bif decide (b<a) then ⟨a/65536,-1,a - a/65536*65536,a - b⟩ else ⟨a/65536,0,0,0⟩
def gh (a:Int):Bool:=decide (-1099511627776≤a)&&decide (a≤1099511627776)
noncomputable def x0:bS:=⟨XZ,fun _=>none,fun _ _ _=>none,fun _=>false,false⟩
theorem OC:bV Tryz.prog x0 where
 mixed:=by kernel_rfl
 T:=BW
 fn:=fun _ _ h=>by cases h
 call:=fun _ _ _ _ h _=>by cases h
theorem Li (c d n e:Int):aH x0 (fun _ _=>none) 100 139 Tryz.f139 0 [.agg [.int .i64 c,.int .i64 d,.int .i64 n,.int .i64 e]] []=
 some (SV.bool (bif (bif decide (d>0)==true then decide (n≤e) else false)==false then bif decide (d<0)==true then decide (n<e) else false else true),[]):=by kernel_rfl
theorem BR (c d n e c' d' n' e':Int):aH x0 (fun _ _=>none) 100 140 Tryz.f140 0 [.agg [.int .i64 c,.int .i64 d,.int .i64 n,.int .i64 e],.agg [.int .i64 c',.int .i64 d',.int .i64 n',.int .i64 e']] []=
 some (SV.bool (decide (IntKind.i64.wrap (n*e')<IntKind.i64.wrap (n'*e))),[]):=by kernel_rfl
theorem Cd (a b:Int):aH x0 (fun _ _=>none) 100 137 Tryz.f137 0 [.int .i64 a,.int .i64 b] []=
 bif decide (b>a) then
  some
   (SV.agg
       [.int .i64 (a.fdiv (2 ^ min (Int.toNat 16) IntKind.i64.bits)),.int .i64 1,
        .int .i64 (IntKind.i64.wrap (IntKind.i64.wrap (IntKind.i64.wrap (a.fdiv (2 ^ min (Int.toNat 16) IntKind.i64.bits)+1)*2 ^ min (Int.toNat 16) IntKind.i64.bits) - a)),
        .int .i64 (IntKind.i64.wrap (b - a))],
    [])
 else
  bif decide (b<a) then
   some
    (SV.agg
        [.int .i64 (a.fdiv (2 ^ min (Int.toNat 16) IntKind.i64.bits)),.int .i64 (-1),
         .int .i64 (IntKind.i64.wrap (a - IntKind.i64.wrap (a.fdiv (2 ^ min (Int.toNat 16) IntKind.i64.bits)*2 ^ min (Int.toNat 16) IntKind.i64.bits))),
         .int .i64 (IntKind.i64.wrap (a - b))],
     [])
  else some (SV.agg [.int .i64 (a.fdiv (2 ^ min (Int.toNat 16) IntKind.i64.bits)),.int .i64 0,.int .i64 0,.int .i64 0],[]):=by kernel_rfl
theorem Qa (c d n e:Int):aH x0 (fun _ _=>none) 100 139 Tryz.f139 0 [.agg [.int .i64 c,.int .i64 d,.int .i64 n,.int .i64 e]] []=some (.bool (Ax.due ⟨c,d,n,e⟩),[]):=by
 rw [Li]
 unfold Ax.due
 simp only [gt_iff_lt]
 cases decide (0<d)<;>cases decide (n≤e)<;>cases decide (d<0)<;>cases decide (n<e)<;>rfl
theorem JF (c d n e c' d' n' e':Int):aH x0 (fun _ _=>none) 100 140 Tryz.f140 0 [.agg [.int .i64 c,.int .i64 d,.int .i64 n,.int .i64 e],.agg [.int .i64 c',.int .i64 d',.int .i64 n',.int .i64 e']] []=
    some (.bool (Ax.ahead ⟨c,d,n,e⟩ ⟨c',d',n',e'⟩),[]):=BR c d n e c' d' n' e'
theorem H0 {a b:Int} (ha:gh a=true) (hb:gh b=true):aH x0 (fun _ _=>none) 100 137 Tryz.f137 0 [.int .i64 a,.int .i64 b] []=some (.agg (aS a b).sv,[]):=by
 unfold gh at ha hb
 simp only [Bool.and_eq_true,decide_eq_true_eq] at ha hb
 rw [Cd]
 have p16:(2 ^ min (Int.toNat 16) IntKind.i64.bits:Int)=65536:=by decide
 have f16:a.fdiv 65536=a/65536:=Int.fdiv_eq_ediv_of_nonneg a (by omega)
 rw [p16,f16,IntWalk.i64_in (a/65536+1) (by omega),IntWalk.i64_in ((a/65536+1)*65536) (by omega),IntWalk.i64_in ((a/65536+1)*65536 - a) (by omega),IntWalk.i64_in (b - a) (by omega),
  IntWalk.i64_in (a/65536*65536) (by omega),IntWalk.i64_in (a - a/65536*65536) (by omega),IntWalk.i64_in (a - b) (by omega)]
 unfold aS Ax.sv
 simp only [gt_iff_lt]
 cases decide (a<b)
 · cases decide (b<a)<;>rfl
 · rfl
def Sw:List SV→Option aL
 |[.agg [.int .i64 c,.int .i64 d,.int .i64 n,.int .i64 e]]=>some {val:=.bool (Ax.due ⟨c,d,n,e⟩)}
 |_=>none
def xC:List SV→Option aL
 |[.agg [.int .i64 c,.int .i64 d,.int .i64 n,.int .i64 e],.agg [.int .i64 c',.int .i64 d',.int .i64 n',.int .i64 e']]=>some {val:=.bool (Ax.ahead ⟨c,d,n,e⟩ ⟨c',d',n',e'⟩)}
 |_=>none
def Cx:List SV→Option aL
 |[.int .i64 a,.int .i64 b]=>some {ok:=gh a&&gh b,val:=.agg (aS a b).sv}
 |_=>none
theorem FO {m:Nat→Option Row} {n:Nat} {args:List SV} {e:aL} (h:Sw args=some e):aN Tryz.prog 139 args m n e:=by
 unfold Sw at h
 split at h
 · rename_i c d k f
   cases h
   obtain ⟨rows',hc,_⟩:=aC OC ag Tryz.func139 (Qa c d k f)
   exact aM hc rfl rfl
 · cases h
theorem vf {m:Nat→Option Row} {n:Nat} {args:List SV} {e:aL} (h:xC args=some e):aN Tryz.prog 140 args m n e:=by
 unfold xC at h
 split at h
 · rename_i c d k f c' d' k' f'
   cases h
   obtain ⟨rows',hc,_⟩:=aC OC ag Tryz.func140 (JF c d k f c' d' k' f')
   exact aM hc rfl rfl
 · cases h
theorem Hu {m:Nat→Option Row} {n:Nat} {args:List SV} {e:aL} (h:Cx args=some e) (hok:e.ok=true):aN Tryz.prog 137 args m n e:=by
 unfold Cx at h
 split at h
 · rename_i a b
   cases h
   simp only [Bool.and_eq_true] at hok
   obtain ⟨rows',hc,_⟩:=aC OC ag Tryz.func137 (H0 hok.1 hok.2)
   exact aM hc rfl rfl
 · cases h
def Ax.goes (x:Ax) (dir:Int) (a:Ax):Bool:=(a.d==dir)&&(a.due&& !(x.ahead a))
def Ax.next (x:Ax) (dir:Int) (a:Ax):Ax:=bif x.goes dir a then a.step else a
def Ax.anyGo (x:Ax) (dir:Int) (a b c:Ax):Bool:=x.goes dir c||(x.goes dir b||(x.goes dir a||false))
def Ax.pick (now x:Ax):Ax:=bif x.due&&(now.d==0||x.ahead now) then x else now
def Ax.pick3 (a b c:Ax):Ax:=((Ax.pick ⟨0,0,0,0⟩ a).pick b).pick c
def nx (F:Int→Int→Int→Bool) (x:Ax) (dir:Int) (a b c:Ax):Bool:=bif x.anyGo dir a b c==true then F (x.next dir a).c (x.next dir b).c (x.next dir c).c else false
def sightL (F:Int→Int→Int→Bool):Nat→Ax→Ax→Ax→Bool
 |0,_,_,_=>false
 |n+1,a,b,c=>
  bif (Ax.pick3 a b c).d==0 then true else
  bif nx F (Ax.pick3 a b c) 1 a b c then false else
  bif nx F (Ax.pick3 a b c) (-1) ((Ax.pick3 a b c).next 1 a) ((Ax.pick3 a b c).next 1 b) ((Ax.pick3 a b c).next 1 c) then false else
  sightL F n ((Ax.pick3 a b c).next (-1) ((Ax.pick3 a b c).next 1 a)) ((Ax.pick3 a b c).next (-1) ((Ax.pick3 a b c).next 1 b)) ((Ax.pick3 a b c).next (-1) ((Ax.pick3 a b c).next 1 c))
def l8 (F:Int→Int→Int→Bool):Nat→Ax→Ax→Ax→Ax×Ax×Ax
 |0,a,b,c=>(a,b,c)
 |n+1,a,b,c=>
  bif (Ax.pick3 a b c).d==0 then (a,b,c) else
  bif nx F (Ax.pick3 a b c) 1 a b c then ((Ax.pick3 a b c).next 1 a,(Ax.pick3 a b c).next 1 b,(Ax.pick3 a b c).next 1 c) else
  bif nx F (Ax.pick3 a b c) (-1) ((Ax.pick3 a b c).next 1 a) ((Ax.pick3 a b c).next 1 b) ((Ax.pick3 a b c).next 1 c) then ((Ax.pick3 a b c).next (-1) ((Ax.pick3 a b c).next 1 a),(Ax.pick3 a b c).next (-1) ((Ax.pick3 a b c).next 1 b),(Ax.pick3 a b c).next (-1) ((Ax.pick3 a b c).next 1 c)) else
  l8 F n ((Ax.pick3 a b c).next (-1) ((Ax.pick3 a b c).next 1 a)) ((Ax.pick3 a b c).next (-1) ((Ax.pick3 a b c).next 1 b)) ((Ax.pick3 a b c).next (-1) ((Ax.pick3 a b c).next 1 c))
def aO (a b p q:Int):Int:=(a*q+(b - a)*p)/(q*65536)
def kV (a b:Int) (A:Ax):Prop:=(a<b∧A.d=1∧A.e=b - a∧A.n=(A.c+1)*65536 - a)∨(b<a∧A.d= -1∧A.e=a - b∧A.n=a - A.c*65536)∨(a=b∧A.d=0∧A.e=0∧A.n=0∧A.c=a/65536)
def Bd (a b:Int) (A:Ax):Prop:=0≤a∧a<2097152∧0≤b∧b<2097152∧0≤A.n∧A.n≤4194304
theorem kI {a b:Int} {A:Ax} (h:kV a b A) (k:Bd a b A):0≤A.e∧A.e<2097152∧ -100<A.c∧A.c<100∧ -1≤A.d∧A.d≤1:=by
 unfold Bd at k
 rcases h with ⟨h1,h2,h3,h4⟩|⟨h1,h2,h3,h4⟩|⟨h1,h2,h3,h4,h5⟩
 · omega
 · omega
 · omega
theorem NM {x y:Int} (h1:0≤x) (h2:x≤4194304) (h3:0≤y) (h4:y≤4194304):0≤x*y∧x*y≤17592186044416:=by
 constructor
 · exact Int.mul_nonneg h1 h3
 · have:=Int.mul_le_mul h2 h4 h3 (by omega)
   omega
theorem Df {a b:Int} {A:Ax} (h:kV a b A) (k:Bd a b A):A.step=⟨A.c+A.d,A.d,A.n+65536,A.e⟩:=by
 have hb:=kI h k
 unfold Bd at k
 unfold Ax.step
 rw [IntWalk.i64_in (A.c+A.d) (by omega),IntWalk.i64_in (A.n+65536) (by omega)]
theorem qI {a b a' b':Int} {A B:Ax} (h:kV a b A) (k:Bd a b A) (h':kV a' b' B) (k':Bd a' b' B):A.ahead B=decide (A.n*B.e<B.n*A.e):=by
 have hb:=kI h k
 have hb':=kI h' k'
 unfold Bd at k k'
 unfold Ax.ahead
 have m1:=NM (x:=A.n) (y:=B.e) (by omega) (by omega) (by omega) (by omega)
 have m2:=NM (x:=B.n) (y:=A.e) (by omega) (by omega) (by omega) (by omega)
 rw [IntWalk.i64_in (A.n*B.e) (by omega),IntWalk.i64_in (B.n*A.e) (by omega)]
theorem j5 {A:Ax}:A.due=true↔(0<A.d∧A.n≤A.e)∨(A.d<0∧A.n<A.e):=by
 unfold Ax.due
 simp
theorem fG {a b:Int} {A:Ax} (h:kV a b A) (hd:A.d≠0):0<A.e:=by
 rcases h with ⟨h1,h2,h3,h4⟩|⟨h1,h2,h3,h4⟩|⟨h1,h2,h3,h4,h5⟩<;>omega
theorem xZ {a b:Int} {A:Ax} (h:kV a b A):A.d=1∨A.d= -1∨A.d=0:=by
 rcases h with ⟨h1,h2,h3,h4⟩|⟨h1,h2,h3,h4⟩|⟨h1,h2,h3,h4,h5⟩<;>omega
def YX (A:Ax) (p q:Int):Prop:=(A.d=1→A.e*p<A.n*q)∧(A.d= -1→A.e*p≤A.n*q)
def Ku (A:Ax) (p q:Int):Prop:=(A.d=1→(A.n - 65536)*q≤A.e*p)∧(A.d= -1→(A.n - 65536)*q<A.e*p)
theorem fw {a b p q:Int} {A:Ax} (h:kV a b A) (hq:0<q) (hl:Ku A p q) (hu:YX A p q):aO a b p q=A.c:=by
 have hq6:0<q*65536:=by omega
 have key:A.c*(q*65536)≤a*q+(b - a)*p→a*q+(b - a)*p<(A.c+1)*(q*65536)→aO a b p q=A.c:=by
  intro h1 h2
  unfold aO
  have h3:=(Int.le_ediv_iff_mul_le hq6).2 h1
  have h4:=(Int.ediv_lt_iff_lt_mul hq6).2 h2
  omega
 rcases h with ⟨h1,h2,h3,h4⟩|⟨h1,h2,h3,h4⟩|⟨h1,h2,h3,h4,h5⟩
 · have l:=hl.1 h2
   have u:=hu.1 h2
   rw [h3,h4] at l u
   apply key<;>grind
 · have l:=hl.2 h2
   have u:=hu.2 h2
   rw [h3,h4] at l u
   apply key<;>grind
 · subst h1
   have e:a*q+(a - a)*p=a*q:=by grind
   have e1:=Int.mul_ediv_add_emod a 65536
   have e2:=Int.emod_lt_of_pos a (show (0:Int)<65536 by omega)
   have e3:=Int.emod_nonneg a (show (65536:Int)≠0 by omega)
   rw [←h5] at e1
   apply key
   · rw [e]
     have :A.c*65536≤a:=by omega
     have:=Int.mul_le_mul_of_nonneg_right this (Int.le_of_lt hq)
     grind
   · rw [e]
     have :a<(A.c+1)*65536:=by omega
     have:=Int.mul_lt_mul_of_pos_right this hq
     grind
theorem Be {e n N E p q:Int} (he:0<e) (hE:0<E) (hq:0<q) (h1:p*E<N*q) (h2:N*e≤n*E):e*p<n*q:=by
 apply Int.lt_of_mul_lt_mul_left (a:=E) _ (Int.le_of_lt hE)
 have a1:e*(p*E)<e*(N*q):=Int.mul_lt_mul_of_pos_left h1 he
 have a2:(N*e)*q≤(n*E)*q:=Int.mul_le_mul_of_nonneg_right h2 (Int.le_of_lt hq)
 grind
theorem JN {e n N E p q:Int} (he:0<e) (hE:0<E) (hq:0<q) (h1:p*E=N*q) (h2:N*e<n*E):e*p<n*q:=by
 apply Int.lt_of_mul_lt_mul_left (a:=E) _ (Int.le_of_lt hE)
 have a1:e*(p*E)=e*(N*q):=by rw [h1]
 have a2:(N*e)*q<(n*E)*q:=Int.mul_lt_mul_of_pos_right h2 hq
 grind
theorem LZ {e n N E p q:Int} (hE:0<E) (hq:0<q) (h1:p*E=N*q) (h2:N*e≤n*E):e*p≤n*q:=by
 apply Int.le_of_mul_le_mul_left (a:=E) _ hE
 have a1:e*(p*E)=e*(N*q):=by rw [h1]
 have a2:(N*e)*q≤(n*E)*q:=Int.mul_le_mul_of_nonneg_right h2 (Int.le_of_lt hq)
 grind
theorem NF {e n N E p q:Int} (hE:0<E) (h1:p*E=N*q) (h2:N*e=n*E):e*p=n*q:=by
 apply Int.eq_of_mul_eq_mul_left (a:=E) (by omega)
 have a1:e*(p*E)=e*(N*q):=by rw [h1]
 have a2:(N*e)*q=(n*E)*q:=by rw [h2]
 grind
theorem Al {e n N E p q:Int} (he:0<e) (hE:0<E) (h1:N*q<p*E) (h2:N*e=n*E):n*q<e*p:=by
 apply Int.lt_of_mul_lt_mul_left (a:=E) _ (Int.le_of_lt hE)
 have a1:e*(N*q)<e*(p*E):=Int.mul_lt_mul_of_pos_left h1 he
 have a2:(N*e)*q=(n*E)*q:=by rw [h2]
 grind
theorem iy {a b p q:Int} {A:Ax} (h:kV a b A) (hq:0<q) (hp:p≤q) (hd: ¬ A.due=true):YX A p q:=by
 rw [j5] at hd
 constructor
 · intro d1
   have e0:=fG h (by omega)
   have h1:A.e<A.n:=by omega
   have h2:=Int.mul_le_mul_of_nonneg_left hp (Int.le_of_lt e0)
   have h3:=Int.mul_lt_mul_of_pos_right h1 hq
   omega
 · intro d1
   have e0:=fG h (by omega)
   have h1:A.e≤A.n:=by omega
   have h2:=Int.mul_le_mul_of_nonneg_left hp (Int.le_of_lt e0)
   have h3:=Int.mul_le_mul_of_nonneg_right h1 (Int.le_of_lt hq)
   omega
structure JR (N E:Int) (A:Ax):Prop where
 pos:0<E
 le:A.due=true→N*A.e≤A.n*E
theorem mX {a b p q N E:Int} {A:Ax} (h:kV a b A) (hn:JR N E A) (hq:0<q) (hp:p≤q) (ht:p*E<N*q):YX A p q:=by
 by_cases hd:A.due=true
 · constructor
   · intro d1
     exact Be (fG h (by omega)) hn.pos hq ht (hn.le hd)
   · intro d1
     exact Int.le_of_lt (Be (fG h (by omega)) hn.pos hq ht (hn.le hd))
 · exact iy h hq hp hd
def y7 (N E:Int) (A:Ax) (dir:Int):Prop:=A.d=dir∧A.due=true∧N*A.e=A.n*E
def Nx (N E:Int) (dir:Int) (A A':Ax):Prop:=(y7 N E A dir∧A'=⟨A.c+A.d,A.d,A.n+65536,A.e⟩)∨(¬ y7 N E A dir∧A'=A)
theorem pT {a b N E dir:Int} {A A':Ax} (h:kV a b A) (k:Bd a b A) (hdir:dir=1∨dir= -1) (hx:Nx N E dir A A'):kV a b A'∧Bd a b A':=by
 have hb:=kI h k
 rcases hx with ⟨hg,rfl⟩|⟨_,rfl⟩
 · have hdd:A.d≠0:=by have:=hg.1;omega
   have hdue:=j5.1 hg.2.1
   unfold Bd at k ⊢
   rcases h with ⟨h1,h2,h3,h4⟩|⟨h1,h2,h3,h4⟩|⟨h1,h2,h3,h4,h5⟩
   · refine ⟨.inl ⟨h1,h2,h3,?_⟩,?_⟩
     · simp only;omega
     · simp only;omega
   · refine ⟨.inr (.inl ⟨h1,h2,h3,?_⟩),?_⟩
     · simp only;omega
     · simp only;omega
   · omega
 · exact ⟨h,k⟩
theorem jN {a b p q N E:Int} {A A':Ax} (h:kV a b A) (hn:JR N E A) (hq:0<q) (hp:p≤q) (ht:p*E=N*q) (hl:Ku A p q) (hx:Nx N E 1 A A') (h':kV a b A'):aO a b p q=A'.c:=by
 rcases hx with ⟨hg,rfl⟩|⟨hg,rfl⟩
 · have e0:=fG h (by have:=hg.1;omega)
   have he:=NF hn.pos ht hg.2.2
   refine fw h' hq ⟨fun _=>?_,fun hd=>?_⟩ ⟨fun _=>?_,fun hd=>?_⟩
   · simp only;rw [he];have :(A.n+65536 - 65536)*q=A.n*q:=by grind
     omega
   · have:=hg.1;simp only at hd;omega
   · simp only;rw [he];have :(A.n+65536)*q=A.n*q+65536*q:=by grind
     omega
   · have:=hg.1;simp only at hd;omega
 · refine fw h hq hl ?_
   by_cases hd:A'.due=true
   · have hle:=hn.le hd
     constructor
     · intro d1
       have hne:N*A'.e≠A'.n*E:=fun hc=>hg ⟨d1,hd,hc⟩
       exact JN (fG h (by omega)) hn.pos hq ht (by omega)
     · intro d1
       exact LZ hn.pos hq ht hle
   · exact iy h hq hp hd
theorem ee {a b p q N E:Int} {A A' A'':Ax} (h:kV a b A) (hE:0<E) (hl:Ku A p q) (ht:N*q<p*E) (hx:Nx N E 1 A A') (hx':Nx N E (-1) A' A''):Ku A'' p q:=by
 rcases hx with ⟨hg,rfl⟩|⟨hg,rfl⟩
 · rcases hx' with ⟨hg',rfl⟩|⟨hg',rfl⟩
   · have h1:=hg.1;have h2:=hg'.1;simp only at h2;omega
   · have e0:=fG h (by have:=hg.1;omega)
     have hgt:=Al e0 hE ht hg.2.2
     refine ⟨fun _=>?_,fun hd=>?_⟩
     · simp only;have :(A.n+65536 - 65536)*q=A.n*q:=by grind
       omega
     · have:=hg.1;simp only at hd;omega
 · rcases hx' with ⟨hg',rfl⟩|⟨hg',rfl⟩
   · have e0:=fG h (by have:=hg'.1;omega)
     have hgt:=Al e0 hE ht hg'.2.2
     refine ⟨fun hd=>?_,fun _=>?_⟩
     · have:=hg'.1;simp only at hd;omega
     · simp only;have :(A'.n+65536 - 65536)*q=A'.n*q:=by grind
       omega
   · exact hl
theorem lJ {a b a' b' dir:Int} {X A:Ax} (hX:kV a' b' X) (kX:Bd a' b' X) (h:kV a b A) (k:Bd a b A) (hn:JR X.n X.e A):X.goes dir A=true↔y7 X.n X.e A dir:=by
 unfold Ax.goes y7
 rw [qI hX kX h k]
 simp only [Bool.and_eq_true,beq_iff_eq,Bool.not_eq_true',decide_eq_false_iff_not]
 constructor
 · rintro ⟨h1,h2,h3⟩
   have:=hn.le h2
   exact ⟨h1,h2,by omega⟩
 · rintro ⟨h1,h2,h3⟩
   exact ⟨h1,h2,by omega⟩
theorem mB {a b a' b' dir:Int} {X A:Ax} (hX:kV a' b' X) (kX:Bd a' b' X) (h:kV a b A) (k:Bd a b A) (hn:JR X.n X.e A):Nx X.n X.e dir A (X.next dir A):=by
 unfold Ax.next
 have hg:=lJ (dir:=dir) hX kX h k hn
 cases hc:X.goes dir A with
 |true=>rw [hc] at hg;exact .inl ⟨hg.1 rfl,Df h k⟩
 |false=>rw [hc] at hg;exact .inr ⟨fun hh=>absurd (hg.2 hh) (by simp),rfl⟩
theorem pH {a b N E:Int} {A A':Ax} (h:kV a b A) (hn:JR N E A) (hx:Nx N E 1 A A'):JR N E A':=by
 rcases hx with ⟨hg,rfl⟩|⟨_,rfl⟩
 · refine ⟨hn.pos,fun _=>?_⟩
   simp only
   have:=hg.2.2
   have h2:(A.n+65536)*E=A.n*E+65536*E:=by grind
   have:=hn.pos
   omega
 · exact hn
def Pk (X:Ax) (A:Ax):Prop:=A.due=true→X.d≠0∧X.n*A.e≤A.n*X.e
theorem Bb {x y z:Ax} (h1:x.n*y.e≤y.n*x.e) (h2:y.n*z.e≤z.n*y.e) (hx:0<x.e) (hy:0<y.e) (hz:0<z.e):x.n*z.e≤z.n*x.e:=by
 apply Int.le_of_mul_le_mul_left (a:=y.e) _ hy
 have a1:=Int.mul_le_mul_of_nonneg_right h1 (Int.le_of_lt hz)
 have a2:=Int.mul_le_mul_of_nonneg_right h2 (Int.le_of_lt hx)
 grind
theorem kw {a b:Int} {A:Ax} (h:kV a b A) (hd:A.due=true):A.d≠0∧0<A.e:=by
 rw [j5] at hd
 exact ⟨by omega,fG h (by omega)⟩
structure YN (X:Ax) (l:List (Int×Int×Ax)):Prop where
 from_:X.d≠0→X.due=true∧∃x∈l,x.2.2=X
 min:∀x∈l,Pk X x.2.2
theorem oW {X:Ax} {l:List (Int×Int×Ax)} {a b:Int} {A:Ax} (hl:∀x∈l,kV x.1 x.2.1 x.2.2∧Bd x.1 x.2.1 x.2.2) (h:kV a b A) (k:Bd a b A) (hp:YN X l):YN (X.pick A) (l++[(a,b,A)]):=by
 unfold Ax.pick
 have old:∀{Y:Ax},Y=X→Pk X A→YN Y (l++[(a,b,A)]):=by
  rintro _ rfl hA
  refine ⟨fun hd=>?_,fun x hx=>?_⟩
  · obtain ⟨h1,x,hx,h2⟩:=hp.from_ hd
    exact ⟨h1,x,List.mem_append_left _ hx,h2⟩
  · rcases List.mem_append.1 hx with hx |hx
    · exact hp.min x hx
    · simp at hx;subst hx;exact hA
 cases hd:A.due with
 |false=>
  simp only [Bool.false_and,cond_false]
  exact old rfl (fun h=>by rw [hd] at h;cases h)
 | true =>
  obtain ⟨hd0,he0⟩:=kw h hd
  simp only [Bool.true_and]
  by_cases hx0:X.d=0
  · simp only [hx0,beq_self_eq_true,Bool.true_or,cond_true]
    refine ⟨fun _=>⟨hd,_,List.mem_append_right _ (List.mem_singleton.2 rfl),rfl⟩,fun x hx hxd=>?_⟩
    rcases List.mem_append.1 hx with hx |hx
    · exact absurd hx0 (hp.min x hx hxd).1
    · simp at hx;subst hx;exact ⟨hd0,Int.le_refl _⟩
  · obtain ⟨hXd,y,hy,rfl⟩:=hp.from_ hx0
    obtain ⟨hY,kY⟩:=hl y hy
    rw [qI h k hY kY]
    simp only [beq_eq_false_iff_ne.2 hx0,Bool.false_or]
    by_cases hlt:A.n*y.2.2.e<y.2.2.n*A.e
    · simp only [hlt,decide_true,cond_true]
      refine ⟨fun _=>⟨hd,_,List.mem_append_right _ (List.mem_singleton.2 rfl),rfl⟩,fun x hx hxd=>⟨hd0,?_⟩⟩
      rcases List.mem_append.1 hx with hx |hx
      · have hm:=(hp.min x hx hxd).2
        exact Bb (Int.le_of_lt hlt) hm he0 (kw hY hXd).2 (kw (hl x hx).1 hxd).2
      · simp at hx;subst hx;exact Int.le_refl _
    · simp only [hlt,decide_false,cond_false]
      exact old rfl (fun _=>⟨hx0,by omega⟩)
theorem AI {a1 b1 a2 b2 a3 b3:Int} {A B C:Ax} (h1:kV a1 b1 A) (k1:Bd a1 b1 A) (h2:kV a2 b2 B) (k2:Bd a2 b2 B) (h3:kV a3 b3 C) (k3:Bd a3 b3 C):
    YN (Ax.pick3 A B C) [(a1,b1,A),(a2,b2,B),(a3,b3,C)]:=by
 unfold Ax.pick3
 have p0:YN ⟨0,0,0,0⟩ []:=⟨fun h=>absurd rfl h,fun x hx=>by cases hx⟩
 have p1:=oW (by simp) h1 k1 p0
 have p2:=oW (l:=[]++[(a1,b1,A)]) (fun x hx=>by simp at hx;subst hx;exact ⟨h1,k1⟩) h2 k2 p1
 exact oW (l:=[]++[(a1,b1,A)]++[(a2,b2,B)]) (fun x hx=>by simp at hx;rcases hx with rfl |rfl<;>first |exact ⟨h1,k1⟩|exact ⟨h2,k2⟩) h3 k3 p2
structure S3 (a1 b1 a2 b2 a3 b3:Int) (A B C:Ax):Prop where
 l1:kV a1 b1 A
 k1:Bd a1 b1 A
 l2:kV a2 b2 B
 k2:Bd a2 b2 B
 l3:kV a3 b3 C
 k3:Bd a3 b3 C
section
variable {a1 b1 a2 b2 a3 b3:Int} {A B C:Ax}
theorem O6 (s:S3 a1 b1 a2 b2 a3 b3 A B C) (h:(Ax.pick3 A B C).d=0): ¬ A.due=true∧ ¬ B.due=true∧ ¬ C.due=true:=by
 have hp:=AI s.l1 s.k1 s.l2 s.k2 s.l3 s.k3
 exact ⟨fun hd=>(hp.min (a1,b1,A) (by simp) hd).1 h,fun hd=>(hp.min (a2,b2,B) (by simp) hd).1 h,fun hd=>(hp.min (a3,b3,C) (by simp) hd).1 h⟩
structure Zp (a1 b1 a2 b2 a3 b3:Int) (A B C X:Ax):Prop where
 due:X.due=true
 is:X=A∨X=B∨X=C
 lin:∃a b,kV a b X∧Bd a b X
 n1:JR X.n X.e A
 n2:JR X.n X.e B
 n3:JR X.n X.e C
theorem CM (s:S3 a1 b1 a2 b2 a3 b3 A B C) (h:(Ax.pick3 A B C).d≠0):Zp a1 b1 a2 b2 a3 b3 A B C (Ax.pick3 A B C):=by
 have hp:=AI s.l1 s.k1 s.l2 s.k2 s.l3 s.k3
 generalize Ax.pick3 A B C=X at hp h
 obtain ⟨hd,x,hx,hxe⟩:=hp.from_ h
 have hlin:∃a b,kV a b X∧Bd a b X:=by
  simp only [List.mem_cons,List.not_mem_nil,or_false] at hx
  rcases hx with rfl |rfl |rfl<;>simp only at hxe<;>subst hxe
  · exact ⟨_,_,s.l1,s.k1⟩
  · exact ⟨_,_,s.l2,s.k2⟩
  · exact ⟨_,_,s.l3,s.k3⟩
 have hE:0<X.e:=by obtain ⟨a,b,hl,_⟩:=hlin;exact fG hl h
 refine ⟨hd,?_,hlin,⟨hE,fun hd=>(hp.min (a1,b1,A) (by simp) hd).2⟩,⟨hE,fun hd=>(hp.min (a2,b2,B) (by simp) hd).2⟩,⟨hE,fun hd=>(hp.min (a3,b3,C) (by simp) hd).2⟩⟩
 simp only [List.mem_cons,List.not_mem_nil,or_false] at hx
 rcases hx with rfl |rfl |rfl<;>simp only at hxe<;>subst hxe<;>simp
theorem Fo {X:Ax} {dir:Int} (hdir:dir=1∨dir= -1) (s:S3 a1 b1 a2 b2 a3 b3 A B C) {A' B' C':Ax} (x1:Nx X.n X.e dir A A') (x2:Nx X.n X.e dir B B') (x3:Nx X.n X.e dir C C'):S3 a1 b1 a2 b2 a3 b3 A' B' C':=
 ⟨(pT s.l1 s.k1 hdir x1).1,(pT s.l1 s.k1 hdir x1).2,(pT s.l2 s.k2 hdir x2).1,(pT s.l2 s.k2 hdir x2).2,(pT s.l3 s.k3 hdir x3).1,(pT s.l3 s.k3 hdir x3).2⟩
theorem uN {F:Int→Int→Int→Bool} {X:Ax} {dir:Int} (h:nx F X dir A B C=false) (h0:F A.c B.c C.c=false):F (X.next dir A).c (X.next dir B).c (X.next dir C).c=false:=by
 unfold nx at h
 cases hg:X.anyGo dir A B C with
 |true=>simpa [hg] using h
 |false=>
  unfold Ax.anyGo at hg
  simp only [Bool.or_false,Bool.or_eq_false_iff] at hg
  unfold Ax.next
  rw [hg.1,hg.2.1,hg.2.2]
  exact h0
structure ZQ (a1 b1 a2 b2 a3 b3:Int) (A B C X A1 B1 C1 A2 B2 C2:Ax):Prop where
 s1:S3 a1 b1 a2 b2 a3 b3 A1 B1 C1
 s2:S3 a1 b1 a2 b2 a3 b3 A2 B2 C2
 x1:Nx X.n X.e 1 A A1
 x2:Nx X.n X.e 1 B B1
 x3:Nx X.n X.e 1 C C1
 y1:Nx X.n X.e (-1) A1 A2
 y2:Nx X.n X.e (-1) B1 B2
 y3:Nx X.n X.e (-1) C1 C2
theorem Ej {X:Ax} (s:S3 a1 b1 a2 b2 a3 b3 A B C) (h:Zp a1 b1 a2 b2 a3 b3 A B C X):
    ZQ a1 b1 a2 b2 a3 b3 A B C X (X.next 1 A) (X.next 1 B) (X.next 1 C) (X.next (-1) (X.next 1 A)) (X.next (-1) (X.next 1 B)) (X.next (-1) (X.next 1 C)):=by
 obtain ⟨a,b,hl,hk⟩:=h.lin
 have x1:=mB (dir:=1) hl hk s.l1 s.k1 h.n1
 have x2:=mB (dir:=1) hl hk s.l2 s.k2 h.n2
 have x3:=mB (dir:=1) hl hk s.l3 s.k3 h.n3
 have s1:=Fo (.inl rfl) s x1 x2 x3
 have y1:=mB (dir:= -1) hl hk s1.l1 s1.k1 (pH s.l1 h.n1 x1)
 have y2:=mB (dir:= -1) hl hk s1.l2 s1.k2 (pH s.l2 h.n2 x2)
 have y3:=mB (dir:= -1) hl hk s1.l3 s1.k3 (pH s.l3 h.n3 x3)
 exact ⟨s1,Fo (.inr rfl) s1 y1 y2 y3,x1,x2,x3,y1,y2,y3⟩
end
theorem qv {F:Int→Int→Int→Bool} {a1 b1 a2 b2 a3 b3:Int}:∀(n:Nat) (A B C:Ax) (R:Int→Int→Prop),S3 a1 b1 a2 b2 a3 b3 A B C→
    (∀p q,R p q→0<q∧p≤q∧Ku A p q∧Ku B p q∧Ku C p q)→F A.c B.c C.c=false→sightL F n A B C=true→∀p q,R p q→F (aO a1 b1 p q) (aO a2 b2 p q) (aO a3 b3 p q)=false
 |0,_,_,_,_,_,_,_,h,_,_,_=>by simp [sightL] at h
 | n + 1,A,B,C,R,s,hR,h0,h,p,q,hpq=>by
  obtain ⟨hq,hp,w1,w2,w3⟩:=hR p q hpq
  unfold sightL at h
  by_cases hd:(Ax.pick3 A B C).d=0
  · obtain ⟨u1,u2,u3⟩:=O6 s hd
    rw [fw s.l1 hq w1 (iy s.l1 hq hp u1),fw s.l2 hq w2 (iy s.l2 hq hp u2),fw s.l3 hq w3 (iy s.l3 hq hp u3)]
    exact h0
  · have hnow:=CM s hd
    generalize Ax.pick3 A B C=X at*
    rw [beq_eq_false_iff_ne.2 hd,cond_false] at h
    have hr:=Ej s hnow
    cases hh1:nx F X 1 A B C with
    |true=>simp [hh1] at h
    | false=>
     simp only [hh1,cond_false] at h
     have f1:=uN hh1 h0
     generalize X.next 1 A=A1 at*
     generalize X.next 1 B=B1 at*
     generalize X.next 1 C=C1 at*
     cases hh2:nx F X (-1) A1 B1 C1 with
     |true=>simp [hh2] at h
     | false=>
      simp only [hh2,cond_false] at h
      have f2:=uN hh2 f1
      generalize X.next (-1) A1=A2 at*
      generalize X.next (-1) B1=B2 at*
      generalize X.next (-1) C1=C2 at*
      rcases Int.lt_trichotomy (p*X.e) (X.n*q) with ht |ht |ht
      · rw [fw s.l1 hq w1 (mX s.l1 hnow.n1 hq hp ht),fw s.l2 hq w2 (mX s.l2 hnow.n2 hq hp ht),fw s.l3 hq w3 (mX s.l3 hnow.n3 hq hp ht)]
        exact h0
      · rw [jN s.l1 hnow.n1 hq hp ht w1 hr.x1 hr.s1.l1,jN s.l2 hnow.n2 hq hp ht w2 hr.x2 hr.s1.l2,jN s.l3 hnow.n3 hq hp ht w3 hr.x3 hr.s1.l3]
        exact f1
      · refine qv n A2 B2 C2 (fun p q=>R p q∧X.n*q<p*X.e) hr.s2 ?_ f2 h p q ⟨hpq,ht⟩
        rintro p q ⟨hpq,ht⟩
        obtain ⟨hq,hp,w1,w2,w3⟩:=hR p q hpq
        exact ⟨hq,hp,ee s.l1 hnow.n1.pos w1 ht hr.x1 hr.y1,ee s.l2 hnow.n1.pos w2 ht hr.x2 hr.y2,ee s.l3 hnow.n1.pos w3 ht hr.x3 hr.y3⟩
def Ax.left (A:Ax):Nat:=(A.e - A.n+65536).toNat/65536
theorem mr {N E dir:Int} {A A':Ax} (hdir:dir=1∨dir= -1) (hx:Nx N E dir A A'):A'.left≤A.left∧(y7 N E A dir→A'.left<A.left):=by
 rcases hx with ⟨hg,rfl⟩|⟨hg,rfl⟩
 · have hd:=j5.1 hg.2.1
   unfold Ax.left
   simp only
   have h1:A.n≤A.e:=by omega
   constructor
   · omega
   · intro _;omega
 · exact ⟨Nat.le_refl _,fun h=>absurd h hg⟩
theorem Aa {a1 b1 a2 b2 a3 b3 xa xb:Int} {A B C X A1 B1 C1 A2 B2 C2:Ax} (hXl:kV xa xb X) (hd: ¬ X.d=0) (hnow:Zp a1 b1 a2 b2 a3 b3 A B C X) (hr:ZQ a1 b1 a2 b2 a3 b3 A B C X A1 B1 C1 A2 B2 C2):A2.left+B2.left+C2.left<A.left+B.left+C.left:=by
 have m1:=mr (.inl rfl) hr.x1
 have m2:=mr (.inl rfl) hr.x2
 have m3:=mr (.inl rfl) hr.x3
 have m4:=mr (.inr rfl) hr.y1
 have m5:=mr (.inr rfl) hr.y2
 have m6:=mr (.inr rfl) hr.y3
 have hXd:X.d=1∨X.d= -1:=by have:=xZ hXl;omega
 have same:∀{A A1:Ax},y7 X.n X.e A (-1)→Nx X.n X.e 1 A A1→y7 X.n X.e A1 (-1):=by
  rintro A A1 hg (⟨hg1,rfl⟩|⟨_,rfl⟩)
  · have h1:=hg.1;have h2:=hg1.1;omega
  · exact hg
 rcases hnow.is with rfl |rfl |rfl
 · rcases hXd with h1 |h1
   · have:=m1.2 ⟨h1,hnow.due,rfl⟩;omega
   · have:=m4.2 (same ⟨h1,hnow.due,rfl⟩ hr.x1);omega
 · rcases hXd with h1 |h1
   · have:=m2.2 ⟨h1,hnow.due,rfl⟩;omega
   · have:=m5.2 (same ⟨h1,hnow.due,rfl⟩ hr.x2);omega
 · rcases hXd with h1 |h1
   · have:=m3.2 ⟨h1,hnow.due,rfl⟩;omega
   · have:=m6.2 (same ⟨h1,hnow.due,rfl⟩ hr.x3);omega
theorem oJ {a b N E K:Int} {A A1 A2:Ax} (h:kV a b A) (k:Bd a b A) (hn:JR N E A) (hK:A.e<K) (hE:N<E) (hx:Nx N E 1 A A1) (hy:Nx N E (-1) A1 A2):YX A2 (N*K+1) (E*K):=by
 have hE0:=hn.pos
 have hb:=kI h k
 have hK0:0<K:=by omega
 have hEK:K≤E*K:=by have:=Int.mul_le_mul_of_nonneg_right (show (1:Int)≤E by omega) (Int.le_of_lt hK0);omega
 have hp:N*K+1≤E*K:=by have:=Int.mul_le_mul_of_nonneg_right (show N+1≤E by omega) (Int.le_of_lt hK0);grind
 have stepped:N*A.e=A.n*E→A.e*(N*K+1)<(A.n+65536)*(E*K):=by
  intro ht
  have e1:A.e*(N*K+1)=(N*A.e)*K+A.e:=by grind
  have e2:(A.n+65536)*(E*K)=(A.n*E)*K+65536*(E*K):=by grind
  rw [e1,e2,ht]
  omega
 by_cases hd:A.due=true
 · by_cases ht:N*A.e=A.n*E
   · rcases hx with ⟨hg,rfl⟩|⟨hg,rfl⟩
     · rcases hy with ⟨hg',rfl⟩|⟨_,rfl⟩
       · have h1:=hg.1;have h2:=hg'.1;simp only at h2;omega
       · exact ⟨fun _=>stepped ht,fun _=>Int.le_of_lt (stepped ht)⟩
     · rcases hy with ⟨hg',rfl⟩|⟨hg',rfl⟩
       · exact ⟨fun _=>stepped ht,fun _=>Int.le_of_lt (stepped ht)⟩
       · have:=(kw h hd).1
         rcases xZ h with hd1 |hd1 |hd1
         · exact absurd ⟨hd1,hd,ht⟩ hg
         · exact absurd ⟨hd1,hd,ht⟩ hg'
         · exact absurd hd1 this
   · have h2:A2=A:=by
      rcases hx with ⟨hg,rfl⟩|⟨hg,rfl⟩
      · exact absurd hg.2.2 ht
      · rcases hy with ⟨hg',rfl⟩|⟨hg',rfl⟩
        · exact absurd hg'.2.2 ht
        · rfl
     subst h2
     have hle:=hn.le hd
     have hlt:A2.e*(N*K+1)<A2.n*(E*K):=by
      have e1:A2.e*(N*K+1)=(N*A2.e)*K+A2.e:=by grind
      have e2:A2.n*(E*K)=(A2.n*E)*K:=by grind
      rw [e1,e2]
      have:=Int.mul_le_mul_of_nonneg_right (show N*A2.e+1≤A2.n*E by omega) (Int.le_of_lt hK0)
      grind
     exact ⟨fun _=>hlt,fun _=>Int.le_of_lt hlt⟩
 · have h2:A2=A:=by
    rcases hx with ⟨hg,rfl⟩|⟨hg,rfl⟩
    · exact absurd hg.2.1 hd
    · rcases hy with ⟨hg',rfl⟩|⟨hg',rfl⟩
      · exact absurd hg'.2.1 hd
      · rfl
   subst h2
   exact iy h (by omega) hp hd
theorem oS {a b N E:Int} {A A1 A2:Ax} {R:Int→Int→Prop} (h:kV a b A) (hn:JR N E A) (hR:A.due=true→R A.n A.e) (hup:∀p q p' q',R p q→0<q'→p'≤q'→p*q'≤p'*q→R p' q')
    (hx:Nx N E 1 A A1) (hy:Nx N E (-1) A1 A2) (hd:A2.due=true):R A2.n A2.e∧N*A2.e<A2.n*E:=by
 have stepped:y7 N E A 1∨y7 N E A (-1)→A2=⟨A.c+A.d,A.d,A.n+65536,A.e⟩→R A2.n A2.e∧N*A2.e<A2.n*E:=by
  rintro hg rfl
  have hdA:A.due=true:=by rcases hg with hg |hg<;>exact hg.2.1
  have htA:N*A.e=A.n*E:=by rcases hg with hg |hg<;>exact hg.2.2
  have hpos:=(kw h hdA).2
  have hdue:=j5.1 hd
  simp only at hdue ⊢
  have hE:=hn.pos
  constructor
  · refine hup _ _ _ _ (hR hdA) hpos (by omega) ?_
    have :(A.n+65536)*A.e=A.n*A.e+65536*A.e:=by grind
    omega
  · have :(A.n+65536)*E=A.n*E+65536*E:=by grind
    omega
 rcases hx with ⟨hg,rfl⟩|⟨hg,rfl⟩
 · rcases hy with ⟨hg',rfl⟩|⟨hg',rfl⟩
   · have h1:=hg.1;have h2:=hg'.1;simp only at h2;omega
   · exact stepped (.inl hg) rfl
 · rcases hy with ⟨hg',rfl⟩|⟨hg',rfl⟩
   · exact stepped (.inr hg') rfl
   · refine ⟨hR hd,?_⟩
     have hle:=hn.le hd
     have hne:N*A2.e≠A2.n*E:=by
      intro hc
      have:=(kw h hd).1
      rcases xZ h with h1 |h1 |h1
      · exact hg ⟨h1,hd,hc⟩
      · exact hg' ⟨h1,hd,hc⟩
      · exact this h1
     omega
theorem yP {F:Int→Int→Int→Bool} {X:Ax} {dir:Int} {A B C:Ax} (h:X.anyGo dir A B C=true→F (X.next dir A).c (X.next dir B).c (X.next dir C).c=false):nx F X dir A B C=false:=by
 unfold nx
 cases hg:X.anyGo dir A B C with
 |true=>simpa using h hg
 |false=>rfl
theorem qF {F:Int→Int→Int→Bool} {a1 b1 a2 b2 a3 b3:Int} (H:∀p q,0≤p→p≤q→0<q→F (aO a1 b1 p q) (aO a2 b2 p q) (aO a3 b3 p q)=false):∀(n:Nat) (A B C:Ax) (R:Int→Int→Prop),S3 a1 b1 a2 b2 a3 b3 A B C→
    (∀p q,R p q→0<q∧p≤q∧Ku A p q∧Ku B p q∧Ku C p q)→(∀p q p' q',R p q→0<q'→p'≤q'→p*q'≤p'*q→R p' q')→(A.due=true→R A.n A.e)→(B.due=true→R B.n B.e)→(C.due=true→R C.n C.e)→
    A.left+B.left+C.left<n→sightL F n A B C=true
 |0,_,_,_,_,_,_,_,_,_,_,h=>by omega
 | n +1,A,B,C,R,s,hR,hup,r1,r2,r3,hm=>by
  unfold sightL
  by_cases hd:(Ax.pick3 A B C).d=0
  · rw [hd];rfl
  · have hnow:=CM s hd
    generalize Ax.pick3 A B C=X at*
    rw [beq_eq_false_iff_ne.2 hd,cond_false]
    have hr:=Ej s hnow
    have hE:0<X.e:=hnow.n1.pos
    have hXR:R X.n X.e:=by
     rcases hnow.is with rfl |rfl |rfl
     · exact r1 hnow.due
     · exact r2 hnow.due
     · exact r3 hnow.due
    obtain ⟨xa,xb,hXl,hXk⟩:=hnow.lin
    have hN0:0≤X.n:=hXk.2.2.2.2.1
    have hdue:=j5.1 hnow.due
    have hNE:X.n≤X.e:=by omega
    -- upward
    have hh1:nx F X 1 A B C=false:=by
     refine yP fun _=>?_
     obtain ⟨hq,hp,w1,w2,w3⟩:=hR X.n X.e hXR
     rw [←jN s.l1 hnow.n1 hE hNE rfl w1 hr.x1 hr.s1.l1,←jN s.l2 hnow.n2 hE hNE rfl w2 hr.x2 hr.s1.l2,←jN s.l3 hnow.n3 hE hNE rfl w3 hr.x3 hr.s1.l3]
     exact H X.n X.e hN0 hNE hE
    rw [hh1,cond_false]
    have gg:∀{a b:Int} {A1:Ax},kV a b A1→Bd a b A1→JR X.n X.e A1→X.goes (-1) A1=true→X.n<X.e:=by
     intro a b A1 hl hk hn hg
     have hg:=(lJ hXl hXk hl hk hn).1 hg
     have h1:=j5.1 hg.2.1
     have h2:=hg.1
     have h3:A1.n<A1.e:=by omega
     have h4:=fG hl (by omega)
     have h5:=Int.mul_lt_mul_of_pos_right h3 hE
     have h6:X.n*A1.e<X.e*A1.e:=by rw [hg.2.2];rw [Int.mul_comm X.e];exact h5
     exact Int.lt_of_mul_lt_mul_right h6 (Int.le_of_lt h4)
    have q1:=pH s.l1 hnow.n1 hr.x1
    have q2:=pH s.l2 hnow.n2 hr.x2
    have q3:=pH s.l3 hnow.n3 hr.x3
    have go1:=fun {dir:Int}=>lJ (dir:=dir) hXl hXk s.l1 s.k1 hnow.n1
    have go2:=fun {dir:Int}=>lJ (dir:=dir) hXl hXk s.l2 s.k2 hnow.n2
    have go3:=fun {dir:Int}=>lJ (dir:=dir) hXl hXk s.l3 s.k3 hnow.n3
    generalize X.next 1 A=A1 at*
    generalize X.next 1 B=B1 at*
    generalize X.next 1 C=C1 at*
    have hh2:nx F X (-1) A1 B1 C1=false:=by
     refine yP fun hany=>?_
     have hlt:X.n<X.e:=by
      unfold Ax.anyGo at hany
      simp only [Bool.or_false,Bool.or_eq_true] at hany
      rcases hany with h |h |h
      · exact gg hr.s1.l3 hr.s1.k3 q3 h
      · exact gg hr.s1.l2 hr.s1.k2 q2 h
      · exact gg hr.s1.l1 hr.s1.k1 q1 h
     have b1:=kI s.l1 s.k1
     have b2:=kI s.l2 s.k2
     have b3:=kI s.l3 s.k3
     have hK0:(0:Int)<A.e+B.e+C.e+1:=by omega
     have u1:=oJ (K:=A.e+B.e+C.e+1) s.l1 s.k1 hnow.n1 (by omega) hlt hr.x1 hr.y1
     have u2:=oJ (K:=A.e+B.e+C.e+1) s.l2 s.k2 hnow.n2 (by omega) hlt hr.x2 hr.y2
     have u3:=oJ (K:=A.e+B.e+C.e+1) s.l3 s.k3 hnow.n3 (by omega) hlt hr.x3 hr.y3
     generalize A.e+B.e+C.e+1=K at*
     have hq:0<X.e*K:=Int.mul_pos hE hK0
     have hp:X.n*K+1≤X.e*K:=by have:=Int.mul_le_mul_of_nonneg_right (show X.n+1≤X.e by omega) (Int.le_of_lt hK0);grind
     have hRt:R (X.n*K+1) (X.e*K):=by
      refine hup _ _ _ _ hXR hq hp ?_
      have :(X.n*K+1)*X.e=X.n*(X.e*K)+X.e:=by grind
      omega
     have hgt:X.n*(X.e*K)<(X.n*K+1)*X.e:=by
      have :(X.n*K+1)*X.e=X.n*(X.e*K)+X.e:=by grind
      omega
     obtain ⟨_,_,w1,w2,w3⟩:=hR _ _ hRt
     rw [←fw hr.s2.l1 hq (ee s.l1 hE w1 hgt hr.x1 hr.y1) u1,←fw hr.s2.l2 hq (ee s.l2 hE w2 hgt hr.x2 hr.y2) u2,←fw hr.s2.l3 hq (ee s.l3 hE w3 hgt hr.x3 hr.y3) u3]
     refine H _ _ ?_ hp hq
     have:=Int.mul_nonneg hN0 (Int.le_of_lt hK0)
     omega
    rw [hh2,cond_false]
    generalize X.next (-1) A1=A2 at*
    generalize X.next (-1) B1=B2 at*
    generalize X.next (-1) C1=C2 at*
    refine qF H n A2 B2 C2 (fun p q=>R p q∧X.n*q<p*X.e) hr.s2 ?_ ?_ ?_ ?_ ?_ ?_
    · rintro p q ⟨hpq,ht⟩
      obtain ⟨hq,hp,w1,w2,w3⟩:=hR p q hpq
      exact ⟨hq,hp,ee s.l1 hE w1 ht hr.x1 hr.y1,ee s.l2 hE w2 ht hr.x2 hr.y2,ee s.l3 hE w3 ht hr.x3 hr.y3⟩
    · rintro p q p' q' ⟨hpq,ht⟩ hq' hp' hle
      refine ⟨hup p q p' q' hpq hq' hp' hle,?_⟩
      have hq:=(hR p q hpq).1
      apply Int.lt_of_mul_lt_mul_left (a:=q) _ (Int.le_of_lt hq)
      have z1:=Int.mul_lt_mul_of_pos_right ht hq'
      have z2:=Int.mul_le_mul_of_nonneg_right hle (Int.le_of_lt hE)
      grind
    · exact fun hd=>oS s.l1 hnow.n1 r1 hup hr.x1 hr.y1 hd
    · exact fun hd=>oS s.l2 hnow.n2 r2 hup hr.x2 hr.y2 hd
    · exact fun hd=>oS s.l3 hnow.n3 r3 hup hr.x3 hr.y3 hd
    · have:=Aa hXl hd hnow hr
      omega
theorem vK {a b:Int} (h:a<b):aS a b=⟨a/65536,1,(a/65536+1)*65536 - a,b - a⟩:=by unfold aS;simp [h]
theorem qL {a b:Int} (h:b<a):aS a b=⟨a/65536,-1,a - a/65536*65536,a - b⟩:=by unfold aS;simp [h,show ¬ a<b by omega]
theorem qH (a:Int):aS a a=⟨a/65536,0,0,0⟩:=by unfold aS;simp
theorem iv {a b:Int} (ha:0≤a∧a<2097152) (hb:0≤b∧b<2097152):kV a b (aS a b)∧Bd a b (aS a b)∧(aS a b).c=a/65536∧(aS a b).left≤33∧(∀p q,0≤p→0<q→Ku (aS a b) p q)∧((aS a b).due=true→0≤(aS a b).n∧(aS a b).n≤(aS a b).e∧0<(aS a b).e):=by
 have hl:kV a b (aS a b):=by
  rcases Int.lt_trichotomy a b with h |h |h
  · rw [vK h];exact .inl ⟨h,rfl,rfl,rfl⟩
  · subst h;rw [qH];exact .inr (.inr ⟨rfl,rfl,rfl,rfl,rfl⟩)
  · rw [qL h];exact .inr (.inl ⟨h,rfl,rfl,rfl⟩)
 have hn:0≤(aS a b).n∧(aS a b).n≤65536∧((aS a b).d= -1→(aS a b).n<65536)∧(aS a b).c=a/65536:=by
  rcases Int.lt_trichotomy a b with h |h |h
  · rw [vK h];simp only;exact ⟨by omega,by omega,fun _=>by omega,trivial⟩
  · subst h;rw [qH];simp
  · rw [qL h];simp only;exact ⟨by omega,by omega,fun _=>by omega,trivial⟩
 have hk:Bd a b (aS a b):=⟨ha.1,ha.2,hb.1,hb.2,hn.1,by omega⟩
 have hbd:=kI hl hk
 refine ⟨hl,hk,hn.2.2.2,?_,?_,?_⟩
 · unfold Ax.left;omega
 · intro p q hp hq
   have h3:=Int.mul_nonneg hbd.1 hp
   constructor
   · intro _
     have h2:((aS a b).n - 65536)*q≤0:=Int.mul_nonpos_of_nonpos_of_nonneg (by omega) (Int.le_of_lt hq)
     omega
   · intro hd
     have h2:=Int.mul_lt_mul_of_pos_right (show (aS a b).n - 65536<0 by have:=hn.2.2.1 hd;omega) hq
     omega
 · intro hd
   have h1:=kw hl hd
   have h2:=j5.1 hd
   exact ⟨hn.1,by omega,h1.2⟩
theorem kC (a b:Int):aO a b 0 1=a/65536:=by
 unfold aO
 have :a*1+(b - a)*0=a:=by omega
 rw [this]
 rfl
theorem nq (a b:Int):aO a b 1 1=b/65536:=by
 unfold aO
 have :a*1+(b - a)*1=b:=by omega
 rw [this]
 rfl
def nc (F:Int→Int→Int→Bool) (a b:V3):Bool:=
 bif F (a.x/65536) (a.y/65536) (a.z/65536) then false else bif F (b.x/65536) (b.y/65536) (b.z/65536) then false else sightL F 101 (aS a.x b.x) (aS a.y b.y) (aS a.z b.z)
def kz (F:Int→Int→Int→Bool) (a b:V3) (p q:Int):Prop:=F (aO a.x b.x p q) (aO a.y b.y p q) (aO a.z b.z p q)=false
theorem Iv {F:Int→Int→Int→Bool} (hF:∀x y z,F x y z=false→(0≤x∧x<32)∧(0≤y∧y<32)∧(0≤z∧z<32)) (a b:V3):nc F a b=true↔∀p q,0≤p→p≤q→0<q→kz F a b p q:=by
 have main:F (a.x/65536) (a.y/65536) (a.z/65536)=false→F (b.x/65536) (b.y/65536) (b.z/65536)=false→(sightL F 101 (aS a.x b.x) (aS a.y b.y) (aS a.z b.z)=true↔∀p q,0≤p→p≤q→0<q→kz F a b p q):=by
  intro fa fb
  have ha:=hF _ _ _ fa
  have hb:=hF _ _ _ fb
  obtain ⟨l1,k1,c1,m1,w1,d1⟩:=iv (a:=a.x) (b:=b.x) (by omega) (by omega)
  obtain ⟨l2,k2,c2,m2,w2,d2⟩:=iv (a:=a.y) (b:=b.y) (by omega) (by omega)
  obtain ⟨l3,k3,c3,m3,w3,d3⟩:=iv (a:=a.z) (b:=b.z) (by omega) (by omega)
  constructor
  · intro h p q hp hpq hq
    exact qv 101 _ _ _ (fun p q=>0≤p∧p≤q∧0<q) ⟨l1,k1,l2,k2,l3,k3⟩ (fun p q h=>⟨h.2.2,h.2.1,w1 p q h.1 h.2.2,w2 p q h.1 h.2.2,w3 p q h.1 h.2.2⟩) (by rw [c1,c2,c3];exact fa) h p q ⟨hp,hpq,hq⟩
  · intro h
    refine qF h 101 _ _ _ (fun p q=>0≤p∧p≤q∧0<q) ⟨l1,k1,l2,k2,l3,k3⟩ (fun p q h=>⟨h.2.2,h.2.1,w1 p q h.1 h.2.2,w2 p q h.1 h.2.2,w3 p q h.1 h.2.2⟩) ?_ d1 d2 d3 (by omega)
    rintro p q p' q' ⟨h1,h2,h3⟩ hq' hp' hle
    refine ⟨?_,hp',hq'⟩
    have h4:=Int.mul_nonneg h1 (Int.le_of_lt hq')
    by_cases hp0:0≤p'
    · exact hp0
    · have:=Int.mul_lt_mul_of_pos_right (show p'<0 by omega) h3
      omega
 unfold nc
 cases fa:F (a.x/65536) (a.y/65536) (a.z/65536) with
 |true=>
  simp only [cond_true,Bool.false_eq_true,false_iff]
  intro h
  have:=h 0 1 (by omega) (by omega) (by omega)
  unfold kz at this
  rw [kC,kC,kC,fa] at this
  cases this
 | false=>
  cases fb:F (b.x/65536) (b.y/65536) (b.z/65536) with
  |true=>
   simp only [cond_true,cond_false,Bool.false_eq_true,false_iff]
   intro h
   have:=h 1 1 (by omega) (by omega) (by omega)
   unfold kz at this
   rw [nq,nq,nq,fb] at this
   cases this
  |false=>
   simp only [cond_false]
   exact main fa fb
end Go.Proofs.YtimkhidniolpeaaGreat
