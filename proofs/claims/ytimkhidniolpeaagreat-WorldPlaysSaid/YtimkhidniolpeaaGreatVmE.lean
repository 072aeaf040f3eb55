/- Part of the proof. -/
import Derived.Test.YtimkhidniolpeaaGreatVmA
namespace Go.Proofs.YtimkhidniolpeaaGreat
set_option linter.unusedSimpArgs false
set_option linter.unusedVariables false
set_option maxRecDepth 100000
set_option maxHeartbeats 0
open Go.RowKit
structure Tm where
 n:Nat
 cs:List (List SV)
def Tm.get (t:Tm) (i:Nat):SV:=bif Nat.blt i t.n then (t.cs.getD (i/8) []).getD (i%8) .top else .top
def Tm.set (t:Tm) (i:Nat) (v:SV):Tm:=⟨t.n,t.cs.set (i/8) ((t.cs.getD (i/8) []).set (i%8) v)⟩
def Tm.inb (t:Tm) (i:Nat):Bool:=Nat.blt (i%8) (t.cs.getD (i/8) []).length
def Tm.list (t:Tm):List SV:=(List.range t.n).map t.get
def nG:Nat→List SV→List (List SV)
 |0,_=>[]
 |n+1,l=>match l with
  |[]=>[]
  |x::l'=>(x::l').take 8::nG n ((x::l').drop 8)
def Tm.of (l:List SV):Tm:=⟨l.length,nG l.length l⟩
theorem Tm.list_get (t:Tm) (i:Nat):t.list.getD i .top=t.get i:=by
 unfold Tm.list
 by_cases h:i<t.n
 · simp [List.getD,h]
 · have hb:Nat.blt i t.n=false:=by
    cases hb:Nat.blt i t.n with
    |false=>rfl
    |true=>exact absurd (by simpa [Nat.blt_eq] using hb) h
   simp [List.getD,h,Tm.get,hb]
theorem Tm.list_get? (t:Tm) (i:Nat):t.list[i]? =bif Nat.blt i t.n then some (t.get i) else none:=by
 unfold Tm.list
 by_cases h:i<t.n
 · have hb:Nat.blt i t.n=true:=by simpa [Nat.blt_eq] using h
   simp [h,hb]
 · have hb:Nat.blt i t.n=false:=by
    cases hb:Nat.blt i t.n with
    |false=>rfl
    |true=>exact absurd (by simpa [Nat.blt_eq] using hb) h
   simp [h,hb]
theorem Tm.list_set {t:Tm} {i:Nat} (h:t.inb i=true) (v:SV):(t.set i v).list=t.list.set i v:=by
 have hin:i%8<(t.cs.getD (i/8) []).length:=by
  unfold Tm.inb at h
  simpa [Nat.blt_eq] using h
 have hq:i/8<t.cs.length:=by
  rcases Nat.lt_or_ge (i/8) t.cs.length with h1 |h1
  · exact h1
  · simp [List.getD,List.getElem?_eq_none h1] at hin
 apply List.ext_getElem?
 intro j
 by_cases hj:j<t.n
 · have hget:(t.set i v).list[j]? =some ((t.set i v).get j):=by unfold Tm.list;simp [Tm.set,hj]
   rw [hget,List.getElem?_set]
   have hl:t.list.length=t.n:=by unfold Tm.list;simp
   have hbj:Nat.blt j t.n=true:=by simpa [Nat.blt_eq] using hj
   by_cases hij:i=j
   · subst hij
     rw [if_pos rfl,if_pos (by omega)]
     congr 1
     unfold Tm.get Tm.set
     simp only [hbj,cond_true]
     have :(t.cs.set (i/8) ((t.cs.getD (i/8) []).set (i%8) v)).getD (i/8) []=(t.cs.getD (i/8) []).set (i%8) v:=by
      rw [List.getD_eq_getElem?_getD,List.getElem?_set_self hq]
      rfl
     rw [this,List.getD_eq_getElem?_getD,List.getElem?_set_self hin]
     rfl
   · rw [if_neg hij]
     have h2:t.list[j]? =some (t.get j):=by unfold Tm.list;simp [hj]
     rw [h2]
     congr 1
     unfold Tm.get Tm.set
     simp only [hbj,cond_true]
     by_cases hd:i/8=j/8
     · rw [←hd]
       have :(t.cs.set (i/8) ((t.cs.getD (i/8) []).set (i%8) v)).getD (i/8) []=(t.cs.getD (i/8) []).set (i%8) v:=by
        rw [List.getD_eq_getElem?_getD,List.getElem?_set_self hq]
        rfl
       rw [this,List.getD_eq_getElem?_getD,List.getElem?_set_ne,←List.getD_eq_getElem?_getD]
       intro hm
       have h3:=Nat.div_add_mod i 8
       have h4:=Nat.div_add_mod j 8
       omega
     · have :(t.cs.set (i/8) ((t.cs.getD (i/8) []).set (i%8) v)).getD (j/8) []=t.cs.getD (j/8) []:=by
        rw [List.getD_eq_getElem?_getD,List.getElem?_set_ne hd,←List.getD_eq_getElem?_getD]
       rw [this]
 · have h1:(t.set i v).list[j]? =none:=by unfold Tm.list;simp [Tm.set];omega
   rw [h1,List.getElem?_set]
   have hl:t.list.length=t.n:=by unfold Tm.list;simp
   by_cases hij:i=j
   · subst hij;rw [if_pos rfl,if_neg (by omega)]
   · rw [if_neg hij,List.getElem?_eq_none (by omega)]
theorem pY:∀(n:Nat) (l:List SV),l.length≤n→∀i,i<l.length→((nG n l).getD (i/8) []).getD (i%8) .top=l.getD i .top
 |0,l,h,i,hi=>by omega
 |n+1,[],h,i,hi=>by simp at hi
 | n+1,x::l,h,i,hi=>by
  rw [nG]
  by_cases h8:i<8
  · rw [show i/8=0 by omega,show i%8=i by omega]
    simp only [List.getD_cons_zero]
    rw [List.getD_eq_getElem?_getD,List.getElem?_take_of_lt h8,←List.getD_eq_getElem?_getD]
  · obtain ⟨q,hq⟩:∃q,i/8=q+1:=⟨i/8 - 1,by omega⟩
    rw [hq,List.getD_cons_succ]
    have:=pY n ((x::l).drop 8) (by simp at h ⊢;omega) (i - 8) (by simp at hi ⊢;omega)
    rw [show (i - 8)/8=q by omega,show (i - 8)%8=i%8 by omega] at this
    rw [this,List.getD_eq_getElem?_getD,List.getElem?_drop,show 8+(i - 8)=i by omega,←List.getD_eq_getElem?_getD]
theorem Tm.of_list (l:List SV):(Tm.of l).list=l:=by
 apply List.ext_getElem?
 intro i
 rw [Tm.list_get?]
 by_cases h:i<l.length
 · have hb:Nat.blt i (Tm.of l).n=true:=by simpa [Nat.blt_eq,Tm.of] using h
   rw [hb,cond_true]
   unfold Tm.get
   rw [hb,cond_true]
   have:=pY l.length l (Nat.le_refl _) i h
   change some (((nG l.length l).getD (i/8) []).getD (i%8) .top)=_
   rw [this,List.getD_eq_getElem?_getD,List.getElem?_eq_getElem h]
   rfl
 · have hb:Nat.blt i (Tm.of l).n=false:=by
    cases hb:Nat.blt i (Tm.of l).n with
    |false=>rfl
    |true=>exact absurd (by simpa [Nat.blt_eq,Tm.of] using hb) h
   rw [hb,List.getElem?_eq_none (by omega)]
   rfl
structure St where
 tmps:Tm
 rows:List Row
inductive Ex where
 |normal
 |exit (id:Nat)
 |ret
abbrev aj:=SV×List Row
def St.ev (s:St):Operand→SV
 |.tmp t=>s.tmps.get t
 |.const v=>ofValue v
 |.global _=>.top
 |.func f=>.fn f []
def AQ (ts:List SV) (d:Option Nat) (v:SV):List SV:=match d with
 |some d=>ts.set d v
 |none=>ts
def dJ (ts:Tm) (d:Option Nat) (v:SV):Tm:=match d with
 |some d=>ts.set d v
 |none=>ts
def jk (ts:Tm) (d:Option Nat):Bool:=match d with
 |some d=>ts.inb d
 |none=>true
theorem ms {ts:Tm} {d:Option Nat} (h:jk ts d=true) (v:SV):(dJ ts d v).list=AQ ts.list d v:=by
 cases d with
 |none=>rfl
 |some d=>exact Tm.list_set h v
def nz (rows:List Row):List (Nat×Row)→List Row
 |[]=>rows
 |(i,r)::l=>nz (rows.set i r) l
def St.after (s:St) (d:Option Nat) (e:aL):St:=⟨dJ s.tmps d e.val,nz s.rows e.wr++e.nw⟩
inductive Yx where
 |yes
 |no
 |ask (t:Nat) (b want:Bool)
 |lost
def lA (all:List Oper) (ts:Tm) (o:Oper):Yx:=
 match o.guard with
 |none=>.yes
 | some (j,want)=>match (all[j]?).bind (·.dst) with
  |none=>.no
  |some t=>bif Nat.blt t ts.n then (match ts.get t with
   |.bool b=>.ask t b want
   |.tuple []=>.no
   |_=>.lost) else .no
structure qA where
 looks:Nat
 dst:Nat
 rd:Nat
 wr:Nat
def iR (x:Nat):List Nat→Bool
 |[]=>false
 |y::l=>bif Nat.beq x y then true else iR x l
def fD:List Nat→Nat
 |[]=>0
 |x::l=>Nat.lor (Nat.shiftLeft 1 x) (fD l)
def fc (l m:Nat):Bool:= !(Nat.beq (Nat.land l m) 0)
def Bo (d:Option Nat):List Nat:=match d with |some d=>[d]|none=>[]
def rJ (a b:qA):Bool:=fc a.dst b.looks||(fc b.dst a.looks||(fc a.dst b.dst||(fc a.wr b.rd||(fc b.wr a.rd||fc a.wr b.wr))))
def mw (all:List Oper) (o:Oper):List Nat:=
 (o.op.operands.toList.filterMap fun |.tmp t=>some t |_=>none)++(match o.guard with
  |some (g,_)=>((all[g]?).bind (·.dst)).toList
  |none=>[])
def dI (o:Oper):List Nat:=o.after.toList.filterMap fun e=>if Region.binds .any e then some e.on else none
def iG (acc:List Nat):List Nat→Nat
 |[]=>0
 |i::l=>Nat.lor (Nat.lor (Nat.shiftLeft 1 i) (acc.getD i 0)) (iG acc l)
def gM:List Oper→List Nat→List Nat
 |[],acc=>acc
 |o::l,acc=>gM l (acc++[iG acc (dI o)])
def Mx (all:List Oper):List Nat:=gM all []
def gb (anc:Nat) (r:qA):Nat→List qA→Bool
 |_,[]=>true
 |i,q::l=>(!rJ q r||Nat.testBit anc i)&&gb anc r (i+1) l
def ig:List Nat→List qA→List qA→Bool
 |_,_,[]=>true
 |[],_,_=>false
 |anc::Mx,pre,r::l=>gb anc r 0 pre&&ig Mx (pre++[r]) l
def lR:Nat→List Oper→Bool
 |_,[]=>true
 |k,o::l=>((dI o).all fun i=>Nat.blt i k)&&lR (k+1) l
def Uc (all:List Oper):Bool:=all.all fun o=>match o.op with
 |.select .. =>false
 |_=>true
def uQ (all:List Oper) (recs:List qA):Bool:=lR 0 all&&(Uc all&&ig (Mx all) [] recs)
def C9 (k:Nat) (acc:List Nat):List Nat→Nat
 |[]=>0
 |e::l=>Nat.lor (acc.getD (k - 1 - e) 0) (C9 k acc l)
def sJ:Nat→List Oper→List qA→List Nat→Nat→Nat→Nat→Nat→Bool
 |_,_,[],_,_,_,_,_=>true
 |_,[],_::_,_,_,_,_,_=>false
 | k,o::os,r::rs,acc,D,L,R,W=>
  (Nat.beq (Nat.land (Nat.land D r.looks) (C9 k acc (dI o))) (Nat.land D r.looks)&&(!fc D r.dst&&(!fc L r.dst&&(!fc W r.rd&&(!fc R r.wr&& !fc W r.wr)))))&&
   sJ (k+1) os rs (Nat.lor r.dst (C9 k acc (dI o))::acc) (Nat.lor D r.dst) (Nat.lor L r.looks) (Nat.lor R r.rd) (Nat.lor W r.wr)
theorem jq {a b:Nat}:fc a b=false↔∀s,a.testBit s=true→b.testBit s=true→False:=by
 unfold fc
 rw [Bool.not_eq_false',Nat.beq_eq]
 constructor
 · intro h s h1 h2
   have:=Nat.testBit_and a b s
   rw [show Nat.land a b=a&&&b from rfl] at h
   rw [h,h1,h2] at this
   simp at this
 · intro h
   show a&&&b=0
   apply Nat.eq_of_testBit_eq
   intro s
   rw [Nat.testBit_and]
   cases h1:a.testBit s with
   |false=>simp
   |true=>
    cases h2:b.testBit s with
    |false=>simp
    |true=>exact (h s h1 h2).elim
theorem lD {a b c:Nat} (h:fc a c=false) (hb:∀s,b.testBit s=true→a.testBit s=true):fc b c=false:=jq.2 fun s h1 h2=>jq.1 h s (hb s h1) h2
theorem yz {a b:Nat} (h:fc a b=false):fc b a=false:=jq.2 fun s h1 h2=>jq.1 h s h2 h1
theorem fm (a b s:Nat):(Nat.lor a b).testBit s=(a.testBit s||b.testBit s):=Nat.testBit_or a b s
theorem t7:∀(os:List Oper) (acc:List Nat),∃t,gM os acc=acc++t
 |[],acc=>⟨[],by simp [gM]⟩
 |o::os,acc=>by
  obtain ⟨t,ht⟩:=t7 os (acc++[iG acc (dI o)])
  exact ⟨iG acc (dI o)::t,by rw [gM,ht];simp⟩
structure TF (k:Nat) (pre:List qA) (ancP acc:List Nat) (D L R W:Nat):Prop where
 len:pre.length=k
 lanc:ancP.length=k
 dD:∀q∈pre,∀s,q.dst.testBit s=true→D.testBit s=true
 dL:∀q∈pre,∀s,q.looks.testBit s=true→L.testBit s=true
 dR:∀q∈pre,∀s,q.rd.testBit s=true→R.testBit s=true
 dW:∀q∈pre,∀s,q.wr.testBit s=true→W.testBit s=true
 one:∀(i j:Nat) (p q:qA) (s:Nat),pre[i]? =some p→pre[j]? =some q→p.dst.testBit s=true→q.dst.testBit s=true→i=j
 acc:∀i,i<k→∀s:Nat,(acc.getD (k - 1 - i) 0).testBit s=true→∃j q,(j=i∨(ancP.getD i 0).testBit j=true)∧pre[j]? =some q∧q.dst.testBit s=true
theorem oM {k:Nat} {pre:List qA} {ancP acc:List Nat} {D L R W:Nat} (h:TF k pre ancP acc D L R W):∀(es:List Nat),(∀e∈es,e<k)→∀s,(C9 k acc es).testBit s=true→∃j q,(iG ancP es).testBit j=true∧pre[j]? =some q∧q.dst.testBit s=true
 |[],_,s,hs=>by simp [C9] at hs
 | e::es,he,s,hs=>by
  rw [C9,fm,Bool.or_eq_true] at hs
  rcases hs with hs |hs
  · obtain ⟨j,q,hj,h1,h2⟩:=h.acc e (he e (by simp)) s hs
    refine ⟨j,q,?_,h1,h2⟩
    rw [iG,fm,fm,Bool.or_eq_true,Bool.or_eq_true]
    rcases hj with rfl |hj
    · exact .inl (.inl (by show (1 <<<j).testBit j=true;simp))
    · exact .inl (.inr hj)
  · obtain ⟨j,q,hj,h1,h2⟩:=oM h es (fun e' h'=>he e' (by simp [h'])) s hs
    refine ⟨j,q,?_,h1,h2⟩
    rw [iG,fm,hj]
    simp
theorem oD {anc:Nat} {r:qA}:∀(l:List qA) (i:Nat),(∀(j:Nat) (q:qA),l[j]? =some q→rJ q r=false∨anc.testBit (i+j)=true)→gb anc r i l=true
 |[],_,_=>rfl
 | q::l,i,h=>by
  rw [gb,Bool.and_eq_true,Bool.or_eq_true]
  refine ⟨?_,oD l (i+1) fun j q' hq=>?_⟩
  · rcases h 0 q (by simp) with h1 |h1
    · exact .inl (by rw [h1];rfl)
    · exact .inr (by simpa using h1)
  · have:=h (j+1) q' (by simpa using hq)
    rwa [show i+1+j=i+(j+1) by omega]
theorem Fb:∀(rs:List qA) (os:List Oper) (k:Nat) (pre:List qA) (ancP acc:List Nat) (D L R W:Nat),TF k pre ancP acc D L R W→lR k os=true→sJ k os rs acc D L R W=true→ig ((gM os ancP).drop k) pre rs=true
 |[],_,_,_,_,_,_,_,_,_,_,_,_=>by simp [ig]
 |_::_,[],_,_,_,_,_,_,_,_,_,_,h=>by simp [sJ] at h
 | r :: rs,o::os,k,pre,ancP,acc,D,L,R,W,hI,hb,h=>by
  rw [sJ,Bool.and_eq_true] at h
  obtain ⟨h,hrest⟩:=h
  simp only [Bool.and_eq_true,Bool.not_eq_true'] at h
  obtain ⟨hs,h1,h2,h3,h4,h5⟩:=h
  rw [lR,Bool.and_eq_true,List.all_eq_true] at hb
  obtain ⟨he,hb⟩:=hb
  have he:∀e∈dI o,e<k:=fun e h=>by have:=he e h;rwa [Nat.blt_eq] at this
  have hs:=Nat.eq_of_beq_eq_true hs
  obtain ⟨t,ht⟩:=t7 os (ancP++[iG ancP (dI o)])
  have hd:(gM (o::os) ancP).drop k=iG ancP (dI o)::(gM os (ancP++[iG ancP (dI o)])).drop (k+1):=by
   rw [gM,ht,←hI.lanc]
   simp [List.append_assoc,List.drop_append]
  rw [hd,ig,Bool.and_eq_true]
  refine ⟨oD pre 0 fun j q hq=>?_,Fb rs os (k+1) (pre++[r]) _ _ _ _ _ _ ?_ hb hrest⟩
  · have hm:=List.mem_of_getElem? hq
    cases hk:(iG ancP (dI o)).testBit j with
    |true=>exact .inr (by rw [Nat.zero_add];exact hk)
    | false=>
     left
     unfold rJ
     have c1:fc q.dst r.looks=false:=jq.2 fun s s1 s2=>by
      have hin:(Nat.land D r.looks).testBit s=true:=by
       show (D&&&r.looks).testBit s=true
       rw [Nat.testBit_and,hI.dD q hm s s1,s2];rfl
      rw [←hs] at hin
      have hin2:((D&&&r.looks)&&&C9 k acc (dI o)).testBit s=true:=hin
      rw [Nat.testBit_and,Bool.and_eq_true] at hin2
      obtain ⟨j',q',hj',hq',hs'⟩:=oM hI _ he s hin2.2
      have:=hI.one j j' q q' s hq hq' s1 hs'
      rw [←this,hk] at hj'
      cases hj'
     rw [c1,yz (lD h2 (hI.dL q hm)),lD h1 (hI.dD q hm),lD h3 (hI.dW q hm),yz (lD h4 (hI.dR q hm)),lD h5 (hI.dW q hm)]
     rfl
  · have hmem:∀q∈pre++[r],q∈pre∨q=r:=fun q hq=>by simpa using hq
    refine ⟨by simp [hI.len],by simp [hI.lanc],fun q hq s hz=>?_,fun q hq s hz=>?_,fun q hq s hz=>?_,fun q hq s hz=>?_,fun i j p q s hi hj hp hq=>?_,fun i hi s hs=>?_⟩
    · rw [fm,Bool.or_eq_true]
      rcases hmem q hq with hq |rfl
      · exact .inl (hI.dD q hq s hz)
      · exact .inr hz
    · rw [fm,Bool.or_eq_true]
      rcases hmem q hq with hq |rfl
      · exact .inl (hI.dL q hq s hz)
      · exact .inr hz
    · rw [fm,Bool.or_eq_true]
      rcases hmem q hq with hq |rfl
      · exact .inl (hI.dR q hq s hz)
      · exact .inr hz
    · rw [fm,Bool.or_eq_true]
      rcases hmem q hq with hq |rfl
      · exact .inl (hI.dW q hq s hz)
      · exact .inr hz
    · have cs:∀(i:Nat) (p:qA),(pre++[r])[i]? =some p→pre[i]? =some p∨(i=k∧p=r):=fun i p h=>by
       by_cases hlt:i<pre.length
       · rw [List.getElem?_append_left hlt] at h;exact .inl h
       · rw [List.getElem?_append_right (by omega)] at h
         have hl:=hI.len
         cases hz:i - pre.length with
         |zero=>rw [hz] at h;simp at h;exact .inr ⟨by omega,h.symm⟩
         |succ n=>rw [hz] at h;simp at h
      have no:∀(i:Nat) (p:qA),pre[i]? =some p→p.dst.testBit s=true→r.dst.testBit s=true→False:=fun i p h hp hr=>jq.1 h1 s (hI.dD p (List.mem_of_getElem? h) s hp) hr
      rcases cs i p hi with hi2 |⟨e1,e2⟩<;>rcases cs j q hj with hj2 |⟨e3,e4⟩
      · exact hI.one i j p q s hi2 hj2 hp hq
      · exact (no i p hi2 hp (e4 ▸ hq)).elim
      · exact (no j q hj2 hq (e2 ▸ hp)).elim
      · omega
    · have pg:∀(j:Nat) (q:qA),pre[j]? =some q→(pre++[r])[j]? =some q:=fun j q h=>by rw [List.getElem?_append_left (List.getElem?_eq_some_iff.1 h).1];exact h
      by_cases hik:i=k
      · subst hik
        rw [show i+1 - 1 - i=0 by omega] at hs
        simp only [List.getD_cons_zero] at hs
        rw [fm,Bool.or_eq_true] at hs
        have hl:=hI.len
        have hla:=hI.lanc
        rcases hs with hs |hs
        · exact ⟨i,r,.inl rfl,by rw [List.getElem?_append_right (by omega),hl];simp,hs⟩
        · obtain ⟨j,q,a1,a2,a3⟩:=oM hI _ he s hs
          refine ⟨j,q,.inr ?_,pg j q a2,a3⟩
          rw [List.getD_eq_getElem?_getD,List.getElem?_append_right (by omega),hla]
          simpa using a1
      · rw [show k+1 - 1 - i=(k - 1 - i)+1 by omega,List.getD_cons_succ] at hs
        obtain ⟨j,q,a1,a2,a3⟩:=hI.acc i (by omega) s hs
        refine ⟨j,q,?_,pg j q a2,a3⟩
        rcases a1 with a1 |a1
        · exact .inl a1
        · right
          have hla:=hI.lanc
          rw [List.getD_eq_getElem?_getD,List.getElem?_append_left (by omega),←List.getD_eq_getElem?_getD]
          exact a1
def xx (all:List Oper) (recs:List qA):Bool:=lR 0 all&&(Uc all&&(sJ 0 all recs [] 0 0 0 0||ig (Mx all) [] recs))
theorem GR {all:List Oper} {recs:List qA} (h:xx all recs=true):uQ all recs=true:=by
 unfold xx at h
 unfold uQ
 simp only [Bool.and_eq_true,Bool.or_eq_true] at h ⊢
 refine ⟨h.1,h.2.1,?_⟩
 rcases h.2.2 with h3 |h3
 · have:=Fb recs all 0 [] [] [] 0 0 0 0 ⟨rfl,rfl,by simp,by simp,by simp,by simp,by simp,by simp⟩ h.1 h3
   simpa [Mx] using this
 · exact h3
def oK (rows:List Row) (ids:List Nat):List Nat:=ids++(ids.flatMap fun i=>(rows.getD i .gone).idsR)
def qK:List Nat→List Nat
 |[]=>[]
 |x::l=>bif iR x l then qK l else x::qK l
def cu (rows:List Row) (args:List SV):List Nat:=qK (oK rows (qK (oK rows (qK (SV.idsL args)))))
def bF (rch:List Nat):Nat→List Row→List Row
 |_,[]=>[]
 |i,r::l=>(bif iR i rch&& !r.isObj then r else .gone)::bF rch (i+1) l
def iE (old rows:List Row):List Nat→List (Nat×Row)
 |[]=>[]
 |i::l=>match old[i]?,rows[i]? with
  |some (.own _),some r=>(i,r)::iE old rows l
  |some (.vec false _ _),some r=>(i,r)::iE old rows l
  |some (.pre false _),some r=>(i,r)::iE old rows l
  |_,_=>iE old rows l
def eH (n:Nat) (l:List Nat):Bool:=l.all fun i=>Nat.blt i n
def gp (rows:List Row) (rch:List Nat):Bool:=eH rows.length rch&&rch.all fun i=>(rows.getD i .gone).idsR.all fun j=>iR j rch
def d6 (old:List Row) (rch:List Nat) (v:SV) (rows:List Row):aL:=
 bif eH old.length (v.ids++(iE old rows rch).flatMap fun x=>x.2.idsR) then {val:=v,rd:=rch,wr:=iE old rows rch,nw:=[]}
 else {val:=v,rd:=rch,wr:=iE old rows rch,nw:=rows.drop old.length}
def lS:Row→Row
 |.own cs=>.pre true cs
 |.pre _ cs=>.pre true cs
 |.vec _ k xs=>.vec true k xs
 |r=>r
def uP (n:Nat):SV→Bool
 |.ptr _ _ _ _=>true
 |.slice id _ _ _ _=>Nat.ble n id
 |v=>v.ids.isEmpty
def gt (n:Nat) (r:Row):Row:=bif r.isObj|| !(r.idsR.all fun i=>Nat.ble n i) then .gone else r
def jG (old:List Row) (rch:List Nat) (v:SV) (rows:List Row):aL:=
 {val:=v,rd:=rch,nw:=bif eH old.length v.ids then [] else (rows.drop old.length).map (gt old.length)}
def E5 (rows:List Row):List (Nat×Row)→Bool
 |[]=>true
 |(i,_)::l=>(match rows[i]? with
  |some (.own _)=>true
  |some (.vec false _ _)=>true
  |some (.pre false _)=>true
  |_=>false)&&((!iR i (l.map (·.1)))&&E5 rows l)
def EY (rows:List Row):List (Nat×Row)→Bool
 |[]=>true
 |(i,_)::l=>(match rows[i]? with
  |some _=>true
  |none=>false)&&((!iR i (l.map (·.1)))&&EY rows l)
def iP (e:aL):Bool:=(e.wr.all fun x=> !x.2.isObj)&&e.nw.all fun r=> !r.isObj
def FV (rows:List Row) (op:Op) (e:aL):Bool:=match e.obj with
 |true=>Tx op&&EY rows e.wr
 |false=>E5 rows e.wr&&iP e
def QR (X:bS) (ev:Operand→SV):Op→Option (Nat×Func×List SV)
 | .call ⟨.value f,args,_⟩=>match ev f with
  |.fn fid caps=>match X.fn fid with
   |some fn=>some (fid,fn,args.toList.map ev++caps)
   |none=>none
  |_=>none
 |_=>none
def fY (all:List Oper) (o:Oper) (n:Nat) (e:aL):qA:=⟨fD (mw all o),fD (Bo o.dst),fD e.rd,fD (e.wr.map (·.1)++(List.range e.nw.length).map (n+ ·))⟩
def sS {α β:Type}:List α→(List α→β)→β
 |[],k=>k []
 |x::l,k=>sS l fun m=>k (x::m)
theorem pr {α β:Type}:∀(l:List α) (k:List α→β),sS l k=k l
 |[],_=>rfl
 |x::l,k=>by rw [sS,pr l]
def xJ {β:Type} (s:St) (k:St→β):β:=sS s.tmps.cs fun t=>sS s.rows fun r=>k ⟨⟨s.tmps.n,t⟩,r⟩
theorem D9 {β:Type} (s:St) (k:St→β):xJ s k=k s:=by unfold xJ;rw [pr,pr]
def oO (X:bS) (ev:Operand→SV) (rows:List Row) (op:Op):Option (Bool×SV):=match kJ X.T ev op with
 |some r=>some r
 | none=>match fS X ev rows op with
  |some e=>match e.obj,e.wr,e.nw with
   |false,[],[]=>some (e.ok,e.val)
   |_,_,_=>none
  |none=>none
abbrev Jr:=List (Nat×Bool×Nat)
def tZ (kn:Jr) (j:Nat) (w:Bool):Bool:=kn.any fun x=>Nat.beq x.1 j&&(x.2.1==w)
def fV (kn:Jr) (d:Option Nat):Bool:=match d with
 |some d=>kn.all fun x=> !Nat.beq x.2.2 d
 |none=>true
def nW (i j0:Nat) (want:Bool) (o:Oper):Bool:=match o.guard with
 |some (j,w)=>(Nat.beq j j0&&(w==want))||Nat.ble i j
 |none=>false
def jz (all:List Oper) (t:Nat) (want:Bool):List Oper→Tm→Option Tm
 |[],ts=>some ts
 | o::rest,ts=>bif jk ts o.dst&&fV [(0,true,t)] o.dst then (match o.guard with
  | some (j,w)=>match (all[j]?).bind (·.dst) with
   |none=>jz all t want rest (dJ ts o.dst (.tuple []))
   |some g=>bif Nat.beq g t&&(w==want) then jz all t want rest (dJ ts o.dst (.tuple [])) else match ts.get g with
    |.tuple []=>jz all t want rest (dJ ts o.dst (.tuple []))
    |_=>none
  |none=>none) else none
def mG:List Oper→Tm→Tm
 |[],ts=>ts
 |o::rest,ts=>mG rest (dJ ts o.dst .top)
def rN (all:List Oper) (kn:Jr) (ts:Tm) (o:Oper):Yx:=match o.guard with
 |none=>.yes
 |some (j,w)=>bif tZ kn j w then .yes else lA all ts o
def Vs (kn:Jr) (p:Oper):Bool:=match p.guard with
 |none=>true
 |some (j,w)=>tZ kn j w
def fB (X :bS) (all:List Oper) (rows:List Row):Nat→Nat→Jr→List Oper→Tm→Option (Bool×Tm)
 |0,_,_,_,_=>none
 |_+1,_,_,[],ts=>some (true,ts)
 | n + 1, i,kn,o::rest,ts=>bif jk ts o.dst&&fV kn o.dst then
     (match rN all kn ts o with
     |.lost=>none
     |.no=>fB X all rows n (i+1) kn rest (dJ ts o.dst (.tuple []))
     | .yes=>match oO X (St.mk ts rows).ev rows o.op with
      |some (ok,v)=>match fB X all rows n (i+1) kn rest (dJ ts o.dst v) with
       |some (ok',ts')=>some (ok&&ok',ts')
       |none=>none
      |none=>none
     | .ask t b w=>match o.guard with
      |none=>none
      | some (j,_)=>
       match (o::rest).drop ((o::rest).takeWhile (nW i j w)).length with
       |[]=>none
       | p ::rest2=>
        bif Vs kn p&&(jk ts p.dst&&(fV ((j,w,t)::kn) p.dst&&ts.inb t)) then
         (match fB X all rows n i ((j,w,t)::kn) ((o::rest).takeWhile (nW i j w)) ts,jz all t w ((o::rest).takeWhile (nW i j w)) ts with
         | some (ok1,ts1),some ts0=>match kJ X.T (St.mk (ts1.set t (.bool w)) rows).ev p.op,kJ X.T (St.mk (ts0.set t (.bool (!w))) rows).ev p.op with
          |some (okA,.bool d1),some (okB,.bool d2)=>
           (match fB X all rows n (i+((o::rest).takeWhile (nW i j w)).length+1) kn rest2 (dJ (mG ((o::rest).takeWhile (nW i j w)) ts) p.dst (.bool (bif (b==w) then d1 else d2))) with
           |some (ok',ts')=>some ((((ok1&&okA)||b !=w)&&(okB||b==w))&&ok',ts')
           |none=>none)
          |_,_=>none
         |_,_=>none)
        else none)
  else none
def Ca (X:bS) (all:List Oper) (rows:List Row) (i:Nat) (ops:List Oper) (ts:Tm):Option (Nat×Bool×Tm):=match ops with
 |[]=>none
 | o::_=>match o.guard with
  |none=>none
  |some (j,w)=>match fB X all rows (2*ops.length+2) i [] (ops.take ((ops.takeWhile (nW i j w)).length+1)) ts with
   |some (ok,ts')=>some ((ops.takeWhile (nW i j w)).length,ok,ts')
   |none=>none
def cS (X:bS) (go:Nat→Func→List SV→List Row→(SV→List Row→Option aj)→Option aj) (draw:Bool) (all:List Oper):List Oper→Nat→St→List qA→(St→Option aj)→Option aj
 |[],_,s,recs,K=>bif !draw||xx all recs.reverse then K s else none
 |_::rest,k+1,s,recs,K=>cS X go draw all rest k s recs K
 | o :: rest,0,s0,recs,K=>xJ s0 fun s=>
  let body:Bool→Tm→Option aj:=fun b ts=>bif !jk ts o.dst then none else match b with
   |false=>cS X go draw all rest 0 ⟨dJ ts o.dst (.tuple []),s.rows⟩ (fY all o s.rows.length {val:=.tuple []}::recs) K
   | true=>match QR X (St.mk ts s.rows).ev o.op with
    | some (fid,fn,args)=>bif X.ro fid then (bif gp s.rows (cu s.rows args) then go fid fn args ((bF (cu s.rows args) 0 s.rows).map lS) fun v rows'=>
        bif uP s.rows.length v then cS X go draw all rest 0 ((St.mk ts s.rows).after o.dst (jG s.rows (cu s.rows args) v rows')) (fY all o s.rows.length (jG s.rows (cu s.rows args) v rows')::recs) K else none
     else none) else bif gp s.rows (cu s.rows args) then go fid fn args (bF (cu s.rows args) 0 s.rows) fun v rows'=>
      bif E5 s.rows (d6 s.rows (cu s.rows args) v rows').wr&&iP (d6 s.rows (cu s.rows args) v rows') then cS X go draw all rest 0 ((St.mk ts s.rows).after o.dst (d6 s.rows (cu s.rows args) v rows')) (fY all o s.rows.length (d6 s.rows (cu s.rows args) v rows')::recs) K else none
     else none
    | none=>match kJ X.T (St.mk ts s.rows).ev o.op with
     |some (ok,v)=>bif ok then cS X go draw all rest 0 ⟨dJ ts o.dst v,s.rows⟩ (fY all o s.rows.length {val:=v}::recs) K else none
     |none=>match fS X (St.mk ts s.rows).ev s.rows o.op with
      |some e=>bif FV s.rows o.op e then (bif e.ok then cS X go draw all rest 0 ((St.mk ts s.rows).after o.dst e) (fY all o s.rows.length e::recs) K else none) else none
      |none=>none
  match lA all s.tmps o with
  |.lost=>none
  |.yes=>body true s.tmps
  |.no=>body false s.tmps
  | .ask t b want=>match (bif draw then none else Ca X all s.rows (all.length - (o::rest).length) (o::rest) s.tmps) with
   |some (k,ok,ts)=>bif ok then cS X go draw all rest k ⟨ts,s.rows⟩ recs K else none
   |none=>match b with
    |true=>bif s.tmps.inb t then body want (s.tmps.set t (.bool true)) else none
    |false=>bif s.tmps.inb t then body (!want) (s.tmps.set t (.bool false)) else none
def xE (X:bS) (s:St):ResultVar→Option SV
 |.tmp t=>some (s.tmps.get t)
 | .cell t ty=>match s.tmps.get t,X.T ty with
  |.ptr id st i j,some ti=>match s.rows[id]? with
   |some (.own cells)=>mM ti cells (i*st+j)
   |_=>none
  |_,_=>none
def t9 (X:bS) (s:St):List ResultVar→Option (List SV)
 |[]=>some []
 |r::l=>match xE X s r,t9 X s l with
  |some v,some vs=>some (v::vs)
  |_,_=>none
def Iy (X:bS) (fn:Func) (s:St):Option SV:=match t9 X s fn.results.toList with
 |some [v]=>some v
 |some vs=>some (.tuple vs)
 |none=>none
def Bn (X:bS) (fn:Func) (k:SV→List Row→Option aj) (e:Ex) (s:St):Option aj:=match e with
 |.exit _=>none
 |.normal=>match Iy X fn s with
  |some v=>k v s.rows
  |none=>none
 |.ret=>match Iy X fn s with
  |some v=>k v s.rows
  |none=>none
abbrev dq:=St→(Ex→St→Option aj)→Option aj
def iA (fn:Func) (args:List SV) (rows:List Row):St:=⟨Tm.of (args++List.replicate (fn.ntmps - args.length) (.tuple [])),rows⟩
def fL (X:bS) (L:Nat→List Nat→Option dq):Nat→Nat→List Nat→Code→St→(Ex→St→Option aj)→Option aj
 |0,_,_,_,_,_=>none
 | n +1,f,p,c,s,K=>match c with
  |.skip=>K .normal s
  |.seq a b=>fL X L n f (0::p) a s fun e s'=>match e with
   |.normal=>fL X L n f (1::p) b s' K
   |.exit i=>K (.exit i) s'
   |.ret=>K .ret s'
  | .cond c a b=>match s.ev c with
   |.bool t=>match t with
    |true=>fL X L n f (0::p) a s K
    |false=>fL X L n f (1::p) b s K
   |_=>none
  |.block id b=>fL X L n f (0::p) b s fun e s'=>match e with
   |.normal=>K .normal s'
   |.exit i=>bif Nat.beq i id then K .normal s' else K (.exit i) s'
   |.ret=>K .ret s'
  | .loop b=>match L f p with
   |some F=>F s K
   |none=>fL X L n f (0::p) b s fun e s'=>match e with
    |.normal=>fL X L n f p (.loop b) s' K
    |.exit i=>K (.exit i) s'
    |.ret=>K .ret s'
  |.exit id=>K (.exit id) s
  |.ret=>K .ret s
  | .region _ ops draw=>cS X (fun fid fn args rows k=>match fn.body with
      |some body=>fL X L n fid [] body (iA fn args rows) (Bn X fn k)
      |none=>none) draw ops.toList ops.toList 0 s [] fun s'=>K .normal s'
  |_=>none
def gU (rows:List Row):Bool:=rows.all fun r=> !r.isObj
def Jy (X:bS) (L:Nat→List Nat→Option dq) (n:Nat) (f:Nat) (fn:Func) (args:List SV) (rows:List Row):Option aj:=match fn.body with
 |some body=>bif gU rows then fL X L n f [] body (iA fn args rows) (Bn X fn fun v rows=>some (v,rows)) else none
 |none=>none
theorem m8:∀(n k:Nat),(jt k n).length=n
 |0,_=>rfl
 |n+1,k=>by rw [jt,List.length_cons,m8 n]
theorem oX:∀(n k j:Nat),j<n→(jt k n)[j]? =some (.ptr (k+j) 0 0 0)
 |0,_,_,h=>by omega
 |n+1,k,0,_=>by simp [jt]
 |n+1,k,j+1,h=>by
  rw [jt,List.getElem?_cons_succ,oX n (k+1) j (by omega)]
  congr 2
  omega
theorem WS.rows_len (s:WS) (l:bp):(s.rows l).length=5+s.ps.length:=by
 simp [WS.rows];omega
theorem WS.rows_player (s:WS) (l:bp) (k:Nat):(s.rows l)[5+k]? =(s.ps[k]?).map fun p=>.own p.sv:=by
 rw [show 5+k=k+5 by omega]
 simp [WS.rows]
section
variable {ρ0:aR} {l:bp} {s:WS} {w:World}
theorem ma {ρ:aR} {w:World} {b j id st len c:Nat} {v:Value} (h:aE ρ (.slice id st 0 len (some c)) v) (hc:w.cell? ⟨b,j,none⟩=some v):∃q,ρ id=some q∧ui w b j=some (q.b,len)∧v=.slice (some ⟨q.b,q.base,none⟩) len c:=by
 simp only [aE] at h
 rcases h with ⟨q,o,c',hq,rfl,hcc,ho,_⟩|⟨_,h,_⟩
 · have ho:o=q.base:=by
    rcases ho with ho |⟨_,ho⟩
    · omega
    · cases ho
   subst ho
   obtain rfl:=hcc _ rfl
   exact ⟨q,hq,by unfold ui;rw [hc],rfl⟩
 · cases h
theorem Pm.foot (hW:Pm ρ0 l s w) {p:uc} (h0:ρ0 0=some p) (x:Nat):c6 w p.b x↔∃i q,ρ0 i=some q∧q.b=x:=by
 obtain ⟨p',vs,ty,hp',hb0,hm,hh,hr⟩:=hW.rows 0 _ (by simp [WS.rows];rfl)
 rw [h0] at hp';cases hp'
 have hcell:∀j v,vs[j]? =some v→w.cell? ⟨p.b,j,none⟩=some v:=fun j v h=>by rw [eb hh];exact h
 obtain ⟨v3,g3,r3⟩:=hr.get (i:=3) (x:=.slice 1 1 0 s.cells.length (some l.cc)) rfl
 obtain ⟨v4,g4,r4⟩:=hr.get (i:=4) (x:=.slice 2 3 0 s.spawns.length (some l.sc)) rfl
 obtain ⟨q1,e1,s1,_⟩:=ma r3 (hcell _ _ g3)
 obtain ⟨q2,e2,s2,_⟩:=ma r4 (hcell _ _ g4)
 have h6:(l.pc=none∧ui w p.b 6=none)∨∃c q,l.pc=some c∧ρ0 3=some q∧ui w p.b 6=some (q.b,s.ps.length)∧∀k,k<s.ps.length→∃r,ρ0 (5+k)=some r∧Uz w q.b k=some r.b:=by
  cases hpc:l.pc with
  |none=>
   obtain ⟨v,g,r⟩:=hr.get (i:=6) (x:=.nils) (by simp [WS.cellsS,hpc])
   simp only [aE] at r
   subst r
   exact .inl ⟨rfl,by unfold ui;rw [hcell _ _ g]⟩
  |some c=>
   obtain ⟨v,g,r⟩:=hr.get (i:=6) (x:=.slice 3 1 0 s.ps.length (some c)) (by simp [WS.cellsS,hpc])
   obtain ⟨q,e,sb,_⟩:=ma r (hcell _ _ g)
   refine .inr ⟨c,q,rfl,e,sb,fun k hk=>?_⟩
   obtain ⟨q',vs',ty',hq',hqb,_,hqh,_,hqr⟩:=hW.rows 3 (.pre false (jt 5 s.ps.length)) (by simp [WS.rows,hpc])
   rw [e] at hq';cases hq'
   obtain ⟨u,hu,ru⟩:=hqr.get (oX _ 5 k hk)
   simp only [aE] at ru
   obtain ⟨r,hr1,rfl⟩:=ru
   rw [List.getElem?_take] at hu
   split at hu
   · exact ⟨r,hr1,by unfold Uz;rw [eb hqh,hu]⟩
   · cases hu
 have h7:(l.hc=none∧ui w p.b 7=none)∨∃c q,l.hc=some c∧ρ0 4=some q∧ui w p.b 7=some (q.b,s.shots.length):=by
  cases hhc:l.hc with
  |none=>
   obtain ⟨v,g,r⟩:=hr.get (i:=7) (x:=.nils) (by simp [WS.cellsS,hhc])
   simp only [aE] at r
   subst r
   exact .inl ⟨rfl,by unfold ui;rw [hcell _ _ g]⟩
  |some c=>
   obtain ⟨v,g,r⟩:=hr.get (i:=7) (x:=.slice 4 11 0 s.shots.length (some c)) (by simp [WS.cellsS,hhc])
   obtain ⟨q,e,sb,_⟩:=ma r (hcell _ _ g)
   exact .inr ⟨c,q,rfl,e,sb⟩
 constructor
 · rintro (rfl |⟨j,n,hj,hs⟩|⟨y,n,k,hs,hk,hp⟩)
   · exact ⟨0,p,h0,rfl⟩
   · rcases hj with rfl |rfl |rfl |rfl
     · rw [s1] at hs;cases hs;exact ⟨1,q1,e1,rfl⟩
     · rw [s2] at hs;cases hs;exact ⟨2,q2,e2,rfl⟩
     · rcases h6 with ⟨_,h6⟩|⟨c,q,_,e,h6,_⟩
       · rw [h6] at hs;cases hs
       · rw [h6] at hs;cases hs;exact ⟨3,q,e,rfl⟩
     · rcases h7 with ⟨_,h7⟩|⟨c,q,_,e,h7⟩
       · rw [h7] at hs;cases hs
       · rw [h7] at hs;cases hs;exact ⟨4,q,e,rfl⟩
   · rcases h6 with ⟨_,h6⟩|⟨c,q,_,e,h6,hpl⟩
     · rw [h6] at hs;cases hs
     · rw [h6] at hs;cases hs
       obtain ⟨r,hr1,hr2⟩:=hpl k hk
       rw [hr2] at hp;cases hp
       exact ⟨5+k,r,hr1,rfl⟩
 · rintro ⟨i,q,hq,rfl⟩
   match i,hq with
   |0,hq=>rw [h0] at hq;cases hq;exact .inl rfl
   |1,hq=>rw [e1] at hq;cases hq;exact .inr (.inl ⟨3,_,.inl rfl,s1⟩)
   |2,hq=>rw [e2] at hq;cases hq;exact .inr (.inl ⟨4,_,.inr (.inl rfl),s2⟩)
   |3,hq=>
    rcases h6 with ⟨h6,_⟩|⟨c,q',_,e,h6,_⟩
    · rw [(hW.pc h6).1] at hq;cases hq
    · rw [e] at hq;cases hq;exact .inr (.inl ⟨6,_,.inr (.inr (.inl rfl)),h6⟩)
   |4,hq=>
    rcases h7 with ⟨h7,_⟩|⟨c,q',_,e,h7⟩
    · rw [(hW.hc h7).1] at hq;cases hq
    · rw [e] at hq;cases hq;exact .inr (.inl ⟨7,_,.inr (.inr (.inr rfl)),h7⟩)
   | i +5,hq=>
    by_cases hi:i<s.ps.length
    · rcases h6 with ⟨h6,_⟩|⟨c,q',_,e,h6,hpl⟩
      · rw [(hW.pc h6).2] at hi;simp at hi
      · obtain ⟨r,hr1,hr2⟩:=hpl i hi
        rw [show 5+i=i+5 by omega,hq] at hr1
        cases hr1
        exact .inr (.inr ⟨_,_,i,h6,hi,hr2⟩)
    · rw [hW.free (i+5) (by rw [WS.rows_len];omega)] at hq
      cases hq
theorem Pm.keep (hW:Pm ρ0 l s w) {w':World} (hs:w.heap.size≤w'.heap.size) (hb:∀i q,ρ0 i=some q→w'.heap[q.b]? =w.heap[q.b]?):Pm ρ0 l s w':=
 ⟨fun i row hi=>(hW.rows i row hi).keep (aR.le.refl _) fun p hp=>hb i p hp,fun i p hp=>Nat.lt_of_lt_of_le (hW.good i p hp) hs,hW.apart,hW.free,hW.pc,hW.hc,hW.few⟩
end
theorem IK.size {w:World} {b:Nat} {s:WS} (h:IK w b s) {x:Nat} (hx:c6 w b x):x<w.heap.size:=by
 obtain ⟨ρ0,l,p,hW,h0,rfl⟩:=h
 obtain ⟨i,q,hq,rfl⟩:=(hW.foot h0 x).1 hx
 exact hW.good i q hq
theorem IK.keep {w w':World} {b:Nat} {s:WS} (h:IK w b s) (hs:w.heap.size≤w'.heap.size) (hb:∀x,c6 w b x→w'.heap[x]? =w.heap[x]?):IK w' b s∧∀x,c6 w' b x↔c6 w b x:=by
 obtain ⟨ρ0,l,p,hW,h0,rfl⟩:=h
 have hW':=hW.keep hs fun i q hq=>hb _ ((hW.foot h0 _).2 ⟨i,q,hq,rfl⟩)
 exact ⟨⟨ρ0,l,p,hW',h0,rfl⟩,fun x=>(hW'.foot h0 x).trans (hW.foot h0 x).symm⟩
theorem zG.step {ρ ρ':aR} {m m':jM} {w w':World} (h:zG ρ m w) (hle:ρ.le ρ') (hobj:∀i s,m' i=some (.obj s)→m i=some (.obj s)) (hs:w.heap.size≤w'.heap.size)
    (hb:∀b,b<w.heap.size→ ¬ fZ ρ m b→w'.heap[b]? =w.heap[b]?) (hn:∀j q,bq m' j→ρ' j=some q→(bq m j∧ρ j=some q)∨w.heap.size≤q.b∨fZ ρ m q.b):
    zG ρ' m' w'∧∀i s p,m' i=some (.obj s)→ρ' i=some p→ρ i=some p∧∀x,c6 w' p.b x↔c6 w p.b x:=by
 have key:∀i s,m' i=some (.obj s)→∃p,ρ i=some p∧ρ' i=some p∧p.base=0∧p.mine=true∧IK w p.b s∧IK w' p.b s∧∀x,c6 w' p.b x↔c6 w p.b x:=by
  intro i s hi
  have hi0:=hobj i s hi
  obtain ⟨p,hp,h1,h2,h3⟩:=h.is i s hi0
  obtain ⟨h4,h5⟩:=h3.keep hs fun x hx=>hb x (h3.size hx) (by
   rintro ⟨j,q,hj,hq,_,rfl⟩
   exact h.out i s p hi0 hp _ hx j q hj hq rfl)
  exact ⟨p,hp,hle i p hp,h1,h2,h3,h4,h5⟩
 refine ⟨⟨fun i s hi=>?_,fun i s p hi hp x hx j q hj hq=>?_,fun i j s t p q hi hj hij hp hq x hx=>?_⟩,fun i s p hi hp=>?_⟩
 · obtain ⟨p,_,h2,h3,h4,_,h6,_⟩:=key i s hi
   exact ⟨p,h2,h3,h4,h6⟩
 · obtain ⟨p',h1,h2,_,_,h5,_,h7⟩:=key i s hi
   rw [hp] at h2;cases h2
   have hx':=(h7 x).1 hx
   rcases hn j q hj hq with ⟨k1,k2⟩|k1 |⟨j',q',k1,k2,_,k4⟩
   · exact h.out i s p (hobj i s hi) h1 x hx' j q k1 k2
   · have:=h5.size hx';omega
   · rw [←k4];exact h.out i s p (hobj i s hi) h1 x hx' j' q' k1 k2
 · obtain ⟨p',h1,h2,_,_,_,_,h7⟩:=key i s hi
   rw [hp] at h2;cases h2
   obtain ⟨q',k1,k2,_,_,_,_,k7⟩:=key j t hj
   rw [hq] at k2;cases k2
   rw [k7]
   exact h.two i j s t p q (hobj i s hi) (hobj j t hj) hij h1 k1 x ((h7 x).1 hx)
 · obtain ⟨p',h1,h2,_,_,_,_,h7⟩:=key i s hi
   rw [hp] at h2;cases h2
   exact ⟨h1,h7⟩
theorem zG.none {ρ:aR} {m:jM} {w:World} (h:∀i s,m i≠some (.obj s)):zG ρ m w:=
 ⟨fun i s hi=>absurd hi (h i s),fun i s _ hi=>absurd hi (h i s),fun i _ s _ _ _ hi=>absurd hi (h i s)⟩
theorem sw {rows:List Row} (h:gU rows=true) (i:Nat) (s:WS):rows[i]? ≠some (.obj s):=by
 intro hi
 have:=List.all_eq_true.1 h _ (List.mem_of_getElem? hi)
 simp [Row.isObj] at this
theorem dE.refl (ρ:aR) (m:jM) (w:World) (h:∀i,m i=none→ρ i=none):dE ρ m w ρ m w:=
 ⟨aR.le.refl ρ,fun _ h=>h,fun _ h=>.inl h,fun _ _ h=>.inl h,fun i p hi hp=>(by rw [h i hi] at hp;cases hp),um.refl _ _,fun i s p hi hp x hx=>.inr (.inr ⟨i,s,p,hi,hp,hx⟩)⟩
theorem dE.trans {ρ ρ' ρ'':aR} {m m' m'':jM} {w w' w'':World} (h:dE ρ m w ρ' m' w') (k:dE ρ' m' w' ρ'' m'' w''):dE ρ m w ρ'' m'' w'':=by
 have may:∀b,b<w.heap.size→CS ρ' m' w' b→CS ρ m w b:=by
  rintro b hb (⟨i,p,hl,hp,hm,rfl⟩|⟨i,s,p,hi,hp,hx⟩)
  · rcases h.live i hl with hl0 |hn
    · obtain ⟨row,hr,hlv⟩:=hl0
      rcases h.dom i p hp with hq |hq
      · exact .inl ⟨i,p,⟨row,hr,hlv⟩,hq,hm,rfl⟩
      · rw [hr] at hq;cases hq
    · rcases h.new i p hn hp with h1 |h1
      · omega
      · exact h1
  · rcases h.foot i s p hi hp b hx with h1 |h1
    · omega
    · exact h1
 refine ⟨h.le.trans k.le,fun i hi=>h.keep i (k.keep i hi),fun i hi=>?_,fun i p hp=>?_,fun i p hi hp=>?_,h.frm.trans k.frm may,fun i s p hi hp x hx=>?_⟩
 · rcases k.live i hi with h1 |h1
   · exact h.live i h1
   · exact .inr (h.keep i h1)
 · rcases k.dom i p hp with h1 |h1
   · exact h.dom i p h1
   · exact .inr (h.keep i h1)
 · rcases k.dom i p hp with h1 |h1
   · exact h.new i p hi h1
   · rcases k.new i p h1 hp with h2 |h2
     · exact .inl (Nat.le_trans h.frm.size h2)
     · by_cases hb:p.b<w.heap.size
       · exact .inr (may _ hb h2)
       · exact .inl (by omega)
 · rcases k.foot i s p hi hp x hx with h1 |h1
   · exact .inl (Nat.le_trans h.frm.size h1)
   · by_cases hb:x<w.heap.size
     · exact .inr (may _ hb h1)
     · exact .inl (by omega)
end Go.Proofs.YtimkhidniolpeaaGreat
