/- Part of the proof. -/
import Derived.Test.YtimkhidniolpeaaGreatVmF
import Derived.LoopN
namespace Go.Proofs.YtimkhidniolpeaaGreat
set_option linter.unusedSimpArgs false
set_option linter.unusedVariables false
set_option maxRecDepth 100000
set_option maxHeartbeats 0
open Go.RowKit
section
variable {P:Program} {X:bS}
theorem pJ {rows:List Row}:∀{l:List (Nat×Row)},E5 rows l=true→(∀x∈l,bq (fun i=>rows[i]?) x.1)∧(l.map (·.1)).Nodup
 |[],_=>by simp
 | (i,r)::l,h=>by
  simp only [E5,Bool.and_eq_true,Bool.not_eq_true'] at h
  obtain ⟨h1,h2,h3⟩:=h
  obtain ⟨h4,h5⟩:=pJ h3
  refine ⟨fun x hx=>?_,?_⟩
  · rcases List.mem_cons.1 hx with rfl |hx
    · split at h1
      · rename_i c hc;exact ⟨.own c,hc,rfl⟩
      · rename_i k xs hc;exact ⟨.vec false k xs,hc,rfl⟩
      · rename_i c hc;exact ⟨.pre false c,hc,rfl⟩
      · cases h1
    · exact h4 x hx
  · simp only [List.map_cons,List.nodup_cons]
    refine ⟨fun hm=>?_,h5⟩
    rw [di.2 hm] at h2
    cases h2
theorem tR {rows:List Row}:∀{l:List (Nat×Row)},EY rows l=true→(∀x∈l,∃row,rows[x.1]? =some row)∧(l.map (·.1)).Nodup
 |[],_=>by simp
 | (i,r)::l,h=>by
  simp only [EY,Bool.and_eq_true,Bool.not_eq_true'] at h
  obtain ⟨h1,h2,h3⟩:=h
  obtain ⟨h4,h5⟩:=tR h3
  refine ⟨fun x hx=>?_,?_⟩
  · rcases List.mem_cons.1 hx with rfl |hx
    · split at h1
      · rename_i r hr;exact ⟨r,hr⟩
      · cases h1
    · exact h4 x hx
  · simp only [List.map_cons,List.nodup_cons]
    refine ⟨fun hm=>?_,h5⟩
    rw [di.2 hm] at h2
    cases h2
theorem AH {n:Nat} {r:Row}:(gt n r).isObj=false:=by
 unfold gt
 cases h:r.isObj with
 |true=>rfl
 |false=>cases (r.idsR.all fun i=>Nat.ble n i)<;>first |rfl |exact h
theorem sU {x:Nat}:∀{l:List Nat},x∈l→(fD l).testBit x=true
 |[],h=>by simp at h
 | y::l,h=>by
  rw [fD]
  change (1 <<<y|||fD l).testBit x=true
  rw [Nat.testBit_or,Bool.or_eq_true]
  rcases List.mem_cons.1 h with rfl |h
  · left
    rw [Nat.testBit_shiftLeft]
    simp
  · exact .inr (sU h)
theorem fg {l m:List Nat} (h:fc (fD l) (fD m)=false):∀x∈l,x∉m:=by
 intro x hx hm
 unfold fc at h
 rw [Bool.not_eq_false'] at h
 have h0:(fD l&&&fD m)=0:=Nat.eq_of_beq_eq_true h
 have h1:(fD l&&&fD m).testBit x=true:=by rw [Nat.testBit_and,sU hx,sU hm];rfl
 rw [h0] at h1
 simp at h1
theorem mf {x:er} {i:Nat}:x.touch i→i∈x.e.wr.map (·.1)++(List.range x.e.nw.length).map (x.n+ ·):=by
 rintro (⟨r,hr⟩|h)
 · exact List.mem_append_left _ (List.mem_map.2 ⟨(i,r),hr,rfl⟩)
 · exact List.mem_append_right _ (List.mem_map.2 ⟨i - x.n,List.mem_range.2 (by omega),by omega⟩)
theorem WV {all:List Oper} {x y:er} (h:rJ (fY all x.o x.n x.e) (fY all y.o y.n y.e)=false):YA all x y:=by
 unfold rJ at h
 simp only [Bool.or_eq_false_iff] at h
 obtain ⟨h1,h2,h3,h4,h5,h6⟩:=h
 refine ⟨fun d hd=>?_,fun d hd=>?_,fun d hd hd2=>?_,fun i hi hr=>?_,fun i hi hr=>?_,fun i hi hj=>?_⟩
 · exact fg h1 d (by simp [Bo,hd])
 · exact fg h2 d (by simp [Bo,hd])
 · exact fg h3 d (by simp [Bo,hd]) (by simp [Bo,hd2])
 · exact fg h4 i (mf hi) hr
 · exact fg h5 i (mf hi) hr
 · exact fg h6 i (mf hi) (mf hj)
theorem lE {anc:Nat} {r:qA}:∀{l:List qA} {i:Nat},gb anc r i l=true→∀j q,l[j]? =some q→anc.testBit (i+j)=true∨rJ q r=false
 |[],_,_,j,q,hq=>by simp at hq
 |p::l,i,h,0,q,hq=>by
  simp only [gb,Bool.and_eq_true,Bool.or_eq_true,Bool.not_eq_true'] at h
  simp at hq
  subst hq
  exact h.1.symm
 |p::l,i,h,j+1,q,hq=>by
  simp only [gb,Bool.and_eq_true] at h
  have:=lE h.2 j q (by simpa using hq)
  rwa [show i+1+j=i+(j+1) by omega] at this
theorem o0:∀{A:List Nat} {pre l:List qA},ig A pre l=true→∀k r,l[k]? =some r→∀i q,i<pre.length+k→(pre++l)[i]? =some q→(∃anc,A[k]? =some anc∧anc.testBit i=true)∨rJ q r=false
 |_,_,[],_,k,r,hk,_,_,_,_=>by simp at hk
 |[],_,_::_,h,_,_,_,_,_,_,_=>by simp [ig] at h
 | anc::A,pre,p::l,h,k,r,hk,i,q,hi,hq=>by
  simp only [ig,Bool.and_eq_true] at h
  cases k with
  |zero=>
   simp at hk
   subst hk
   rw [List.getElem?_append_left (by omega)] at hq
   rcases lE h.1 i q hq with h1 |h1
   · exact .inl ⟨anc,rfl,by simpa using h1⟩
   · exact .inr h1
  |succ k=>
   have:=o0 h.2 k r (by simpa using hk) i q (by simp;omega) (by simpa using hq)
   simpa using this
theorem pF {o:Oper} {i:Nat}:i∈dI o↔∃e∈o.after,Region.binds .any e=true∧e.on=i:=by
 unfold dI
 rw [List.mem_filterMap]
 constructor
 · rintro ⟨e,he,h⟩
   split at h
   · rename_i hb;simp at h;exact ⟨e,by simpa using he,hb,h⟩
   · cases h
 · rintro ⟨e,he,hb,rfl⟩
   exact ⟨e,by simpa using he,by simp [hb]⟩
theorem sZ {acc:List Nat} {i:Nat}:∀{l:List Nat},(iG acc l).testBit i=true→i∈l∨∃j∈l,(acc.getD j 0).testBit i=true
 |[],h=>by simp [iG] at h
 | j ::l,h=>by
  rw [iG] at h
  change ((1 <<<j|||acc.getD j 0)|||iG acc l).testBit i=true at h
  rw [Nat.testBit_or,Nat.testBit_or,Bool.or_eq_true,Bool.or_eq_true] at h
  rcases h with (h |h)|h
  · left
    rw [Nat.testBit_shiftLeft,Bool.and_eq_true,decide_eq_true_eq] at h
    have :i=j:=by
     obtain ⟨h1,h2⟩:=h
     rw [Nat.testBit_one_eq_true_iff_self_eq_zero] at h2
     omega
    simp [this]
  · exact .inr ⟨j,by simp,h⟩
  · rcases sZ h with h |⟨k,hk,h⟩
    · exact .inl (by simp [h])
    · exact .inr ⟨k,by simp [hk],h⟩
theorem qn {all:List Oper}:∀(l:List Oper) (acc:List Nat),all.drop acc.length=l→(∀k anc,acc[k]? =some anc→∀i,anc.testBit i=true→Sm all i k)→∀k anc,(gM l acc)[k]? =some anc→∀i,anc.testBit i=true→Sm all i k
 |[],acc,_,h=>by simpa [gM] using h
 | o :: l,acc,hd,h=>by
  rw [gM]
  have ho:all[acc.length]? =some o:=by
   have:=congrArg (fun l=>l[0]?) hd
   simpa using this
  refine qn l _ ?_ ?_
  · have:=congrArg List.tail hd
    simpa using this
  · intro k anc hk i hi
    by_cases hlt:k<acc.length
    · rw [List.getElem?_append_left hlt] at hk
      exact h k anc hk i hi
    · rw [List.getElem?_append_right (by omega)] at hk
      have hk0:k=acc.length:=by
       have:=(List.getElem?_eq_some_iff.1 hk).1
       simp at this
       omega
      subst hk0
      simp at hk
      subst hk
      rcases sZ hi with hi |⟨j,hj,hij⟩
      · obtain ⟨e,he,hb,hon⟩:=pF.1 hi
        exact .edge ho he hb hon
      · obtain ⟨e,he,hb,hon⟩:=pF.1 hj
        cases hq:acc[j]? with
        |none=>simp [List.getD,hq] at hij
        |some an=>
         simp [List.getD,hq] at hij
         exact .trans (h j an hq i hij) (.edge ho he hb hon)
theorem qj:∀{l:List Oper} {k0:Nat},lR k0 l=true→∀k o,l[k]? =some o→∀e∈o.after,Region.binds .any e=true→e.on<k0+k
 |[],_,_,k,o,hk,_,_,_=>by simp at hk
 |p::l,k0,h,0,o,hk,e,he,hb=>by
  simp only [lR,Bool.and_eq_true,List.all_eq_true] at h
  simp at hk
  subst hk
  have:=h.1 e.on (pF.2 ⟨e,he,hb,rfl⟩)
  simpa [Nat.blt_eq] using this
 |p::l,k0,h,k+1,o,hk,e,he,hb=>by
  simp only [lR,Bool.and_eq_true] at h
  have:=qj h.2 k o (by simpa using hk) e he hb
  omega
theorem GE {ev:Operand→SV} {op:Op} {fid:Nat} {fn:Func} {args:List SV} (h:QR X ev op=some (fid,fn,args)):∃f xs ts caps,op=.call ⟨.value f,xs,ts⟩∧ev f=.fn fid caps∧X.fn fid=some fn∧args=xs.toList.map ev++caps:=by
 unfold QR at h
 split at h
 · rename_i f xs ts
   split at h
   · rename_i fid' caps hf
     split at h
     · rename_i fn' hfn
       cases h
       exact ⟨f,xs,ts,caps,rfl,hf,hfn,rfl⟩
     · cases h
   · cases h
 · cases h
theorem yZ {ts:List SV} {t:Nat} {v:SV} (h:ts[t]? =some v):ts.set t v=ts:=by
 apply List.ext_getElem?
 intro i
 by_cases hi:i=t
 · subst hi
   have hlt:=(List.getElem?_eq_some_iff.1 h).1
   rw [List.getElem?_set_self hlt,h]
 · rw [List.getElem?_set_ne (Ne.symm hi)]
theorem C3 (hX:bV P X) {go:Nat→Func→List SV→List Row→(SV→List Row→Option aj)→Option aj} {draw:Bool} {all:List Oper}
    (hgo:∀fid fn args rows k r,gU rows=true→go fid fn args rows k=some r→X.fn fid=some fn→∃v rows',k v rows'=some r∧cQ P fid args rows v rows'):
    ∀(ops pre:List Oper) (k:Nat) (s:St) (recs:List qA) (K:St→Option aj) (r:aj),cS X go draw all ops k s recs K=some r→all=pre++ops→
     ∃(l:List (Nat×er)) (s':St),e6 P all s.cf l s'.cf∧l.map (·.1)=List.range' (pre.length+k) (ops.length - k)∧K s'=some r∧(draw=true→k=0→sQ P all s.cf l s'.cf∧uQ all (recs.reverse++l.map fun x=>fY all x.2.o x.2.n x.2.e)=true):=by
 intro ops
 induction ops with
 | nil=>
  intro pre k s recs K r h _
  simp only [cS] at h
  cases hb: !draw||xx all recs.reverse with
  |false=>simp [hb] at h
  |true=>
   simp only [hb,cond_true] at h
   refine ⟨[],s,.nil _,by simp,h,fun hd _=>⟨.nil _,?_⟩⟩
   subst hd
   have:=GR (by simpa using hb)
   simpa using this
 | cons o rest ih=>
  intro pre k s recs K r h hall
  cases k with
  |succ k=>
   simp only [cS] at h
   obtain ⟨l,s',h1,h2,h3,h4⟩:=ih (pre++[o]) k s recs K r h (by simp [hall])
   refine ⟨l,s',h1,?_,h3,fun _ hk=>by cases hk⟩
   rw [h2]
   simp only [List.length_append,List.length_cons,List.length_nil]
   congr 1<;>omega
  |zero=>
  have hpre:all=(pre++[o])++rest:=by simp [hall]
  have hoi:all[pre.length]? =some o:=by rw [hall];simp
  -- what a step leaves
  have fin:∀(e:aL) (s1:St),s1.cf=s.cf.after o.dst s.rows.length e→jj P all o s.rows.length e s.cf→cS X go draw all rest 0 s1 (fY all o s.rows.length e::recs) K=some r→
      ∃(l:List (Nat×er)) (s':St),e6 P all s.cf l s'.cf∧l.map (·.1)=List.range' (pre.length+0) ((o::rest).length - 0)∧K s'=some r∧(draw=true→0=0→sQ P all s.cf l s'.cf∧uQ all (recs.reverse++l.map fun x=>fY all x.2.o x.2.n x.2.e)=true):=by
   intro e s1 hs1 hstep hex
   obtain ⟨l,s',h1,h2,h3,h4⟩:=ih (pre++[o]) 0 s1 _ K r hex hpre
   refine ⟨(pre.length,⟨o,s.rows.length,e⟩)::l,s',.cons hoi hstep (by rw [hs1] at h1;exact h1),?_,h3,fun hd _=>?_⟩
   · simp only [List.map_cons,h2,List.length_cons,List.length_append,List.length_nil,Nat.add_zero,Nat.sub_zero]
     rw [List.range'_succ]
   · have:=h4 hd rfl
     exact ⟨.cons hoi hstep (by rw [hs1] at this;exact this.1),by simpa using this.2⟩
  have quiet:∀ts:Tm,ts.list=s.tmps.list→jk ts o.dst=true→∀v:SV,(⟨dJ ts o.dst v,s.rows⟩:St).cf=s.cf.after o.dst s.rows.length {val:=v}:=by
   intro ts hts hin v
   have:=St.cf_after ⟨ts,s.rows⟩ hin {val:=v}
   have hc:(⟨ts,s.rows⟩:St).cf=s.cf:=by simp only [St.cf,hts]
   rw [hc] at this
   rw [←this]
   simp [St.after,nz]
  have body : ∀(b:Bool) (ts:Tm),ts.list=s.tmps.list→bR all s.tmps.list o b→(bif !jk ts o.dst then none else match b with
   |false=>cS X go draw all rest 0 ⟨dJ ts o.dst (.tuple []),s.rows⟩ (fY all o s.rows.length {val:=.tuple []}::recs) K
   | true=>match QR X (St.mk ts s.rows).ev o.op with
    | some (fid,fn,args)=>bif X.ro fid then (bif gp s.rows (cu s.rows args) then go fid fn args ((bF (cu s.rows args) 0 s.rows).map lS) fun v rows'=>
        bif uP s.rows.length v then cS X go draw all rest 0 ((St.mk ts s.rows).after o.dst (jG s.rows (cu s.rows args) v rows')) (fY all o s.rows.length (jG s.rows (cu s.rows args) v rows')::recs) K else none
     else none) else bif gp s.rows (cu s.rows args) then go fid fn args (bF (cu s.rows args) 0 s.rows) fun v rows'=>
      bif E5 s.rows (d6 s.rows (cu s.rows args) v rows').wr&&iP (d6 s.rows (cu s.rows args) v rows') then cS X go draw all rest 0 ((St.mk ts s.rows).after o.dst (d6 s.rows (cu s.rows args) v rows')) (fY all o s.rows.length (d6 s.rows (cu s.rows args) v rows')::recs) K else none
     else none
    | none=>match kJ X.T (St.mk ts s.rows).ev o.op with
     |some (ok,v)=>bif ok then cS X go draw all rest 0 ⟨dJ ts o.dst v,s.rows⟩ (fY all o s.rows.length {val:=v}::recs) K else none
     |none=>match fS X (St.mk ts s.rows).ev s.rows o.op with
      |some e=>bif FV s.rows o.op e then (bif e.ok then cS X go draw all rest 0 ((St.mk ts s.rows).after o.dst e) (fY all o s.rows.length e::recs) K else none) else none
      |none=>none)=some r→
    ∃(l:List (Nat×er)) (s':St),e6 P all s.cf l s'.cf∧l.map (·.1)=List.range' (pre.length+0) ((o::rest).length - 0)∧K s'=some r∧(draw=true→0=0→sQ P all s.cf l s'.cf∧uQ all (recs.reverse++l.map fun x=>fY all x.2.o x.2.n x.2.e)=true):=by
   intro b ts hts hb h
   cases hin':jk ts o.dst with
   |false=>simp [hin'] at h
   |true=>
   simp only [hin',Bool.not_true,cond_false] at h
   have hc:(⟨ts,s.rows⟩:St).cf=s.cf:=by simp only [St.cf,hts]
   have hcev:s.cf.ev=(St.mk ts s.rows).ev:=by rw [←hc,St.cf_ev]
   cases b with
   |false=>exact fin _ _ (quiet ts hts hin' _) ⟨.inl ⟨hb,rfl⟩,by simp,by simp,fun j h1 h2=>by simp at h2;omega⟩ h
   | true =>
    simp only at h
    split at h
    · rename_i fid fn args hin
      obtain ⟨f,xs,ts',caps,hop,hf,hfn,rfl⟩:=GE hin
      cases hro:X.ro fid with
      | true=>
       simp only [hro,cond_true] at h
       cases hr:gp s.rows (cu s.rows (xs.toList.map (St.mk ts s.rows).ev++caps)) with
       |false=>simp [hr] at h
       | true=>
        simp only [hr,cond_true] at h
        obtain ⟨v,rows',h1,h2⟩:=hgo _ _ _ _ _ _ (GG _ _ _) h hfn
        cases hv:uP s.rows.length v with
        |false=>simp [hv] at h1
        | true=>
         simp only [hv,cond_true] at h1
         have hfnok:=WZ h2 hr hv
         have hfu:=hX.fn _ _ hfn
         have hwr0:(jG s.rows (cu s.rows (xs.toList.map (St.mk ts s.rows).ev++caps)) v rows').wr=[]:=rfl
         have hpl:iP (jG s.rows (cu s.rows (xs.toList.map (St.mk ts s.rows).ev++caps)) v rows')=true:=by
          unfold iP jG
          simp only [List.all_nil,Bool.true_and]
          cases eH s.rows.length v.ids with
          |true=>rfl
          |false=>
           simp only [cond_false,List.all_map,List.all_eq_true]
           intro r _
           simp [AH]
         refine fin _ _ (by rw [St.cf_after ⟨ts,s.rows⟩ hin',hc]) ⟨.inr (.inl ⟨hb,?_,by rw [hwr0];simp,hpl⟩),by rw [hwr0];simp,by rw [hwr0];simp,fun j g1 g2=>List.getElem?_eq_none g1⟩ h1
         rw [hcev]
         exact pL hop hf hfnok hfu.1 hfu.2
      |false=>
      simp only [hro,cond_false] at h
      cases hr:gp s.rows (cu s.rows (xs.toList.map (St.mk ts s.rows).ev++caps)) with
      |false=>simp [hr] at h
      | true=>
       simp only [hr,cond_true] at h
       obtain ⟨v,rows',h1,h2⟩:=hgo _ _ _ _ _ _ (nr _ _ _) h hfn
       have hfnok:=V5 h2 hr
       cases hw:E5 s.rows (d6 s.rows (cu s.rows (xs.toList.map (St.mk ts s.rows).ev++caps)) v rows').wr&&iP (d6 s.rows (cu s.rows (xs.toList.map (St.mk ts s.rows).ev++caps)) v rows') with
       |false=>simp [hw] at h1
       |true=>
        simp only [hw,cond_true] at h1
        rw [Bool.and_eq_true] at hw
        obtain ⟨w1,w2⟩:=pJ hw.1
        have hfu:=hX.fn _ _ hfn
        refine fin _ _ (by rw [St.cf_after ⟨ts,s.rows⟩ hin',hc]) ⟨.inr (.inl ⟨hb,?_,w1,hw.2⟩),fun x hx=>(w1 x hx).imp fun _ h=>h.1,w2,fun j g1 g2=>List.getElem?_eq_none g1⟩ h1
        rw [hcev]
        exact pL hop hf hfnok hfu.1 hfu.2
    · split at h
      · rename_i ok v hpu
        cases hok:ok with
        |false=>simp [hok] at h
        |true=>
         simp only [hok,cond_true] at h
         refine fin _ _ (quiet ts hts hin' _) ⟨.inr (.inl ⟨hb,?_,by simp,rfl⟩),by simp,by simp,fun j h1 h2=>by simp at h2;omega⟩ h
         rw [hcev]
         refine fo fun ρ pres a w hev hg ha _ _=>?_
         obtain ⟨rv,g1,g2⟩:=yG hX.T hpu hok hev w
         exact ⟨rv,ρ,w,.inl g1,cv.quiet hg ha g2 rfl rfl⟩
      · split at h
        · rename_i e hme
          cases hw:FV s.rows o.op e with
          |false=>simp [hw] at h
          | true=>
           simp only [hw,cond_true] at h
           cases hok:e.ok with
           |false=>simp [hok] at h
           | true=>
            simp only [hok,cond_true] at h
            unfold FV at hw
            split at hw
            · rename_i hob
              rw [Bool.and_eq_true] at hw
              obtain ⟨w1,w2⟩:=tR hw.2
              refine fin _ _ (by rw [St.cf_after ⟨ts,s.rows⟩ hin',hc]) ⟨.inr (.inr ⟨hb,?_⟩),w1,w2,fun j g1 g2=>List.getElem?_eq_none g1⟩ h
              rw [hcev]
              exact OQ hX hme hok hob hw.1
            · rename_i hob
              rw [Bool.and_eq_true] at hw
              obtain ⟨w1,w2⟩:=pJ hw.1
              refine fin _ _ (by rw [St.cf_after ⟨ts,s.rows⟩ hin',hc]) ⟨.inr (.inl ⟨hb,?_,w1,hw.2⟩),fun x hx=>(w1 x hx).imp fun _ h=>h.1,w2,fun j g1 g2=>List.getElem?_eq_none g1⟩ h
              rw [hcev]
              exact FC hX hme hok hob
        · cases h
  simp only [cS,D9] at h
  split at h
  · cases h
  · rename_i hw
    refine body true _ rfl ?_ h
    unfold lA at hw
    unfold bR
    split at hw
    · rename_i hg;simp only [hg]
    · rename_i j want hg
      split at hw
      · cases hw
      · rename_i t hd
        cases hbl:Nat.blt t s.tmps.n with
        |false=>simp [hbl] at hw
        |true=>
         simp only [hbl,cond_true] at hw
         split at hw<;>cases hw
  · rename_i hw
    refine body false _ rfl ?_ h
    unfold lA at hw
    unfold bR
    split at hw
    · cases hw
    · rename_i j want hg
      simp only [hg]
      split at hw
      · rename_i hd;simp only [hd]
      · rename_i t hd
        simp only [hd,Tm.list_get?]
        cases hbl:Nat.blt t s.tmps.n with
        |false=>simp
        | true=>
         simp only [hbl,cond_true] at hw ⊢
         split at hw
         · cases hw
         · rename_i hsv
           simp [hsv]
         · cases hw
  · rename_i t b want hw
    have hask:s.tmps.list[t]? =some (.bool b)∧bR all s.tmps.list o (b==want):=by
     unfold lA at hw
     unfold bR
     split at hw
     · cases hw
     · rename_i j want' hg
       simp only [hg]
       split at hw
       · cases hw
       · rename_i t' hd
         simp only [hd]
         cases hbl:Nat.blt t' s.tmps.n with
         |false=>simp [hbl] at hw
         | true=>
          simp only [hbl,cond_true] at hw
          split at hw
          · rename_i b' ht
            cases hw
            have :s.tmps.list[t]? =some (.bool b):=by rw [Tm.list_get?,hbl,ht];rfl
            exact ⟨this,by rw [this]⟩
          · cases hw
          · cases hw
    split at h
    · rename_i k ok ts hm
      cases draw with
      |true=>cases hm
      | false=>
       simp only [cond_false] at hm
       cases ok with
       |false=>cases h
       | true=>
        simp only [cond_true] at h
        have hi:all.length - (o::rest).length=pre.length:=by rw [hall];simp
        rw [hi] at hm
        obtain ⟨l1,m1,m2⟩:=Js (P:=P) hX hm (fun k' o' hk'=>by rw [hall,List.getElem?_append_right (by omega)];rw [←hk'];congr 1;omega)
        obtain ⟨l2,s',h1,h2,h3,h4⟩:=ih (pre++[o]) k _ recs K r h hpre
        refine ⟨l1++l2,s',m1.append h1,?_,h3,fun hd=>by cases hd⟩
        rw [List.map_append,m2,h2]
        simp only [List.length_take,List.length_cons,List.length_append,List.length_nil,Nat.add_zero,Nat.sub_zero]
        by_cases hkn:k≤rest.length
        · rw [Nat.min_eq_left (by omega),show pre.length+(0+1)+k=pre.length+1*(k+1) by omega,List.range'_append]
          congr 1
          omega
        · rw [Nat.min_eq_right (by omega),show rest.length - k=0 by omega]
          simp
    · cases hinb:s.tmps.inb t with
      |false=>cases b<;>simp [hinb] at h
      | true=>
       cases b with
       |true=>
        simp only [hinb,cond_true] at h
        refine body want _ (by rw [Tm.list_set hinb,yZ hask.1]) ?_ h
        have:=hask.2
        cases want<;>exact this
       |false=>
        simp only [hinb,cond_true] at h
        refine body (!want) _ (by rw [Tm.list_set hinb,yZ hask.1]) ?_ h
        have:=hask.2
        cases want<;>exact this
end
def Ex.to:Ex→Exit
 |.normal=>.normal
 |.exit id=>.exit id
 |.ret=>.ret
def Yl (P:Program) (c:Code) (s:St) (e:Ex) (s':St):Prop:=
 ∀(ρ:aR) (a:Act) (w:World),dt ρ s.cf a w→∀Q:Exit→Act→World→Prop,(∀ρ' a' w',dt ρ' s'.cf a' w'→dE ρ s.cf.m w ρ' s'.cf.m w'→Q e.to a' w')→c.wp P Q a w
def OK (P:Program) (b:Code) (s:St) (e:Ex) (s':St):Prop:=
 ∃m,∀(ρ:aR) (a:Act) (w:World),dt ρ s.cf a w→∀Q:Exit→Act→World→Prop,(∀ρ' a' w',dt ρ' s'.cf a' w'→dE ρ s.cf.m w ρ' s'.cf.m w'→Q e.to a' w')→Code.rounds P b Q m a w
def VO (P:Program) (c:Code) (s:St) (e:Ex) (s':St):Prop:=match c with
 |.loop b=>OK P b s e s'
 |c=>Yl P c s e s'
def child:Code→Nat→Option Code
 |.seq a _,0=>some a
 |.seq _ b,1=>some b
 |.cond _ a _,0=>some a
 |.cond _ _ b,1=>some b
 |.block _ b,0=>some b
 |.loop b,0=>some b
 |_,_=>none
def Fv (c:Code):List Nat→Option Code
 |[]=>some c
 |i::p=>match Fv c p with
  |some d=>child d i
  |none=>none
def At (P:Program) (f:Nat) (p:List Nat) (c:Code):Prop:=∃fn body,P.funcs[f]? =some fn∧fn.body=some body∧Fv body p=some c
theorem At.child {P:Program} {f:Nat} {p:List Nat} {c d:Code} {i:Nat} (h:At P f p c) (hd:child c i=some d):At P f (i::p) d:=by
 obtain ⟨fn,body,h1,h2,h3⟩:=h
 exact ⟨fn,body,h1,h2,by simp [Fv,h3,hd]⟩
def AM (P:Program) (L:Nat→List Nat→Option dq):Prop:=
 ∀f p F,L f p=some F→∀b,At P f p (.loop b)→∀s K r,F s K=some r→∃e s',K e s'=some r∧OK P b s e s'
section
variable {P:Program} {X:bS}
theorem dt.prg {ρ:aR} {c:Cf} {a:Act} {w:World} (h:dt ρ c a w):dE ρ c.m w ρ c.m w:=dE.refl _ _ _ h.free
theorem VO.tri {c:Code} {s s':St} {e:Ex} (h:VO P c s e s'):Yl P c s e s':=by
 cases c<;>try exact h
 case loop b=>
  obtain ⟨m,hm⟩:=h
  intro ρ a w hr Q hQ
  exact wp_loop_rounds m (hm ρ a w hr Q hQ)
theorem dt.drew {ρ:aR} {c:Cf} {a:Act} {w:World} (h:dt ρ c a w):dt ρ c a {w with drawn:=w.drawn+1}:=
 ⟨h.tm,h.df,h.good,fun i row hi=>(h.rows i row hi).keep (aR.le.refl _) (fun _ _=>rfl),h.apart,h.free,(h.obj.step (w':={w with drawn:=w.drawn+1}) (aR.le.refl _) (fun _ _ h=>h) (Nat.le_refl _) (fun _ _ _=>rfl) (fun _ _ h1 h2=>.inl ⟨h1,h2⟩)).1⟩
theorem dE.drew {ρ ρ':aR} {m m':jM} {w w':World} (h:dE ρ m {w with drawn:=w.drawn+1} ρ' m' w'):dE ρ m w ρ' m' w':=
 ⟨h.le,h.keep,h.live,h.dom,h.new,⟨h.frm.os,h.frm.tape,h.frm.output,h.frm.size,h.frm.block⟩,h.foot⟩
theorem H4 (hX:bV P X) {s:St} {rv:ResultVar} {v:SV} (h:xE X s rv=some v) {ρ:aR} {a:Act} {w:World} (hr:dt ρ s.cf a w):∃u,(xp a.tmps rv).run P w=.ok u w∧aE ρ v u:=by
 cases rv with
 |tmp t=>
  simp only [xE,Option.some.injEq] at h
  subst h
  have:=tX hr.tm (.tmp t)
  rw [St.cf_ev] at this
  exact ⟨a.eval (.tmp t),rfl,this⟩
 | cell t ty=>
  simp only [xE] at h
  split at h
  · rename_i id st i j ti hp hT
    split at h
    · rename_i cells hrow
      have hev:=tX hr.tm (.tmp t)
      rw [St.cf_ev] at hev
      simp only [St.ev] at hev
      rw [hp] at hev
      simp only [aE] at hev
      obtain ⟨p,hpp,hv⟩:=hev
      obtain ⟨p',vs,tyy,hp',hb,hm,hh,hrl⟩:=hr.rows id _ hrow
      rw [hpp] at hp'
      cases hp'
      obtain ⟨rv,h1,h2⟩:=gq (hX.T _ _ hT) w p.b 0 hrl (fun j v hv=>by rw [Nat.zero_add,eb hh];exact hv) h
      refine ⟨rv,?_,h2⟩
      simp only [xp]
      rw [show a.tmps.getD t undef=_ from hv,show p.base+i*st+j=0+(i*st+j) by omega]
      rw [Nat.zero_add] at h1
      simp [asAddr,h1]
    · cases h
  · cases h
theorem oV (hX:bV P X) {s:St} {ρ:aR} {a:Act} {w:World} (hr:dt ρ s.cf a w):∀{l:List ResultVar} {vs:List SV},t9 X s l=some vs→∃us:List Value,(l.mapM (xp a.tmps)).run P w=.ok us w∧au ρ vs us
 |[],vs,h=>by
  simp only [t9,Option.some.injEq] at h
  subst h
  exact ⟨[],by simp,by simp [au]⟩
 | rv::l,vs,h=>by
  simp only [t9] at h
  split at h
  · rename_i v vs' h1 h2
    cases h
    obtain ⟨u,g1,g2⟩:=H4 hX h1 hr
    obtain ⟨us,k1,k2⟩:=oV hX hr h2
    exact ⟨u::us,by simp [List.mapM_cons,Sem.run_bind,g1,k1],aa.2 ⟨g2,k2⟩⟩
  · cases h
theorem SF (hX:bV P X) {fn:Func} {s:St} {v:SV} (h:Iy X fn s=some v) {ρ:aR} {a:Act} {w:World} (hr:dt ρ s.cf a w):∃u,(results fn a.tmps).run P w=.ok u w∧aE ρ v u:=by
 rw [Eo]
 simp only [Array.mapM_eq_mapM_toList]
 unfold Iy at h
 split at h
 · rename_i v' hv
   cases h
   obtain ⟨us,h1,h2⟩:=oV hX hr hv
   cases us with
   |nil=>simp [au] at h2
   |cons u us=>
    rw [aa,ai] at h2
    obtain ⟨h2,rfl⟩:=h2
    exact ⟨u,by simp [Sem.run_bind,h1],h2⟩
 · rename_i vs hne hv
   cases h
   obtain ⟨us,h1,h2⟩:=oV hX hr hv
   refine ⟨.tuple us.toArray,?_,by simp only [aE];exact ⟨us,rfl,h2⟩⟩
   have hlen:us.length≠1:=by
    have:=h2.length
    intro h
    rw [h] at this
    obtain ⟨v,rfl⟩:=List.length_eq_one_iff.1 this
    exact hne v rfl
   simp [Sem.run_bind,h1,hlen]
 · cases h
theorem HM {ρ:aR} {args:List SV} {vargs:List Value} {rows:List Row} {w:World} (fn:Func) (h:au ρ args vargs) (hg:gK ρ w) (hrows:∀i row,rows[i]? =some row→bk ρ i row w) (ha:gY ρ (bq (fun i=>rows[i]?))) (hf:∀i,rows.length≤i→ρ i=none) (ho:zG ρ (fun i=>rows[i]?) w):
    dt ρ (iA fn args rows).cf {tmps:=vargs.toArray++Array.replicate (fn.ntmps - vargs.toArray.size) undef,defers:=[]} w:=by
 refine ⟨?_,rfl,hg,hrows,ha,fun i hi=>hf i (by simpa [iA,St.cf] using hi),ho⟩
 simp only [iA,St.cf,Tm.of_list,Array.toList_append,Array.toList_replicate]
 refine au.append h ?_
 rw [h.length]
 simp only [List.size_toArray]
 generalize fn.ntmps - vargs.length=n
 induction n with
 |zero=>simp [au]
 |succ n ih=>
  simp only [List.replicate_succ,aa]
  exact ⟨by simp [aE,au,undef],ih⟩
theorem n9 {fid:Nat} {fn:Func} {body:Code} (hX:bV P X) (hfu:P.funcs[fid]? =some fn) (hb:fn.body=some body) {args:List SV} {rows:List Row} {e:Ex} {s':St} (he:e=.normal∨e=.ret) {v:SV} (hv:Iy X fn s'=some v)
    (h:Yl P body (iA fn args rows) e s'):kx P fid args rows v s'.rows:=by
 intro ρ vargs w hargs hw
 refine calls_of_wp hfu hb (h ρ _ w (HM fn hargs hw.good hw.rows hw.apart (fun i hi=>hw.free i (by simpa using hi)) hw.obj) _ fun ρ' a' w' hr hp=>?_)
 obtain ⟨u,h1,h2⟩:=SF hX hv hr
 rcases he with rfl |rfl<;>exact ⟨hr.df,u,h1,u,ρ',rfl,h2,hr.w,hp⟩
theorem uT {fid:Nat} {fn:Func} {body:Code} (hX:bV P X) (hfu:P.funcs[fid]? =some fn) (hb:fn.body=some body) {args:List SV} {rows:List Row} {e:Ex} {s':St} (he:e=.normal∨e=.ret) {v:SV} (hv:Iy X fn s'=some v)
    (h:Yl P body (iA fn args rows) e s') (hn:gU rows=true):cQ P fid args rows v s'.rows:=(n9 hX hfu hb he hv h).plain hn
theorem nX (hX:bV P X) {L:Nat→List Nat→Option dq} (hL:AM P L):∀(n f:Nat) (p:List Nat) (c:Code) (s:St) (K:Ex→St→Option aj) (r:aj),fL X L n f p c s K=some r→At P f p c→∃e s',K e s'=some r∧VO P c s e s':=by
 intro n
 induction n with
 |zero=>intro f p c s K r h _;simp [fL] at h
 | succ n ih=>
  intro f p c s K r h hat
  cases c with
  |skip=>
   simp only [fL] at h
   exact ⟨.normal,s,h,fun ρ a w hr Q hQ=>wp_skip (hQ ρ a w hr hr.prg)⟩
  |exit id=>
   simp only [fL] at h
   exact ⟨.exit id,s,h,fun ρ a w hr Q hQ=>wp_exit (hQ ρ a w hr hr.prg)⟩
  |ret=>
   simp only [fL] at h
   exact ⟨.ret,s,h,fun ρ a w hr Q hQ=>wp_ret (hQ ρ a w hr hr.prg)⟩
  | seq a b=>
   simp only [fL] at h
   obtain ⟨e,s1,h1,t1⟩:=ih _ _ _ _ _ _ h (hat.child rfl)
   cases e with
   |normal=>
    obtain ⟨e2,s2,h2,t2⟩:=ih _ _ _ _ _ _ h1 (hat.child rfl)
    refine ⟨e2,s2,h2,fun ρ ac w hr Q hQ=>wp_seq (t1.tri ρ ac w hr _ fun ρ' a' w' hr' hp'=>?_)⟩
    exact t2.tri ρ' a' w' hr' Q fun ρ'' a'' w'' hr'' hp''=>hQ _ _ _ hr'' (hp'.trans hp'')
   |exit i=>exact ⟨.exit i,s1,h1,fun ρ ac w hr Q hQ=>wp_seq (t1.tri ρ ac w hr _ hQ)⟩
   |ret=>exact ⟨.ret,s1,h1,fun ρ ac w hr Q hQ=>wp_seq (t1.tri ρ ac w hr _ hQ)⟩
  | cond x a b=>
   simp only [fL] at h
   split at h
   · rename_i t hx
     have hxt:∀{ρ:aR} {ac:Act} {w:World},dt ρ s.cf ac w→ac.eval x=.bool t:=by
      intro ρ ac w hr
      have:=tX hr.tm x
      rw [St.cf_ev,hx] at this
      simpa [aE] using this
     cases t with
     |true=>
      obtain ⟨e,s1,h1,t1⟩:=ih _ _ _ _ _ _ h (hat.child rfl)
      exact ⟨e,s1,h1,fun ρ ac w hr Q hQ=>wp_cond_true (hxt hr) (t1.tri ρ ac w hr Q hQ)⟩
     |false=>
      obtain ⟨e,s1,h1,t1⟩:=ih _ _ _ _ _ _ h (hat.child rfl)
      exact ⟨e,s1,h1,fun ρ ac w hr Q hQ=>wp_cond_false (hxt hr) (t1.tri ρ ac w hr Q hQ)⟩
   · cases h
  | block id b=>
   simp only [fL] at h
   obtain ⟨e,s1,h1,t1⟩:=ih _ _ _ _ _ _ h (hat.child rfl)
   cases e with
   |normal=>exact ⟨.normal,s1,h1,fun ρ ac w hr Q hQ=>wp_block (t1.tri ρ ac w hr _ hQ)⟩
   |ret=>exact ⟨.ret,s1,h1,fun ρ ac w hr Q hQ=>wp_block (t1.tri ρ ac w hr _ hQ)⟩
   | exit i=>
    cases hb:Nat.beq i id with
    | true=>
     simp only [hb,cond_true] at h1
     have:=Nat.eq_of_beq_eq_true hb
     subst this
     exact ⟨.normal,s1,h1,fun ρ ac w hr Q hQ=>wp_block (t1.tri ρ ac w hr _ fun ρ' a' w' g1 g2=>by
      show (if i=i then Q .normal a' w' else _)
      rw [if_pos rfl]
      exact hQ ρ' a' w' g1 g2)⟩
    | false=>
     simp only [hb,cond_false] at h1
     have hne:=Nat.ne_of_beq_eq_false hb
     exact ⟨.exit i,s1,h1,fun ρ ac w hr Q hQ=>wp_block (t1.tri ρ ac w hr _ fun ρ' a' w' g1 g2=>by
      show (if i=id then _ else Q (.exit i) a' w')
      rw [if_neg hne]
      exact hQ ρ' a' w' g1 g2)⟩
  | loop b=>
   simp only [fL] at h
   split at h
   · rename_i F hF
     obtain ⟨e,s',h1,h2⟩:=hL f p F hF b hat s K r h
     exact ⟨e,s',h1,h2⟩
   · obtain ⟨e,s1,h1,t1⟩:=ih _ _ _ _ _ _ h (hat.child rfl)
     cases e with
     |normal=>
      obtain ⟨e2,s2,h2,t2⟩:=ih _ _ _ _ _ _ h1 hat
      obtain ⟨m,hm⟩:=t2
      refine ⟨e2,s2,h2,m+1,fun ρ ac w hr Q hQ=>?_⟩
      rw [rounds_succ]
      exact t1.tri ρ ac w hr _ fun ρ' a' w' hr' hp'=>hm ρ' a' w' hr' Q fun ρ'' a'' w'' hr'' hp''=>hQ _ _ _ hr'' (hp'.trans hp'')
     |exit i=>exact ⟨.exit i,s1,h1,1,fun ρ ac w hr Q hQ=>by rw [rounds_succ];exact t1.tri ρ ac w hr _ hQ⟩
     |ret=>exact ⟨.ret,s1,h1,1,fun ρ ac w hr Q hQ=>by rw [rounds_succ];exact t1.tri ρ ac w hr _ hQ⟩
  | region id ops draw=>
   simp only [fL] at h
   have hgo:∀fid fn args rows (k:SV→List Row→Option aj) r,gU rows=true→(match fn.body with
       |some body=>fL X L n fid [] body (iA fn args rows) (Bn X fn k)
       |none=>none)=some r→X.fn fid=some fn→∃v rows',k v rows'=some r∧cQ P fid args rows v rows':=by
    intro fid fn args rows k r hno h hfn
    have hfu:=(hX.fn _ _ hfn).1
    split at h
    · rename_i body hb
      obtain ⟨e,s',h1,h2⟩:=ih _ _ _ _ _ _ h ⟨fn,body,hfu,hb,rfl⟩
      unfold Bn at h1
      cases e with
      |exit i=>simp at h1
      |normal=>
       simp only at h1
       split at h1
       · rename_i v hv;exact ⟨v,s'.rows,h1,uT hX hfu hb (.inl rfl) hv h2.tri hno⟩
       · cases h1
      |ret=>
       simp only at h1
       split at h1
       · rename_i v hv;exact ⟨v,s'.rows,h1,uT hX hfu hb (.inr rfl) hv h2.tri hno⟩
       · cases h1
    · cases h
   obtain ⟨l,s',hrun,hidx,hK,hind⟩:=C3 hX hgo _ [] 0 s [] _ r h rfl
   rw [Nat.add_zero,Nat.sub_zero] at hidx
   refine ⟨.normal,s',hK,fun ρ ac w hr Q hQ=>?_⟩
   have hsz:ops.toList.length=ops.size:=by simp
   cases draw with
   |false=>
    refine wp_region ?_
    have:=Bs (Q:=Q) hrun hr hQ
    rw [hidx] at this
    simpa [List.range_eq_range',hsz] using this
   | true=>
    refine wp_region_any hX.mixed ?_
    obtain ⟨hrun,hi⟩:=hind rfl rfl
    simp only [List.reverse_nil,List.nil_append] at hi
    unfold uQ at hi
    rw [Bool.and_eq_true,Bool.and_eq_true] at hi
    obtain ⟨hback,_,hgoi⟩:=hi
    have hl:l.length=ops.toList.length:=by have:=congrArg List.length hidx;simpa using this
    have hidxk:∀k (hk:k<l.length),l[k].1=k:=by
     intro k hk
     have:=congrArg (fun l=>l[k]?) hidx
     simp only [List.getElem?_map,List.getElem?_eq_getElem hk,Option.map_some,List.length_nil] at this
     rw [List.getElem?_range' (by omega)] at this
     simp at this
     exact this
    have:=DL (P:=P) (all:=ops.toList) (Q:=Q) (fun k o ho e he hb=>by have:=qj hback k o ho e he hb;omega) ops.size l (Array.replicate ops.size false) s.cf ρ ac {w with drawn:=w.drawn+1} hrun (by omega) (by simp)
     (fun j=>by
      rw [hidx]
      simp only [List.length_nil,List.mem_range',Array.length_toList]
      constructor
      · rintro ⟨i,hi,rfl⟩
        exact ⟨by omega,by simp [Array.getD,hi]⟩
      · rintro ⟨hj,_⟩
        exact ⟨j,hj,by omega⟩)
     (by
      rw [List.pairwise_iff_getElem]
      intro i j hi hj hij
      rw [hidxk i hi,hidxk j hj]
      refine ⟨hij,?_⟩
      have:=o0 hgoi j (fY ops.toList l[j].2.o l[j].2.n l[j].2.e) (by simp [hj]) i (fY ops.toList l[i].2.o l[i].2.n l[i].2.e) (by simpa using hij) (by simp [hi])
      rcases this with ⟨anc,h1,h2⟩|h1
      · exact .inl (qn ops.toList [] rfl (fun k anc hk=>by simp at hk) j anc h1 i h2)
      · exact .inr (WV h1))
     (fun j o ho hl=>by simp [Array.getD] at hl)
     hr.drew (fun ρ' a' w' h1 h2=>hQ _ _ _ h1 h2.drew)
    simpa using this
  |rangeFunc g ps x bd=>simp [fL] at h
  |scope b=>simp [fL] at h
  |label l=>simp [fL] at h
  |goto l=>simp [fL] at h
  |refuse w=>simp [fL] at h
theorem xK (hX:bV P X) {fid:Nat} {fn:Func} {body:Code} (hfu:P.funcs[fid]? =some fn) (hb:fn.body=some body) {args:List SV} {rows:List Row} {e:Ex} {s':St} {k:SV→List Row→Option aj} {r:aj}
    (h:Bn X fn k e s'=some r) (t:Yl P body (iA fn args rows) e s'):∃v,k v s'.rows=some r∧kx P fid args rows v s'.rows:=by
 unfold Bn at h
 cases e with
 |exit i=>simp at h
 | normal=>
  simp only at h
  split at h
  · rename_i u hu
    exact ⟨u,h,n9 hX hfu hb (.inl rfl) hu t⟩
  · cases h
 | ret=>
  simp only at h
  split at h
  · rename_i u hu
    exact ⟨u,h,n9 hX hfu hb (.inr rfl) hu t⟩
  · cases h
def bO (X:bS) (L:Nat→List Nat→Option dq) (n:Nat) (f:Nat) (fn:Func) (k:SV→List Row→Option aj) (args:List SV) (rows:List Row):Option aj:=match fn.body with
 |some body=>fL X L n f [] body (iA fn args rows) (Bn X fn k)
 |none=>none
theorem mq (hX:bV P X) {L:Nat→List Nat→Option dq} (hL:AM P L) {n f:Nat} {fn:Func} {k:SV→List Row→Option aj} (hfu:P.funcs[f]? =some fn) {args:List SV} {rows:List Row} {r:aj} (h:bO X L n f fn k args rows=some r):∃v rows',k v rows'=some r∧kx P f args rows v rows':=by
 unfold bO at h
 split at h
 · rename_i body hb
   obtain ⟨e,s',h1,h2⟩:=nX hX hL _ _ _ _ _ _ _ h ⟨fn,body,hfu,hb,rfl⟩
   obtain ⟨v,h3,h4⟩:=xK hX hfu hb h1 h2.tri
   exact ⟨v,s'.rows,h3,h4⟩
 · cases h
theorem Fy (hX:bV P X) {L:Nat→List Nat→Option dq} (hL:AM P L) {n f:Nat} {fn:Func} (hfu:P.funcs[f]? =some fn) {args:List SV} {rows rows':List Row} {v:SV} (h:Jy X L n f fn args rows=some (v,rows')):cQ P f args rows v rows':=by
 unfold Jy at h
 split at h
 · rename_i body hb
   cases hn:gU rows with
   |false=>simp [hn] at h
   |true=>
    simp only [hn,cond_true] at h
    obtain ⟨e,s',h1,h2⟩:=nX hX hL _ _ _ _ _ _ _ h ⟨fn,body,hfu,hb,rfl⟩
    obtain ⟨u,h3,h4⟩:=xK hX hfu hb h1 h2.tri
    cases h3
    exact h4.plain hn
 · cases h
def aH (X:bS) (L:Nat→List Nat→Option dq) (n:Nat) (f:Nat) (fn:Func) (k:Nat) (args:List SV) (rows:List Row):Option aj:=match fn.body with
 |some body=>bif gU rows then fL X L n f [] body (iA fn args rows) (Bn X fn fun v rows=>some (v,rows.take k)) else none
 |none=>none
theorem aC (hX:bV P X) {L:Nat→List Nat→Option dq} (hL:AM P L) {n f k:Nat} {fn:Func} (hfu:P.funcs[f]? =some fn) {args:List SV} {rows rs:List Row} {v:SV} (h:aH X L n f fn k args rows=some (v,rs)):∃rows',cQ P f args rows v rows'∧rows'.take k=rs:=by
 unfold aH at h
 split at h
 · rename_i body hb
   cases hn:gU rows with
   |false=>simp [hn] at h
   |true=>
    simp only [hn,cond_true] at h
    obtain ⟨e,s',h1,h2⟩:=nX hX hL _ _ _ _ _ _ _ h ⟨fn,body,hfu,hb,rfl⟩
    obtain ⟨u,h3,h4⟩:=xK hX hfu hb h1 h2.tri
    cases h3
    exact ⟨_,h4.plain hn,rfl⟩
 · cases h
theorem ag:AM P (fun _ _=>none):=fun _ _ _ h=>by cases h
end
section
variable {P:Program} {X:bS}
theorem Cj {f:Nat} {args:List SV} {m:Nat→Option Row} {n:Nat} {rd:List Nat} {v:SV} {ok:Bool}
    (h:∀(ρ:aR) (vargs:List Value) (w:World),au ρ args vargs→gK ρ w→(∀id∈rd,∀row,m id=some row→bk ρ id row w)→∃rv,aE ρ v rv∧Calls P f vargs.toArray w (YZ w rv)):
    aN P f args m n {ok:=ok,val:=v,rd:=rd}:=by
 intro ρ pres vargs w hargs hg ha hrd _
 obtain ⟨rv,hv,hc⟩:=h ρ vargs w hargs hg (fun id hid row hrow=>(hrd id hid row hrow).1)
 refine hc.mono ?_
 rintro e w' ⟨rfl,hb⟩
 refine ⟨rv,ρ,rfl,⟨aR.le.refl ρ,fun i p hp=>Nat.lt_of_lt_of_le (hg i p hp) hb.size,fun _ _ h=>.inl h,fun i p h1 h2=>by simp at h2;omega,?_,hv,by simp,by simp,⟨hb.os,hb.tape,hb.output,hb.size,fun b hlt _=>hb.block b hlt⟩⟩⟩
 intro i j p q hi hj
 refine ha i j p q ?_ ?_
 · rcases hi with h |h
   · exact h.1
   · simp at h;omega
 · rcases hj with h |h
   · exact h.1
   · simp at h;omega
theorem Jd {f:Nat} {ok:Bool} {args:List SV} {m:Nat→Option Row} {n:Nat} {v:SV} {vargs:List Value} {rv:Value} (h1:∀ρ us,au ρ args us→us=vargs) (h2:∀ρ,aE ρ v rv) (h:∀w,Calls P f vargs.toArray w (YZ w rv)):aN P f args m n {ok:=ok,val:=v}:=
 Cj (rd:=[]) fun ρ us w hargs _ _=>⟨rv,h2 ρ,by rw [h1 ρ us hargs];exact h w⟩
theorem aM {f:Nat} {ok:Bool} {args:List SV} {m:Nat→Option Row} {n:Nat} {v:SV} {rows':List Row} (hc:cQ P f args [] v rows') (hi:SV.idsL args=[]) (hv:v.ids=[]):aN P f args m n {ok:=ok,val:=v}:=by
 intro ρ pres vargs w hargs hg ha hrd _
 have hcall:=hc (fun _=>none) vargs w (au.only _ _ (fun i hmem=>by rw [hi] at hmem;cases hmem) hargs) (fun i p h=>by cases h) (fun i row h=>by simp at h) (fun i j p q hi hj=>by obtain ⟨row,h,_⟩:=hi;simp at h) (fun _ _=>rfl)
 refine hcall.mono ?_
 rintro e w' ⟨v',ρ',rfl,hr,_,_,_,_,hp⟩
 refine ⟨v',ρ,rfl,⟨aR.le.refl ρ,fun i p h=>Nat.lt_of_lt_of_le (hg i p h) hp.frm.size,fun _ _ h=>.inl h,fun i p h1 h2=>by simp at h2;omega,?_,aE.only _ _ (fun i hmem=>by rw [hv] at hmem;cases hmem) hr,by simp,by simp,?_⟩⟩
 · intro i j p q hi hj
   refine ha i j p q ?_ ?_
   · rcases hi with h |h
     · exact h.1
     · simp at h;omega
   · rcases hj with h |h
     · exact h.1
     · simp at h;omega
 · refine hp.frm.weaken fun b _ hb=>?_
   obtain ⟨i,p,hl,_⟩:=hb
   obtain ⟨row,h,_⟩:=hl
   simp at h
theorem FA {ρ:aR} {s:SV} {v:Value} (h:aE ρ s v) (h1:s.one=true):v.oneCell'=true∧v.cells= #[v]:=by
 refine ⟨SV.one_rel h h1,?_⟩
 cases s<;>simp only [SV.one,reduceCtorEq] at h1<;>simp only [aE] at h
 case unk=>exact h.2
 case int=>subst h;rfl
 case bool=>subst h;rfl
 case nilp=>subst h;rfl
 case nils=>subst h;rfl
 case ptr=>obtain ⟨p,_,rfl⟩:=h;rfl
 case slice=>rcases h with ⟨p,o,c,_,rfl,_⟩|⟨_,_,_,_,rfl⟩<;>rfl
 case fn=>obtain ⟨vs,rfl,_⟩:=h;rfl
def bB (w d h:Int) (sol sp:SV):SV:=.agg [.int .i64 w,.int .i64 d,.int .i64 h,sol,sp]
theorem c7 {f:Nat} {ok:Bool} {wd dd hd:Int} {len off id:Nat} {cap:Option Nat} {sp:SV} (hsp:sp.one=true) {rest:List SV} {m:Nat→Option Row} {n:Nat} {v:SV} {ro:Bool} {xs:List Bool} {rows':List Row}
    (hc:cQ P f (bB wd dd hd (.slice 0 1 off len none) .unk::rest) [.vec true .bool xs] v rows') (hi:SV.idsL rest=[]) (hv:v.ids=[]) (hm:m id=some (.vec ro .bool xs)):
    aN P f (bB wd dd hd (.slice id 1 off len cap) sp::rest) m n {ok:=ok,val:=v,rd:=[id]}:=by
 intro ρ pres vargs w hargs hg ha hrd _
 have hrow:=(hrd id (by simp) _ hm).1
 let ρ0:aR:=fun i=>if i=0 then (ρ id).map (fun p=>{p with mine:=false}) else none
 have hρ0:∀i p,ρ0 i=some p→i=0∧p.mine=false∧∃q,ρ id=some q∧p={q with mine:=false}:=by
  intro i p h
  simp only [ρ0] at h
  split at h
  · rename_i hi0
    cases hq:ρ id with
    |none=>simp [hq] at h
    |some q=>simp [hq] at h;subst h;exact ⟨hi0,rfl,q,rfl,rfl⟩
  · cases h
 have hargs0:au ρ0 (bB wd dd hd (.slice 0 1 off len none) .unk::rest) vargs:=by
  cases vargs with
  |nil=>simp [au] at hargs
  | cons u us=>
   rw [aa] at hargs ⊢
   refine ⟨?_,au.only _ _ (fun i hmem=>by rw [hi] at hmem;cases hmem) hargs.2⟩
   have h1:=hargs.1
   unfold bB at h1 ⊢
   simp only [aE] at h1 ⊢
   obtain ⟨vs,hu,hr⟩:=h1
   refine ⟨vs,hu,?_⟩
   simp only [au,aE] at hr ⊢
   obtain ⟨a1,l1,rfl,h1,a2,l2,rfl,h2,a3,l3,rfl,h3,a4,l4,rfl,h4,a5,l5,rfl,h5,rfl⟩:=hr
   refine ⟨_,_,rfl,h1,_,_,rfl,h2,_,_,rfl,h3,_,_,rfl,?_,_,_,rfl,FA h5 hsp,rfl⟩
   rcases h4 with ⟨p,o,c,hp,hs,hcap,ho,hlc,hsz⟩|⟨h6,_,h7⟩
   · refine .inl ⟨{p with mine:=false},o,c,by simp [ρ0,hp],hs,by simp,?_,hlc,by simp⟩
     rcases ho with ho |⟨ho,_⟩
     · exact .inl ho
     · exact .inr ⟨ho,trivial⟩
   · exact .inr ⟨h6,trivial,h7⟩
 have hrow0:∀i row,([Row.vec true .bool xs]:List Row)[i]? =some row→bk ρ0 i row w:=by
  intro i row h
  cases i with
  |succ i=>simp at h
  |zero=>
   simp at h
   subst h
   rcases hrow with ⟨_,he⟩|⟨p,hp,_,_,hcells⟩
   · exact .inl ⟨rfl,he⟩
   · exact .inr ⟨{p with mine:=false},by simp [ρ0,hp],fun _=>rfl,fun h=>(by cases h),hcells⟩
 have hcall:=hc ρ0 vargs w hargs0 (fun i p h=>by obtain ⟨_,_,q,hq,rfl⟩:=hρ0 i p h;exact hg id q hq) hrow0
  (fun i j p q _ _ hij hp hq _=>by have h1:=(hρ0 i p hp).1;have h2:=(hρ0 j q hq).1;omega)
  (fun i hi0=>by simp at hi0;simp only [ρ0];rw [if_neg (by omega)])
 refine hcall.mono ?_
 rintro e w' ⟨v',ρ',rfl,hr,_,_,_,_,hp⟩
 refine ⟨v',ρ,rfl,⟨aR.le.refl ρ,fun i p h=>Nat.lt_of_lt_of_le (hg i p h) hp.frm.size,fun _ _ h=>.inl h,fun i p h1 h2=>by simp at h2;omega,?_,aE.only _ _ (fun i hmem=>by rw [hv] at hmem;cases hmem) hr,by simp,by simp,?_⟩⟩
 · intro i j p q hi hj
   refine ha i j p q ?_ ?_
   · rcases hi with h |h
     · exact h.1
     · simp at h;omega
   · rcases hj with h |h
     · exact h.1
     · simp at h;omega
 · refine hp.frm.weaken fun b _ hb=>?_
   obtain ⟨i,p,hl,hpp,hmine,_⟩:=hb
   rw [(hρ0 i p hpp).2.1] at hmine
   cases hmine
theorem Us {f:Nat} {args:List SV} {rows:List Row} {b:Bool} {rows':List Row} (hc:cQ P f args rows (.bool b) rows') {ρ:aR} {vargs:List Value} {w:World} (hargs:au ρ args vargs) (hg:gK ρ w) (hrows:∀i row,rows[i]? =some row→bk ρ i row w)
    (hfree:∀i,rows.length≤i→ρ i=none) (hm:∀i p,ρ i=some p→p.mine=false):Calls P f vargs.toArray w (YZ w (.bool b)):=by
 refine (hc ρ vargs w hargs hg hrows (fun i j p q _ _ _ hp hq h=>by rw [hm i p hp,hm j q hq] at h;cases h) hfree).mono ?_
 rintro e w' ⟨v',ρ',rfl,hr,_,_,_,_,hp⟩
 simp only [aE] at hr
 subst hr
 refine ⟨rfl,hp.frm.os,hp.frm.tape,hp.frm.output,hp.frm.size,fun k hk=>hp.frm.block k hk ?_⟩
 rintro ⟨i,p,_,hpp,hmine,_⟩
 rw [hm i p hpp] at hmine
 cases hmine
end
def uS (t:Nat):List (Nat×SV)→SV
 |[]=>.top
 |(i,v)::l=>bif Nat.beq t i then v else uS t l
def We (N:Nat) (kv:List (Nat×SV)):List SV:=(List.range N).map fun t=>uS t kv
def mD (N:Nat) (keep:List Nat) (vals:List SV) (rows:List Row):St:=⟨Tm.of (We N (keep.zip vals)),rows⟩
def j6 (i:Nat):List Nat→Nat→Option Nat
 |[],_=>none
 |k::l,j=>bif Nat.beq i k then some j else j6 i l (j+1)
def Row.ids1:Row→List Nat
 |.own cs=>cs.flatMap SV.ids1
 |.pre _ cs=>cs.flatMap SV.ids1
 |_=>[]
def Ea (n0:Nat) (τ:List Nat):SV→SV
 |.ptr id st i j=>bif Nat.blt id n0 then .ptr id st i j else match j6 id τ n0 with
  |some k=>.ptr k st i j
  |none=>.top
 |.slice id st off len cap=>bif Nat.blt id n0 then .slice id st off len cap else match j6 id τ n0 with
  |some k=>.slice k st off len cap
  |none=>.top
 |v=>bif v.ids.all (fun i=>Nat.blt i n0) then v else .top
def pC (n0:Nat) (τ:List Nat):Row→Row
 |.own cs=>.own (cs.map (Ea n0 τ))
 |.pre ro cs=>.pre ro (cs.map (Ea n0 τ))
 |r=>r
def Je (n0:Nat):List Nat→List Nat→List Nat
 |acc,[]=>acc
 |acc,i::l=>bif Nat.blt i n0||iR i acc then Je n0 acc l else Je n0 (acc++[i]) l
def cJ (n0:Nat) (keep:List Nat) (s:St):List Nat:=Je n0 [] ((keep.map s.tmps.get).flatMap SV.ids1++(s.rows.take n0).flatMap Row.ids1)
def AE (N n0:Nat) (keep:List Nat) (s:St):Option (List SV×List Row):=
 bif Nat.beq s.tmps.n N&&(Nat.ble n0 s.rows.length&&(cJ n0 keep s).all (fun k=>Nat.blt k s.rows.length)) then
  some ((keep.map s.tmps.get).map (Ea n0 (cJ n0 keep s)),(s.rows.take n0++(cJ n0 keep s).map (fun k=>s.rows.getD k .gone)).map (pC n0 (cJ n0 keep s))) else none
theorem nP {a b:Nat}:Nat.blt a b=true↔a<b:=by rw [Nat.blt_eq]
theorem tG {i:Nat}:∀{l:List Nat} {j k:Nat},j6 i l j=some k→j≤k∧l[k - j]? =some i
 |[],_,_,h=>by cases h
 | x::l,j,k,h=>by
  simp only [j6] at h
  cases hb:Nat.beq i x with
  |true=>
   simp only [hb,cond_true,Option.some.injEq] at h
   subst h
   have:=Nat.eq_of_beq_eq_true hb
   subst this
   exact ⟨Nat.le_refl _,by simp⟩
  |false=>
   simp only [hb,cond_false] at h
   obtain ⟨h1,h2⟩:=tG h
   refine ⟨by omega,?_⟩
   rw [show k - j=(k - (j+1))+1 by omega]
   simpa using h2
theorem oP {n0:Nat}:∀(l acc:List Nat),acc.Nodup→(∀i∈acc,n0≤i)→(Je n0 acc l).Nodup∧∀i∈Je n0 acc l,n0≤i
 |[],acc,h1,h2=>⟨h1,h2⟩
 | i ::l,acc,h1,h2=>by
  simp only [Je]
  cases hb:Nat.blt i n0||iR i acc with
  |true=>simp only [cond_true];exact oP l acc h1 h2
  | false=>
   simp only [cond_false]
   rw [Bool.or_eq_false_iff] at hb
   have hi:n0≤i:=by
    rcases Nat.lt_or_ge i n0 with h |h
    · have:=nP.2 h;rw [hb.1] at this;cases this
    · exact h
   have hm:i∉acc:=fun h=>by have:=di.2 h;rw [hb.2] at this;cases this
   refine oP l (acc++[i]) ?_ ?_
   · rw [List.nodup_append]
     exact ⟨h1,by simp,fun a ha b hb=>by simp at hb;subst hb;exact fun h=>hm (h ▸ ha)⟩
   · intro k hk
     rcases List.mem_append.1 hk with hk |hk
     · exact h2 k hk
     · simp at hk;omega
theorem ng (n0:Nat) (keep:List Nat) (s:St):(cJ n0 keep s).Nodup∧∀i∈cJ n0 keep s,n0≤i:=oP _ [] (by simp) (by simp)
def dk (ρ:aR) (n0:Nat) (τ:List Nat):aR:=fun i=>if i<n0 then ρ i else match τ[i - n0]? with
 |some k=>ρ k
 |none=>none
section
variable {ρ:aR} {n0:Nat} {τ:List Nat} {w:World}
theorem B5 {v:SV} {u:Value} (h:aE ρ v u):aE (dk ρ n0 τ) (Ea n0 τ v) u:=by
 have hlow:∀i,i<n0→dk ρ n0 τ i=ρ i:=fun i hi=>by unfold dk;rw [if_pos hi]
 have hidx:∀i k,j6 i τ n0=some k→dk ρ n0 τ k=ρ i:=by
  intro i k hk
  obtain ⟨h1,h2⟩:=tG hk
  unfold dk
  rw [if_neg (by omega),h2]
 have hrest:∀v:SV,aE ρ v u→aE (dk ρ n0 τ) (bif v.ids.all (fun i=>Nat.blt i n0) then v else .top) u:=by
  intro v h
  cases hb:v.ids.all (fun i=>Nat.blt i n0) with
  |false=>simp [aE]
  |true=>
   simp only [cond_true]
   refine aE.only v u (fun i hi p hp=>?_) h
   have:=List.all_eq_true.1 hb i hi
   rw [hlow i (nP.1 this)]
   exact hp
 cases v with
 | ptr id st i j=>
  simp only [Ea]
  cases hb:Nat.blt id n0 with
  |true=>
   simp only [cond_true]
   simp only [aE] at h ⊢
   rw [hlow id (nP.1 hb)]
   exact h
  | false=>
   simp only [cond_false]
   cases hk:j6 id τ n0 with
   |none=>simp [aE]
   |some k=>
    simp only [aE] at h ⊢
    rw [hidx id k hk]
    exact h
 | slice id st off len cap=>
  simp only [Ea]
  cases hb:Nat.blt id n0 with
  |true=>
   simp only [cond_true]
   simp only [aE] at h ⊢
   rw [hlow id (nP.1 hb)]
   exact h
  | false=>
   simp only [cond_false]
   cases hk:j6 id τ n0 with
   |none=>simp [aE]
   |some k=>
    simp only [aE] at h ⊢
    rw [hidx id k hk]
    exact h
 |_=>exact hrest _ h
theorem tV:∀{vs:List SV} {us:List Value},au ρ vs us→au (dk ρ n0 τ) (vs.map (Ea n0 τ)) us
 |[],us,h=>by simpa [au] using h
 |v::vs,us,h=>by
  rw [au] at h
  obtain ⟨u,us',rfl,h1,h2⟩:=h
  rw [List.map_cons,aa]
  exact ⟨B5 h1,tV h2⟩
theorem Jw {id id':Nat} {row:Row} (h:bk ρ id row w) (hid:dk ρ n0 τ id'=ρ id):bk (dk ρ n0 τ) id' (pC n0 τ row) w:=by
 cases row with
 |gone=>trivial
 |obj _=>trivial
 |pre ro cs=>
  obtain ⟨p,vs,ty,h1,h2,h3,h4,h5,h6⟩:=h
  exact ⟨p,vs,ty,hid.trans h1,h2,h3,h4,h5,by rw [List.length_map];exact tV h6⟩
 |own cs=>
  obtain ⟨p,vs,ty,h1,h2,h3,h4,h5⟩:=h
  exact ⟨p,vs,ty,hid.trans h1,h2,h3,h4,tV h5⟩
 |vec ro k xs=>
  rcases h with h |⟨p,h1,h2⟩
  · exact .inl h
  · exact .inr ⟨p,hid.trans h1,h2⟩
theorem DX {row:Row} {s:WS} (h:pC n0 τ row=.obj s):row=.obj s:=by
 cases row<;>simp [pC] at h
 rw [h]
theorem kZ {row:Row}:(pC n0 τ row).live=row.live:=by cases row<;>rfl
theorem jO {N n0:Nat} {keep:List Nat} {s:St} {v:List SV} {R:List Row} (hn:AE N n0 keep s=some (v,R)) {i:Nat} {row:Row} (hi:R[i]? =some row):
    ∃k row0,s.rows[k]? =some row0∧row=pC n0 (cJ n0 keep s) row0∧(∀ρ:aR,dk ρ n0 (cJ n0 keep s) i=ρ k)∧((i<n0∧k=i)∨(n0≤i∧n0≤k∧(cJ n0 keep s)[i - n0]? =some k)):=by
 unfold AE at hn
 cases hb:Nat.beq s.tmps.n N&&(Nat.ble n0 s.rows.length&&(cJ n0 keep s).all (fun k=>Nat.blt k s.rows.length)) with
 |false=>simp [hb] at hn
 | true=>
  simp only [hb,cond_true,Option.some.injEq,Prod.mk.injEq] at hn
  obtain ⟨_,rfl⟩:=hn
  rw [Bool.and_eq_true,Bool.and_eq_true] at hb
  obtain ⟨_,h1,h2⟩:=hb
  have h1:=Nat.le_of_ble_eq_true h1
  rw [List.getElem?_map] at hi
  have hl:(s.rows.take n0).length=n0:=by rw [List.length_take];omega
  by_cases hin:i<n0
  · rw [List.getElem?_append_left (by omega),List.getElem?_take_of_lt hin] at hi
    cases hr:s.rows[i]? with
    |none=>simp [hr] at hi
    |some row0=>
     simp [hr] at hi
     exact ⟨i,row0,hr,hi.symm,fun ρ=>by unfold dk;rw [if_pos hin],.inl ⟨hin,rfl⟩⟩
  · rw [List.getElem?_append_right (by omega),hl,List.getElem?_map] at hi
    cases hk:(cJ n0 keep s)[i - n0]? with
    |none=>simp [hk] at hi
    |some k=>
     simp [hk] at hi
     have hmem:=List.mem_of_getElem? hk
     have hlt:=nP.1 (List.all_eq_true.1 h2 k hmem)
     refine ⟨k,s.rows[k],List.getElem?_eq_getElem hlt,?_,fun ρ=>by unfold dk;rw [if_neg hin,hk],.inr ⟨by omega,(ng n0 keep s).2 k hmem,rfl⟩⟩
     rw [←hi,List.getElem?_eq_getElem hlt]
     rfl
theorem vX (t:Nat):∀(kv:List (Nat×SV)),uS t kv=.top∨(t,uS t kv)∈kv
 |[]=>.inl rfl
 | (i,v)::l=>by
  simp only [uS]
  cases hb:Nat.beq t i with
  |true=>
   have:=Nat.eq_of_beq_eq_true hb
   subst this
   exact .inr (by simp)
  |false=>
   simp only [cond_false]
   rcases vX t l with h |h
   · exact .inl h
   · exact .inr (List.mem_cons_of_mem _ h)
theorem zY {N:Nat} {kv:List (Nat×SV)} {us:List Value} (hl:us.length=N) (h:∀t v,(t,v)∈kv→∀u,us[t]? =some u→aE ρ v u):au ρ (We N kv) us:=by
 have key:∀(us:List Value) (i0:Nat),(∀t v,(t,v)∈kv→∀i u,us[i]? =some u→t=i0+i→aE ρ v u)→au ρ ((List.range' i0 us.length).map fun t=>uS t kv) us:=by
  intro us
  induction us with
  |nil=>intro i0 _;simp [au]
  |cons u us ih=>
   intro i0 h
   rw [List.length_cons,List.range'_succ,List.map_cons,aa]
   refine ⟨?_,ih (i0+1) fun t v hm i u' hu ht=>h t v hm (i+1) u' (by simpa using hu) (by omega)⟩
   rcases vX i0 kv with h1 |h1
   · rw [h1];simp [aE]
   · exact h i0 _ h1 0 u (by simp) (by omega)
 unfold We
 subst hl
 rw [List.range_eq_range']
 exact key us 0 fun t v hm i u hu ht=>h t v hm u (by rw [ht,Nat.zero_add];exact hu)
theorem PS {α β γ:Type} {l:List α} {f:α→β} {g:β→γ}:∀{x:α×γ},x∈l.zip ((l.map f).map g)→x.2=g (f x.1):=by
 induction l with
 |nil=>intro x h;simp at h
 |cons a l ih=>
  intro x h
  simp only [List.map_cons,List.zip_cons_cons,List.mem_cons] at h
  rcases h with h |h
  · rw [h]
  · exact ih h
theorem Kv {α β:Type} {l:List α} {f:α→β}:∀{x:α×β},x∈l.zip (l.map f)→x.2=f x.1:=by
 induction l with
 |nil=>intro x h;simp at h
 |cons a l ih=>
  intro x h
  simp only [List.map_cons,List.zip_cons_cons,List.mem_cons] at h
  rcases h with h |h
  · rw [h]
  · exact ih h
theorem F2 {s:St} {a:Act} (h:au ρ s.cf.tm a.tmps.toList) {t:Nat} {u:Value} (hu:a.tmps.toList[t]? =some u):aE ρ (s.tmps.get t) u:=by
 have hlen:=h.length
 have ht:=(List.getElem?_eq_some_iff.1 hu).1
 obtain ⟨x,hx⟩:∃x,s.cf.tm[t]? =some x:=⟨_,List.getElem?_eq_getElem (by omega)⟩
 obtain ⟨u',hu',hr⟩:=h.get hx
 rw [hu] at hu'
 cases hu'
 have :s.cf.tm.getD t .top=s.tmps.get t:=s.tmps.list_get t
 rw [List.getD_eq_getElem?_getD,hx] at this
 simp at this
 rw [←this]
 exact hr
theorem Ol {s:St} {a:Act} (h:au ρ s.cf.tm a.tmps.toList):a.tmps.toList.length=s.tmps.n:=by
 rw [←h.length]
 simp [St.cf,Tm.list]
theorem uz {N:Nat} {keep:List Nat} {s:St} (hN:s.tmps.n=N) {a:Act} (h:dt ρ s.cf a w):dt ρ (mD N keep (keep.map s.tmps.get) s.rows).cf a w:=by
 refine ⟨?_,h.df,h.good,h.rows,h.apart,h.free,h.obj⟩
 simp only [mD,St.cf,Tm.of_list]
 refine zY (by rw [Ol h.tm,hN]) fun t v hm u hu=>?_
 have :v=s.tmps.get t:=Kv hm
 rw [this]
 exact F2 h.tm hu
theorem Gp {N n0:Nat} {keep:List Nat} {s:St} {v:List SV} {R:List Row} (hn:AE N n0 keep s=some (v,R)) {a:Act} (h:dt ρ s.cf a w):
    dt (dk ρ n0 (cJ n0 keep s)) (mD N keep v R).cf a w∧∀(ρ0:aR) (m0:jM) (w0:World),(∀i,m0 i=none↔n0≤i)→(∀i,m0 i=none→ρ0 i=none)→dE ρ0 m0 w0 ρ s.cf.m w→dE ρ0 m0 w0 (dk ρ n0 (cJ n0 keep s)) (mD N keep v R).cf.m w:=by
 have hn':=hn
 unfold AE at hn'
 cases hb:Nat.beq s.tmps.n N&&(Nat.ble n0 s.rows.length&&(cJ n0 keep s).all (fun k=>Nat.blt k s.rows.length)) with
 |false=>simp [hb] at hn'
 | true=>
  simp only [hb,cond_true,Option.some.injEq,Prod.mk.injEq] at hn'
  obtain ⟨hv,hR⟩:=hn'
  rw [Bool.and_eq_true,Bool.and_eq_true] at hb
  obtain ⟨h0,h1,h2⟩:=hb
  have h0:=Nat.eq_of_beq_eq_true h0
  have h1:=Nat.le_of_ble_eq_true h1
  have hRl:R.length=n0+(cJ n0 keep s).length:=by rw [←hR];simp;omega
  have hrho:∀i p,dk ρ n0 (cJ n0 keep s) i=some p→(i<n0∧ρ i=some p)∨(n0≤i∧∃k,(cJ n0 keep s)[i - n0]? =some k∧n0≤k∧ρ k=some p):=by
   intro i p hp
   unfold dk at hp
   by_cases hi:i<n0
   · rw [if_pos hi] at hp;exact .inl ⟨hi,hp⟩
   · rw [if_neg hi] at hp
     cases hk:(cJ n0 keep s)[i - n0]? with
     |none=>rw [hk] at hp;cases hp
     |some k=>
      rw [hk] at hp
      exact .inr ⟨by omega,k,rfl,(ng n0 keep s).2 k (List.mem_of_getElem? hk),hp⟩
  have hinj:∀{i j k l:Nat},i≠j→((i<n0∧k=i)∨(n0≤i∧n0≤k∧(cJ n0 keep s)[i - n0]? =some k))→((j<n0∧l=j)∨(n0≤j∧n0≤l∧(cJ n0 keep s)[j - n0]? =some l))→k≠l:=by
   intro i j k l hij g4 k4 hkl
   subst hkl
   rcases g4 with ⟨a1,a2⟩|⟨a1,a2,a3⟩<;>rcases k4 with ⟨b1,b2⟩|⟨b1,b2,b3⟩
   · omega
   · omega
   · omega
   · have hnd:=(ng n0 keep s).1
     have h3:=(List.getElem?_eq_some_iff.1 a3).1
     have h4:=(List.getElem?_eq_some_iff.1 b3).1
     have e1:=(List.getElem?_eq_some_iff.1 a3).2
     have e2:=(List.getElem?_eq_some_iff.1 b3).2
     have hpw:=List.pairwise_iff_getElem.1 hnd
     rcases Nat.lt_trichotomy (i - n0) (j - n0) with hlt |heq |hgt
     · exact hpw _ _ h3 h4 hlt (e1.trans e2.symm)
     · omega
     · exact hpw _ _ h4 h3 hgt (e2.trans e1.symm)
  have hobj:∀i t,(mD N keep v R).cf.m i=some (.obj t)→∃k,s.cf.m k=some (.obj t)∧dk ρ n0 (cJ n0 keep s) i=ρ k∧((i<n0∧k=i)∨(n0≤i∧n0≤k∧(cJ n0 keep s)[i - n0]? =some k)):=by
   intro i t hi
   obtain ⟨k,row0,g1,g2,g3,g4⟩:=jO hn (by simpa [mD,St.cf] using hi)
   have:=DX g2.symm
   subst this
   exact ⟨k,by simpa [St.cf] using g1,g3 ρ,g4⟩
  constructor
  · refine ⟨?_,h.df,?_,?_,?_,?_,⟨?_,?_,?_⟩⟩
    · simp only [mD,St.cf,Tm.of_list]
      refine zY (by rw [Ol h.tm,h0]) fun t x hm u hu=>?_
      rw [←hv] at hm
      have hx:=PS hm
      simp only at hx
      rw [hx]
      exact B5 (F2 h.tm hu)
    · intro i p hp
      rcases hrho i p hp with ⟨_,h3⟩|⟨_,k,_,_,h3⟩<;>exact h.good _ _ h3
    · intro i row hi
      obtain ⟨k,row0,g1,rfl,g3,_⟩:=jO hn (by simpa [mD,St.cf] using hi)
      exact Jw (h.rows k row0 (by simpa [St.cf] using g1)) (g3 ρ)
    · intro i j p q hi hj hij hp hq hm
      obtain ⟨ri,hi1,hi2⟩:=hi
      obtain ⟨rj,hj1,hj2⟩:=hj
      obtain ⟨k,row0,g1,rfl,g3,g4⟩:=jO hn (by simpa [mD,St.cf] using hi1)
      obtain ⟨l,row1,k1,rfl,k3,k4⟩:=jO hn (by simpa [mD,St.cf] using hj1)
      rw [kZ] at hi2 hj2
      rw [g3 ρ] at hp
      rw [k3 ρ] at hq
      exact h.apart k l p q ⟨row0,by simpa [St.cf] using g1,hi2⟩ ⟨row1,by simpa [St.cf] using k1,hj2⟩ (hinj hij g4 k4) hp hq hm
    · intro i hi
      have hlen:n0+(cJ n0 keep s).length≤i:=by
       have :R[i]? =none:=by simpa [mD,St.cf] using hi
       rw [List.getElem?_eq_none_iff] at this
       omega
      unfold dk
      rw [if_neg (by omega),List.getElem?_eq_none (by omega)]
    · intro i t hi
      obtain ⟨k,g1,g2,_⟩:=hobj i t hi
      rw [g2]
      exact h.obj.is k t g1
    · intro i t p hi hp x hx j q hj hq
      obtain ⟨k,g1,g2,_⟩:=hobj i t hi
      obtain ⟨rj,hj1,hj2⟩:=hj
      obtain ⟨l,row1,k1,rfl,k3,k4⟩:=jO hn (by simpa [mD,St.cf] using hj1)
      rw [kZ] at hj2
      rw [g2] at hp
      rw [k3 ρ] at hq
      exact h.obj.out k t p g1 hp x hx l q ⟨row1,by simpa [St.cf] using k1,hj2⟩ hq
    · intro i j t u p q hi hj hij hp hq
      obtain ⟨k,g1,g2,g4⟩:=hobj i t hi
      obtain ⟨l,k1,k2,k4⟩:=hobj j u hj
      rw [g2] at hp
      rw [k2] at hq
      exact h.obj.two k l t u p q g1 k1 (hinj hij g4 k4) hp hq
  · intro ρ0 m0 w0 hm0 hf0 hp
    have hlow:∀i,i<n0→dk ρ n0 (cJ n0 keep s) i=ρ i:=fun i hi=>by unfold dk;rw [if_pos hi]
    refine ⟨fun i p hi=>?_,fun i hi=>?_,fun i hi=>?_,fun i p hi=>?_,fun i p hi hpi=>?_,hp.frm,fun i t p hi hpi=>?_⟩
    · have hin:i<n0:=by
       rcases Nat.lt_or_ge i n0 with h |h
       · exact h
       · rw [hf0 i ((hm0 i).2 h)] at hi;cases hi
      rw [hlow i hin]
      exact hp.le i p hi
    · have :R[i]? =none:=by simpa [mD,St.cf] using hi
      rw [List.getElem?_eq_none_iff] at this
      exact (hm0 i).2 (by omega)
    · obtain ⟨row,hr,hl⟩:=hi
      obtain ⟨k,row0,g1,rfl,g3,g4⟩:=jO hn (by simpa [mD,St.cf] using hr)
      rw [kZ] at hl
      rcases g4 with ⟨a1,rfl⟩|⟨a1,_⟩
      · exact hp.live k ⟨row0,by simpa [St.cf] using g1,hl⟩
      · exact .inr ((hm0 i).2 a1)
    · rcases hrho i p hi with ⟨_,h3⟩|⟨h3,_⟩
      · exact hp.dom i p h3
      · exact .inr ((hm0 i).2 h3)
    · rcases hrho i p hpi with ⟨h3,_⟩|⟨_,k,_,h4,h5⟩
      · have:=(hm0 i).1 hi;omega
      · exact hp.new k p ((hm0 k).2 h4) h5
    · obtain ⟨k,g1,g2,_⟩:=hobj i t hi
      rw [g2] at hpi
      exact hp.foot k t p g1 hpi
end
def Gr:Ex→SV
 |.normal=>.nilp
 |.ret=>.nils
 |.exit i=>.ptr i 0 0 0
theorem F5 {e e':Ex} (h:Gr e=Gr e'):e=e':=by cases e<;>cases e'<;>simp_all [Gr]
def JT (N n0:Nat) (keep:List Nat) (e:Ex) (s:St):Option aj:=match AE N n0 keep s with
 |some (v,R)=>some (.tuple [Gr e,.tuple v],R)
 |none=>none
def bj (X:bS) (L:Nat→List Nat→Option dq) (fuel f:Nat) (p:List Nat) (b:Code) (N n0:Nat) (keep:List Nat) (v:List SV) (R:List Row):Option aj:=
 fL X L fuel f (0::p) b (mD N keep v R) (JT N n0 keep)
inductive aJ (rd:List SV→List Row→Option aj):List SV→List Row→Ex→List SV→List Row→Prop
 |done {v R e v' R'}:rd v R=some (.tuple [Gr e,.tuple v'],R')→e≠ .normal→aJ rd v R e v' R'
 |more {v R v1 R1 e v' R'}:rd v R=some (.tuple [.nilp,.tuple v1],R1)→aJ rd v1 R1 e v' R'→aJ rd v R e v' R'
def bg (fn:Func) (p:List Nat):Code:=match fn.body with
 |some c=>match Fv c p with
  |some (.loop b)=>b
  |_=>.skip
 |none=>.skip
theorem aZ {P:Program} {f:Nat} {fn:Func} (hfu:P.funcs[f]? =some fn) {p:List Nat} {b:Code} (h:At P f p (.loop b)):b=bg fn p:=by
 obtain ⟨fn',body,h1,h2,h3⟩:=h
 rw [hfu] at h1
 cases h1
 unfold bg
 simp [h2,h3]
section
variable {P:Program} {X:bS}
theorem Ij (hX:bV P X) {L:Nat→List Nat→Option dq} (hL:AM P L) {fuel f:Nat} {p:List Nat} {b:Code} (hat:At P f p (.loop b)) {N n0:Nat} {keep:List Nat} {v v':List SV} {R R':List Row} {e:Ex}
    (h:aJ (bj X L fuel f p b N n0 keep) v R e v' R'):∃m,∀(ρ0:aR) (m0:jM) (w0:World),(∀i,m0 i=none↔n0≤i)→(∀i,m0 i=none→ρ0 i=none)→
     ∀(ρ:aR) (a:Act) (w:World),dt ρ (mD N keep v R).cf a w→dE ρ0 m0 w0 ρ (mD N keep v R).cf.m w→∀Q:Exit→Act→World→Prop,
      (∀ρ' a' w',dt ρ' (mD N keep v' R').cf a' w'→dE ρ0 m0 w0 ρ' (mD N keep v' R').cf.m w'→Q e.to a' w')→Code.rounds P b Q m a w:=by
 have step:∀{v R e1 v1 R1},bj X L fuel f p b N n0 keep v R=some (.tuple [Gr e1,.tuple v1],R1)→∀(ρ0:aR) (m0:jM) (w0:World),(∀i,m0 i=none↔n0≤i)→(∀i,m0 i=none→ρ0 i=none)→
     ∀(ρ:aR) (a:Act) (w:World),dt ρ (mD N keep v R).cf a w→dE ρ0 m0 w0 ρ (mD N keep v R).cf.m w→∀Q:Exit→Act→World→Prop,
      (∀ρ' a' w',dt ρ' (mD N keep v1 R1).cf a' w'→dE ρ0 m0 w0 ρ' (mD N keep v1 R1).cf.m w'→Q e1.to a' w')→b.wp P Q a w:=by
  intro v R e1 v1 R1 hr ρ0 m0 w0 hm0 hf0 ρ a w hs hp Q hQ
  obtain ⟨e2,s2,h1,h2⟩:=nX hX hL fuel f (0::p) b _ _ _ hr (hat.child rfl)
  unfold JT at h1
  split at h1
  · rename_i v2 R2 hn
    simp only [Option.some.injEq,Prod.mk.injEq,SV.tuple.injEq,List.cons.injEq,and_true] at h1
    obtain ⟨⟨he,rfl⟩,rfl⟩:=h1
    have:=F5 he
    subst this
    refine h2.tri ρ a w hs Q fun ρ' a' w' g1 g2=>?_
    obtain ⟨k1,k2⟩:=Gp hn g1
    exact hQ _ a' w' k1 (k2 ρ0 m0 w0 hm0 hf0 (hp.trans g2))
  · cases h1
 induction h with
 |done hr hne=>
  refine ⟨1,fun ρ0 m0 w0 hm0 hf0 ρ a w hs hp Q hQ=>?_⟩
  rw [rounds_succ]
  refine step hr ρ0 m0 w0 hm0 hf0 ρ a w hs hp _ fun ρ' a' w' g1 g2=>?_
  rename_i e' _ _
  cases e' with
  |normal=>exact absurd rfl hne
  |exit i=>exact hQ ρ' a' w' g1 g2
  |ret=>exact hQ ρ' a' w' g1 g2
 |more hr _ ih=>
  obtain ⟨m,hm⟩:=ih
  refine ⟨m+1,fun ρ0 m0 w0 hm0 hf0 ρ a w hs hp Q hQ=>?_⟩
  rw [rounds_succ]
  exact step (e1:=.normal) hr ρ0 m0 w0 hm0 hf0 ρ a w hs hp _ fun ρ' a' w' g1 g2=>hm ρ0 m0 w0 hm0 hf0 ρ' a' w' g1 g2 Q hQ
def bG (N:Nat) (keep:List Nat) (out:List SV→List Row→(Ex→List SV→List Row→Option aj)→Option aj):dq:=fun s K=>
 bif Nat.beq s.tmps.n N then out (keep.map s.tmps.get) s.rows fun e v R=>K e (mD N keep v R) else none
theorem aQ (hX:bV P X) {L:Nat→List Nat→Option dq} (hL:AM P L) {fuel f:Nat} {p:List Nat} {b:Code} (hat:At P f p (.loop b)) {N:Nat} {keep:List Nat} {out:List SV→List Row→(Ex→List SV→List Row→Option aj)→Option aj}
    (hout:∀v R k r,out v R k=some r→∃e v' R',k e v' R'=some r∧aJ (bj X L fuel f p b N R.length keep) v R e v' R') {s:St} {K:Ex→St→Option aj} {r:aj} (h:bG N keep out s K=some r):∃e s',K e s'=some r∧OK P b s e s':=by
 unfold bG at h
 cases hb:Nat.beq s.tmps.n N with
 |false=>simp [hb] at h
 |true=>
  simp only [hb,cond_true] at h
  have hN:=Nat.eq_of_beq_eq_true hb
  obtain ⟨e,v',R',h1,h2⟩:=hout _ _ _ _ h
  obtain ⟨m,hm⟩:=Ij hX hL hat h2
  refine ⟨e,_,h1,m,fun ρ a w hs Q hQ=>?_⟩
  exact hm ρ s.cf.m w (fun i=>by simp [St.cf]) hs.free ρ a w (uz hN hs) (dE.refl ρ s.cf.m w hs.free) Q hQ
end
end Go.Proofs.YtimkhidniolpeaaGreat
