/- Part of the proof. -/
import Derived.Test.YtimkhidniolpeaaGreatVmR
namespace Go.Proofs.YtimkhidniolpeaaGreat
set_option linter.unusedSimpArgs false
set_option linter.unusedVariables false
set_option maxRecDepth 100000
set_option maxHeartbeats 0
open Go.RowKit
def Le (C:SV→SV):Prop:=∀(ρ:aR) (s:SV) (v:Value),aE ρ (C s) v→∃u,aE ρ s u∧∀(ρ':aR) (s':SV),aE ρ' s' u→aE ρ' (C s') v
theorem nL:Le fun s=>s:=fun _ _ v h=>⟨v,h,fun _ _ h=>h⟩
theorem mu (b:Bool):Le fun s=>.agg [.bool b,s]:=by
 intro ρ s v h
 simp only [aE,au] at h
 obtain ⟨vs,rfl,_,_,rfl,rfl,u,_,rfl,hu,rfl⟩:=h
 refine ⟨u,hu,fun ρ' s' h'=>?_⟩
 simp only [aE,au]
 exact ⟨_,rfl,_,_,rfl,rfl,u,_,rfl,h',rfl⟩
theorem dS {P:Program} {f:Nat} {ok:Bool} {args0:List SV} {r0 r1:List Row} {s0:SV} {ds:List Int} {C:SV→SV} (hc:cQ P f args0 r0 (C s0) r1) (hC:Le C) {σ:List Nat} {m:Nat→Option Row} {n:Nat} (hk:σ.length=r0.length)
    (ha0:∀i∈SV.idsL args0,i<r0.length) (hm:∀(i:Nat) (row:Row),r0[i]? =some row→∃(k:aA) (xs:List k.T) (ro:Bool),row=.vec true k xs∧m (gV σ n i)=some (.vec ro k xs))
    (hs:(s0=.nils∧ds=[])∨∃d off cap ro,∃xs:List Int,s0=.slice d 1 off ds.length cap∧r0.length≤d∧r1[d]? =some (.vec ro .u64 xs)∧∀i,i<ds.length→xs[off+i]? =ds[i]?):
    aN P f (d8 (gV σ n) args0) m n {ok:=ok,val:=C (.slice n 1 0 ds.length none),rd:=σ,nw:=[.vec true .u64 ds]}:=by
 intro ρ pres vargs w hargs hg hap hrd hfree
 have hf:=(hfree n (Nat.le_refl _) (by simp)).1
 have hfp:=(hfree n (Nat.le_refl _) (by simp)).2
 let τ:=gV σ n
 let ρ0:aR:=fun i=>if i<r0.length then (ρ (τ i)).map (fun p=>{p with mine:=false}) else none
 have hρ0:∀i,i<r0.length→ρ0 i=(ρ (τ i)).map (fun p=>{p with mine:=false}):=fun i hi=>by simp only [ρ0,if_pos hi]
 have hlen:∀i row,r0[i]? =some row→i<r0.length:=fun i row h=>(List.getElem?_eq_some_iff.1 h).1
 have hmine:∀i p,ρ0 i=some p→p.mine=false∧p.b<w.heap.size:=by
  intro i p h
  simp only [ρ0] at h
  split at h
  · cases hq:ρ (τ i) with
    |none=>simp [hq] at h
    |some q=>simp [hq] at h;subst h;exact ⟨rfl,hg _ q hq⟩
  · cases h
 have hrow0:∀i row,r0[i]? =some row→bk ρ0 i row w:=by
  intro i row h
  obtain ⟨k,xs,ro,rfl,h1⟩:=hm i row h
  have hi:=hlen i _ h
  have hmem:τ i∈σ:=List.mem_of_getElem? (l6 (n:=n) (by omega:i<σ.length))
  rcases (hrd _ hmem _ h1).1 with ⟨_,h0⟩|⟨p,hp,_,_,hcell⟩
  · exact .inl ⟨rfl,h0⟩
  · exact .inr ⟨{p with mine:=false},by rw [hρ0 i hi,hp];rfl,fun _=>rfl,fun h=>(by cases h),hcell⟩
 have hcall:=hc ρ0 vargs w (dU ((bE args0 vargs).1 hargs) fun i hi=>hρ0 i (ha0 i hi)) (fun i p h=>(hmine i p h).2) hrow0
  (fun i j p q _ _ hij hp hq hm=>by rw [(hmine i p hp).1,(hmine j q hq).1] at hm;cases hm)
  (fun i hi=>by simp only [ρ0];rw [if_neg (by omega)])
 refine hcall.mono ?_
 rintro e w' ⟨v',ρ1,rfl,hr,hg1,hr1,_,_,hp⟩
 obtain ⟨u,hu,hback⟩:=hC _ _ _ hr
 have hno:∀b, ¬ fZ ρ0 (fun i=>r0[i]?) b:=by
  rintro b ⟨i,p,_,h3,h4,_⟩
  rw [(hmine i p h3).1] at h4
  cases h4
 have key :∃ρ':aR,(∀i,i≠n→ρ' i=ρ i)∧(∀p,ρ' n=some p→p.mine=false∧p.b<w'.heap.size∧w.heap.size≤p.b)∧aE ρ' (.slice n 1 0 ds.length none) u∧bk ρ' n (.vec true .u64 ds) w':=by
  rcases hs with ⟨rfl,rfl⟩|⟨d,off,cap,ro,xs,rfl,hd,hrow,hds⟩
  · simp only [aE] at hu
    subst hu
    refine ⟨ρ,fun _ _=>rfl,(fun p h=>by rw [hf] at h;cases h),?_,.inl ⟨rfl,rfl⟩⟩
    simp only [aE]
    exact .inr ⟨rfl,trivial,_,_,rfl⟩
  · simp only [aE] at hu
    rcases hu with ⟨p,o,c,h1,rfl,h3,h4,h5,h6⟩|⟨h0,_,a,c,rfl⟩
    · have hat:(ρ.upd n ⟨p.b,o,false,0⟩) n=some ⟨p.b,o,false,0⟩:=by simp [aR.upd]
      refine ⟨ρ.upd n ⟨p.b,o,false,0⟩,fun i hi=>by simp [aR.upd,hi],fun q h=>?_,?_,.inr ⟨⟨p.b,o,false,0⟩,hat,fun _=>rfl,fun h=>(by cases h),fun i x hx j s hs=>?_⟩⟩
      · rw [hat] at h
        cases h
        refine ⟨rfl,hg1 d p h1,?_⟩
        rcases hp.new d p (List.getElem?_eq_none hd) h1 with h |h
        · exact h
        · exact absurd h (hno _)
      · simp only [aE]
        exact .inl ⟨_,o,c,hat,rfl,by simp,.inl (by simp),h5,by simp⟩
      · have hi:i<ds.length:=(List.getElem?_eq_some_iff.1 hx).1
        have hx':xs[off+i]? =some x:=by rw [hds i hi];exact hx
        have ho:o=p.base+off*1:=by
         rcases h4 with h4 |⟨h4,_⟩
         · exact h4
         · omega
        rcases hr1 d _ hrow with ⟨_,he⟩|⟨p',hp',_,_,hcell⟩
        · have he':xs=[]:=he
          rw [he'] at hx'
          simp at hx'
        · rw [h1] at hp'
          cases hp'
          have:=hcell (off+i) x hx' j s hs
          have e1:o+i*aA.u64.st+j=p.base+(off+i)*aA.u64.st+j:=by
           simp only [aA.st]
           omega
          show w'.cell? ⟨p.b,o+i*aA.u64.st+j,none⟩=_
          rw [e1]
          exact this
    · have hd0:ds=[]:=List.length_eq_zero_iff.1 h0
      subst hd0
      refine ⟨ρ,fun _ _=>rfl,(fun p h=>by rw [hf] at h;cases h),?_,.inl ⟨rfl,rfl⟩⟩
      simp only [aE]
      exact .inr ⟨rfl,trivial,_,_,rfl⟩
 obtain ⟨ρ',k1,k2,k3,k4⟩:=key
 have hle:ρ.le ρ':=fun i p h=>by
  by_cases hi:i=n
  · subst hi;rw [hf] at h;cases h
  · rw [k1 i hi];exact h
 refine ⟨v',ρ',rfl,⟨hle,fun i p h=>?_,fun i p h=>?_,fun i p h1 h2 h=>?_,?_,hback _ _ k3,by simp,fun j row h=>?_,?_⟩⟩
 · by_cases hi:i=n
   · subst hi;exact (k2 p h).2.1
   · rw [k1 i hi] at h
     exact Nat.lt_of_lt_of_le (hg i p h) hp.frm.size
 · by_cases hi:i=n
   · exact .inr (by subst hi;simp)
   · rw [k1 i hi] at h
     exact .inl h
 · have hi:i=n:=by simp at h2;omega
   subst hi
   exact .inl (k2 p h).2.2
 · have old:∀i,dg pres n {ok:=ok,val:=C (.slice n 1 0 ds.length none),rd:=σ,nw:=[.vec true .u64 ds]} i→i≠n→pres i:=by
    intro i h hi
    rcases h with h |h
    · exact h.1
    · have:=h.1;simp at this;omega
   intro i j p q hi hj hij hpi hqj hmn
   by_cases ei:i=n
   · subst ei
     have ej:j≠i:=fun h=>hij h.symm
     have a:=k2 p hpi
     rw [k1 j ej] at hqj
     have:=hg j q hqj
     omega
   · rw [k1 i ei] at hpi
     by_cases ej:j=n
     · subst ej
       have a:=k2 q hqj
       have:=hg i p hpi
       omega
     · rw [k1 j ej] at hqj
       exact hap i j p q (old i hi ei) (old j hj ej) hij hpi hqj hmn
 · match j,h with
   |0,h=>simp at h;subst h;exact k4
   |j+1,h=>simp at h
 · refine hp.frm.weaken fun b _ hb=>?_
   exact absurd hb (hno b)
theorem eK {P:Program} {f:Nat} {ok:Bool} {args0:List SV} {r0 r1:List Row} {v0:SV} (hc:cQ P f args0 r0 v0 r1) (hv0:v0.ids=[]) {σ:List Nat} {m:Nat→Option Row} {n:Nat} (hk:σ.length=r0.length)
    (ha0:∀i∈SV.idsL args0,i<r0.length) (hm:∀(i:Nat) (row:Row),r0[i]? =some row→∃(k:aA) (xs:List k.T) (ro:Bool),row=.vec true k xs∧m (gV σ n i)=some (.vec ro k xs)):
    aN P f (d8 (gV σ n) args0) m n {ok:=ok,val:=v0,rd:=σ}:=by
 intro ρ pres vargs w hargs hg hap hrd hfree
 let τ:=gV σ n
 let ρ0:aR:=fun i=>if i<r0.length then (ρ (τ i)).map (fun p=>{p with mine:=false}) else none
 have hρ0:∀i,i<r0.length→ρ0 i=(ρ (τ i)).map (fun p=>{p with mine:=false}):=fun i hi=>by simp only [ρ0,if_pos hi]
 have hlen:∀i row,r0[i]? =some row→i<r0.length:=fun i row h=>(List.getElem?_eq_some_iff.1 h).1
 have hmine:∀i p,ρ0 i=some p→p.mine=false∧p.b<w.heap.size:=by
  intro i p h
  simp only [ρ0] at h
  split at h
  · cases hq:ρ (τ i) with
    |none=>simp [hq] at h
    |some q=>simp [hq] at h;subst h;exact ⟨rfl,hg _ q hq⟩
  · cases h
 have hrow0:∀i row,r0[i]? =some row→bk ρ0 i row w:=by
  intro i row h
  obtain ⟨k,xs,ro,rfl,h1⟩:=hm i row h
  have hi:=hlen i _ h
  have hmem:τ i∈σ:=List.mem_of_getElem? (l6 (n:=n) (by omega:i<σ.length))
  rcases (hrd _ hmem _ h1).1 with ⟨_,h0⟩|⟨p,hp,_,_,hcell⟩
  · exact .inl ⟨rfl,h0⟩
  · exact .inr ⟨{p with mine:=false},by rw [hρ0 i hi,hp];rfl,fun _=>rfl,fun h=>(by cases h),hcell⟩
 have hcall:=hc ρ0 vargs w (dU ((bE args0 vargs).1 hargs) fun i hi=>hρ0 i (ha0 i hi)) (fun i p h=>(hmine i p h).2) hrow0
  (fun i j p q _ _ hij hp hq hm=>by rw [(hmine i p hp).1,(hmine j q hq).1] at hm;cases hm)
  (fun i hi=>by simp only [ρ0];rw [if_neg (by omega)])
 refine hcall.mono ?_
 rintro e w' ⟨v',ρ1,rfl,hr,hg1,hr1,_,_,hp⟩
 have hno:∀b, ¬ fZ ρ0 (fun i=>r0[i]?) b:=by
  rintro b ⟨i,p,_,h3,h4,_⟩
  rw [(hmine i p h3).1] at h4
  cases h4
 refine ⟨v',ρ,rfl,⟨aR.le.refl ρ,fun i p h=>Nat.lt_of_lt_of_le (hg i p h) hp.frm.size,fun _ _ h=>.inl h,fun i p h1 h2=>by simp at h2;omega,?_,aE.only _ _ (fun i hmem=>by rw [hv0] at hmem;cases hmem) hr,by simp,by simp,?_⟩⟩
 · intro i j p q hi hj
   refine hap i j p q ?_ ?_
   · rcases hi with h |h
     · exact h.1
     · have:=h.1;simp at this;omega
   · rcases hj with h |h
     · exact h.1
     · have:=h.1;simp at this;omega
 · exact hp.frm.weaken fun b _ hb=>absurd hb (hno b)
theorem cy {P:Program} {f:Nat} {args args':List SV} {m:Nat→Option Row} {n:Nat} {e:aL} (h:aN P f args m n e) (ha:∀ρ vs,au ρ args' vs→au ρ args vs):aN P f args' m n e:=
 fun ρ pres vargs w hargs=>h ρ pres vargs w (ha ρ vargs hargs)
theorem bP {ρ:aR} {id st off len:Nat} {cap:Option Nat} {u:Value} (h:aE ρ (.slice id st off len cap) u):aE ρ (.slice id st off len none) u:=by
 simp only [aE] at h ⊢
 rcases h with ⟨p,o,c,h1,h2,_,h4,h5,h6⟩|⟨h0,_,a,c,h⟩
 · refine .inl ⟨p,o,c,h1,h2,by simp,?_,h5,h6⟩
   rcases h4 with h4 |h4
   · exact .inl h4
   · exact .inr ⟨h4.1,trivial⟩
 · exact .inr ⟨h0,trivial,a,c,h⟩
theorem lI {P:Program} {f:Nat} {ok ro':Bool} {capR:Option Nat} {args0:List SV} {r0 r1:List Row} {s0:SV} {k:aA} {ds:List k.T} (hc:cQ P f args0 r0 s0 r1) {σ:List Nat} {m:Nat→Option Row} {n:Nat} (hk:σ.length=r0.length)
    (ha0:∀i∈SV.idsL args0,i<r0.length) (hm:∀(i:Nat) (row:Row),r0[i]? =some row→∃(k:aA) (xs:List k.T) (ro:Bool),row=.vec true k xs∧m (gV σ n i)=some (.vec ro k xs))
    (hs:(s0=.nils∧ds=[]∧ro'=true)∨∃d cap ro,∃xs:List k.T,s0=.slice d k.st 0 ds.length cap∧r0.length≤d∧r1[d]? =some (.vec ro k xs)∧(∀i,i<ds.length→xs[i]? =ds[i]?)∧(ro'=false→ro=false∧xs=ds)∧(capR=none∨ro'=false∧capR=cap)) (hcr:ro'=true→capR=none):
    aN P f (d8 (gV σ n) args0) m n {ok:=ok,val:=.slice n k.st 0 ds.length capR,rd:=σ,nw:=[.vec ro' k ds]}:=by
 intro ρ pres vargs w hargs hg hap hrd hfree
 have hf:=(hfree n (Nat.le_refl _) (by simp)).1
 have hfp:=(hfree n (Nat.le_refl _) (by simp)).2
 let τ:=gV σ n
 let ρ0:aR:=fun i=>if i<r0.length then (ρ (τ i)).map (fun p=>{p with mine:=false}) else none
 have hρ0:∀i,i<r0.length→ρ0 i=(ρ (τ i)).map (fun p=>{p with mine:=false}):=fun i hi=>by simp only [ρ0,if_pos hi]
 have hlen:∀i row,r0[i]? =some row→i<r0.length:=fun i row h=>(List.getElem?_eq_some_iff.1 h).1
 have hmine:∀i p,ρ0 i=some p→p.mine=false∧p.b<w.heap.size:=by
  intro i p h
  simp only [ρ0] at h
  split at h
  · cases hq:ρ (τ i) with
    |none=>simp [hq] at h
    |some q=>simp [hq] at h;subst h;exact ⟨rfl,hg _ q hq⟩
  · cases h
 have hrow0:∀i row,r0[i]? =some row→bk ρ0 i row w:=by
  intro i row h
  obtain ⟨k,xs,ro,rfl,h1⟩:=hm i row h
  have hi:=hlen i _ h
  have hmem:τ i∈σ:=List.mem_of_getElem? (l6 (n:=n) (by omega:i<σ.length))
  rcases (hrd _ hmem _ h1).1 with ⟨_,h0⟩|⟨p,hp,_,_,hcell⟩
  · exact .inl ⟨rfl,h0⟩
  · exact .inr ⟨{p with mine:=false},by rw [hρ0 i hi,hp];rfl,fun _=>rfl,fun h=>(by cases h),hcell⟩
 have hcall:=hc ρ0 vargs w (dU ((bE args0 vargs).1 hargs) fun i hi=>hρ0 i (ha0 i hi)) (fun i p h=>(hmine i p h).2) hrow0
  (fun i j p q _ _ hij hp hq hm=>by rw [(hmine i p hp).1,(hmine j q hq).1] at hm;cases hm)
  (fun i hi=>by simp only [ρ0];rw [if_neg (by omega)])
 refine hcall.mono ?_
 rintro e w' ⟨v',ρ1,rfl,hu,hg1,hr1,_,_,hp⟩
 have hno:∀b, ¬ fZ ρ0 (fun i=>r0[i]?) b:=by
  rintro b ⟨i,p,_,h3,h4,_⟩
  rw [(hmine i p h3).1] at h4
  cases h4
 have key:∃ρ':aR,(∀i,i≠n→ρ' i=ρ i)∧(∀p,ρ' n=some p→p.b<w'.heap.size∧w.heap.size≤p.b)∧aE ρ' (.slice n k.st 0 ds.length capR) v'∧bk ρ' n (.vec ro' k ds) w':=by
  rcases hs with ⟨rfl,rfl,rfl⟩|⟨d,cap,ro,xs,rfl,hd,hrow,hds,hro,hcap⟩
  · simp only [aE] at hu
    subst hu
    obtain rfl:=hcr rfl
    refine ⟨ρ,fun _ _=>rfl,(fun p h=>by rw [hf] at h;cases h),?_,.inl ⟨rfl,rfl⟩⟩
    simp only [aE]
    exact .inr ⟨rfl,trivial,_,_,rfl⟩
  have fresh:∀p,ρ1 d=some p→p.b<w'.heap.size∧w.heap.size≤p.b:=fun p h1=>by
   refine ⟨hg1 d p h1,?_⟩
   rcases hp.new d p (List.getElem?_eq_none hd) h1 with h |h
   · exact h
   · exact absurd h (hno _)
  cases hro':ro' with
  | false=>
   obtain ⟨rfl,rfl⟩:=hro hro'
   rcases hr1 d _ hrow with ⟨h,_⟩|⟨p,hp1,hp2⟩
   · cases h
   have hat:(ρ.upd n p) n=some p:=by simp [aR.upd]
   refine ⟨ρ.upd n p,fun i hi=>by simp [aR.upd,hi],fun q h=>?_,?_,.inr ⟨p,hat,hp2⟩⟩
   · rw [hat] at h
     cases h
     exact fresh p hp1
   · simp only [aE] at hu ⊢
     rcases hu with ⟨p',o,c,h1,rfl,hc',h4,h5,h6⟩|⟨h0,hc',a,c,rfl⟩
     · rw [hp1] at h1
       cases h1
       refine .inl ⟨p,o,c,hat,rfl,fun c' e=>?_,?_,h5,h6⟩
       · rcases hcap with rfl |⟨_,rfl⟩
         · cases e
         · exact hc' c' e
       · rcases h4 with h4 |⟨h4,h7⟩
         · exact .inl h4
         · exact .inr ⟨h4,by rcases hcap with rfl |⟨_,rfl⟩;rfl;exact h7⟩
     · exact .inr ⟨h0,by rcases hcap with rfl |⟨_,rfl⟩;rfl;exact hc',a,c,rfl⟩
  | true =>
   obtain rfl:=hcr hro'
   simp only [aE] at hu
   rcases hu with ⟨p,o,c,h1,rfl,h3,h4,h5,h6⟩|⟨h0,_,a,c,rfl⟩
   · have hat:(ρ.upd n ⟨p.b,o,false,0⟩) n=some ⟨p.b,o,false,0⟩:=by simp [aR.upd]
     refine ⟨ρ.upd n ⟨p.b,o,false,0⟩,fun i hi=>by simp [aR.upd,hi],fun q h=>?_,?_,.inr ⟨⟨p.b,o,false,0⟩,hat,fun _=>rfl,fun h=>(by cases h),fun i x hx j s hs=>?_⟩⟩
     · rw [hat] at h
       cases h
       exact fresh p h1
     · simp only [aE]
       exact .inl ⟨_,o,c,hat,rfl,by simp,.inl (by simp),h5,by simp⟩
     · have hi:i<ds.length:=(List.getElem?_eq_some_iff.1 hx).1
       have hx':xs[i]? =some x:=by rw [hds i hi];exact hx
       have ho:o=p.base:=by
        rcases h4 with h4 |⟨h4,_⟩
        · omega
        · omega
       rcases hr1 d _ hrow with ⟨_,he⟩|⟨p',hp',_,_,hcell⟩
       · have he':xs=[]:=he
         rw [he'] at hx'
         simp at hx'
       · rw [h1] at hp'
         cases hp'
         have:=hcell i x hx' j s hs
         show w'.cell? ⟨p.b,o+i*k.st+j,none⟩=_
         rw [ho]
         exact this
   · have hd0:ds=[]:=List.length_eq_zero_iff.1 h0
     subst hd0
     refine ⟨ρ,fun _ _=>rfl,(fun p h=>by rw [hf] at h;cases h),?_,.inl ⟨rfl,rfl⟩⟩
     simp only [aE]
     exact .inr ⟨rfl,trivial,_,_,rfl⟩
 obtain ⟨ρ',k1,k2,k3,k4⟩:=key
 have hle:ρ.le ρ':=fun i p h=>by
  by_cases hi:i=n
  · subst hi;rw [hf] at h;cases h
  · rw [k1 i hi];exact h
 refine ⟨v',ρ',rfl,⟨hle,fun i p h=>?_,fun i p h=>?_,fun i p h1 h2 h=>?_,?_,k3,by simp,fun j row h=>?_,?_⟩⟩
 · by_cases hi:i=n
   · subst hi;exact (k2 p h).1
   · rw [k1 i hi] at h
     exact Nat.lt_of_lt_of_le (hg i p h) hp.frm.size
 · by_cases hi:i=n
   · exact .inr (by subst hi;simp)
   · rw [k1 i hi] at h
     exact .inl h
 · have hi:i=n:=by simp at h2;omega
   subst hi
   exact .inl (k2 p h).2
 · have old:∀i,dg pres n {ok:=ok,val:=.slice n k.st 0 ds.length capR,rd:=σ,nw:=[.vec ro' k ds]} i→i≠n→pres i:=by
    intro i h hi
    rcases h with h |h
    · exact h.1
    · have:=h.1;simp at this;omega
   intro i j p q hi hj hij hpi hqj hmn
   by_cases ei:i=n
   · subst ei
     have ej:j≠i:=fun h=>hij h.symm
     have a:=k2 p hpi
     rw [k1 j ej] at hqj
     have:=hg j q hqj
     omega
   · rw [k1 i ei] at hpi
     by_cases ej:j=n
     · subst ej
       have a:=k2 q hqj
       have:=hg i p hpi
       omega
     · rw [k1 j ej] at hqj
       exact hap i j p q (old i hi ei) (old j hj ej) hij hpi hqj hmn
 · match j,h with
   |0,h=>simp at h;subst h;exact k4
   |j+1,h=>simp at h
 · refine hp.frm.weaken fun b _ hb=>?_
   exact absurd hb (hno b)
theorem pV {P:Program} {f:Nat} {ok:Bool} {args0:List SV} {r0 r1:List Row} {s0:SV} {k:aA} {ds:List k.T} (hc:cQ P f args0 r0 s0 r1) {σ:List Nat} {m:Nat→Option Row} {n:Nat} (hk:σ.length=r0.length)
    (ha0:∀i∈SV.idsL args0,i<r0.length) (hm:∀(i:Nat) (row:Row),r0[i]? =some row→∃(k:aA) (xs:List k.T) (ro:Bool),row=.vec true k xs∧m (gV σ n i)=some (.vec ro k xs))
    (hs:(s0=.nils∧ds=[])∨∃d cap ro,∃xs:List k.T,s0=.slice d k.st 0 ds.length cap∧r0.length≤d∧r1[d]? =some (.vec ro k xs)∧∀i,i<ds.length→xs[i]? =ds[i]?):
    aN P f (d8 (gV σ n) args0) m n {ok:=ok,val:=.slice n k.st 0 ds.length none,rd:=σ,nw:=[.vec true k ds]}:=
 lI hc hk ha0 hm (hs.imp (fun h=>⟨h.1,h.2,rfl⟩) fun ⟨d,cap,ro,xs,h1,h2,h3,h4⟩=>⟨d,cap,ro,xs,h1,h2,h3,h4,(fun h=>by cases h),.inl rfl⟩) fun _=>rfl
end Go.Proofs.YtimkhidniolpeaaGreat
