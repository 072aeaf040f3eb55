/- Part of the proof. -/
import Derived.Test.YtimkhidniolpeaaGreatVmR
import Derived.Test.YtimkhidniolpeaaGreatVmI
namespace Go.Proofs.YtimkhidniolpeaaGreat
set_option linter.unusedSimpArgs false
set_option linter.unusedVariables false
set_option maxRecDepth 100000
set_option maxHeartbeats 0
open Go.RowKit
def ue (σ κ:List Nat) (n:Nat) (i:Nat):Nat:=match j6 i κ n with
 |some k=>k
 |none=>σ.getD i 0
theorem rG {i:Nat}:∀{κ:List Nat} {n k:Nat},κ.Nodup→κ[k]? =some i→j6 i κ n=some (n+k)
 |[],_,_,_,h=>by simp at h
 |x::κ,n,0,_,h=>by
  simp at h
  subst h
  simp [j6]
 | x::κ,n,k+1,hn,h=>by
  simp at h
  have hx:i≠x:=fun e=>(List.nodup_cons.1 hn).1 (e ▸ List.mem_of_getElem? h)
  have :Nat.beq i x=false:=by
   cases hb:Nat.beq i x with
   |false=>rfl
   |true=>exact absurd (Nat.eq_of_beq_eq_true hb) hx
  rw [j6,this,cond_false,rG (List.nodup_cons.1 hn).2 h]
  congr 1
  omega
theorem ni {i:Nat}:∀{κ:List Nat} {n:Nat},i∉κ→j6 i κ n=none
 |[],_,_=>rfl
 | x::κ,n,h=>by
  have :Nat.beq i x=false:=by
   cases hb:Nat.beq i x with
   |false=>rfl
   |true=>exact absurd (Nat.eq_of_beq_eq_true hb) fun e=>h (by simp [e])
  rw [j6,this,cond_false,ni fun e=>h (by simp [e])]
theorem KC {σ:List Nat} (hnd:σ.Nodup) {i j:Nat} (hi:i<σ.length) (hj:j<σ.length) (h:σ.getD i 0=σ.getD j 0):i=j:=by
 simp only [List.getD,List.getElem?_eq_getElem hi,List.getElem?_eq_getElem hj,Option.getD_some] at h
 have hpw:=List.pairwise_iff_getElem.1 hnd
 rcases Nat.lt_trichotomy i j with h1 |h1 |h1
 · exact absurd h (hpw i j hi hj h1)
 · exact h1
 · exact absurd h.symm (hpw j i hj hi h1)
theorem Ip {P:Program} {f:Nat} {ok:Bool} {args0:List SV} {r0 r1:List Row} {v0:SV} (hc:cQ P f args0 r0 v0 r1) {σ κ:List Nat} {m:Nat→Option Row} {n:Nat} {W:List (Nat×Row)} (hk:σ.length=r0.length) (hnd:σ.Nodup) (hlt:∀j∈σ,j<n)
    (hκ:κ.Nodup) (hκ2:∀k∈κ,k<r1.length∧(k<r0.length→(∃kd xs,r0[k]? =some (.vec false kd xs))∧(σ.getD k 0,.gone)∈W))
    (ha0:∀i∈SV.idsL args0,i<r0.length) (hi0:∀(i:Nat) (row:Row),r0[i]? =some row→∀j∈row.idsR,j<r0.length)
    (hm:∀(i:Nat) (row:Row),r0[i]? =some row→∃row2,m (σ.getD i 0)=some row2∧(row.live=true→row2.live=true)∧(∀ρ w,bk ρ (σ.getD i 0) row2 w→bk ρ (σ.getD i 0) (cz (σ.getD · 0) row) w))
    (hW:∀(i:Nat) (row:Row),r0[i]? =some row→row.live=true→(∃k xs,row=.vec true k xs)∨∃row',(σ.getD i 0,row')∈W)
    (hW2:∀x∈W,∃i,i<r0.length∧x.1=σ.getD i 0∧(x.2=.gone∨i∉κ∧∃row',r1[i]? =some row'∧x.2=cz (ue σ κ n) row'∧∀j∈row'.idsR,j<r0.length∨j∈κ))
    (hv:∀i∈v0.ids,i<r0.length∨i∈κ) (hr:∀i∈κ,∀row:Row,r1[i]? =some row→∀j∈row.idsR,j<r0.length∨j∈κ):
    aN P f (d8 (σ.getD · 0) args0) m n {ok:=ok,val:=gj (ue σ κ n) v0,rd:=σ,wr:=W,nw:=κ.map fun k=>cz (ue σ κ n) (r1.getD k .gone)}:=by
 intro ρ pres vargs w hargs hg ha hrd hfree
 let α:Nat→Nat:=(σ.getD · 0)
 let τ:=ue σ κ n
 let ρ0:aR:=fun i=>if i<r0.length then ρ (α i) else none
 have hρ0:∀i,i<r0.length→ρ0 i=ρ (α i):=fun i hi=>by simp only [ρ0,if_pos hi]
 have hαlt:∀i,i<r0.length→α i<n∧α i∈σ:=fun i hi=>by
  have hi':i<σ.length:=by omega
  have :α i=σ[i]:=by simp [α,List.getD,List.getElem?_eq_getElem hi']
  rw [this]
  exact ⟨hlt _ (List.getElem_mem _),List.getElem_mem _⟩
 have hinj:∀i j,i<r0.length→j<r0.length→α i=α j→i=j:=fun i j hi hj h=>KC hnd (by omega) (by omega) h
 have hlen:∀i row,r0[i]? =some row→i<r0.length:=fun i row h=>(List.getElem?_eq_some_iff.1 h).1
 have hrow0:∀i row,r0[i]? =some row→bk ρ0 i row w:=by
  intro i row h
  obtain ⟨row2,h1,_,h3⟩:=hm i row h
  have hi:=hlen i row h
  have h4:=h3 ρ w (hrd _ (hαlt i hi).2 _ h1).1
  exact (je.1 h4).only (fun p hp=>by rw [hρ0 i hi];exact hp) (fun j hj p hp=>by rw [hρ0 j (hi0 i row h j hj)];exact hp)
 have hpres:∀i row,r0[i]? =some row→row.live=true→pres (α i):=by
  intro i row h hl
  obtain ⟨row2,h1,h2,_⟩:=hm i row h
  exact (hrd _ (hαlt i (hlen i row h)).2 _ h1).2 (h2 hl)
 have hcall:=hc ρ0 vargs w (au.only _ _ (fun i hi p hp=>by rw [hρ0 i (ha0 i hi)];exact hp) ((bE args0 vargs).1 hargs)) (fun i p h=>by
     simp only [ρ0] at h
     split at h
     · exact hg _ p h
     · cases h) hrow0 (fun i j p q hi hj hij hp hq hmine=>by
     obtain ⟨ri,hi1,hi2⟩:=hi
     obtain ⟨rj,hj1,hj2⟩:=hj
     rw [hρ0 i (hlen i ri hi1)] at hp
     rw [hρ0 j (hlen j rj hj1)] at hq
     exact ha (α i) (α j) p q (hpres i ri hi1 hi2) (hpres j rj hj1 hj2) (fun h=>hij (hinj i j (hlen i ri hi1) (hlen j rj hj1) h)) hp hq hmine) (fun i hi=>by simp only [ρ0,if_neg (by omega: ¬ i<r0.length)])
 refine hcall.mono ?_
 rintro en w' ⟨v',ρ1,rfl,hv1,hg1,hr1,ha1,hf1,hp⟩
 have hL:(κ.map fun k=>cz (ue σ κ n) (r1.getD k .gone)).length=κ.length:=by simp
 let ρ':aR:=fun j=>if n≤j∧j<n+κ.length then (κ[j - n]?).bind ρ1 else ρ j
 have hold:∀j, ¬ (n≤j∧j<n+κ.length)→ρ' j=ρ j:=fun j hj=>by simp only [ρ',if_neg hj]
 have hnew:∀j,n≤j∧j<n+κ.length→∃k,κ[j - n]? =some k∧k∈κ∧ρ' j=ρ1 k:=fun j hj=>by
  have h1:κ[j - n]? =some κ[j - n]:=List.getElem?_eq_getElem (by omega)
  exact ⟨_,h1,List.mem_of_getElem? h1,by simp only [ρ',if_pos hj,h1];rfl⟩
 have h01:∀i,i<r0.length→ρ1 i=ρ (α i):=by
  intro i hi
  rw [←hρ0 i hi]
  cases h:ρ0 i with
  |some p=>exact hp.le i p h
  | none=>
   cases h1:ρ1 i with
   |none=>rfl
   |some p=>
    rcases hp.dom i p h1 with h2 |h2
    · rw [h] at h2;cases h2
    · rw [List.getElem?_eq_none_iff] at h2;omega
 have hκτ:∀k i,κ[k]? =some i→τ i=n+k:=fun k i h=>by
  show ue σ κ n i=_
  unfold ue
  rw [rG hκ h]
 have hατ:∀i,i∉κ→τ i=α i:=fun i h=>by
  show ue σ κ n i=_
  unfold ue
  rw [ni h]
 have hτ:∀i p,(i<r0.length∨i∈κ)→ρ1 i=some p→ρ' (τ i)=some p:=by
  intro i p hi h
  by_cases hk1:i∈κ
  · obtain ⟨k,hk1⟩:=List.getElem?_of_mem hk1
    have hkl:=(List.getElem?_eq_some_iff.1 hk1).1
    rw [hκτ k i hk1]
    obtain ⟨k',e1,_,e2⟩:=hnew (n+k) (by omega)
    rw [show n+k - n=k by omega,hk1] at e1
    cases e1
    rw [e2]
    exact h
  · have hi:=hi.resolve_right hk1
    rw [hατ i hk1,hold _ (by have:=(hαlt i hi).1;omega),←h01 i hi]
    exact h
 have hrow1:∀i row,(i<r0.length∨i∈κ)→r1[i]? =some row→(∀j∈row.idsR,j<r0.length∨j∈κ)→bk ρ' (τ i) (cz τ row) w':=by
  intro i row hi h hj
  exact je.2 ((hr1 i row h).only (fun p hp=>hτ i p hi hp) (fun j hj' p hp=>hτ j p (hj j hj') hp))
 have hmay:∀b,fZ ρ0 (fun i=>r0[i]?) b→∃i q row',i<r0.length∧(α i,row')∈W∧pres (α i)∧ρ (α i)=some q∧q.mine=true∧q.b=b:=by
  rintro b ⟨i,q,⟨row,hrow,hl⟩,hq,hmine,rfl⟩
  have hi:=hlen i row hrow
  rcases hW i row hrow hl with ⟨k,xs,rfl⟩|⟨row',h2⟩
  · exfalso
    rcases hrow0 i _ hrow with ⟨_,he⟩|⟨p,hp',hro,_⟩
    · subst he
      simp [Row.live] at hl
    · rw [hq] at hp'
      cases hp'
      rw [hro rfl] at hmine
      cases hmine
  · exact ⟨i,q,row',hi,h2,hpres i row hrow hl,by rw [←hρ0 i hi];exact hq,hmine,rfl⟩
 have hnewp:∀j p,n≤j∧j<n+κ.length→ρ' j=some p→w.heap.size≤p.b∨∃i q row',i<r0.length∧(α i,row')∈W∧pres (α i)∧ρ (α i)=some q∧q.mine=true∧q.b=p.b:=by
  intro j p hj h
  obtain ⟨k,_,hk1,hk2⟩:=hnew j hj
  rw [hk2] at h
  by_cases hkl:k<r0.length
  · obtain ⟨⟨kd,xs,hrow⟩,hW3⟩:=(hκ2 k hk1).2 hkl
    refine .inr ⟨k,p,_,hkl,hW3,hpres k _ hrow rfl,by rw [←h01 k hkl];exact h,?_,rfl⟩
    rcases hrow0 k _ hrow with ⟨he,_⟩|⟨p',hp',_,hown,_⟩
    · cases he
    · rw [hρ0 k hkl,←h01 k hkl,h] at hp'
      cases hp'
      exact (hown rfl).1
  · rcases hp.new _ p (List.getElem?_eq_none (by omega)) h with h1 |h1
    · exact .inl h1
    · exact .inr (hmay _ h1)
 have hgetk:∀j,n≤j∧j<n+κ.length→∀k,κ[j - n]? =some k→∃row,r1[k]? =some row∧(κ.map fun k=>cz (ue σ κ n) (r1.getD k .gone))[j - n]? =some (cz τ row):=by
  intro j hj k hk1
  have h2:=(hκ2 _ (List.mem_of_getElem? hk1)).1
  refine ⟨r1[k],List.getElem?_eq_getElem h2,?_⟩
  rw [List.getElem?_map,hk1]
  simp [List.getD,List.getElem?_eq_getElem h2,τ]
 refine ⟨v',ρ',rfl,?_⟩
 refine ⟨fun i p h=>?_,fun i p h=>?_,fun i p h=>?_,fun i p h1 h2 h=>?_,?_,?_,fun x hx=>?_,fun j row h=>?_,?_⟩
 · rw [hold i]
   · exact h
   · rintro ⟨h1,h2⟩
     rw [(hfree i h1 (by rw [hL];exact h2)).1] at h
     cases h
 · by_cases hj:n≤i∧i<n+κ.length
   · obtain ⟨k,_,_,hk2⟩:=hnew i hj
     rw [hk2] at h
     exact hg1 _ p h
   · rw [hold i hj] at h
     exact Nat.lt_of_lt_of_le (hg i p h) hp.frm.size
 · by_cases hj:n≤i∧i<n+κ.length
   · exact .inr (by rw [hL];exact hj)
   · rw [hold i hj] at h
     exact .inl h
 · rw [hL] at h2
   rcases hnewp i p ⟨h1,h2⟩ h with h3 |⟨i0,q,row',_,g3,g4,g5,g6,g7⟩
   · exact .inl h3
   · exact .inr ⟨_,q,g4,⟨_,g3⟩,g5,g6,g7⟩
 · have side:∀i j p q,(pres i∧∀x∈W,x.1=i→x.2.live=true)→ ¬ (n≤i∧i<n+κ.length)→(n≤j∧j<n+κ.length)→(∀row,(κ.map fun k=>cz (ue σ κ n) (r1.getD k .gone))[j - n]? =some row→row.live=true)→
       ρ' i=some p→ρ' j=some q→(p.mine||q.mine)=true→p.b≠q.b:=by
    intro i j p q hi hni hj hjl hpi hqj hmine
    rw [hold i hni] at hpi
    rcases hnewp j q hj hqj with h1 |⟨i0,q0,row',g1,g3,g4,g5,g6,g7⟩
    · have:=hg i p hpi;omega
    · by_cases he:i=α i0
      · subst he
        have hl:=hi.2 _ g3 rfl
        obtain ⟨i1,e1,e2,e3⟩:=hW2 _ g3
        have e0:=hinj i0 i1 g1 e1 e2
        subst e0
        rcases e3 with e3 |⟨e3,row1,e4,e5,_⟩
        · have e3:row'=.gone:=e3
          subst e3
          cases hl
        have e5:row'=cz τ row1:=e5
        subst e5
        rw [eO] at hl
        obtain ⟨k,hk1,hk2,hk4⟩:=hnew j hj
        obtain ⟨rowj,hrj,hrj2⟩:=hgetk j hj k hk1
        have hlj:rowj.live=true:=by
         have:=hjl _ hrj2
         rw [eO] at this
         exact this
        rw [hk4] at hqj
        refine ha1 i0 k p q ⟨row1,e4,hl⟩ ⟨rowj,hrj,hlj⟩ (fun h=>e3 (h ▸ hk2)) ?_ hqj hmine
        rw [h01 i0 g1]
        exact hpi
      · rw [←g7]
        exact ha i (α i0) p q0 hi.1 g4 he hpi g5 (by simp [g6])
   intro i j p q hi hj hij hpi hqj hmine
   have hcase:∀i,dg pres n {ok:=ok,val:=gj (ue σ κ n) v0,rd:=σ,wr:=W,nw:=κ.map fun k=>cz (ue σ κ n) (r1.getD k .gone)} i→((pres i∧∀x∈W,x.1=i→x.2.live=true)∧ ¬ (n≤i∧i<n+κ.length))∨
       ((n≤i∧i<n+κ.length)∧∀row,(κ.map fun k=>cz (ue σ κ n) (r1.getD k .gone))[i - n]? =some row→row.live=true):=by
    intro i h
    rcases h with ⟨h1,h2⟩|⟨h1,h2⟩
    · refine .inl ⟨⟨h1,h2⟩,fun h3=>?_⟩
      exact (hfree i h3.1 (by rw [hL];exact h3.2)).2 h1
    · rw [hL] at h1
      exact .inr ⟨h1,h2⟩
   rcases hcase i hi with ⟨a1,a2⟩|⟨a1,a2⟩<;>rcases hcase j hj with ⟨b1,b2⟩|⟨b1,b2⟩
   · rw [hold i a2] at hpi
     rw [hold j b2] at hqj
     exact ha i j p q a1.1 b1.1 hij hpi hqj hmine
   · exact side i j p q a1 a2 b1 b2 hpi hqj hmine
   · exact fun h=>side j i q p b1 b2 a1 a2 hqj hpi (by rw [Bool.or_comm];exact hmine) h.symm
   · obtain ⟨ki,ki1,_,ki4⟩:=hnew i a1
     obtain ⟨kj,kj1,_,kj4⟩:=hnew j b1
     rw [ki4] at hpi
     rw [kj4] at hqj
     have live:∀i k,(n≤i∧i<n+κ.length)→κ[i - n]? =some k→(∀row,(κ.map fun k=>cz (ue σ κ n) (r1.getD k .gone))[i - n]? =some row→row.live=true)→bq (fun i=>r1[i]?) k:=by
      intro i k h1 hk1 h2
      obtain ⟨row,hr,hr2⟩:=hgetk i h1 k hk1
      refine ⟨row,hr,?_⟩
      have:=h2 _ hr2
      rw [eO] at this
      exact this
     refine ha1 _ _ p q (live i ki a1 ki1 a2) (live j kj b1 kj1 b2) (fun e=>hij ?_) hpi hqj hmine
     subst e
     have e1:=hκτ _ _ ki1
     have e2:=hκτ _ _ kj1
     omega
 · exact (o5 v0 v').2 (aE.only _ _ (fun i hi p h=>hτ i p (hv i hi) h) hv1)
 · obtain ⟨i,h1,h2,h3 |⟨h3,row',h4,h5,h6⟩⟩:=hW2 x hx
   · rw [h3];trivial
   · have:=hrow1 i row' (.inl h1) h4 h6
     rw [hατ i h3] at this
     rw [h2,h5]
     exact this
 · rw [List.getElem?_map] at h
   cases hk1:κ[j]? with
   |none=>simp [hk1] at h
   |some k=>
    have h2:=(hκ2 _ (List.mem_of_getElem? hk1)).1
    simp [hk1,List.getD,List.getElem?_eq_getElem h2] at h
    subst h
    have:=hrow1 k _ (.inr (List.mem_of_getElem? hk1)) (List.getElem?_eq_getElem h2) (hr k (List.mem_of_getElem? hk1) _ (List.getElem?_eq_getElem h2))
    rw [hκτ j k hk1] at this
    exact this
 · exact hp.frm.weaken fun b _ hb=>by
    obtain ⟨i,q,row',_,g3,_,g5,g6,g7⟩:=hmay b hb
    exact ⟨_,g3,q,g5,g6,g7⟩
end Go.Proofs.YtimkhidniolpeaaGreat
