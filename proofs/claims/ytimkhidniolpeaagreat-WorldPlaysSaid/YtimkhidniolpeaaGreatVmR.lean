/- Part of the proof. -/
import Derived.Test.YtimkhidniolpeaaGreatVmI
import Derived.Test.YtimkhidniolpeaaGreatVmE
namespace Go.Proofs.YtimkhidniolpeaaGreat
set_option linter.unusedSimpArgs false
set_option linter.unusedVariables false
set_option maxRecDepth 100000
set_option maxHeartbeats 0
open Go.RowKit
mutual
def gj (τ:Nat→Nat):SV→SV
 |.ptr id st i j=>.ptr (τ id) st i j
 |.slice id st off len cap=>.slice (τ id) st off len cap
 |.agg xs=>.agg (d8 τ xs)
 |.tuple xs=>.tuple (d8 τ xs)
 |.fn f xs=>.fn f (d8 τ xs)
 |v=>v
def d8 (τ:Nat→Nat):List SV→List SV
 |[]=>[]
 |x::xs=>gj τ x::d8 τ xs
end
def cz (τ:Nat→Nat):Row→Row
 |.own cs=>.own (d8 τ cs)
 |.pre ro cs=>.pre ro (d8 τ cs)
 |r=>r
mutual
theorem o5 {ρ:aR} {τ:Nat→Nat}:∀(s:SV) (u:Value),aE ρ (gj τ s) u↔aE (fun i=>ρ (τ i)) s u
 |.top,_=>by simp [gj,aE]
 |.unk,_=>by simp only [gj,aE]
 |.int ..,_=>by simp only [gj,aE]
 |.bool _,_=>by simp only [gj,aE]
 |.ptr ..,_=>by simp only [gj,aE]
 |.nilp,_=>by simp only [gj,aE]
 |.slice ..,_=>by simp only [gj,aE]
 |.nils,_=>by simp only [gj,aE]
 |.agg xs,u=>by
  simp only [gj,aE]
  constructor
  · rintro ⟨vs,rfl,h⟩;exact ⟨vs,rfl,(bE xs vs).1 h⟩
  · rintro ⟨vs,rfl,h⟩;exact ⟨vs,rfl,(bE xs vs).2 h⟩
 |.tuple xs,u=>by
  simp only [gj,aE]
  constructor
  · rintro ⟨vs,rfl,h⟩;exact ⟨vs,rfl,(bE xs vs).1 h⟩
  · rintro ⟨vs,rfl,h⟩;exact ⟨vs,rfl,(bE xs vs).2 h⟩
 |.fn f xs,u=>by
  simp only [gj,aE]
  constructor
  · rintro ⟨vs,rfl,h⟩;exact ⟨vs,rfl,(bE xs vs).1 h⟩
  · rintro ⟨vs,rfl,h⟩;exact ⟨vs,rfl,(bE xs vs).2 h⟩
theorem bE {ρ:aR} {τ:Nat→Nat}:∀(s:List SV) (us:List Value),au ρ (d8 τ s) us↔au (fun i=>ρ (τ i)) s us
 |[],_=>by simp [d8,au]
 |x::xs,us=>by
  simp only [d8,au]
  constructor
  · rintro ⟨v,vs,rfl,h1,h2⟩;exact ⟨v,vs,rfl,(o5 x v).1 h1,(bE xs vs).1 h2⟩
  · rintro ⟨v,vs,rfl,h1,h2⟩;exact ⟨v,vs,rfl,(o5 x v).2 h1,(bE xs vs).2 h2⟩
end
theorem je {ρ:aR} {τ:Nat→Nat} {id:Nat} {row:Row} {w:World}:bk ρ (τ id) (cz τ row) w↔bk (fun i=>ρ (τ i)) id row w:=by
 cases row with
 |gone=>exact Iff.rfl
 |obj _=>exact Iff.rfl
 |pre ro cs=>
  have hl:(d8 τ cs).length=cs.length:=by induction cs<;>simp_all [d8]
  simp only [cz,bk,hl]
  constructor
  · rintro ⟨p,vs,ty,h1,h2,h3,h4,h5,h6⟩;exact ⟨p,vs,ty,h1,h2,h3,h4,h5,(bE cs _).1 h6⟩
  · rintro ⟨p,vs,ty,h1,h2,h3,h4,h5,h6⟩;exact ⟨p,vs,ty,h1,h2,h3,h4,h5,(bE cs _).2 h6⟩
 |own cs=>
  simp only [cz,bk]
  constructor
  · rintro ⟨p,vs,ty,h1,h2,h3,h4,h5⟩;exact ⟨p,vs,ty,h1,h2,h3,h4,(bE cs vs).1 h5⟩
  · rintro ⟨p,vs,ty,h1,h2,h3,h4,h5⟩;exact ⟨p,vs,ty,h1,h2,h3,h4,(bE cs vs).2 h5⟩
 |vec ro k xs=>exact Iff.rfl
theorem eO {τ:Nat→Nat} {row:Row}:(cz τ row).live=row.live:=by cases row<;>rfl
def gV (σ:List Nat) (n:Nat) (i:Nat):Nat:=match σ[i]? with
 |some j=>j
 |none=>n+(i - σ.length)
theorem l6 {σ:List Nat} {n i:Nat} (h:i<σ.length):σ[i]? =some (gV σ n i):=by
 unfold gV
 rw [List.getElem?_eq_getElem h]
theorem pR {σ:List Nat} {n i:Nat} (h:σ.length≤i):gV σ n i=n+(i - σ.length):=by
 unfold gV
 rw [List.getElem?_eq_none h]
theorem Sx {σ:List Nat} {n:Nat} (hnd:σ.Nodup) (hlt:∀j∈σ,j<n) {i j:Nat} (h:gV σ n i=gV σ n j):i=j:=by
 rcases Nat.lt_or_ge i σ.length with hi |hi<;>rcases Nat.lt_or_ge j σ.length with hj |hj
 · have e1:=(List.getElem?_eq_some_iff.1 (l6 (n:=n) hi)).2
   have e2:=(List.getElem?_eq_some_iff.1 (l6 (n:=n) hj)).2
   have hpw:=List.pairwise_iff_getElem.1 hnd
   rcases Nat.lt_trichotomy i j with h1 |h1 |h1
   · exact absurd (e1.trans (h.trans e2.symm)) (hpw i j hi hj h1)
   · exact h1
   · exact absurd (e2.trans (h.symm.trans e1.symm)) (hpw j i hj hi h1)
 · have:=hlt _ (List.mem_of_getElem? (l6 (n:=n) hi))
   rw [pR hj] at h
   omega
 · have:=hlt _ (List.mem_of_getElem? (l6 (n:=n) hj))
   rw [pR hi] at h
   omega
 · rw [pR hi,pR hj] at h
   omega
theorem lC {P:Program} {f:Nat} {ok:Bool} {args0:List SV} {r0 r1:List Row} {v0:SV} (hc:cQ P f args0 r0 v0 r1) {σ:List Nat} {m:Nat→Option Row} {n:Nat} {W:List (Nat×Row)} (hk:σ.length=r0.length) (hnd:σ.Nodup) (hlt:∀j∈σ,j<n)
    (ha0:∀i∈SV.idsL args0,i<r0.length) (hi0:∀(i:Nat) (row:Row),r0[i]? =some row→∀j∈row.idsR,j<r0.length)
    (hm:∀(i:Nat) (row:Row),r0[i]? =some row→∃row2,m (gV σ n i)=some row2∧(row.live=true→row2.live=true)∧(∀ρ w,bk ρ (gV σ n i) row2 w→bk ρ (gV σ n i) (cz (gV σ n) row) w))
    (hW:∀(i:Nat) (row:Row),r0[i]? =some row→row.live=true→(∃k xs,row=.vec true k xs)∨∃row',r1[i]? =some row'∧(gV σ n i,cz (gV σ n) row')∈W)
    (hW2:∀x∈W,∃i row',i<r0.length∧r1[i]? =some row'∧x=(gV σ n i,cz (gV σ n) row')):
    aN P f (d8 (gV σ n) args0) m n {ok:=ok,val:=gj (gV σ n) v0,rd:=σ,wr:=W,nw:=(r1.drop r0.length).map (cz (gV σ n))}:=by
 intro ρ pres vargs w hargs hg ha hrd hfree
 let τ:=gV σ n
 let ρ0:aR:=fun i=>if i<r0.length then ρ (τ i) else none
 have hρ0:∀i,i<r0.length→ρ0 i=ρ (τ i):=fun i hi=>by simp only [ρ0,if_pos hi]
 have hτlt:∀i,i<r0.length→τ i<n∧τ i∈σ:=fun i hi=>by
  have:=List.mem_of_getElem? (l6 (n:=n) (by omega:i<σ.length))
  exact ⟨hlt _ this,this⟩
 have hlen:∀i row,r0[i]? =some row→i<r0.length:=fun i row h=>(List.getElem?_eq_some_iff.1 h).1
 have hrow0:∀i row,r0[i]? =some row→bk ρ0 i row w:=by
  intro i row h
  obtain ⟨row2,h1,_,h3⟩:=hm i row h
  have hi:=hlen i row h
  have h4:=h3 ρ w (hrd _ (hτlt i hi).2 _ h1).1
  exact (je.1 h4).only (fun p hp=>by rw [hρ0 i hi];exact hp) (fun j hj p hp=>by rw [hρ0 j (hi0 i row h j hj)];exact hp)
 have hpres:∀i row,r0[i]? =some row→row.live=true→pres (τ i):=by
  intro i row h hl
  obtain ⟨row2,h1,h2,_⟩:=hm i row h
  exact (hrd _ (hτlt i (hlen i row h)).2 _ h1).2 (h2 hl)
 have hcall:=hc ρ0 vargs w (au.only _ _ (fun i hi p hp=>by rw [hρ0 i (ha0 i hi)];exact hp) ((bE args0 vargs).1 hargs)) (fun i p h=>by
     simp only [ρ0] at h
     split at h
     · exact hg _ p h
     · cases h) hrow0 (fun i j p q hi hj hij hp hq hmine=>by
     obtain ⟨ri,hi1,hi2⟩:=hi
     obtain ⟨rj,hj1,hj2⟩:=hj
     rw [hρ0 i (hlen i ri hi1)] at hp
     rw [hρ0 j (hlen j rj hj1)] at hq
     exact ha (τ i) (τ j) p q (hpres i ri hi1 hi2) (hpres j rj hj1 hj2) (fun h=>hij (Sx hnd hlt h)) hp hq hmine) (fun i hi=>by simp only [ρ0,if_neg (by omega: ¬ i<r0.length)])
 refine hcall.mono ?_
 rintro en w' ⟨v',ρ1,rfl,hv,hg1,hr1,ha1,hf1,hp⟩
 have hr01:r0.length≤r1.length:=by
  rcases Nat.lt_or_ge r1.length r0.length with h |h
  · have:=hp.keep r1.length (List.getElem?_eq_none (Nat.le_refl _))
    rw [List.getElem?_eq_none_iff] at this
    omega
  · exact h
 have hL:((r1.drop r0.length).map (cz (gV σ n))).length=r1.length - r0.length:=by simp
 let ρ':aR:=fun j=>if n≤j∧j<n+(r1.length - r0.length) then ρ1 (r0.length+(j - n)) else ρ j
 have hold:∀j, ¬ (n≤j∧j<n+(r1.length - r0.length))→ρ' j=ρ j:=fun j hj=>by simp only [ρ',if_neg hj]
 have hnew:∀j,n≤j∧j<n+(r1.length - r0.length)→ρ' j=ρ1 (r0.length+(j - n)):=fun j hj=>by simp only [ρ',if_pos hj]
 have h01:∀i,i<r0.length→ρ1 i=ρ (τ i):=by
  intro i hi
  rw [←hρ0 i hi]
  cases h:ρ0 i with
  |some p=>exact hp.le i p h
  | none=>
   cases h1:ρ1 i with
   |none=>rfl
   |some p=>
    rcases hp.dom i p h1 with h2 |h2
    · rw [h] at h2;cases h2
    · rw [List.getElem?_eq_none_iff] at h2;omega
 have hτ:∀i p,ρ1 i=some p→ρ' (τ i)=some p:=by
  intro i p h
  rcases Nat.lt_or_ge i r0.length with hi |hi
  · rw [hold _ (by have:=(hτlt i hi).1;omega),←h01 i hi]
    exact h
  · have hi2:i<r1.length:=by
     rcases Nat.lt_or_ge i r1.length with h2 |h2
     · exact h2
     · rw [hf1 i h2] at h;cases h
    have e:τ i=n+(i - r0.length):=by show gV σ n i=_;rw [pR (by omega),hk]
    rw [e,hnew _ (by omega),show r0.length+(n+(i - r0.length) - n)=i by omega]
    exact h
 have hrow1:∀i row,r1[i]? =some row→bk ρ' (τ i) (cz τ row) w':=by
  intro i row h
  exact je.2 ((hr1 i row h).only (fun p hp=>hτ i p hp) (fun j _ p hp=>hτ j p hp))
 -- a block that may have changed is a written row's
 have hmay:∀b,fZ ρ0 (fun i=>r0[i]?) b→∃i q row',i<r0.length∧r1[i]? =some row'∧(τ i,cz τ row')∈W∧pres (τ i)∧ρ (τ i)=some q∧q.mine=true∧q.b=b:=by
  rintro b ⟨i,q,⟨row,hrow,hl⟩,hq,hmine,rfl⟩
  have hi:=hlen i row hrow
  rcases hW i row hrow hl with ⟨k,xs,rfl⟩|⟨row',h1,h2⟩
  · exfalso
    rcases hrow0 i _ hrow with ⟨_,he⟩|⟨p,hp',hro,_⟩
    · subst he
      simp [Row.live] at hl
    · rw [hq] at hp'
      cases hp'
      rw [hro rfl] at hmine
      cases hmine
  · exact ⟨i,q,row',hi,h1,h2,hpres i row hrow hl,by rw [←hρ0 i hi];exact hq,hmine,rfl⟩
 have hnewp:∀j p,n≤j∧j<n+(r1.length - r0.length)→ρ' j=some p→w.heap.size≤p.b∨∃i q row',i<r0.length∧r1[i]? =some row'∧(τ i,cz τ row')∈W∧pres (τ i)∧ρ (τ i)=some q∧q.mine=true∧q.b=p.b:=by
  intro j p hj h
  rw [hnew j hj] at h
  rcases hp.new _ p (List.getElem?_eq_none (by omega)) h with h1 |h1
  · exact .inl h1
  · exact .inr (hmay _ h1)
 refine ⟨v',ρ',rfl,?_⟩
 refine ⟨fun i p h=>?_,fun i p h=>?_,fun i p h=>?_,fun i p h1 h2 h=>?_,?_,?_,fun x hx=>?_,fun j row h=>?_,?_⟩
 · rw [hold i]
   · exact h
   · rintro ⟨h1,h2⟩
     rw [(hfree i h1 (by rw [hL];exact h2)).1] at h
     cases h
 · by_cases hj:n≤i∧i<n+(r1.length - r0.length)
   · rw [hnew i hj] at h
     exact hg1 _ p h
   · rw [hold i hj] at h
     exact Nat.lt_of_lt_of_le (hg i p h) hp.frm.size
 · by_cases hj:n≤i∧i<n+(r1.length - r0.length)
   · exact .inr (by rw [hL];exact hj)
   · rw [hold i hj] at h
     exact .inl h
 · rw [hL] at h2
   rcases hnewp i p ⟨h1,h2⟩ h with h3 |⟨i0,q,row',_,_,g3,g4,g5,g6,g7⟩
   · exact .inl h3
   · exact .inr ⟨_,q,g4,⟨_,g3⟩,g5,g6,g7⟩
 · -- apart
   have side:∀i j p q,(pres i∧∀x∈W,x.1=i→x.2.live=true)→ ¬ (n≤i∧i<n+(r1.length - r0.length))→(n≤j∧j<n+(r1.length - r0.length))→(∀row,((r1.drop r0.length).map (cz (gV σ n)))[j - n]? =some row→row.live=true)→
       ρ' i=some p→ρ' j=some q→(p.mine||q.mine)=true→p.b≠q.b:=by
    intro i j p q hi hni hj hjl hpi hqj hmine
    have hpi':=hpi
    rw [hold i hni] at hpi
    rcases hnewp j q hj hqj with h1 |⟨i0,q0,row',g1,g2,g3,g4,g5,g6,g7⟩
    · have:=hg i p hpi;omega
    · by_cases he:i=τ i0
      · subst he
        have hl:=hi.2 _ g3 rfl
        rw [eO] at hl
        obtain ⟨rowj,hrj⟩:∃rowj,r1[r0.length+(j - n)]? =some rowj:=⟨_,List.getElem?_eq_getElem (by omega)⟩
        have hlj:rowj.live=true:=by
         have:=hjl (cz (gV σ n) rowj) (by rw [List.getElem?_map,List.getElem?_drop,hrj];rfl)
         rw [eO] at this
         exact this
        rw [hnew j hj] at hqj
        refine ha1 i0 (r0.length+(j - n)) p q ⟨row',g2,hl⟩ ⟨rowj,hrj,hlj⟩ (by omega) ?_ hqj hmine
        rw [h01 i0 g1]
        exact hpi
      · rw [←g7]
        exact ha i (τ i0) p q0 hi.1 g4 he hpi g5 (by simp [g6])
   intro i j p q hi hj hij hpi hqj hmine
   have hcase:∀i,dg pres n {ok:=ok,val:=gj (gV σ n) v0,rd:=σ,wr:=W,nw:=(r1.drop r0.length).map (cz (gV σ n))} i→((pres i∧∀x∈W,x.1=i→x.2.live=true)∧ ¬ (n≤i∧i<n+(r1.length - r0.length)))∨
       ((n≤i∧i<n+(r1.length - r0.length))∧∀row,((r1.drop r0.length).map (cz (gV σ n)))[i - n]? =some row→row.live=true):=by
    intro i h
    rcases h with ⟨h1,h2⟩|⟨h1,h2⟩
    · refine .inl ⟨⟨h1,h2⟩,fun h3=>?_⟩
      exact (hfree i h3.1 (by rw [hL];exact h3.2)).2 h1
    · rw [hL] at h1
      exact .inr ⟨h1,h2⟩
   rcases hcase i hi with ⟨a1,a2⟩|⟨a1,a2⟩<;>rcases hcase j hj with ⟨b1,b2⟩|⟨b1,b2⟩
   · rw [hold i a2] at hpi
     rw [hold j b2] at hqj
     exact ha i j p q a1.1 b1.1 hij hpi hqj hmine
   · exact side i j p q a1 a2 b1 b2 hpi hqj hmine
   · exact fun h=>side j i q p b1 b2 a1 a2 hqj hpi (by rw [Bool.or_comm];exact hmine) h.symm
   · rw [hnew i a1] at hpi
     rw [hnew j b1] at hqj
     have live:∀i,(n≤i∧i<n+(r1.length - r0.length))→(∀row,((r1.drop r0.length).map (cz (gV σ n)))[i - n]? =some row→row.live=true)→bq (fun i=>r1[i]?) (r0.length+(i - n)):=by
      intro i h1 h2
      obtain ⟨row,hr⟩:∃row,r1[r0.length+(i - n)]? =some row:=⟨_,List.getElem?_eq_getElem (by omega)⟩
      refine ⟨row,hr,?_⟩
      have:=h2 (cz (gV σ n) row) (by rw [List.getElem?_map,List.getElem?_drop,hr];rfl)
      rw [eO] at this
      exact this
     exact ha1 _ _ p q (live i a1 a2) (live j b1 b2) (by omega) hpi hqj hmine
 · exact (o5 v0 v').2 (aE.only _ _ (fun i _ p h=>hτ i p h) hv)
 · obtain ⟨i,row',_,h2,rfl⟩:=hW2 x hx
   exact hrow1 i row' h2
 · simp only [List.getElem?_map,List.getElem?_drop] at h
   cases hr:r1[r0.length+j]? with
   |none=>simp [hr] at h
   |some row0=>
    simp [hr] at h
    subst h
    have:=hrow1 _ _ hr
    have e:τ (r0.length+j)=n+j:=by show gV σ n _=_;rw [pR (by omega),hk];omega
    rw [e] at this
    exact this
 · exact hp.frm.weaken fun b _ hb=>by
    obtain ⟨i,q,row',_,_,g3,_,g5,g6,g7⟩:=hmay b hb
    exact ⟨_,g3,q,g5,g6,g7⟩
def Z3 (l:List SV):Option PL:=match Jj (l.take 15),l.drop 15 with
 |some p,[.int .i64 n]=>some ⟨p,n⟩
 |_,_=>none
theorem AS {l:List SV} {p:PL} (h:Z3 l=some p):l=p.sv:=by
 unfold Z3 at h
 split at h
 · rename_i q n h1 h2
   cases h
   have:=aA.enc_dec (k:=.pl) h1
   unfold PL.sv
   rw [show (⟨q,n⟩:PL).p.sv=l.take 15 from this,show [SV.int .i64 (⟨q,n⟩:PL).left]=l.drop 15 from h2.symm,List.take_append_drop]
 · cases h
def oH (rows:List Row):List SV→Option (List Nat×List PL)
 |[]=>some ([],[])
 | .ptr id _ 0 0::l=>match rows[id]?,oH rows l with
  |some (.own cs),some (ids,ps)=>match Z3 cs with
   |some p=>some (id::ids,p::ps)
   |none=>none
  |_,_=>none
 |_=>none
def FU (rows:List Row):SV→Option (Option (Nat×Nat×Option Nat)×List Nat×List PL)
 |.nils=>some (none,[],[])
 | .slice id 1 0 n cap=>match rows[id]? with
  |some (.pre false cs)=>bif Nat.ble n cs.length then (match oH rows (cs.take n) with
   |some (ids,ps)=>some (some (id,n,cap),ids,ps)
   |none=>none) else none
  |_=>none
 |_=>none
def FZ (rows:List Row):SV→Option (Option (Nat×Nat×Option Nat)×List Sh)
 |.nils=>some (none,[])
 |.slice id 11 0 n cap=>match rows[id]? with
  |some (.vec false .sh xs)=>some (some (id,n,cap),xs)
  |_=>none
 |_=>none
def yg:List Nat→Bool
 |[]=>true
 |x::l=>(!iR x l)&&yg l
def ne (o:Option (Nat×Nat×Option Nat)):List Nat:=match o with
 |some (id,_,_)=>[id]
 |none=>[]
structure FW where
 s:WS
 a:Nat
 la:Nat
 ca:Option Nat
 b:Nat
 lb:Nat
 cb:Option Nat
 p:Option (Nat×Nat×Option Nat)
 h:Option (Nat×Nat×Option Nat)
 ids:List Nat
def FW.all (f:FW):List Nat:=0::f.a::f.b::(ne f.p++(ne f.h++f.ids))
def te (rows:List Row):Option FW:=match rows with
 | .own [.int .i64 w,.int .i64 d,.int .i64 h,.slice a 1 0 la ca,.slice b 3 0 lb cb,.int .i64 now,P,H,.int .i64 given,.int .i64 fired]::_=>
  match rows[a]?,rows[b]?,FU rows P,FZ rows H with
  | some (.vec false .bool cells),some (.vec false .vec spawns),some (p,ids,ps),some (h',shots)=>
   bif yg (FW.all ⟨⟨w,d,h,cells,spawns,now,ps,shots,given,fired⟩,a,la,ca,b,lb,cb,p,h',ids⟩) then
    some ⟨⟨w,d,h,cells,spawns,now,ps,shots,given,fired⟩,a,la,ca,b,lb,cb,p,h',ids⟩ else none
  |_,_,_,_=>none
 |_=>none
def firm (o:Option (Nat×Nat×Option Nat)) (len:Nat):Prop:=match o with
 |some (_,n,cap)=>n=len∧(0<n∨cap.isSome=true)
 |none=>len=0
structure FW.Ok (f:FW):Prop where
 a:f.la=f.s.cells.length∧(0<f.la∨f.ca.isSome=true)
 b:f.lb=f.s.spawns.length∧(0<f.lb∨f.cb.isSome=true)
 p:firm f.p f.s.ps.length
 h:firm f.h f.s.shots.length
 few:f.s.ps.length≤8
theorem qb:∀{l:List Nat},yg l=true→l.Nodup
 |[],_=>List.nodup_nil
 |x::l,h=>by
  simp only [yg,Bool.and_eq_true,Bool.not_eq_true'] at h
  refine List.nodup_cons.2 ⟨fun hm=>?_,qb h.2⟩
  rw [di.2 hm] at h
  cases h.1
theorem lV {rows:List Row}:∀{cs:List SV} {ids:List Nat} {ps:List PL},oH rows cs=some (ids,ps)→ids.length=cs.length∧ps.length=cs.length∧∀(k id:Nat) (p:PL),ids[k]? =some id→ps[k]? =some p→(∃st,cs[k]? =some (SV.ptr id st 0 0))∧rows[id]? =some (Row.own p.sv)
 |[],ids,ps,h=>by
  simp only [oH,Option.some.injEq,Prod.mk.injEq] at h
  obtain ⟨rfl,rfl⟩:=h
  simp
 | c :: cs,ids,ps,h=>by
  unfold oH at h
  split at h
  · rename_i heq;cases heq
  · rename_i id st l heq
    cases heq
    split at h
    · rename_i cells ids' ps' hrow hrest
      split at h
      · rename_i p hp
        cases h
        obtain ⟨h1,h2,h3⟩:=lV hrest
        refine ⟨by simp [h1],by simp [h2],fun k id' p' hk hk'=>?_⟩
        cases k with
        |zero=>
         simp at hk hk'
         subst hk hk'
         exact ⟨⟨st,by simp⟩,by rw [hrow,AS hp]⟩
        |succ k=>
         simp at hk hk'
         simpa using h3 k id' p' hk hk'
      · cases h
    · cases h
  · cases h
theorem gd {ρ:aR} {id st n:Nat} {cap:Option Nat} {v:Value} (h:aE ρ (.slice id st 0 n cap) v) (hf:0<n∨cap.isSome=true):∃q c,ρ id=some q∧v=.slice (some ⟨q.b,q.base,none⟩) n c∧n≤c∧(q.mine=true→q.base+c*st≤q.size):=by
 simp only [aE] at h
 rcases h with ⟨q,o,c,hq,rfl,_,ho,hn,hm⟩|⟨h1,h2,_⟩
 · have ho:o=q.base:=by
    rcases ho with ho |⟨h1,h2⟩
    · omega
    · rcases hf with hf |hf
      · omega
      · rw [h2] at hf;cases hf
   subst ho
   exact ⟨q,c,hq,rfl,hn,hm⟩
 · rcases hf with hf |hf
   · omega
   · rw [h2] at hf;cases hf
theorem qC {ρ:aR}:∀{xs:List SV} {us:List Value},xs.length=us.length→(∀(k:Nat) (x:SV) (u:Value),xs[k]? =some x→us[k]? =some u→aE ρ x u)→au ρ xs us
 |[],[],_,_=>by simp [au]
 |[],_::_,h,_=>by simp at h
 |_::_,[],h,_=>by simp at h
 |x::xs,u::us,h,k=>by
  rw [aa]
  exact ⟨k 0 x u rfl rfl,qC (by simpa using h) fun i y v hy hv=>k (i+1) y v (by simpa using hy) (by simpa using hv)⟩
theorem jV {ρ:aR} {id st n:Nat} {q:uc} {c:Nat} (hq:ρ id=some q) (hn:n≤c) (hm:q.mine=true→q.base+c*st≤q.size):aE ρ (.slice id st 0 n (some c)) (.slice (some ⟨q.b,q.base,none⟩) n c):=by
 simp only [aE]
 exact .inl ⟨q,q.base,c,hq,rfl,fun c' h=>(by cases h;rfl),.inl (by omega),hn,hm⟩
def FW.at (f:FW) (far:Nat) (i:Nat):Nat:=match i with
 |0=>0
 |1=>f.a
 |2=>f.b
 |3=>match f.p with
  |some (id,_,_)=>id
  |none=>far
 |4=>match f.h with
  |some (id,_,_)=>id
  |none=>far
 |k+5=>f.ids.getD k far
theorem FW.at_mem {f:FW} {far i:Nat} (h:f.at far i≠far):f.at far i∈f.all:=by
 unfold FW.at at h ⊢
 unfold FW.all
 split
 · simp
 · simp
 · simp
 · split
   · rename_i hp;simp [ne,hp]
   · rename_i hp;simp [hp] at h
 · split
   · rename_i hp;simp [ne,hp]
   · rename_i hp;simp [hp] at h
 · rename_i k
   simp only [List.mem_cons,List.mem_append]
   right;right;right;right;right
   by_cases hk:k<f.ids.length
   · rw [List.getD_eq_getElem?_getD,List.getElem?_eq_getElem hk]
     simp
   · simp [List.getD,List.getElem?_eq_none (Nat.le_of_not_lt hk)] at h
theorem vZ {l m:List Nat} (h:(l++m).Nodup):l.Nodup∧m.Nodup∧∀x∈l,x∉m:=by
 rw [List.nodup_append] at h
 exact ⟨h.1,h.2.1,fun x hx hm=>h.2.2 x hx x hm rfl⟩
theorem FW.at_inj {f:FW} (hn:f.all.Nodup) {far i j:Nat} (hij:i≠j) (hi:f.at far i≠far) (hj:f.at far j≠far):f.at far i≠f.at far j:=by
 unfold FW.all at hn
 simp only [List.nodup_cons,List.mem_cons,List.mem_append,not_or] at hn
 obtain ⟨⟨n1,n2,n3,n4,n5⟩,⟨m1,m2,m3,m4⟩,⟨k1,k2,k3⟩,hn⟩:=hn
 obtain ⟨_,hn2,hp⟩:=vZ hn
 obtain ⟨_,hid,hh⟩:=vZ hn2
 have key:∀i,f.at far i≠far→(i=0∧f.at far i=0)∨(i=1∧f.at far i=f.a)∨(i=2∧f.at far i=f.b)∨(i=3∧f.at far i∈ne f.p)∨(i=4∧f.at far i∈ne f.h)∨(∃k,i=k+5∧f.ids[k]? =some (f.at far i)):=by
  intro i h
  unfold FW.at at h ⊢
  split
  · simp
  · simp
  · simp
  · split
    · rename_i hp;simp [ne,hp]
    · rename_i hp;simp [hp] at h
  · split
    · rename_i hp;simp [ne,hp]
    · rename_i hp;simp [hp] at h
  · rename_i k
    refine .inr (.inr (.inr (.inr (.inr ⟨k,rfl,?_⟩))))
    by_cases hk:k<f.ids.length
    · rw [List.getD_eq_getElem?_getD,List.getElem?_eq_getElem hk];rfl
    · simp [List.getD,List.getElem?_eq_none (Nat.le_of_not_lt hk)] at h
 have one:∀{o:Option (Nat×Nat×Option Nat)} {x y:Nat},x∈ne o→y∈ne o→x=y:=by
  intro o x y hx hy
  unfold ne at hx hy
  split at hx<;>simp at hx hy
  omega
 intro heq
 rcases key i hi with ⟨rfl,a⟩|⟨rfl,a⟩|⟨rfl,a⟩|⟨rfl,a⟩|⟨rfl,a⟩|⟨k,rfl,a⟩<;>rcases key j hj with ⟨rfl,b⟩|⟨rfl,b⟩|⟨rfl,b⟩|⟨rfl,b⟩|⟨rfl,b⟩|⟨l,rfl,b⟩<;>rw [←heq] at b<;>
  first
  |exact absurd rfl hij
  |(rw [a] at b;first |exact n1 b |exact n1 b.symm |exact n2 b |exact n2 b.symm |exact m1 b |exact m1 b.symm |exact n3 b |exact n4 b |exact m2 b |exact m3 b |exact k1 b |exact k2 b |exact n5 (List.mem_of_getElem? b)|exact m4 (List.mem_of_getElem? b)|exact k3 (List.mem_of_getElem? b))
  |(rw [b] at a;first |exact n3 a |exact n4 a |exact m2 a |exact m3 a |exact k1 a |exact k2 a |exact n5 (List.mem_of_getElem? a)|exact m4 (List.mem_of_getElem? a)|exact k3 (List.mem_of_getElem? a))
  |exact (hp _ a (List.mem_append_left _ b)).elim
  |exact (hp _ b (List.mem_append_left _ a)).elim
  |exact (hp _ a (List.mem_append_right _ (List.mem_of_getElem? b))).elim
  |exact (hp _ b (List.mem_append_right _ (List.mem_of_getElem? a))).elim
  |exact (hh _ a (List.mem_of_getElem? b)).elim
  |exact (hh _ b (List.mem_of_getElem? a)).elim
  |skip
 have h1:=(List.getElem?_eq_some_iff.1 a)
 have h2:=(List.getElem?_eq_some_iff.1 b)
 obtain ⟨hk,e1⟩:=h1
 obtain ⟨hl,e2⟩:=h2
 have hpw:=List.pairwise_iff_getElem.1 hid
 rcases Nat.lt_trichotomy k l with hlt |h |hgt
 · exact hpw _ _ hk hl hlt (e1.trans e2.symm)
 · omega
 · exact hpw _ _ hl hk hgt (e2.trans e1.symm)
theorem Ed {rows:List Row} {P:SV} {o:Option (Nat×Nat×Option Nat)} {ids:List Nat} {ps:List PL} (h:FU rows P=some (o,ids,ps)):
    (P=.nils∧o=none∧ids=[]∧ps=[])∨∃id n cap cs,P=.slice id 1 0 n cap∧o=some (id,n,cap)∧rows[id]? =some (.pre false cs)∧n≤cs.length∧oH rows (cs.take n)=some (ids,ps):=by
 unfold FU at h
 split at h
 · cases h;exact .inl ⟨rfl,rfl,rfl,rfl⟩
 · rename_i id n cap
   split at h
   · rename_i cs hrow
     obtain ⟨hb,h⟩:=al h
     split at h
     · rename_i ids' ps' hps
       cases h
       exact .inr ⟨id,n,cap,cs,rfl,rfl,hrow,Nat.le_of_ble_eq_true hb,hps⟩
     · cases h
   · cases h
 · cases h
theorem CY {rows:List Row} {H:SV} {o:Option (Nat×Nat×Option Nat)} {xs:List Sh} (h:FZ rows H=some (o,xs)):
    (H=.nils∧o=none∧xs=[])∨∃id n cap,H=.slice id 11 0 n cap∧o=some (id,n,cap)∧rows[id]? =some (.vec false .sh xs):=by
 unfold FZ at h
 split at h
 · cases h;exact .inl ⟨rfl,rfl,rfl⟩
 · rename_i id n cap
   split at h
   · rename_i ys hrow
     cases h
     exact .inr ⟨id,n,cap,rfl,rfl,hrow⟩
   · cases h
 · cases h
theorem Ch {rows:List Row} {f:FW} (h:te rows=some f):∃P H,rows[0]? =some (.own [.int .i64 f.s.w,.int .i64 f.s.d,.int .i64 f.s.h,.slice f.a 1 0 f.la f.ca,.slice f.b 3 0 f.lb f.cb,.int .i64 f.s.now,P,H,.int .i64 f.s.given,.int .i64 f.s.fired])∧
    rows[f.a]? =some (.vec false .bool f.s.cells)∧rows[f.b]? =some (.vec false .vec f.s.spawns)∧FU rows P=some (f.p,f.ids,f.s.ps)∧FZ rows H=some (f.h,f.s.shots)∧f.all.Nodup:=by
 unfold te at h
 split at h
 · split at h
   · rename_i w d h0 a la ca b lb cb now P H given fired _ _ _ _ _ cells spawns p ids ps h' shots h1 h2 h3 h4
     obtain ⟨hb,h⟩:=al h
     cases h
     exact ⟨P,H,rfl,h1,h2,h3,h4,qb hb⟩
   · cases h
 · cases h
theorem OL {rows:List Row} {f:FW} (h:te rows=some f) (ok:f.Ok) {ρ:aR} {w:World} (hrows:∀i row,rows[i]? =some row→bk ρ i row w) (hg:gK ρ w) (ha:gY ρ (bq fun i=>rows[i]?)) (hf:∀i,rows.length≤i→ρ i=none):
    ∃l,Pm (fun i=>ρ (f.at rows.length i)) l f.s w∧(∀i,f.at rows.length i<rows.length→f.at rows.length i∈f.all)∧∀j∈f.all,∀p,ρ j=some p→p.mine=true∧∃row,rows[j]? =some row∧row.live=true:=by
 obtain ⟨P,H,h0,h1,h2,h3,h4,hn⟩:=Ch h
 have hfar:ρ rows.length=none:=hf _ (Nat.le_refl _)
 have hmem:∀i,f.at rows.length i<rows.length→f.at rows.length i∈f.all:=fun i hi=>FW.at_mem (by omega)
 have hP:=Ed h3
 have hH:=CY h4
 have hps:f.ids.length=f.s.ps.length∧∀(k id:Nat) (p:PL),f.ids[k]? =some id→f.s.ps[k]? =some p→rows[id]? =some (.own p.sv):=by
  rcases hP with ⟨_,_,h5,h6⟩|⟨id,n,cap,cs,_,_,_,_,h5⟩
  · rw [h5,h6];simp
  · obtain ⟨k1,k2,k3⟩:=lV h5
    exact ⟨by rw [k1,k2],fun k id p a b=>(k3 k id p a b).2⟩
 have hplay:∀k p,f.s.ps[k]? =some p→∃id,f.ids[k]? =some id∧f.at rows.length (k+5)=id∧rows[id]? =some (.own p.sv):=by
  intro k p hk
  have hlt:=(List.getElem?_eq_some_iff.1 hk).1
  obtain ⟨id,hid⟩:∃id,f.ids[k]? =some id:=⟨_,List.getElem?_eq_getElem (by rw [hps.1];exact hlt)⟩
  exact ⟨id,hid,by simp [FW.at,List.getD,hid],hps.2 k id p hid hk⟩
 have hall:∀j∈f.all,∃row,rows[j]? =some row∧row.live=true∧∀p,ρ j=some p→p.mine=true:=by
  have own:∀j cs,rows[j]? =some (.own cs)→∃row,rows[j]? =some row∧row.live=true∧∀p,ρ j=some p→p.mine=true:=by
   intro j cs hj
   refine ⟨_,hj,rfl,fun p hp=>?_⟩
   obtain ⟨q,_,_,hq,_,hm,_⟩:=hrows _ _ hj
   rw [hp] at hq;cases hq;exact hm
  have vec:∀(j:Nat) (k:aA) (xs:List k.T),rows[j]? =some (.vec false k xs)→∃row,rows[j]? =some row∧row.live=true∧∀p,ρ j=some p→p.mine=true:=by
   intro j k xs hj
   refine ⟨_,hj,rfl,fun p hp=>?_⟩
   rcases hrows _ _ hj with ⟨hc,_⟩|⟨q,hq,_,ho,_⟩
   · cases hc
   · rw [hp] at hq;cases hq;exact (ho rfl).1
  intro j hj
  unfold FW.all at hj
  simp only [List.mem_cons,List.mem_append] at hj
  rcases hj with rfl |rfl |rfl |hj |hj |hj
  · exact own _ _ h0
  · exact vec _ _ _ h1
  · exact vec _ _ _ h2
  · rcases hP with ⟨_,h5,_⟩|⟨id,n,cap,cs,_,h5,h6,_⟩
    · rw [h5] at hj;simp [ne] at hj
    · rw [h5] at hj
      simp [ne] at hj
      subst hj
      refine ⟨_,h6,rfl,fun p hp=>?_⟩
      obtain ⟨q,_,_,hq,_,hm,_⟩:=hrows _ _ h6
      rw [hp] at hq;cases hq;exact hm
  · rcases hH with ⟨_,h5,_⟩|⟨id,n,cap,_,h5,h6⟩
    · rw [h5] at hj;simp [ne] at hj
    · rw [h5] at hj
      simp [ne] at hj
      subst hj
      exact vec _ _ _ h6
  · obtain ⟨k,hk⟩:=List.getElem?_of_mem hj
    have hlt:=(List.getElem?_eq_some_iff.1 hk).1
    exact own _ _ (hps.2 k j _ hk (List.getElem?_eq_getElem (by rw [←hps.1];exact hlt)))
 -- the room of a slice
 obtain ⟨l,hl⟩:∃l:bp,au (fun i=>ρ (f.at rows.length i)) (f.s.cellsS l) ((hrows 0 _ h0).choose_spec.choose)∧(l.pc=none↔f.p=none)∧(l.hc=none↔f.h=none):=by
  have hr:=(hrows 0 _ h0).choose_spec.choose_spec.choose_spec.2.2.2.2
  generalize (hrows 0 _ h0).choose_spec.choose=vs at hr
  match vs,hr with
  | [v0,v1,v2,v3,v4,v5,v6,v7,v8,v9],hr=>
   simp only [aa,ai,and_true] at hr
   obtain ⟨r0,r1,r2,r3,r4,r5,r6,r7,r8,r9⟩:=hr
   obtain ⟨q3,c3,e3,rfl,n3,m3⟩:=gd r3 ok.a.2
   obtain ⟨q4,c4,e4,rfl,n4,m4⟩:=gd r4 ok.b.2
   have g6:∃pc:Option Nat,(pc=none↔f.p=none)∧aE (fun i=>ρ (f.at rows.length i)) (match pc with |none=>.nils |some c=>.slice 3 1 0 f.s.ps.length (some c)) v6:=by
    rcases hP with ⟨rfl,h5,_⟩|⟨id,n,cap,cs,rfl,h5,_⟩
    · exact ⟨none,by simp [h5],r6⟩
    · have hk:=ok.p
      rw [h5] at hk
      obtain ⟨hk1,hk2⟩:=hk
      obtain ⟨q,c,e,rfl,nn,mm⟩:=gd r6 hk2
      subst hk1
      exact ⟨some c,by simp [h5],jV (by simp only [FW.at,h5];exact e) nn mm⟩
   have g7:∃hc:Option Nat,(hc=none↔f.h=none)∧aE (fun i=>ρ (f.at rows.length i)) (match hc with |none=>.nils |some c=>.slice 4 11 0 f.s.shots.length (some c)) v7:=by
    rcases hH with ⟨rfl,h5,_⟩|⟨id,n,cap,rfl,h5,_⟩
    · exact ⟨none,by simp [h5],r7⟩
    · have hk:=ok.h
      rw [h5] at hk
      obtain ⟨hk1,hk2⟩:=hk
      obtain ⟨q,c,e,rfl,nn,mm⟩:=gd r7 hk2
      subst hk1
      exact ⟨some c,by simp [h5],jV (by simp only [FW.at,h5];exact e) nn mm⟩
   obtain ⟨pc,p1,p2⟩:=g6
   obtain ⟨hc,k1,k2⟩:=g7
   refine ⟨⟨c3,c4,pc,hc⟩,?_,p1,k1⟩
   simp only [WS.cellsS,aa,ai,and_true]
   refine ⟨?_,?_,?_,?_,?_,?_,p2,k2,?_,?_⟩<;>try (simp only [aE] at*;assumption)
   · rw [←ok.a.1];exact jV (ρ:=fun i=>ρ (f.at rows.length i)) e3 n3 m3
   · rw [←ok.b.1];exact jV (ρ:=fun i=>ρ (f.at rows.length i)) e4 n4 m4
  |[],hr=>exact absurd hr.length (by simp)
  |[_],hr=>exact absurd hr.length (by simp)
  |[_,_],hr=>exact absurd hr.length (by simp)
  |[_,_,_],hr=>exact absurd hr.length (by simp)
  |[_,_,_,_],hr=>exact absurd hr.length (by simp)
  |[_,_,_,_,_],hr=>exact absurd hr.length (by simp)
  |[_,_,_,_,_,_],hr=>exact absurd hr.length (by simp)
  |[_,_,_,_,_,_,_],hr=>exact absurd hr.length (by simp)
  |[_,_,_,_,_,_,_,_],hr=>exact absurd hr.length (by simp)
  |[_,_,_,_,_,_,_,_,_],hr=>exact absurd hr.length (by simp)
  |_::_::_::_::_::_::_::_::_::_::_::_,hr=>exact absurd hr.length (by simp)
 refine ⟨l,⟨?_,fun i p hp=>hg _ p hp,?_,?_,?_,?_,ok.few⟩,hmem,fun j hj p hp=>?_⟩
 · intro i row hi
   match i,hi with
   |0,hi=>
    simp [WS.rows] at hi
    subst hi
    obtain ⟨e1,e2,e3,e4,_⟩:=(hrows 0 _ h0).choose_spec.choose_spec.choose_spec
    exact ⟨_,_,_,e1,e2,e3,e4,hl.1⟩
   |1,hi=>
    simp [WS.rows] at hi
    subst hi
    exact hrows _ _ h1
   |2,hi=>
    simp [WS.rows] at hi
    subst hi
    exact hrows _ _ h2
   | 3,hi=>
    simp only [WS.rows,List.getElem?_cons_succ,List.getElem?_cons_zero,Option.some.injEq] at hi
    subst hi
    cases hpc:l.pc with
    |none=>trivial
    | some c=>
     rcases hP with ⟨_,h5,_⟩|⟨id,n,cap,cs,_,h5,h6,h7,h8⟩
     · rw [hl.2.1.2 h5] at hpc;cases hpc
     · have hk:=ok.p
       rw [h5] at hk
       obtain ⟨hk1,_⟩:=hk
       subst hk1
       obtain ⟨q,vs,ty,g1,g2,g3,g4,g5,g6⟩:=hrows _ _ h6
       refine ⟨q,vs,ty,by simp only [FW.at,h5];exact g1,g2,g3,g4,g5,?_⟩
       rw [m8]
       have h9:=g6.take f.s.ps.length
       rw [List.take_take,Nat.min_eq_left h7] at h9
       obtain ⟨k1,k2,k3⟩:=lV h8
       refine qC (by rw [m8,←h9.length,List.length_take];omega) fun k x u hx hu=>?_
       have hkl:=(List.getElem?_eq_some_iff.1 hx).1
       rw [m8] at hkl
       rw [oX _ _ _ hkl] at hx
       cases hx
       obtain ⟨id',hid'⟩:∃id',f.ids[k]? =some id':=⟨_,List.getElem?_eq_getElem (by rw [hps.1];exact hkl)⟩
       obtain ⟨⟨st,hst⟩,_⟩:=k3 k id' _ hid' (List.getElem?_eq_getElem hkl)
       obtain ⟨u',hu',hru⟩:=h9.get hst
       rw [hu] at hu';cases hu'
       simp only [aE] at hru ⊢
       obtain ⟨p,hp,hu2⟩:=hru
       refine ⟨p,?_,by rw [hu2];simp⟩
       rw [show 5+k=k+5 by omega]
       simp only [FW.at,List.getD,hid',Option.getD_some]
       exact hp
   | 4,hi=>
    simp only [WS.rows,List.getElem?_cons_succ,List.getElem?_cons_zero,Option.some.injEq] at hi
    subst hi
    cases hhc:l.hc with
    |none=>trivial
    | some c=>
     rcases hH with ⟨_,h5,_⟩|⟨id,n,cap,_,h5,h6⟩
     · rw [hl.2.2.2 h5] at hhc;cases hhc
     · have:=hrows _ _ h6
       simp only [FW.at,h5,bk] at this ⊢
       exact this
   | i+5,hi=>
    rw [show i+5=5+i by omega,WS.rows_player] at hi
    cases hp:f.s.ps[i]? with
    |none=>rw [hp] at hi;cases hi
    | some p=>
     rw [hp] at hi
     simp only [Option.map_some,Option.some.injEq] at hi
     subst hi
     obtain ⟨id,_,g2,g3⟩:=hplay i p hp
     obtain ⟨q,vs,ty,e1,e2,e3,e4,e5⟩:=hrows _ _ g3
     refine ⟨q,vs,ty,by simp only [g2];exact e1,e2,e3,e4,?_⟩
     have hd:∀x∈p.sv,x.isDat=true:=by
      intro x hx
      unfold PL.sv at hx
      rcases List.mem_append.1 hx with hx |hx
      · exact aA.enc_dat .pl p.p x hx
      · simp at hx;subst hx;rfl
     exact au.only _ _ (fun j hj q hq=>by
      obtain ⟨x,hx,hjx⟩:=SV.mem_idsL.1 hj
      rw [Sl (hd x hx)] at hjx;cases hjx) e5
 · intro i j p q hi hj hij hp hq hm
   have far:∀i p,ρ (f.at rows.length i)=some p→f.at rows.length i≠rows.length:=by
    intro i p hp he
    rw [he,hfar] at hp;cases hp
   have hlv:∀i p,ρ (f.at rows.length i)=some p→bq (fun i=>rows[i]?) (f.at rows.length i):=by
    intro i p hp
    obtain ⟨row,h5,h6,_⟩:=hall _ (FW.at_mem (far i p hp))
    exact ⟨row,h5,h6⟩
   exact ha _ _ p q (hlv i p hp) (hlv j q hq) (FW.at_inj hn hij (far i p hp) (far j q hq)) hp hq hm
 · intro i hi
   rw [WS.rows_len] at hi
   obtain ⟨k,rfl⟩:∃k,i=k+5:=⟨i - 5,by omega⟩
   simp only [FW.at,List.getD,List.getElem?_eq_none (show f.ids.length≤k by rw [hps.1];omega),Option.getD_none]
   exact hfar
 · intro hpc
   have h5:=hl.2.1.1 hpc
   have hk:=ok.p
   rw [h5] at hk
   exact ⟨by simp only [FW.at,h5];exact hfar,List.length_eq_zero_iff.1 hk⟩
 · intro hhc
   have h5:=hl.2.2.1 hhc
   have hk:=ok.h
   rw [h5] at hk
   exact ⟨by simp only [FW.at,h5];exact hfar,List.length_eq_zero_iff.1 hk⟩
 · obtain ⟨row,h5,h6,h7⟩:=hall j hj
   exact ⟨h7 p hp,row,h5,h6⟩
theorem Kg {m:jM} {i:Nat} {r r0:Row} (h:m i=some r0) (j:Nat):iB m [(i,r)] j=if j=i then some r else m j:=by
 simp only [iB]
 by_cases hj:j=i
 · subst hj;simp [h]
 · simp [hj]
theorem yU {ρ ρ':aR} {id:Nat} {row:Row} {w w':World} (h:bk ρ id row w) (hle:ρ.le ρ') (hb:row.live=true→∀p,ρ id=some p→w'.heap[p.b]? =w.heap[p.b]?):bk ρ' id row w':=by
 by_cases hl:row.live=true
 · exact h.keep hle (hb hl)
 · cases row with
   |gone=>trivial
   |obj _=>trivial
   |own cs=>simp [Row.live] at hl
   |pre ro cs=>simp [Row.live] at hl
   |vec ro k xs=>
    refine .inl ?_
    cases ro<;>cases xs<;>simp [Row.live] at hl
    exact ⟨rfl,rfl⟩
theorem ky {ρ:aR} {m:jM} {w w':World} {g:Nat} {s s':WS} {p:uc} (hW:rP ρ m w) (hm:m g=some (.obj s)) (hp:ρ g=some p) (hfr:um (c6 w p.b) w w') (his:IK w' p.b s')
    (hft:∀x,c6 w' p.b x→c6 w p.b x∨w.heap.size≤x) {n:Nat} {nw:List Row} {ρn:aR} (hfree:∀j,n≤j→j<n+nw.length→m j=none)
    (hvec:∀r∈nw,∃ro k xs,r=.vec ro k xs) (hnrow:∀j row,nw[j]? =some row→bk ρn j row w') (hnb:∀j q,ρn j=some q→q.b<w'.heap.size∧(w.heap.size≤q.b∨c6 w p.b q.b)∧ ¬ c6 w' p.b q.b)
    (hnn:∀i j q r,i≠j→ρn i=some q→ρn j=some r→(q.mine||r.mine)=true→q.b≠r.b):
    rP (fun i=>if n≤i∧i<n+nw.length then ρn (i - n) else ρ i) (iD (iB m [(g,.obj s')]) n nw) w'∧
    dE ρ m w (fun i=>if n≤i∧i<n+nw.length then ρn (i - n) else ρ i) (iD (iB m [(g,.obj s')]) n nw) w':=by
 have hm2:∀i,iD (iB m [(g,.obj s')]) n nw i=if n≤i∧i<n+nw.length then nw[i - n]? else if i=g then some (.obj s') else m i:=by
  intro i
  unfold iD
  rw [Kg hm]
 have hgn: ¬ (n≤g∧g<n+nw.length):=fun h=>by rw [hfree g h.1 h.2] at hm;cases hm
 have hle:ρ.le (fun i=>if n≤i∧i<n+nw.length then ρn (i - n) else ρ i):=by
  intro i q hq
  have : ¬ (n≤i∧i<n+nw.length):=fun h=>by rw [hW.free i (hfree i h.1 h.2)] at hq;cases hq
  simp only [if_neg this]
  exact hq
 obtain ⟨p',hp',hb0,hmi,hIs⟩:=hW.obj.is g s hm
 rw [hp] at hp';cases hp'
 have hnobj:∀i r,n≤i∧i<n+nw.length→nw[i - n]? =some r→r.isObj=false:=by
  intro i r hi hr
  obtain ⟨ro,k,xs,rfl⟩:=hvec r (List.mem_of_getElem? hr)
  rfl
 -- live old rows lie outside
 have hlive:∀i q,bq m i→ρ i=some q→ ¬ c6 w p.b q.b:=fun i q hi hq hx=>hW.obj.out g s p hm hp _ hx i q hi hq rfl
 have hblk:∀i q,bq m i→ρ i=some q→w'.heap[q.b]? =w.heap[q.b]? :=fun i q hi hq=>hfr.block _ (hW.good i q hq) (hlive i q hi hq)
 -- the other games
 have hoth:∀i t q,i≠g→m i=some (.obj t)→ρ i=some q→IK w' q.b t∧(∀x,c6 w' q.b x↔c6 w q.b x)∧(∀x,c6 w q.b x→x<w.heap.size∧ ¬ c6 w p.b x):=by
  intro i t q hi hmt hq
  obtain ⟨q',hq',_,_,hs⟩:=hW.obj.is i t hmt
  rw [hq] at hq';cases hq'
  have hd:∀x,c6 w q.b x→x<w.heap.size∧ ¬ c6 w p.b x:=fun x hx=>⟨hs.size hx,hW.obj.two i g t s q p hmt hm hi hq hp x hx⟩
  obtain ⟨h1,h2⟩:=hs.keep hfr.size fun x hx=>hfr.block x (hd x hx).1 (hd x hx).2
  exact ⟨h1,h2,hd⟩
 have hobj:∀i t,iD (iB m [(g,.obj s')]) n nw i=some (.obj t)→ ¬ (n≤i∧i<n+nw.length)∧((i=g∧t=s')∨(i≠g∧m i=some (.obj t))):=by
  intro i t hi
  rw [hm2] at hi
  by_cases h:n≤i∧i<n+nw.length
  · rw [if_pos h] at hi
    have:=hnobj i _ h hi
    simp [Row.isObj] at this
  · rw [if_neg h] at hi
    refine ⟨h,?_⟩
    by_cases hg:i=g
    · rw [if_pos hg] at hi;cases hi;exact .inl ⟨hg,rfl⟩
    · rw [if_neg hg] at hi;exact .inr ⟨hg,hi⟩
 have hlv:∀j,bq (iD (iB m [(g,.obj s')]) n nw) j→(n≤j∧j<n+nw.length)∨(¬ (n≤j∧j<n+nw.length)∧bq m j):=by
  rintro j ⟨row,h1,h2⟩
  rw [hm2] at h1
  by_cases h:n≤j∧j<n+nw.length
  · exact .inl h
  · rw [if_neg h] at h1
    by_cases hg:j=g
    · rw [if_pos hg] at h1;cases h1;simp [Row.live] at h2
    · rw [if_neg hg] at h1;exact .inr ⟨h,row,h1,h2⟩
 have hnew_old:∀i q j r,bq m i→ρ i=some q→ρn j=some r→q.b≠r.b:=by
  intro i q j r hi hq hr heq
  rcases (hnb j r hr).2.1 with h |h
  · have:=hW.good i q hq;omega
  · exact hlive i q hi hq (heq ▸ h)
 refine ⟨⟨?_,?_,?_,?_,⟨?_,?_,?_⟩⟩,⟨hle,?_,?_,?_,?_,?_,?_⟩⟩
 · intro i q hq
   try simp only at hq
   split at hq
   · exact (hnb _ q hq).1
   · exact Nat.lt_of_lt_of_le (hW.good i q hq) hfr.size
 · intro i row hi
   rw [hm2] at hi
   by_cases h:n≤i∧i<n+nw.length
   · rw [if_pos h] at hi
     obtain ⟨ro,k,xs,rfl⟩:=hvec row (List.mem_of_getElem? hi)
     have h1:=hnrow _ _ hi
     simp only [bk,if_pos h] at h1 ⊢
     exact h1
   · rw [if_neg h] at hi
     by_cases hg:i=g
     · rw [if_pos hg] at hi;cases hi;trivial
     · rw [if_neg hg] at hi
       exact yU (hW.rows i row hi) hle fun hl q hq=>hblk i q ⟨row,hi,hl⟩ hq
 · intro i j q r hi hj hij hq hr hmm
   try simp only at hq hr
   rcases hlv i hi with h |⟨h,hl⟩<;>rcases hlv j hj with k |⟨k,kl⟩
   · rw [if_pos h] at hq
     rw [if_pos k] at hr
     exact hnn _ _ q r (by omega) hq hr hmm
   · rw [if_pos h] at hq
     rw [if_neg k] at hr
     exact fun he=>hnew_old j r _ q kl hr hq he.symm
   · rw [if_neg h] at hq
     rw [if_pos k] at hr
     exact hnew_old i q _ r hl hq hr
   · rw [if_neg h] at hq
     rw [if_neg k] at hr
     exact hW.apart i j q r hl kl hij hq hr hmm
 · intro i hi
   rw [hm2] at hi
   by_cases h:n≤i∧i<n+nw.length
   · rw [if_pos h,List.getElem?_eq_none_iff] at hi
     omega
   · rw [if_neg h] at hi
     simp only [if_neg h]
     by_cases hg:i=g
     · rw [if_pos hg] at hi;cases hi
     · rw [if_neg hg] at hi;exact hW.free i hi
 · intro i t hi
   obtain ⟨h,⟨rfl,rfl⟩|⟨hg,hmt⟩⟩:=hobj i t hi
   · exact ⟨p,by simp only [if_neg h];exact hp,hb0,hmi,his⟩
   · obtain ⟨q,hq,h1,h2,_⟩:=hW.obj.is i t hmt
     exact ⟨q,by simp only [if_neg h];exact hq,h1,h2,(hoth i t q hg hmt hq).1⟩
 · intro i t q hi hq x hx j r hj hr
   try simp only at hq hr
   obtain ⟨h,⟨rfl,rfl⟩|⟨hg,hmt⟩⟩:=hobj i t hi<;>rw [if_neg h] at hq
   · rw [hp] at hq;cases hq
     rcases hlv j hj with k |⟨k,kl⟩
     · rw [if_pos k] at hr
       exact fun he=>(hnb _ r hr).2.2 (he ▸ hx)
     · rw [if_neg k] at hr
       rcases hft x hx with h1 |h1
       · exact hW.obj.out i s p hm hp x h1 j r kl hr
       · have:=hW.good j r hr;omega
   · obtain ⟨h1,h2,h3⟩:=hoth i t q hg hmt hq
     have hx':=(h2 x).1 hx
     rcases hlv j hj with k |⟨k,kl⟩
     · rw [if_pos k] at hr
       rcases (hnb _ r hr).2.1 with h4 |h4
       · have:=(h3 x hx').1;omega
       · exact fun he=>(h3 x hx').2 (he ▸ h4)
     · rw [if_neg k] at hr
       exact hW.obj.out i t q hmt hq x hx' j r kl hr
 · intro i j t u q r hi hj hij hq hr x hx
   try simp only at hq hr
   obtain ⟨h,⟨rfl,rfl⟩|⟨hg,hmt⟩⟩:=hobj i t hi<;>rw [if_neg h] at hq<;>obtain ⟨k,⟨rfl,rfl⟩|⟨kg,kmt⟩⟩:=hobj j u hj<;>rw [if_neg k] at hr
   · exact absurd rfl hij
   · rw [hp] at hq;cases hq
     obtain ⟨h1,h2,h3⟩:=hoth j u r kg kmt hr
     rw [h2]
     intro hxr
     rcases hft x hx with h4 |h4
     · exact (h3 x hxr).2 h4
     · have:=(h3 x hxr).1;omega
   · rw [hp] at hr;cases hr
     obtain ⟨h1,h2,h3⟩:=hoth i t q hg hmt hq
     have hx':=(h2 x).1 hx
     intro hxr
     rcases hft x hxr with h4 |h4
     · exact (h3 x hx').2 h4
     · have:=(h3 x hx').1;omega
   · obtain ⟨h1,h2,h3⟩:=hoth i t q hg hmt hq
     obtain ⟨k1,k2,k3⟩:=hoth j u r kg kmt hr
     rw [k2]
     exact hW.obj.two i j t u q r hmt kmt hij hq hr x ((h2 x).1 hx)
 · intro i hi
   rw [hm2] at hi
   by_cases h:n≤i∧i<n+nw.length
   · exact hfree i h.1 h.2
   · rw [if_neg h] at hi
     by_cases hg:i=g
     · rw [if_pos hg] at hi;cases hi
     · rw [if_neg hg] at hi;exact hi
 · intro i hi
   rcases hlv i hi with h |⟨_,h⟩
   · exact .inr (hfree i h.1 h.2)
   · exact .inl h
 · intro i q hq
   try simp only at hq
   by_cases h:n≤i∧i<n+nw.length
   · exact .inr (hfree i h.1 h.2)
   · rw [if_neg h] at hq;exact .inl hq
 · intro i q hi hq
   try simp only at hq
   by_cases h:n≤i∧i<n+nw.length
   · rw [if_pos h] at hq
     exact (hnb _ q hq).2.1.imp id fun hx=>.inr ⟨g,s,p,hm,hp,hx⟩
   · rw [if_neg h,hW.free i hi] at hq;cases hq
 · exact hfr.weaken fun b _ hx=>.inr ⟨g,s,p,hm,hp,hx⟩
 · intro i t q hi hq x hx
   try simp only at hq
   obtain ⟨h,⟨rfl,rfl⟩|⟨hg,hmt⟩⟩:=hobj i t hi<;>rw [if_neg h] at hq
   · rw [hp] at hq;cases hq
     exact (hft x hx).symm.imp id fun hx=>.inr ⟨_,s,p,hm,hp,hx⟩
   · obtain ⟨h1,h2,h3⟩:=hoth i t q hg hmt hq
     exact .inr (.inr ⟨i,t,q,hmt,hq,(h2 x).1 hx⟩)
def SG (o:Option (Nat×Nat×Option Nat)):SV:=match o with
 |some (_,n,cap)=>.slice 0 0 0 n cap
 |none=>.nils
def Og (v:SV) (f:FW) (more:List Row):aj:=(.tuple [v,.slice 0 0 0 f.la f.ca,.slice 0 0 0 f.lb f.cb,SG f.p,SG f.h],.obj f.s::more)
def bD (v:SV) (rows:List Row):Option aj:=match te rows with
 |some f=>some (Og v f [])
 |none=>none
def uI (v:SV) (rows:List Row):Option aj:=match te rows with
 | some f=>match v with
  |.nils=>some (Og .nils f [])
  |.slice k st 0 n cap=>match rows[k]? with
   |some (.vec false kd xs)=>bif Nat.beq st kd.st&& !iR k f.all then some (Og (.slice 0 st 0 n cap) f [.vec false kd xs]) else none
   |_=>none
  |_=>none
 |none=>none
def SV.firm (x:SV) (len:Nat):Prop:=match x with
 |.slice _ _ _ n cap=>n=len∧(0<n∨cap.isSome=true)
 |.nils=>len=0
 |_=>False
theorem Bw {o:Option (Nat×Nat×Option Nat)} {len:Nat}:(SG o).firm len↔Go.Proofs.YtimkhidniolpeaaGreat.firm o len:=by
 cases o<;>simp [SG,SV.firm,Go.Proofs.YtimkhidniolpeaaGreat.firm]
def ol (r:Option aj) (v:SV) (s:WS) (more:List Row):Prop:=∃a b p h,r=some (.tuple [v,a,b,p,h],.obj s::more)∧a.firm s.cells.length∧b.firm s.spawns.length∧p.firm s.ps.length∧h.firm s.shots.length∧s.ps.length≤8
structure cB (l:bp) (s:WS):Prop where
 pn:l.pc=none→s.ps=[]
 hn:l.hc=none→s.shots=[]
 pc:∀c,l.pc=some c→s.ps.length≤c
 few:s.ps.length≤8
theorem nj (s:WS) (l:bp):gU (s.rows l)=true:=by
 unfold gU WS.rows
 cases l.pc<;>cases l.hc<;>simp [Row.isObj]
theorem oI {v:SV} {f:FW} {more:List Row} {v':SV} {s:WS} {more':List Row} (h:ol (some (Og v f more)) v' s more'):v=v'∧f.s=s∧more=more'∧f.Ok:=by
 obtain ⟨a,b,p,q,he,h1,h2,h3,h4,h5⟩:=h
 simp only [Og,Option.some.injEq,Prod.mk.injEq,SV.tuple.injEq,List.cons.injEq,and_true,Row.obj.injEq] at he
 obtain ⟨⟨rfl,rfl,rfl,rfl,rfl⟩,rfl,rfl⟩:=he
 exact ⟨rfl,rfl,rfl,h1,h2,Bw.1 h3,Bw.1 h4,h5⟩
section
variable {P:Program} {X:bS}
theorem KE {ρ:aR} {l:bp} {s:WS} {w:World} (h:Pm ρ l s w):cB l s:=by
 refine ⟨fun hp=>(h.pc hp).2,fun hh=>(h.hc hh).2,fun c hc=>?_,h.few⟩
 obtain ⟨p,vs,ty,_,_,_,_,hr⟩:=h.rows 0 _ (by simp [WS.rows];rfl)
 obtain ⟨v,_,hv⟩:=hr.get (i:=6) (x:=.slice 3 1 0 s.ps.length (some c)) (by simp [WS.cellsS,hc])
 simp only [aE] at hv
 rcases hv with ⟨q,o,c',_,_,hcc,_,hn,_⟩|⟨_,h,_⟩
 · have:=hcc c rfl;omega
 · cases h
theorem tD {f:Nat} {ds:List SV} {s:WS} {g:Nat} {ρ:aR} {m:jM} {vargs:List Value} {w:World} (hds:SV.idsL ds=[]) (hargs:au ρ (.ptr g 0 0 0::ds) vargs) (hW:rP ρ m w) (hm:m g=some (.obj s))
    {v:SV} {rows':List Row} {F:FW} {l:bp} {ρ0:aR} {p0 p:uc} (hp:ρ g=some p) (hb0:p.base=0) (hAt:Pm ρ0 l s w) (h00:ρ0 0=some p0) (hpb:p0.b=p.b)
    (hc:cQ P f (.ptr 0 0 0 0::ds) (s.rows l) v rows') (hF:te rows'=some F) (ok:F.Ok):
    Calls P f vargs.toArray w fun en w'=>∃u ρ1,en=.returned u∧aE ρ1 v u∧gK ρ1 w'∧(∀i row,rows'[i]? =some row→bk ρ1 i row w')∧gY ρ1 (bq fun i=>rows'[i]?)∧IK w' p.b F.s∧um (c6 w p.b) w w'∧
     (∀j q,ρ1 j=some q→c6 w p.b q.b∨w.heap.size≤q.b)∧(∀x,c6 w' p.b x→∃j q,j∈F.all∧ρ1 j=some q∧q.b=x∧q.mine=true∧bq (fun i=>rows'[i]?) j):=by
 obtain ⟨p0',vs,ty,hp0,hb00,_,_,_⟩:=hAt.rows 0 _ (by simp [WS.rows];rfl)
 rw [h00] at hp0;cases hp0
 have hargs0:au ρ0 (.ptr 0 0 0 0::ds) vargs:=by
  match vargs,hargs with
  |v0::vs,hargs=>
   rw [aa] at hargs ⊢
   refine ⟨?_,au.only _ _ (fun i hi=>by rw [hds] at hi;cases hi) hargs.2⟩
   have:=hargs.1
   simp only [aE] at this ⊢
   obtain ⟨q,hq,hv⟩:=this
   rw [hp] at hq;cases hq
   exact ⟨p0,h00,by rw [hv,hpb,hb0,hb00]⟩
  |[],hargs=>simp [au] at hargs
 refine (hc ρ0 vargs w hargs0 hAt.good hAt.rows hAt.apart hAt.free).mono ?_
 rintro en w' ⟨u,ρ1,rfl,hv,hg1,hr1,ha1,hf1,hprg⟩
 obtain ⟨l',hAt',_,hall⟩:=OL hF ok hr1 hg1 ha1 hf1
 have h10:ρ1 0=some p0:=hprg.le 0 p0 h00
 have h10':(fun i=>ρ1 (F.at rows'.length i)) 0=some p0:=h10
 have hfoot:∀x,c6 w p.b x↔∃i q,ρ0 i=some q∧q.b=x:=fun x=>by rw [←hpb];exact hAt.foot h00 x
 have hmay:∀b,fZ ρ0 (fun i=>(s.rows l)[i]?) b→c6 w p.b b:=by
  rintro b ⟨i,q,_,hq,_,rfl⟩
  exact (hfoot _).2 ⟨i,q,hq,rfl⟩
 have hnames:∀j q,ρ1 j=some q→c6 w p.b q.b∨w.heap.size≤q.b:=by
  intro j q hq
  rcases hprg.dom j q hq with h |h
  · exact .inl ((hfoot _).2 ⟨j,q,h,rfl⟩)
  · exact (hprg.new j q h hq).symm.imp (hmay _) id
 refine ⟨u,ρ1,rfl,hv,hg1,hr1,ha1,⟨_,l',p0,hAt',h10',hpb⟩,hprg.frm.weaken fun b _ hb=>hmay b hb,hnames,fun x hx=>?_⟩
 rw [←hpb] at hx
 obtain ⟨i,q,hq,rfl⟩:=(hAt'.foot h10' x).1 hx
 have hlt:F.at rows'.length i<rows'.length:=by
  rcases Nat.lt_or_ge (F.at rows'.length i) rows'.length with h |h
  · exact h
  · exact absurd hq (by show ¬ ρ1 _=_;rw [hf1 _ h];exact fun h=>by cases h)
 have hmem:=FW.at_mem (f:=F) (far:=rows'.length) (i:=i) (by omega)
 obtain ⟨h1,row,h2,h3⟩:=hall _ hmem q hq
 exact ⟨_,q,hmem,hq,rfl,h1,row,h2,h3⟩
theorem eX (hX:bV P X) {L:Nat→List Nat→Option dq} (hL:AM P L) {fuel f:Nat} {fn:Func} (hfu:P.funcs[f]? =some fn) {ds:List SV} (hds:SV.idsL ds=[]) {s s':WS} {v:SV} (hv:v.ids=[]) {ok:Bool}
    (h:∀l,cB l s→ol (bO X L fuel f fn bD (.ptr 0 0 0 0::ds) (s.rows l)) v s' []) {m:jM} {n g:Nat} (hm:m g=some (.obj s)):dp P f (.ptr g 0 0 0::ds) m n {ok:=ok,val:=v,rd:=[g],wr:=[(g,.obj s')]}:=by
 intro ρ m1 vargs w hrd _ hfree hargs hW
 have hm1:m1 g=some (.obj s):=by rw [hrd g (by simp),hm]
 obtain ⟨p,hp,hb0,_,ρ0,l,p0,hAt,h00,hpb⟩:=hW.obj.is g s hm1
 have he:=h l (KE hAt)
 obtain ⟨_,_,_,_,hr,_⟩:=id he
 obtain ⟨v1,rows',hk,hc⟩:=mq hX hL hfu hr
 rw [hr,←hk] at he
 unfold bD at he
 split at he
 · rename_i F hF
   obtain ⟨rfl,rfl,_,hok⟩:=oI he
   refine (tD hds hargs hW hm1 hp hb0 hAt h00 hpb (hc.plain (nj s l)) hF hok).mono ?_
   rintro en w' ⟨u,ρ1,rfl,hu,hg1,hr1,ha1,his,hfr,hnames,hft⟩
   obtain ⟨h1,h2⟩:=ky (n:=n) (nw:=[]) (ρn:=fun _=>none) hW hm1 hp hfr his (fun x hx=>by
    obtain ⟨j,q,_,hq,rfl,_⟩:=hft x hx
    exact hnames j q hq) hfree (by simp) (by simp) (fun _ _ h=>by cases h) (fun _ _ _ _ _ h=>by cases h)
   exact ⟨u,_,rfl,aE.only _ _ (fun i hi=>by rw [hv] at hi;cases hi) hu,h1,h2⟩
 · obtain ⟨_,_,_,_,he,_⟩:=he;cases he
theorem qu (hX:bV P X) {L:Nat→List Nat→Option dq} (hL:AM P L) {fuel f:Nat} {fn:Func} (hfu:P.funcs[f]? =some fn) {ds:List SV} (hds:SV.idsL ds=[]) {s s':WS} {k:aA} {xs:List k.T} {ok:Bool}
    (h:∀l,cB l s→(xs=[]∧ol (bO X L fuel f fn uI (.ptr 0 0 0 0::ds) (s.rows l)) .nils s' [])∨∃cap,ol (bO X L fuel f fn uI (.ptr 0 0 0 0::ds) (s.rows l)) (.slice 0 k.st 0 xs.length cap) s' [.vec false k xs])
    {m:jM} {n g:Nat} (hm:m g=some (.obj s)):dp P f (.ptr g 0 0 0::ds) m n {ok:=ok,val:=.slice n k.st 0 xs.length none,rd:=[g],wr:=[(g,.obj s')],nw:=[.vec true k xs]}:=by
 intro ρ m1 vargs w hrd _ hfree hargs hW
 have hm1:m1 g=some (.obj s):=by rw [hrd g (by simp),hm]
 obtain ⟨p,hp,hb0,_,ρ0,l,p0,hAt,h00,hpb⟩:=hW.obj.is g s hm1
 have fin :∀(r:aj) (v0:SV) (more:List Row),bO X L fuel f fn uI (.ptr 0 0 0 0::ds) (s.rows l)=some r→ol (some r) v0 s' more→∃v1 rows' F,kx P f (.ptr 0 0 0 0::ds) (s.rows l) v1 rows'∧te rows'=some F∧F.Ok∧F.s=s'∧
     ((v1=.nils∧v0=.nils∧more=[])∨∃k1 st n1 cap kd ys,v1=.slice k1 st 0 n1 cap∧v0=.slice 0 st 0 n1 cap∧st=kd.st∧rows'[k1]? =some (.vec false kd ys)∧k1∉F.all∧more=[.vec false kd ys]):=by
  intro r v0 more hr he
  obtain ⟨v1,rows',hk,hc⟩:=mq hX hL hfu hr
  rw [←hk] at he
  unfold uI at he
  split at he
  · rename_i F hF
    split at he
    · obtain ⟨rfl,h2,rfl,hok⟩:=oI he
      exact ⟨_,rows',F,hc,hF,hok,h2,.inl ⟨rfl,rfl,rfl⟩⟩
    · rename_i k1 st n1 cap
      split at he
      · rename_i kd ys hrow
        cases hb:Nat.beq st kd.st&& !iR k1 F.all with
        |false=>rw [hb] at he;obtain ⟨_,_,_,_,he,_⟩:=he;cases he
        | true=>
         rw [hb,cond_true] at he
         rw [Bool.and_eq_true,Bool.not_eq_true'] at hb
         obtain ⟨rfl,h2,rfl,hok⟩:=oI he
         have hnm:k1∉F.all:=by
          intro hmem
          have h9:=hb.2
          rw [di.2 hmem] at h9
          cases h9
         exact ⟨_,rows',F,hc,hF,hok,h2,.inr ⟨k1,st,n1,cap,kd,ys,rfl,rfl,Nat.eq_of_beq_eq_true hb.1,hrow,hnm,rfl⟩⟩
      · obtain ⟨_,_,_,_,he,_⟩:=he;cases he
    · obtain ⟨_,_,_,_,he,_⟩:=he;cases he
  · obtain ⟨_,_,_,_,he,_⟩:=he;cases he
 rcases h l (KE hAt) with ⟨rfl,he⟩|⟨cap,he⟩
 · obtain ⟨_,_,_,_,hr,_⟩:=id he
   obtain ⟨v1,rows',F,hc,hF,hok,rfl,hv⟩:=fin _ _ _ hr (hr ▸ he)
   have hv1:v1=.nils:=by
    rcases hv with ⟨h1,_⟩|⟨_,_,_,_,_,_,_,h2,_⟩
    · exact h1
    · cases h2
   subst hv1
   refine (tD hds hargs hW hm1 hp hb0 hAt h00 hpb (hc.plain (nj s l)) hF hok).mono ?_
   rintro en w' ⟨u,ρ1,rfl,hu,hg1,hr1,ha1,his,hfr,hnames,hft⟩
   obtain ⟨h1,h2⟩:=ky (n:=n) (nw:=[.vec true k []]) (ρn:=fun _=>none) hW hm1 hp hfr his (fun x hx=>by
    obtain ⟨j,q,_,hq,rfl,_⟩:=hft x hx
    exact hnames j q hq) hfree (by simp) (fun j row hj=>by
     cases j with
     |zero=>simp at hj;subst hj;exact .inl ⟨rfl,rfl⟩
     |succ j=>simp at hj) (fun _ _ h=>by cases h) (fun _ _ _ _ _ h=>by cases h)
   refine ⟨u,_,rfl,?_,h1,h2⟩
   simp only [aE] at hu ⊢
   exact .inr ⟨rfl,trivial,none,0,hu⟩
 · obtain ⟨_,_,_,_,hr,_⟩:=id he
   obtain ⟨v1,rows',F,hc,hF,hok,rfl,hv⟩:=fin _ _ _ hr (hr ▸ he)
   rcases hv with ⟨_,h2,_⟩|⟨k1,st,n1,cap1,kd,ys,rfl,h2,hst,hrow,hk1,h3⟩
   · cases h2
   · cases h2
     simp only [List.cons.injEq,and_true,Row.vec.injEq,true_and] at h3
     obtain ⟨rfl,h3⟩:=h3
     cases h3
     refine (tD hds hargs hW hm1 hp hb0 hAt h00 hpb (hc.plain (nj s l)) hF hok).mono ?_
     rintro en w' ⟨u,ρ1,rfl,hu,hg1,hr1,ha1,his,hfr,hnames,hft⟩
     obtain ⟨q,hq,_,hown,hcells⟩:∃q:uc,ρ1 k1=some q∧(false=true→q.mine=false)∧(false=false→q.mine=true∧q.base=0∧∃(vs:List Value) (ty:TypeId),w'.heap[q.b]? =some (.cells vs.toArray ty (0,0))∧xs.length*k.st≤vs.length∧vs.length=q.size)∧
         ∀(i:Nat) (x:k.T),xs[i]? =some x→∀(j:Nat) (s:SV),(k.enc x)[j]? =some s→w'.cell? ⟨q.b,q.base+i*k.st+j,none⟩=some (bK s):=by
      rcases hr1 k1 _ hrow with ⟨h,_⟩|h
      · cases h
      · exact h
     have hqm:=(hown rfl).1
     obtain ⟨h1,h2⟩:=ky (n:=n) (nw:=[.vec true k xs]) (ρn:=fun j=>if j=0 then some {q with mine:=false} else none) hW hm1 hp hfr his (fun x hx=>by
      obtain ⟨j,q,_,hq,rfl,_⟩:=hft x hx
      exact hnames j q hq) hfree (by simp) (fun j row hj=>by
       cases j with
       |zero=>
        simp at hj;subst hj
        exact .inr ⟨{q with mine:=false},by simp,fun _=>rfl,fun h=>(by cases h),hcells⟩
       | succ j=>simp at hj) (fun j r hj=>by
        split at hj
        · cases hj
          refine ⟨hg1 k1 q hq,(hnames k1 q hq).symm,fun hx=>?_⟩
          obtain ⟨i,r,hi,hr,hrb,hrm,hlv⟩:=hft _ hx
          exact ha1 i k1 r q hlv ⟨_,hrow,rfl⟩ (fun h=>hk1 (h ▸ hi)) hr hq (by simp [hrm]) hrb
        · cases hj) (fun i j r t hij hi hj=>by
          split at hi
          · split at hj
            · omega
            · cases hj
          · cases hi)
     refine ⟨u,_,rfl,?_,h1,h2⟩
     simp only [aE] at hu ⊢
     rcases hu with ⟨q',o,c,hq',rfl,_,ho,hn,_⟩|⟨h5,_,hu⟩
     · rw [hq] at hq';cases hq'
       refine .inl ⟨{q with mine:=false},o,c,by simp,rfl,(fun c' h=>by cases h),?_,hn,fun h=>by cases h⟩
       rcases ho with ho |⟨ho,_⟩
       · exact .inl ho
       · exact .inr ⟨ho,trivial⟩
     · exact .inr ⟨h5,trivial,hu⟩
end
def A4 (v:SV) (rows:List Row):Option aj:=match v with
 | .tuple [.ptr k 0 0 0,.int .i64 e]=>match rows[k]? with
  | some (.own [.int .i64 w,.int .i64 d,.int .i64 h,.slice a 1 0 la ca,.slice b 3 0 lb cb,.int .i64 now,.nils,.nils,.int .i64 given,.int .i64 fired])=>match rows[a]?,rows[b]? with
   | some (.vec false .bool cells),some (.vec false .vec spawns)=>bif (Nat.blt 1 k&&(Nat.blt 1 a&&Nat.blt 1 b))&&(!Nat.beq a k&&(!Nat.beq b k&& !Nat.beq a b)) then
       some (.tuple [.int .i64 e,.slice 0 0 0 la ca,.slice 0 0 0 lb cb],[.obj ⟨w,d,h,cells,spawns,now,[],[],given,fired⟩]) else none
   |_,_=>none
  |_=>none
 |.tuple [.nilp,.int .i64 e]=>some (.tuple [.nilp,.int .i64 e],[])
 |_=>none
def rz (r:Option aj) (s:WS):Prop:=∃la ca lb cb,r=some (.tuple [.int .i64 0,.slice 0 0 0 la ca,.slice 0 0 0 lb cb],[.obj s])∧la=s.cells.length∧(0<la∨ca.isSome=true)∧lb=s.spawns.length∧(0<lb∨cb.isSome=true)
theorem DI {v:SV} {rows:List Row} {s:WS} (h:rz (A4 v rows) s):∃k a la ca b lb cb,v=.tuple [.ptr k 0 0 0,.int .i64 0]∧rows[k]? =some (.own [.int .i64 s.w,.int .i64 s.d,.int .i64 s.h,.slice a 1 0 la ca,.slice b 3 0 lb cb,.int .i64 s.now,.nils,.nils,.int .i64 s.given,.int .i64 s.fired])∧
    rows[a]? =some (.vec false .bool s.cells)∧rows[b]? =some (.vec false .vec s.spawns)∧(2≤k∧2≤a∧2≤b)∧(a≠k∧b≠k∧a≠b)∧la=s.cells.length∧(0<la∨ca.isSome=true)∧lb=s.spawns.length∧(0<lb∨cb.isSome=true)∧s.ps=[]∧s.shots=[]:=by
 obtain ⟨la0,ca0,lb0,cb0,hr,h1,h2,h3,h4⟩:=h
 unfold A4 at hr
 split at hr
 · rename_i k e
   split at hr
   · rename_i w d hh a la ca b lb cb now given fired hrow
     split at hr
     · rename_i cells spawns ha hb
       obtain ⟨ht,hr⟩:=al hr
       cases hr
       simp only [Bool.and_eq_true,Bool.not_eq_true',Nat.blt_eq] at ht
       obtain ⟨⟨t1,t2,t3⟩,t4,t5,t6⟩:=ht
       have hne:∀{x y:Nat},Nat.beq x y=false→x≠y:=fun h he=>by subst he;rw [Nat.beq_refl] at h;cases h
       exact ⟨k,a,_,_,b,_,_,rfl,hrow,ha,hb,⟨t1,t2,t3⟩,⟨hne t4,hne t5,hne t6⟩,h1,h2,h3,h4,rfl,rfl⟩
     · cases hr
   · cases hr
 · cases hr
 · cases hr
theorem IM {P:Program} {X:bS} (hX:bV P X) {L:Nat→List Nat→Option dq} (hL:AM P L) {fuel f:Nat} {fn:Func} (hfu:P.funcs[f]? =some fn) {args0:List SV} {k1 k2:aA} {xs:List k1.T} {ys:List k2.T} {s:WS} {ok:Bool}
    (h:rz (bO X L fuel f fn A4 args0 [.vec true k1 xs,.vec true k2 ys]) s) (ha0:∀i∈SV.idsL args0,i<2) {m:jM} {n i1 i2:Nat} {b1 b2:Bool} (h1:m i1=some (.vec b1 k1 xs)) (h2:m i2=some (.vec b2 k2 ys)):
    dp P f (d8 (gV [i1,i2] n) args0) m n {ok:=ok,val:=.tuple [.ptr n 0 0 0,.int .i64 0],rd:=[i1,i2],nw:=[.obj s]}:=by
 intro ρ m1 vargs w hrd _ hfree hargs hW
 have hm1:m1 i1=some (.vec b1 k1 xs):=by rw [hrd i1 (by simp),h1]
 have hm2:m1 i2=some (.vec b2 k2 ys):=by rw [hrd i2 (by simp),h2]
 have hfn:m1 n=none:=hfree n (Nat.le_refl _) (by simp)
 let τ:=gV [i1,i2] n
 let ρ0:aR:=fun i=>if i<2 then (ρ (τ i)).map (fun p=>{p with mine:=false}) else none
 have hρ0:∀i,i<2→ρ0 i=(ρ (τ i)).map (fun p=>{p with mine:=false}):=fun i hi=>by simp only [ρ0,if_pos hi]
 have hmine:∀i p,ρ0 i=some p→p.mine=false∧p.b<w.heap.size:=by
  intro i p h
  simp only [ρ0] at h
  split at h
  · cases hq:ρ (τ i) with
    |none=>simp [hq] at h
    |some q=>simp [hq] at h;subst h;exact ⟨rfl,hW.good _ q hq⟩
  · cases h
 have one:∀(i:Nat) (ro:Bool) (kk:aA) (zs:List kk.T) (j:Nat),i<2→τ i=j→m1 j=some (.vec ro kk zs)→bk ρ0 i (.vec true kk zs) w:=by
  intro i ro kk zs j hi hτ hj
  rcases hW.rows j _ hj with ⟨_,h0⟩|⟨p,hp,_,_,hcell⟩
  · exact .inl ⟨rfl,h0⟩
  · exact .inr ⟨{p with mine:=false},by rw [hρ0 i hi,hτ,hp];rfl,fun _=>rfl,fun h=>(by cases h),hcell⟩
 obtain ⟨_,_,_,_,hr,_⟩:=id h
 obtain ⟨v,rows',hk,hcO⟩:=mq hX hL hfu hr
 have hc:=hcO.plain rfl
 rw [hr,←hk] at h
 obtain ⟨k,a,la,ca,b,lb,cb,rfl,hrk,hra,hrb,⟨k2',a2,b2'⟩,⟨nak,nbk,nab⟩,hla,hla2,hlb,hlb2,hps,hsh⟩:=DI h
 have hcall:=hc ρ0 vargs w (dU ((bE args0 vargs).1 hargs) fun i hi=>hρ0 i (ha0 i hi)) (fun i p h=>(hmine i p h).2) (fun i row hi=>by
     match i,hi with
     |0,hi=>simp at hi;subst hi;exact one 0 b1 k1 xs i1 (by omega) rfl hm1
     |1,hi=>simp at hi;subst hi;exact one 1 b2 k2 ys i2 (by omega) rfl hm2
     |i+2,hi=>simp at hi)
  (fun i j p q _ _ hij hp hq hm=>by rw [(hmine i p hp).1,(hmine j q hq).1] at hm;cases hm)
  (fun i hi=>by
   simp only [List.length_cons,List.length_nil] at hi
   simp only [ρ0];rw [if_neg (by omega)])
 refine hcall.mono ?_
 rintro en w' ⟨u,ρ1,rfl,hu,hg1,hr1,ha1,hf1,hprg⟩
 have hno:∀b, ¬ fZ ρ0 (fun i=>([.vec true k1 xs,.vec true k2 ys]:List Row)[i]?) b:=by
  rintro b ⟨i,p,_,h3,h4,_⟩
  rw [(hmine i p h3).1] at h4
  cases h4
 have hfresh:∀i p,2≤i→ρ1 i=some p→w.heap.size≤p.b:=by
  intro i p hi hp
  rcases hprg.new i p (by simp;omega) hp with h3 |h3
  · exact h3
  · exact absurd h3 (hno _)
 have hblk:∀b,b<w.heap.size→w'.heap[b]? =w.heap[b]? :=fun b hb=>hprg.frm.block b hb (hno b)
 have hsz:=hprg.frm.size
 obtain ⟨pk,vs,ty,hpk,hb0,hmk,hh,hrel⟩:=hr1 k _ hrk
 -- the game lies there
 let ρg:aR:=fun i=>match i with
  |0=>ρ1 k
  |1=>ρ1 a
  |2=>ρ1 b
  |_=>none
 obtain ⟨l,hAt⟩:∃l,Pm ρg l s w':=by
  match vs,hrel,hh with
  | [v0,v1,v2,v3,v4,v5,v6,v7,v8,v9],hrel,hh=>
   have hrel0:=hrel
   simp only [aa,ai,and_true] at hrel
   obtain ⟨r0,r1,r2,r3,r4,r5,r6,r7,r8,r9⟩:=hrel
   obtain ⟨q3,c3,e3,rfl,n3,m3⟩:=gd r3 hla2
   obtain ⟨q4,c4,e4,rfl,n4,m4⟩:=gd r4 hlb2
   refine ⟨⟨c3,c4,none,none⟩,⟨?_,?_,?_,?_,fun _=>⟨rfl,hps⟩,fun _=>⟨rfl,hsh⟩,by rw [hps];simp⟩⟩
   · intro i row hi
     match i,hi with
     |0,hi=>
      simp [WS.rows] at hi
      subst hi
      refine ⟨pk,_,ty,hpk,hb0,hmk,hh,?_⟩
      simp only [WS.cellsS,aa,ai,and_true]
      refine ⟨?_,?_,?_,?_,?_,?_,?_,?_,?_,?_⟩<;>try (simp only [aE] at*;assumption)
      · rw [←hla];exact jV (ρ:=ρg) e3 n3 m3
      · rw [←hlb];exact jV (ρ:=ρg) e4 n4 m4
     |1,hi=>
      simp [WS.rows] at hi
      subst hi
      exact hr1 a _ hra
     |2,hi=>
      simp [WS.rows] at hi
      subst hi
      exact hr1 b _ hrb
     |3,hi=>simp [WS.rows] at hi;subst hi;trivial
     |4,hi=>simp [WS.rows] at hi;subst hi;trivial
     |i+5,hi=>simp [WS.rows,hps] at hi
   · intro i p hp
     match i,hp with
     |0,hp=>exact hg1 k p hp
     |1,hp=>exact hg1 a p hp
     |2,hp=>exact hg1 b p hp
     |i+3,hp=>cases hp
   · intro i j p q _ _ hij hp hq hm
     have lk:bq (fun i=>rows'[i]?) k:=⟨_,hrk,rfl⟩
     have laa:bq (fun i=>rows'[i]?) a:=⟨_,hra,rfl⟩
     have lbb:bq (fun i=>rows'[i]?) b:=⟨_,hrb,rfl⟩
     match i,j,hij,hp,hq with
     |0,0,hij,_,_=>exact absurd rfl hij
     |1,1,hij,_,_=>exact absurd rfl hij
     |2,2,hij,_,_=>exact absurd rfl hij
     |0,1,_,hp,hq=>exact ha1 k a p q lk laa (Ne.symm nak) hp hq hm
     |0,2,_,hp,hq=>exact ha1 k b p q lk lbb (Ne.symm nbk) hp hq hm
     |1,0,_,hp,hq=>exact ha1 a k p q laa lk nak hp hq hm
     |1,2,_,hp,hq=>exact ha1 a b p q laa lbb nab hp hq hm
     |2,0,_,hp,hq=>exact ha1 b k p q lbb lk nbk hp hq hm
     |2,1,_,hp,hq=>exact ha1 b a p q lbb laa (Ne.symm nab) hp hq hm
     |i+3,_,_,hp,_=>cases hp
     |0,j+3,_,_,hq=>cases hq
     |1,j+3,_,_,hq=>cases hq
     |2,j+3,_,_,hq=>cases hq
   · intro i hi
     rw [WS.rows_len,hps] at hi
     simp only [List.length_nil] at hi
     match i,hi with
     |0,hi=>omega
     |1,hi=>omega
     |2,hi=>omega
     |i+3,_=>rfl
  |[],hr,_=>exact absurd hr.length (by simp)
  |[_],hr,_=>exact absurd hr.length (by simp)
  |[_,_],hr,_=>exact absurd hr.length (by simp)
  |[_,_,_],hr,_=>exact absurd hr.length (by simp)
  |[_,_,_,_],hr,_=>exact absurd hr.length (by simp)
  |[_,_,_,_,_],hr,_=>exact absurd hr.length (by simp)
  |[_,_,_,_,_,_],hr,_=>exact absurd hr.length (by simp)
  |[_,_,_,_,_,_,_],hr,_=>exact absurd hr.length (by simp)
  |[_,_,_,_,_,_,_,_],hr,_=>exact absurd hr.length (by simp)
  |[_,_,_,_,_,_,_,_,_],hr,_=>exact absurd hr.length (by simp)
  |_::_::_::_::_::_::_::_::_::_::_::_,hr,_=>exact absurd hr.length (by simp)
 have hg0:ρg 0=some pk:=hpk
 have his:IK w' pk.b s:=⟨ρg,l,pk,hAt,hg0,rfl⟩
 have hft:∀x,c6 w' pk.b x→w.heap.size≤x:=by
  intro x hx
  obtain ⟨i,q,hq,rfl⟩:=(hAt.foot hg0 x).1 hx
  match i,hq with
  |0,hq=>exact hfresh k q k2' hq
  |1,hq=>exact hfresh a q a2 hq
  |2,hq=>exact hfresh b q b2' hq
  |i+3,hq=>cases hq
 have hm':∀i,iD (iB m1 []) n [Row.obj s] i=if i=n then some (.obj s) else m1 i:=by
  intro i
  unfold iD
  by_cases hi:i=n
  · subst hi;simp
  · rw [if_neg (by simp;omega),if_neg hi]
    rfl
 have hgn:ρ n=none:=hW.free n hfn
 have hle:ρ.le (ρ.upd n pk):=aR.le_upd hgn
 have hoth:∀i t q,m1 i=some (.obj t)→ρ i=some q→IK w' q.b t∧(∀x,c6 w' q.b x↔c6 w q.b x)∧∀x,c6 w q.b x→x<w.heap.size:=by
  intro i t q hi hq
  obtain ⟨q',hq',_,_,hs⟩:=hW.obj.is i t hi
  rw [hq] at hq';cases hq'
  obtain ⟨g1,g2⟩:=hs.keep hsz fun x hx=>hblk x (hs.size hx)
  exact ⟨g1,g2,fun x hx=>hs.size hx⟩
 have hup:∀i q,(ρ.upd n pk) i=some q→(i=n∧q=pk)∨(i≠n∧ρ i=some q):=by
  intro i q hq
  unfold aR.upd at hq
  split at hq
  · rename_i hi;cases hq;exact .inl ⟨hi,rfl⟩
  · rename_i hi;exact .inr ⟨hi,hq⟩
 have hob:∀i t,iD (iB m1 []) n [Row.obj s] i=some (.obj t)→(i=n∧t=s)∨(i≠n∧m1 i=some (.obj t)):=by
  intro i t hi
  rw [hm'] at hi
  by_cases h:i=n
  · rw [if_pos h] at hi;cases hi;exact .inl ⟨h,rfl⟩
  · rw [if_neg h] at hi;exact .inr ⟨h,hi⟩
 have hlv:∀j,bq (iD (iB m1 []) n [Row.obj s]) j→j≠n∧bq m1 j:=by
  rintro j ⟨row,g1,g2⟩
  rw [hm'] at g1
  by_cases h:j=n
  · rw [if_pos h] at g1;cases g1;simp [Row.live] at g2
  · rw [if_neg h] at g1;exact ⟨h,row,g1,g2⟩
 have hval:aE (ρ.upd n pk) (.tuple [.ptr n 0 0 0,.int .i64 0]) u:=by
  simp only [aE,au] at hu ⊢
  obtain ⟨us,rfl,v1,vs1,rfl,⟨q,hq,rfl⟩,v2,vs2,rfl,rfl,rfl⟩:=hu
  rw [hpk] at hq;cases hq
  exact ⟨_,rfl,_,_,rfl,⟨pk,by simp [aR.upd],rfl⟩,_,_,rfl,rfl,rfl⟩
 refine ⟨u,ρ.upd n pk,rfl,hval,⟨?_,?_,?_,?_,⟨?_,?_,?_⟩⟩,⟨hle,?_,?_,?_,?_,?_,?_⟩⟩
 · intro i q hq
   rcases hup i q hq with ⟨_,rfl⟩|⟨_,hq⟩
   · exact hg1 k _ hpk
   · exact Nat.lt_of_lt_of_le (hW.good i q hq) hsz
 · intro i row hi
   simp only at hi
   rw [hm'] at hi
   by_cases h:i=n
   · rw [if_pos h] at hi;cases hi;trivial
   · rw [if_neg h] at hi
     exact yU (hW.rows i row hi) hle fun _ q hq=>hblk _ (hW.good i q hq)
 · intro i j p q hi hj hij hp hq hm
   obtain ⟨hin,hi⟩:=hlv i hi
   obtain ⟨hjn,hj⟩:=hlv j hj
   rcases hup i p hp with ⟨h,_⟩|⟨_,hp⟩
   · exact absurd h hin
   rcases hup j q hq with ⟨h,_⟩|⟨_,hq⟩
   · exact absurd h hjn
   exact hW.apart i j p q hi hj hij hp hq hm
 · intro i hi
   rw [hm'] at hi
   by_cases h:i=n
   · rw [if_pos h] at hi;cases hi
   · rw [if_neg h] at hi
     simp only [aR.upd,if_neg h]
     exact hW.free i hi
 · intro i t hi
   rcases hob i t hi with ⟨rfl,rfl⟩|⟨h,hi⟩
   · exact ⟨pk,by simp [aR.upd],hb0,hmk,his⟩
   · obtain ⟨q,hq,g1,g2,_⟩:=hW.obj.is i t hi
     exact ⟨q,by simp only [aR.upd,if_neg h];exact hq,g1,g2,(hoth i t q hi hq).1⟩
 · intro i t q hi hq x hx j r hj hjr
   obtain ⟨hjn,hj1⟩:=hlv j hj
   have hjr1:ρ j=some r:=by
    rcases hup j r hjr with ⟨g,_⟩|⟨_,g⟩
    · exact absurd g hjn
    · exact g
   rcases hob i t hi with ⟨hin,_⟩|⟨hin,hi1⟩
   · have hqk:q=pk:=by
      rcases hup i q hq with ⟨_,g⟩|⟨g,_⟩
      · exact g
      · exact absurd hin g
     subst hqk
     have g1:=hft x hx
     have g2:=hW.good j r hjr1
     omega
   · have hq1:ρ i=some q:=by
      rcases hup i q hq with ⟨g,_⟩|⟨_,g⟩
      · exact absurd g hin
      · exact g
     exact hW.obj.out i t q hi1 hq1 x (((hoth i t q hi1 hq1).2.1 x).1 hx) j r hj1 hjr1
 · intro i j t t' q r hi hj hij hq hjr x hx hxr
   rcases hob i t hi with ⟨hin,_⟩|⟨hin,hi1⟩<;>rcases hob j t' hj with ⟨hjn,_⟩|⟨hjn,hj1⟩
   · exact hij (hin.trans hjn.symm)
   · have hqk:q=pk:=by
      rcases hup i q hq with ⟨_,g⟩|⟨g,_⟩
      · exact g
      · exact absurd hin g
     have hjr1:ρ j=some r:=by
      rcases hup j r hjr with ⟨g,_⟩|⟨_,g⟩
      · exact absurd g hjn
      · exact g
     subst hqk
     obtain ⟨_,g2,g3⟩:=hoth j t' r hj1 hjr1
     have g4:=hft x hx
     have g5:=g3 x ((g2 x).1 hxr)
     omega
   · have hrk':r=pk:=by
      rcases hup j r hjr with ⟨_,g⟩|⟨g,_⟩
      · exact g
      · exact absurd hjn g
     have hq1:ρ i=some q:=by
      rcases hup i q hq with ⟨g,_⟩|⟨_,g⟩
      · exact absurd g hin
      · exact g
     subst hrk'
     obtain ⟨_,g2,g3⟩:=hoth i t q hi1 hq1
     have g4:=hft x hxr
     have g5:=g3 x ((g2 x).1 hx)
     omega
   · have hq1:ρ i=some q:=by
      rcases hup i q hq with ⟨g,_⟩|⟨_,g⟩
      · exact absurd g hin
      · exact g
     have hjr1:ρ j=some r:=by
      rcases hup j r hjr with ⟨g,_⟩|⟨_,g⟩
      · exact absurd g hjn
      · exact g
     exact hW.obj.two i j t t' q r hi1 hj1 hij hq1 hjr1 x (((hoth i t q hi1 hq1).2.1 x).1 hx) (((hoth j t' r hj1 hjr1).2.1 x).1 hxr)
 · intro i hi
   rw [hm'] at hi
   by_cases h:i=n
   · rw [if_pos h] at hi;cases hi
   · rw [if_neg h] at hi;exact hi
 · intro i hi
   exact .inl (hlv i hi).2
 · intro i q hq
   rcases hup i q hq with ⟨rfl,_⟩|⟨_,hq⟩
   · exact .inr hfn
   · exact .inl hq
 · intro i q hi hq
   rcases hup i q hq with ⟨rfl,rfl⟩|⟨_,hq⟩
   · exact .inl (hfresh k _ k2' hpk)
   · rw [hW.free i hi] at hq;cases hq
 · exact hprg.frm.weaken fun b _ hb=>absurd hb (hno b)
 · intro i t q hi hq x hx
   rcases hob i t hi with ⟨rfl,rfl⟩|⟨h,hi⟩
   · rcases hup _ q hq with ⟨_,rfl⟩|⟨h,_⟩
     · exact .inl (hft x hx)
     · exact absurd rfl h
   · rcases hup i q hq with ⟨h',_⟩|⟨_,hq⟩
     · exact absurd h' h
     exact .inr (.inr ⟨i,t,q,hi,hq,((hoth i t q hi hq).2.1 x).1 hx⟩)
end Go.Proofs.YtimkhidniolpeaaGreat
