/- Part of the proof. -/
import Derived.Test.YtimkhidniolpeaaGreatVmStp
import Derived.Test.YtimkhidniolpeaaGreatVmPk
import Derived.Test.YtimkhidniolpeaaGreatVmFh
import Derived.Test.YtimkhidniolpeaaGreatVmDp
import Derived.Test.YtimkhidniolpeaaGreatVmTv
namespace Go.Proofs.YtimkhidniolpeaaGreat
set_option linter.unusedSimpArgs false
set_option linter.unusedVariables false
set_option maxRecDepth 100000
set_option maxHeartbeats 0
open Go.RowKit
structure RS where
 w:Int
 d:Int
 h:Int
 len:Nat
 ls:Nat
 xs:List Bool
 sp:List V3
 now:Int
 np:Nat
 nl:Nat
 nh:Nat
 cp:Option Nat
 cl:Option Nat
 ps:List Pl
 lf:List Int
 shs:List Sh
 given:Int
 fired:Int
inductive Vr where
 |n
 |s
 |f
def RS.gmc (r:RS) (c sp:Nat) (P L H:SV):Row:=.own [.int .i64 r.w,.int .i64 r.d,.int .i64 r.h,.slice c 1 0 r.len none,.slice sp 3 0 r.ls none,.int .i64 r.now,P,L,H,.int .i64 r.given,.int .i64 r.fired]
def RS.gm (r:RS) (c sp a b e:Nat):Vr→Row
 |.n=>r.gmc c sp .nils .nils .nils
 |.s=>r.gmc c sp (.slice a 15 0 r.np r.cp) (.slice b 1 0 r.nl r.cl) .nils
 |.f=>r.gmc c sp (.slice a 15 0 r.np r.cp) (.slice b 1 0 r.nl r.cl) (.slice e 11 0 r.nh none)
def RS.vs (r:RS):Vr→List Row
 |.n=>[]
 |.s=>[.vec false .pl r.ps,.vec false .i64 r.lf]
 |.f=>[.vec false .pl r.ps,.vec false .i64 r.lf,.vec false .sh r.shs]
def RS.rows (r:RS) (v:Vr):List Row:=r.gm 1 2 3 4 5 v:: .vec true .bool r.xs:: .vec true .vec r.sp::r.vs v
def cW (rows:List Row) (g:Nat):Option (RS×Vr×List Nat):=match rows[g]? with
 | some (.own [.int .i64 w,.int .i64 d,.int .i64 h,.slice c 1 0 len none,.slice sp 3 0 ls none,.int .i64 now,P,L,H,.int .i64 gi,.int .i64 fi])=>match rows[c]?,rows[sp]? with
  | some (.vec true .bool xs),some (.vec true .vec sps)=>match P,L,H with
   |.nils,.nils,.nils=>some (⟨w,d,h,len,ls,xs,sps,now,0,0,0,none,none,[],[],[],gi,fi⟩,.n,[g,c,sp])
   |.slice p 15 0 np cp,.slice l 1 0 nl cl,.nils=>match rows[p]?,rows[l]? with
    |some (.vec false .pl ps),some (.vec false .i64 lf)=>some (⟨w,d,h,len,ls,xs,sps,now,np,nl,0,cp,cl,ps,lf,[],gi,fi⟩,.s,[g,c,sp,p,l])
    |_,_=>none
   |.slice p 15 0 np cp,.slice l 1 0 nl cl,.slice e 11 0 nh none=>match rows[p]?,rows[l]?,rows[e]? with
    |some (.vec false .pl ps),some (.vec false .i64 lf),some (.vec false .sh shs)=>some (⟨w,d,h,len,ls,xs,sps,now,np,nl,nh,cp,cl,ps,lf,shs,gi,fi⟩,.f,[g,c,sp,p,l,e])
    |_,_,_=>none
   |_,_,_=>none
  |_,_=>none
 |_=>none
structure Ux (rows:List Row) (σ:List Nat) (r:RS) (v:Vr):Prop where
 len:σ.length=(r.rows v).length
 at':∀i row,(r.rows v)[i]? =some row→rows[σ.getD i 0]? =some (cz (σ.getD · 0) row)
theorem bQ {rows:List Row} {g:Nat} {r:RS} {v:Vr} {σ:List Nat} (h:cW rows g=some (r,v,σ)):Ux rows σ r v∧σ[0]? =some g:=by
 unfold cW at h
 split at h
 · rename_i w d hh c len sp ls now P L H gi fi hg
   split at h
   · rename_i xs sps hc hs
     split at h
     · cases h
       refine ⟨⟨rfl,fun i row hi=>?_⟩,rfl⟩
       match i with
       |0=>simp only [RS.rows,RS.gm,RS.gmc,List.getElem?_cons_zero,Option.some.injEq] at hi;subst hi;exact hg
       |1=>simp only [RS.rows,List.getElem?_cons_succ,List.getElem?_cons_zero,Option.some.injEq] at hi;subst hi;exact hc
       |2=>simp only [RS.rows,List.getElem?_cons_succ,List.getElem?_cons_zero,Option.some.injEq] at hi;subst hi;exact hs
       |i+3=>simp [RS.rows,RS.vs] at hi
     · rename_i p np cp l nl cl
       split at h
       · rename_i ps lf hp hl
         cases h
         refine ⟨⟨rfl,fun i row hi=>?_⟩,rfl⟩
         match i with
         |0=>simp only [RS.rows,RS.gm,RS.gmc,List.getElem?_cons_zero,Option.some.injEq] at hi;subst hi;exact hg
         |1=>simp only [RS.rows,List.getElem?_cons_succ,List.getElem?_cons_zero,Option.some.injEq] at hi;subst hi;exact hc
         |2=>simp only [RS.rows,List.getElem?_cons_succ,List.getElem?_cons_zero,Option.some.injEq] at hi;subst hi;exact hs
         |3=>simp only [RS.rows,RS.vs,List.getElem?_cons_succ,List.getElem?_cons_zero,Option.some.injEq] at hi;subst hi;exact hp
         |4=>simp only [RS.rows,RS.vs,List.getElem?_cons_succ,List.getElem?_cons_zero,Option.some.injEq] at hi;subst hi;exact hl
         |i+5=>simp [RS.rows,RS.vs] at hi
       · cases h
     · rename_i p np cp l nl cl e nh
       split at h
       · rename_i ps lf shs hp hl he
         cases h
         refine ⟨⟨rfl,fun i row hi=>?_⟩,rfl⟩
         match i with
         |0=>simp only [RS.rows,RS.gm,RS.gmc,List.getElem?_cons_zero,Option.some.injEq] at hi;subst hi;exact hg
         |1=>simp only [RS.rows,List.getElem?_cons_succ,List.getElem?_cons_zero,Option.some.injEq] at hi;subst hi;exact hc
         |2=>simp only [RS.rows,List.getElem?_cons_succ,List.getElem?_cons_zero,Option.some.injEq] at hi;subst hi;exact hs
         |3=>simp only [RS.rows,RS.vs,List.getElem?_cons_succ,List.getElem?_cons_zero,Option.some.injEq] at hi;subst hi;exact hp
         |4=>simp only [RS.rows,RS.vs,List.getElem?_cons_succ,List.getElem?_cons_zero,Option.some.injEq] at hi;subst hi;exact hl
         |5=>simp only [RS.rows,RS.vs,List.getElem?_cons_succ,List.getElem?_cons_zero,Option.some.injEq] at hi;subst hi;exact he
         |i+6=>simp [RS.rows,RS.vs] at hi
       · cases h
     · cases h
   · cases h
 · cases h
def Ad:List Nat→Bool
 |[]=>true
 |x::l=> !iR x l&&Ad l
theorem mW:∀{l:List Nat},Ad l=true→l.Nodup
 |[],_=>List.nodup_nil
 |x::l,h=>by
  rw [Ad,Bool.and_eq_true] at h
  refine List.nodup_cons.2 ⟨fun hm=>?_,mW h.2⟩
  have h1:=h.1
  rw [di.2 hm] at h1
  cases h1
def OA (v:SV) (rows:List Row):Option aj:=match cW rows 0 with
 |some (r,u,0::1::2::κ)=>bif Ad (0::1::2::κ) then some (v,r.rows u) else none
 |_=>none
def ji (σ:List Nat) (n:Nat) (ok:Bool) (val:SV) (r:RS) (v:Vr):aL:={ok:=Ad σ&&ok,val:=val,rd:=σ,wr:=(σ.getD 0 0,r.gm (σ.getD 1 0) (σ.getD 2 0) n (n+1) (n+2) v)::(σ.drop 3).map (fun i=>(i,.gone)),nw:=r.vs v}
theorem LV {r:RS} {v:Vr}:∀row∈r.vs v,row.idsR=[]:=by
 cases v<;>simp [RS.vs,Row.idsR]
theorem xo {r:RS} {v:Vr}:∀row∈r.vs v,∃kd xs,row=.vec false kd xs:=by
 intro row h
 cases v with
 |n=>cases h
 |s=>
  simp only [RS.vs,List.mem_cons,List.not_mem_nil,or_false] at h
  rcases h with rfl |rfl<;>exact ⟨_,_,rfl⟩
 |f=>
  simp only [RS.vs,List.mem_cons,List.not_mem_nil,or_false] at h
  rcases h with rfl |rfl |rfl<;>exact ⟨_,_,rfl⟩
theorem SB {a b:RS} {u v:Vr} (h:a.rows u=b.rows v):(∀c sp x y z,a.gm c sp x y z u=b.gm c sp x y z v)∧a.vs u=b.vs v:=by
 cases u<;>cases v<;>simp [RS.rows,RS.gm,RS.gmc,RS.vs] at h ⊢ <;>simp [h]
mutual
theorem w4 {τ:Nat→Nat}:∀(s:SV),s.ids=[]→gj τ s=s
 |.top,_=>rfl
 |.unk,_=>rfl
 |.int ..,_=>rfl
 |.bool _,_=>rfl
 |.ptr ..,h=>by simp [SV.ids] at h
 |.nilp,_=>rfl
 |.slice ..,h=>by simp [SV.ids] at h
 |.nils,_=>rfl
 |.agg xs,h=>by rw [gj,iY xs (by simpa [SV.ids] using h)]
 |.tuple xs,h=>by rw [gj,iY xs (by simpa [SV.ids] using h)]
 |.fn _ xs,h=>by rw [gj,iY xs (by simpa [SV.ids] using h)]
theorem iY {τ:Nat→Nat}:∀(l:List SV),SV.idsL l=[]→d8 τ l=l
 |[],_=>rfl
 |x::l,h=>by
  simp only [SV.idsL,List.append_eq_nil_iff] at h
  rw [d8,w4 x h.1,iY l h.2]
end
theorem PM {f:Nat} {ds:List SV} {r r':RS} {v v':Vr} {val v1:SV} {r1:List Row} {ok:Bool} (hc:cQ Tryz.prog f (.ptr 0 0 0 0::ds) (r.rows v) v1 r1) (hf:OA v1 r1=some (val,r'.rows v')) (hd:SV.idsL ds=[]) (hv:val.ids=[])
    {rows:List Row} {g:Nat} {σ:List Nat} (hr:cW rows g=some (r,v,σ)) (hok:Ad σ=true):
    aN Tryz.prog f (.ptr g 0 0 0::ds) (rows[·]?) rows.length (ji σ rows.length ok val r' v'):=by
 obtain ⟨hat,hg⟩:=bQ hr
 unfold OA at hf
 split at hf
 · rename_i r2 u κ hr2
   obtain ⟨hn,hf⟩:=al hf
   simp only [Option.some.injEq,Prod.mk.injEq] at hf
   obtain ⟨rfl,hrows⟩:=hf
   obtain ⟨hat2,_⟩:=bQ hr2
   obtain ⟨e1,e2⟩:=SB hrows
   have hnd:=mW hn
   have hκ:κ.Nodup:=(List.nodup_cons.1 (List.nodup_cons.1 (List.nodup_cons.1 hnd).2).2).2
   have hlow:∀i∈κ,3≤i:=fun i hi=>by
    have h0:=(List.nodup_cons.1 hnd).1
    have h1:=(List.nodup_cons.1 (List.nodup_cons.1 hnd).2).1
    have h2:=(List.nodup_cons.1 (List.nodup_cons.1 (List.nodup_cons.1 hnd).2).2).1
    have :i≠0:=fun e=>h0 (by simp [←e,hi])
    have :i≠1:=fun e=>h1 (by simp [←e,hi])
    have :i≠2:=fun e=>h2 (by simp [←e,hi])
    omega
   have hlt:∀j∈σ,j<rows.length:=fun j hj=>by
    obtain ⟨i,hi⟩:=List.getElem?_of_mem hj
    have hl:=(List.getElem?_eq_some_iff.1 hi).1
    have:=hat.at' i _ (List.getElem?_eq_getElem (by rw [←hat.len];exact hl))
    have h2:=(List.getElem?_eq_some_iff.1 this).1
    simpa [List.getD,hi] using h2
   have hκat:∀k i,κ[k]? =some i→∃row,(r2.vs u)[k]? =some row∧r1[i]? =some row:=fun k i h=>by
    have hk:=(List.getElem?_eq_some_iff.1 h).1
    have hl:=hat2.len
    simp only [RS.rows,List.length_cons] at hl
    have hk2:k<(r2.vs u).length:=by omega
    refine ⟨(r2.vs u)[k],List.getElem?_eq_getElem hk2,?_⟩
    have:=hat2.at' (k+3) ((r2.vs u)[k]) (by simp [RS.rows,List.getElem?_eq_getElem hk2])
    have e:(0::1::2::κ).getD (k+3) 0=i:=by simp [List.getD,h]
    rw [e] at this
    rw [this]
    obtain ⟨kd,xs,h4⟩:=xo _ (List.getElem_mem hk2)
    rw [h4]
    rfl
   have hlen3:3≤σ.length:=by rw [hat.len];simp [RS.rows]
   have hvecs:∀i row,(r.rows v)[i]? =some row→3≤i→∃kd xs,row=.vec false kd xs:=fun i row h hi=>by
    have :row∈r.vs v:=by
     rw [show i=(i - 3)+3 by omega] at h
     simp only [RS.rows,List.getElem?_cons_succ] at h
     exact List.mem_of_getElem? h
    exact xo _ this
   have hmem3:∀i,3≤i→i<σ.length→(σ.getD i 0,Row.gone)∈(σ.drop 3).map (fun i=>(i,Row.gone)):=fun i h3 hi=>by
    refine List.mem_map.2 ⟨σ.getD i 0,List.mem_of_getElem? (i:=i - 3) ?_,rfl⟩
    rw [List.getElem?_drop,show 3+(i - 3)=i by omega]
    simp [List.getD,List.getElem?_eq_getElem hi]
   have h1row:r1[0]? =some (r2.gm 1 2 (κ.getD 0 0) (κ.getD 1 0) (κ.getD 2 0) u):=by
    have:=hat2.at' 0 (r2.gm 1 2 3 4 5 u) rfl
    rw [show (0::1::2::κ).getD 0 0=0 from rfl] at this
    rw [this]
    cases u<;>rfl
   have hκl:κ.length=(r2.vs u).length:=by
    have hl:=hat2.len
    simp only [RS.rows,List.length_cons] at hl
    omega
   have hpk:∀k,k<κ.length→ue σ κ rows.length (κ.getD k 0)=rows.length+k:=fun k hk=>by
    unfold ue
    rw [rG hκ (k:=k) (by simp [List.getD,List.getElem?_eq_getElem hk])]
   have hp12:∀i,i<3→ue σ κ rows.length i=σ.getD i 0:=fun i hi=>by
    unfold ue
    rw [ni fun h=>by have:=hlow i h;omega]
   have key:=Ip (ok:=Ad σ&&ok) hc (σ:=σ) (κ:=κ) (m:=(rows[·]?)) (n:=rows.length) (W:=(σ.getD 0 0,r'.gm (σ.getD 1 0) (σ.getD 2 0) rows.length (rows.length+1) (rows.length+2) v')::(σ.drop 3).map (fun i=>(i,.gone)))
    hat.len (mW hok) hlt hκ (fun k hk=>by
     obtain ⟨j,hj⟩:=List.getElem?_of_mem hk
     obtain ⟨row,_,hrow⟩:=hκat j k hj
     refine ⟨(List.getElem?_eq_some_iff.1 hrow).1,fun hlt=>?_⟩
     have h3:=hlow k hk
     obtain ⟨kd,xs,hx⟩:=hvecs k _ (List.getElem?_eq_getElem hlt) h3
     exact ⟨⟨kd,xs,by rw [List.getElem?_eq_getElem hlt,hx]⟩,List.mem_cons_of_mem _ (hmem3 k h3 (by rw [hat.len];exact hlt))⟩)
    (fun i hi=>by simp [SV.idsL,SV.ids,hd] at hi;subst hi;simp [RS.rows])
    (fun i row hi j hj=>by
     match i with
     |0=>
      simp only [RS.rows,List.getElem?_cons_zero,Option.some.injEq] at hi
      subst hi
      cases v<;>simp [RS.gm,RS.gmc,Row.idsR,SV.idsL,SV.ids] at hj<;>simp [RS.rows,RS.vs]<;>omega
     |1=>simp only [RS.rows,List.getElem?_cons_succ,List.getElem?_cons_zero,Option.some.injEq] at hi;subst hi;cases hj
     |2=>simp only [RS.rows,List.getElem?_cons_succ,List.getElem?_cons_zero,Option.some.injEq] at hi;subst hi;cases hj
     |i+3=>
      obtain ⟨kd,xs,rfl⟩:=hvecs _ _ hi (by omega)
      cases hj)
    (fun i row hi=>⟨_,hat.at' i row hi,fun h=>by rw [eO];exact h,fun _ _ h=>h⟩)
    (fun i row hi hl=>by
     match i with
     |0=>exact .inr ⟨_,List.mem_cons_self ..⟩
     |1=>simp only [RS.rows,List.getElem?_cons_succ,List.getElem?_cons_zero,Option.some.injEq] at hi;exact .inl ⟨_,_,hi.symm⟩
     |2=>simp only [RS.rows,List.getElem?_cons_succ,List.getElem?_cons_zero,Option.some.injEq] at hi;exact .inl ⟨_,_,hi.symm⟩
     |i+3=>exact .inr ⟨_,List.mem_cons_of_mem _ (hmem3 (i+3) (by omega) (by rw [hat.len];exact (List.getElem?_eq_some_iff.1 hi).1))⟩)
    (fun x hx=>by
     rcases List.mem_cons.1 hx with rfl |hx
     · refine ⟨0,by simp [RS.rows],rfl,.inr ⟨fun h=>by have:=hlow 0 h;omega,_,h1row,?_,?_⟩⟩
       · show r'.gm _ _ _ _ _ v'=_
         rw [←e1]
         cases u with
         |n=>simp only [RS.gm,RS.gmc,cz,d8,gj,hp12 1 (by omega),hp12 2 (by omega)]
         |s=>
          have a:=hpk 0 (by rw [hκl];simp [RS.vs])
          have b:=hpk 1 (by rw [hκl];simp [RS.vs])
          simp only [RS.gm,RS.gmc,cz,d8,gj,hp12 1 (by omega),hp12 2 (by omega),a,b,Nat.add_zero]
         |f=>
          have a:=hpk 0 (by rw [hκl];simp [RS.vs])
          have b:=hpk 1 (by rw [hκl];simp [RS.vs])
          have c:=hpk 2 (by rw [hκl];simp [RS.vs])
          simp only [RS.gm,RS.gmc,cz,d8,gj,hp12 1 (by omega),hp12 2 (by omega),a,b,c,Nat.add_zero]
       · intro j hj
         have hm:∀k,k<κ.length→κ.getD k 0∈κ:=fun k hk=>by simp [List.getD,List.getElem?_eq_getElem hk]
         have h3:3≤(r.rows v).length:=by simp [RS.rows]
         cases u with
         |n=>simp [RS.gm,RS.gmc,Row.idsR,SV.idsL,SV.ids] at hj;omega
         |s=>
          simp [RS.gm,RS.gmc,Row.idsR,SV.idsL,SV.ids] at hj
          rcases hj with rfl |rfl |rfl |rfl
          · omega
          · omega
          · exact .inr (by simpa [List.getD] using hm 0 (by rw [hκl];simp [RS.vs]))
          · exact .inr (by simpa [List.getD] using hm 1 (by rw [hκl];simp [RS.vs]))
         |f=>
          simp [RS.gm,RS.gmc,Row.idsR,SV.idsL,SV.ids] at hj
          rcases hj with rfl |rfl |rfl |rfl |rfl
          · omega
          · omega
          · exact .inr (by simpa [List.getD] using hm 0 (by rw [hκl];simp [RS.vs]))
          · exact .inr (by simpa [List.getD] using hm 1 (by rw [hκl];simp [RS.vs]))
          · exact .inr (by simpa [List.getD] using hm 2 (by rw [hκl];simp [RS.vs]))
     · obtain ⟨j,hj,rfl⟩:=List.mem_map.1 hx
       obtain ⟨i,hi⟩:=List.getElem?_of_mem hj
       rw [List.getElem?_drop] at hi
       refine ⟨3+i,by rw [←hat.len];exact (List.getElem?_eq_some_iff.1 hi).1,?_,.inl rfl⟩
       simp [List.getD,hi])
    (fun i hi=>by rw [hv] at hi;cases hi)
    (fun i hi row hrow j hj=>by
     obtain ⟨k,hk⟩:=List.getElem?_of_mem hi
     obtain ⟨row',h1,h2⟩:=hκat k i hk
     rw [hrow] at h2
     cases h2
     rw [LV _ (List.mem_of_getElem? h1)] at hj
     cases hj)
   have ea:d8 (σ.getD · 0) (.ptr 0 0 0 0::ds)=.ptr g 0 0 0::ds:=by
    rw [d8,gj,iY _ hd]
    simp [List.getD,hg]
   have ev:gj (ue σ κ rows.length) v1=v1:=w4 _ hv
   have en:κ.map (fun k=>cz (ue σ κ rows.length) (r1.getD k .gone))=r'.vs v':=by
    rw [←e2]
    refine List.ext_getElem? fun k=>?_
    rw [List.getElem?_map]
    cases hk:κ[k]? with
    |none=>
     rw [List.getElem?_eq_none_iff] at hk
     rw [List.getElem?_eq_none (by omega)]
     rfl
    |some i=>
     obtain ⟨row',h1,h2⟩:=hκat k i hk
     rw [h1]
     simp only [Option.map_some,List.getD,h2,Option.getD_some]
     obtain ⟨kd,xs,h4⟩:=xo _ (List.mem_of_getElem? h1)
     rw [h4]
     rfl
   rw [ea,ev,en] at key
   exact key
 · cases hf
def aI (id:Int):List Pl→Nat→Int
 |[],_=> -1
 |p::ps,i=>bif p.id==id then (i:Int) else aI id ps (i+1)
def fX (id r i:Int):List SV:=[.ptr 0 0 0 0,.int .i64 id,.int .i64 r,.int .i64 i]
noncomputable def BY (n0:Nat):List SV→List Row→Option aj:=bj D7 (fun _ _=>none) 100 10 [0,1,0,1] (bg Tryz.f10 [0,1,0,1]) 26 n0 [0,1,4,5]
def Vr.len:Vr→Nat
 |.n=>3
 |.s=>5
 |.f=>6
def XS (r:RS) (v:Vr) (id k i:Int):Option aj:=
 bif decide (i<(r.np:Int)) then bif decide (0≤i)&&decide (i<(r.np:Int)) then bif decide (0+i.toNat<r.ps.length) then
 bif (r.ps.getD (0+i.toNat) aA.pl.dflt).id==id then some (.tuple [.nils,.tuple (fX id i i)],r.rows v)
 else some (.tuple [.nilp,.tuple (fX id k (IntKind.i64.wrap (i+1)))],r.rows v)
 else none else none
 else some (.tuple [.ptr 0 0 0 0,.tuple (fX id k i)],r.rows v)
theorem nF (r:RS) (id k i:Int):BY 5 (fX id k i) (r.rows .s)=XS r .s id k i∧BY 6 (fX id k i) (r.rows .f)=XS r .f id k i:=⟨by kernel_rfl,by kernel_rfl⟩
theorem Jz (r:RS) (id k:Int):BY 3 (fX id k 0) (r.rows .n)=some (.tuple [.ptr 0 0 0 0,.tuple (fX id k 0)],r.rows .n):=by kernel_rfl
theorem xT {r:RS} {v:Vr} {id k:Int} (hv:v≠ .n) (hn:r.np=r.ps.length) (hl:r.ps.length≤1000):∀(ps:List Pl) (i:Nat),r.ps.drop i=ps→i+ps.length=r.ps.length→
    bif decide (aI id ps i= -1) then aJ (BY v.len) (fX id k i) (r.rows v) (.exit 0) (fX id k r.ps.length) (r.rows v) else aJ (BY v.len) (fX id k i) (r.rows v) .ret (fX id (aI id ps i) (aI id ps i)) (r.rows v)
 | [],i,hd,hi=>by
  obtain rfl:i=r.ps.length:=by simpa using hi
  have :BY v.len (fX id k (r.ps.length:Int)) (r.rows v)=XS r v id k (r.ps.length:Int):=by
   cases v with
   |n=>exact absurd rfl hv
   |s=>exact (nF r id k _).1
   |f=>exact (nF r id k _).2
  refine .done ?_ (by simp)
  rw [this]
  unfold XS
  rw [hn,decide_eq_false (by omega),cond_false]
  rfl
 | p::ps,i,hd,hi=>by
  have hlt:i<r.ps.length:=by simp at hi;omega
  have hp:r.ps.getD (0+(i:Int).toNat) aA.pl.dflt=p:=by
   have h1:r.ps[i]? =some p:=by
    have:=congrArg List.head? hd
    rw [List.head?_drop] at this
    exact this
   simp only [List.getD,Int.toNat_natCast,Nat.zero_add,h1]
   rfl
  have hr:BY v.len (fX id k (i:Int)) (r.rows v)=XS r v id k (i:Int):=by
   cases v with
   |n=>exact absurd rfl hv
   |s=>exact (nF r id k _).1
   |f=>exact (nF r id k _).2
  unfold XS at hr
  have hp':(r.ps.getD (0+(i:Int).toNat) aA.pl.dflt).id=p.id:=congrArg Pl.id hp
  rw [hn,decide_eq_true (by omega),decide_eq_true (by omega),decide_eq_true (by omega),hp',IntWalk.i64_in _ (by omega)] at hr
  simp only [Bool.and_self,cond_true] at hr
  rw [aI]
  cases hid:p.id==id with
  |true=>
   rw [hid,cond_true] at hr
   rw [cond_true,decide_eq_false (by omega),cond_false]
   exact .done hr (by simp)
  |false=>
   rw [hid,cond_false] at hr
   have ih:=xT hv hn hl (id:=id) (k:=k) ps (i+1) (by rw [←List.drop_drop,hd];rfl) (by simp at hi;omega)
   rw [cond_false]
   cases hb:decide (aI id ps (i+1)= -1) with
   |true=>rw [hb,cond_true] at ih;rw [cond_true];exact .more hr ih
   |false=>rw [hb,cond_false] at ih;rw [cond_false];exact .more hr ih
def okLen (r:RS):Bool:=decide (r.np=r.ps.length)&&decide (r.ps.length≤1000)
noncomputable def TJ (v:List SV) (R:List Row) (k:Ex→List SV→List Row→Option aj):Option aj:=match v,cW R 0 with
 |[.ptr 0 0 0 0,.int .i64 id,.int .i64 r,.int .i64 i],some (q,.n,[0,1,2])=>bif Nat.beq R.length 3&&decide (i=0) then k (.exit 0) (fX id r 0) (q.rows .n) else none
 | [.ptr 0 0 0 0,.int .i64 id,.int .i64 r,.int .i64 i],some (q,.s,[0,1,2,3,4])=>bif Nat.beq R.length 5&&(decide (i=0)&&okLen q) then
     (bif decide (aI id q.ps 0= -1) then k (.exit 0) (fX id r q.ps.length) (q.rows .s) else k .ret (fX id (aI id q.ps 0) (aI id q.ps 0)) (q.rows .s)) else none
 | [.ptr 0 0 0 0,.int .i64 id,.int .i64 r,.int .i64 i],some (q,.f,[0,1,2,3,4,5])=>bif Nat.beq R.length 6&&(decide (i=0)&&okLen q) then
     (bif decide (aI id q.ps 0= -1) then k (.exit 0) (fX id r q.ps.length) (q.rows .f) else k .ret (fX id (aI id q.ps 0) (aI id q.ps 0)) (q.rows .f)) else none
 |_,_=>none
theorem tJ {R:List Row} {q:RS} {v:Vr} (h:Ux R (List.range v.len) q v):R=q.rows v++R.drop v.len:=by
 have hq:(q.rows v).length=v.len:=by cases v<;>rfl
 refine List.ext_getElem? fun i=>?_
 by_cases hi:i<v.len
 · have h1:(q.rows v)[i]? =some (q.rows v)[i]:=List.getElem?_eq_getElem (by omega)
   have:=h.at' i _ h1
   have e:(List.range v.len).getD i 0=i:=by simp [List.getD,List.getElem?_range hi]
   rw [e] at this
   rw [this,List.getElem?_append_left (by omega),h1]
   congr 1
   have hm:(q.rows v)[i]∈q.rows v:=List.getElem_mem _
   revert hm
   generalize (q.rows v)[i]=z
   intro hm
   simp only [RS.rows,List.mem_cons] at hm
   rcases hm with rfl |rfl |rfl |hm
   · cases v<;>rfl
   · rfl
   · rfl
   · obtain ⟨kd,xs,rfl⟩:=xo _ hm
     rfl
 · rw [List.getElem?_append_right (by omega),List.getElem?_drop,hq,show v.len+(i - v.len)=i by omega]
theorem gG {R:List Row} {q:RS} {v:Vr} (h:Ux R (List.range v.len) q v) (hl:R.length=v.len):R=q.rows v:=by
 rw [tJ h,←hl,List.drop_length,List.append_nil]
theorem Ot:da 10 [0,1,0,1] (bG 26 [0,1,4,5] TJ):=by
 intro b hat s K r h
 refine aQ (fuel:=100) yc ag hat (fun v R k r hr=>?_) h
 have hbody:=aZ Tryz.func10 hat
 subst hbody
 unfold TJ at hr
 split at hr
 · rename_i id rr i q hq
   obtain ⟨hb,hr2⟩:=al hr
   rw [Bool.and_eq_true,decide_eq_true_eq] at hb
   obtain ⟨h1,rfl⟩:=hb
   have h1:=Nat.eq_of_beq_eq_true h1
   have e:=gG (v:=.n) (bQ hq).1 h1
   rw [e]
   exact ⟨_,_,_,hr2,.done (Jz q id rr) (by simp)⟩
 · rename_i id rr i q hq
   obtain ⟨hb,hr2⟩:=al hr
   rw [Bool.and_eq_true,Bool.and_eq_true,decide_eq_true_eq] at hb
   obtain ⟨h1,rfl,h2⟩:=hb
   have h1:=Nat.eq_of_beq_eq_true h1
   have e:=gG (v:=.s) (bQ hq).1 h1
   rw [e]
   unfold okLen at h2
   rw [Bool.and_eq_true,decide_eq_true_eq,decide_eq_true_eq] at h2
   have hl:=xT (r:=q) (v:=.s) (id:=id) (k:=rr) (by simp) h2.1 h2.2 q.ps 0 rfl (by simp)
   cases hb:decide (aI id q.ps 0= -1) with
   |true=>rw [hb,cond_true] at hl hr2;exact ⟨_,_,_,hr2,hl⟩
   |false=>rw [hb,cond_false] at hl hr2;exact ⟨_,_,_,hr2,hl⟩
 · rename_i id rr i q hq
   obtain ⟨hb,hr2⟩:=al hr
   rw [Bool.and_eq_true,Bool.and_eq_true,decide_eq_true_eq] at hb
   obtain ⟨h1,rfl,h2⟩:=hb
   have h1:=Nat.eq_of_beq_eq_true h1
   have e:=gG (v:=.f) (bQ hq).1 h1
   rw [e]
   unfold okLen at h2
   rw [Bool.and_eq_true,decide_eq_true_eq,decide_eq_true_eq] at h2
   have hl:=xT (r:=q) (v:=.f) (id:=id) (k:=rr) (by simp) h2.1 h2.2 q.ps 0 rfl (by simp)
   cases hb:decide (aI id q.ps 0= -1) with
   |true=>rw [hb,cond_true] at hl hr2;exact ⟨_,_,_,hr2,hl⟩
   |false=>rw [hb,cond_false] at hl hr2;exact ⟨_,_,_,hr2,hl⟩
 · cases hr
noncomputable def Gm:jh:=⟨_,_,_,Ot⟩
noncomputable def gN (X:bS) (L:Nat→List Nat→Option dq) (f:Nat) (fn:Func) (args:List SV) (r:RS) (v:Vr):Option aj:=bO X L 300 f fn OA (.ptr 0 0 0 0::args) (r.rows v)
theorem I6 (r:RS) (id:Int):gN D7 (aF [Gm]) 10 Tryz.f10 [.int .i64 id] r .n=some (.int .i64 (-1),r.rows .n)∧
    gN D7 (aF [Gm]) 10 Tryz.f10 [.int .i64 id] r .s=(bif okLen r then (bif decide (aI id r.ps 0= -1) then some (.int .i64 (-1),r.rows .s) else some (.int .i64 (aI id r.ps 0),r.rows .s)) else none)∧
    gN D7 (aF [Gm]) 10 Tryz.f10 [.int .i64 id] r .f=(bif okLen r then (bif decide (aI id r.ps 0= -1) then some (.int .i64 (-1),r.rows .f) else some (.int .i64 (aI id r.ps 0),r.rows .f)) else none):=⟨by kernel_rfl,by kernel_rfl,by kernel_rfl⟩
def RS.Nm (r:RS):Vr→Prop
 |.n=>r.np=0∧r.nl=0∧r.nh=0∧r.ps=[]∧r.lf=[]∧r.shs=[]∧r.cp=none∧r.cl=none
 |.s=>r.nh=0∧r.shs=[]
 |.f=>True
theorem im {rows:List Row} {g:Nat} {r:RS} {v:Vr} {σ:List Nat} (h:cW rows g=some (r,v,σ)):r.Nm v:=by
 unfold cW at h
 split at h
 · split at h
   · split at h
     · cases h;exact ⟨rfl,rfl,rfl,rfl,rfl,rfl,rfl,rfl⟩
     · split at h
       · cases h;exact ⟨rfl,rfl⟩
       · cases h
     · split at h
       · cases h;trivial
       · cases h
     · cases h
   · cases h
 · cases h
theorem CN (r:RS) (v:Vr):gU (r.rows v)=true:=by cases v<;>rfl
theorem kH {X:bS} (hX:bV Tryz.prog X) {L:Nat→List Nat→Option dq} (hL:AM Tryz.prog L) {f:Nat} {fn:Func} (hfu:Tryz.prog.funcs[f]? =some fn) {ds:List SV} {r r':RS} {v v':Vr} {val:SV} (hrun:gN X L f fn ds r v=some (val,r'.rows v')) (hd:SV.idsL ds=[]) (hv:val.ids=[])
    {rows:List Row} {g:Nat} {σ:List Nat} {ok:Bool} (hr:cW rows g=some (r,v,σ)) (hok:Ad σ=true):aN Tryz.prog f (.ptr g 0 0 0::ds) (rows[·]?) rows.length (ji σ rows.length ok val r' v'):=by
 obtain ⟨v1,r1,h1,h2⟩:=mq hX hL hfu hrun
 exact PM (h2.plain (CN r v)) h1 hd hv hr hok
noncomputable def CO (args:List SV) (rows:List Row):Option aL:=match args with
 |[.ptr g 0 0 0,.int .i64 id]=>match cW rows g with
  |some (r,v,σ)=>some (ji σ rows.length (okLen r) (.int .i64 (aI id r.ps 0)) r v)
  |none=>none
 |_=>none
theorem JC {args:List SV} {rows:List Row} {e:aL} (h:CO args rows=some e) (hok:e.ok=true):aN Tryz.prog 10 args (rows[·]?) rows.length e:=by
 unfold CO at h
 split at h
 · rename_i g id
   split at h
   · rename_i r v σ hr
     cases h
     unfold ji at hok
     simp only [Bool.and_eq_true] at hok
     refine kH (L:=aF [Gm]) yc aG Tryz.func10 (ds:=[.int .i64 id]) (r':=r) (v':=v) ?_ rfl rfl hr hok.1
     obtain ⟨t1,t2,t3⟩:=I6 r id
     cases v with
     |n=>
      rw [t1,(im hr).2.2.2.1]
      rfl
     |s=>
      rw [t2,hok.2,cond_true]
      cases hb:decide (aI id r.ps 0= -1) with
      |true=>rw [decide_eq_true_eq] at hb;rw [hb];rfl
      |false=>rfl
     |f=>
      rw [t3,hok.2,cond_true]
      cases hb:decide (aI id r.ps 0= -1) with
      |true=>rw [decide_eq_true_eq] at hb;rw [hb];rfl
      |false=>rfl
   · cases h
 · cases h
noncomputable def rR:bY:=⟨10,CO,fun _ _ _ h hok=>JC h hok,aq Tryz.func10 (by kernel_rfl)⟩
theorem lF {P:Program} {f:Nat} {ok:Bool} {args0:List SV} {k:aA} {xs ys:List k.T} {r1:List Row} {d len:Nat} {cap:Option Nat} (hc:cQ P f args0 [.vec false k xs] (.slice d k.st 0 len cap) r1) (ha0:∀i∈SV.idsL args0,i<1) (hrow:r1[d]? =some (.vec false k ys))
    {m:Nat→Option Row} {id n:Nat} (hid:id<n) (hm:m id=some (.vec false k xs)):
    aN P f (d8 (gV [id] n) args0) m n {ok:=ok,val:=.slice n k.st 0 len none,rd:=[id],wr:=[(id,.gone)],nw:=[.vec false k ys]}:=by
 intro ρ pres vargs w hargs hg hap hrd hfree
 have hfn:=(hfree n (Nat.le_refl _) (by simp)).1
 have hnp:=(hfree n (Nat.le_refl _) (by simp)).2
 obtain ⟨hr0,hpres⟩:=hrd id (by simp) _ hm
 have hpres:=hpres rfl
 obtain ⟨q,hq,_,hqro,hqcell⟩:∃q:uc,ρ id=some q∧(false=true→q.mine=false)∧(false=false→q.mine=true∧q.base=0∧∃(vs:List Value) (ty:TypeId),w.heap[q.b]? =some (.cells vs.toArray ty (0,0))∧xs.length*k.st≤vs.length∧vs.length=q.size)∧
     ∀(i:Nat) (x:k.T),xs[i]? =some x→∀(j:Nat) (s:SV),(k.enc x)[j]? =some s→w.cell? ⟨q.b,q.base+i*k.st+j,none⟩=some (bK s):=by
  rcases hr0 with ⟨h,_⟩|h
  · cases h
  · exact h
 have hqm:=(hqro rfl).1
 let ρ0:aR:=fun i=>if i=0 then ρ id else none
 have h00:ρ0 0=some q:=by simp only [ρ0,if_pos];exact hq
 have hz:∀i p,ρ0 i=some p→i=0∧p=q:=by
  intro i p h
  simp only [ρ0] at h
  split at h
  · rename_i hi
    rw [hq] at h
    cases h
    exact ⟨hi,rfl⟩
  · cases h
 have hcall:=hc ρ0 vargs w (au.only _ _ (fun i hi p hp=>by
     have h1:=ha0 i hi
     obtain rfl:i=0:=by omega
     rw [h00]
     have h2:ρ (gV [id] n 0)=some p:=hp
     rw [show gV [id] n 0=id from rfl,hq] at h2
     exact h2) ((bE args0 vargs).1 hargs)) (fun i p h=>by obtain ⟨_,rfl⟩:=hz i p h;exact hg id _ hq) (fun i row h=>by
     match i,h with
     |0,h=>simp at h;subst h;exact .inr ⟨q,h00,by simp,hqro,hqcell⟩
     |i+1,h=>simp at h)
  (fun i j p p' _ _ hij hp hp' _=>by
   obtain ⟨h1,_⟩:=hz i p hp
   obtain ⟨h2,_⟩:=hz j p' hp'
   omega)
  (fun i hi=>by simp at hi;simp only [ρ0];rw [if_neg (by omega)])
 refine hcall.mono ?_
 rintro e w' ⟨v',ρ1,rfl,hr,hg1,hr1,_,_,hp⟩
 obtain ⟨p,hp1,_,hpro,hpcell⟩:∃p:uc,ρ1 d=some p∧(false=true→p.mine=false)∧(false=false→p.mine=true∧p.base=0∧∃(vs:List Value) (ty:TypeId),w'.heap[p.b]? =some (.cells vs.toArray ty (0,0))∧ys.length*k.st≤vs.length∧vs.length=p.size)∧
     ∀(i:Nat) (x:k.T),ys[i]? =some x→∀(j:Nat) (s:SV),(k.enc x)[j]? =some s→w'.cell? ⟨p.b,p.base+i*k.st+j,none⟩=some (bK s):=by
  rcases hr1 d _ hrow with ⟨h,_⟩|h
  · cases h
  · exact h
 have hmay:∀b,fZ ρ0 (fun i=>([.vec false k xs]:List Row)[i]?) b→q.b=b:=by
  rintro b ⟨i,p',_,h3,_,h5⟩
  obtain ⟨_,rfl⟩:=hz i p' h3
  exact h5
 have hwhere:w.heap.size≤p.b∨q.b=p.b:=by
  rcases Nat.eq_zero_or_pos d with h0 |h0
  · subst h0
    have:=hp.le 0 q h00
    rw [hp1] at this
    cases this
    exact .inr rfl
  · rcases hp.new d p (by
        match d,h0 with
        |d+1,_=>rfl) hp1 with h |h
    · exact .inl h
    · exact .inr (hmay _ h)
 have hat:(ρ.upd n p) n=some p:=by simp [aR.upd]
 have hne:∀i,i≠n→(ρ.upd n p) i=ρ i:=fun i hi=>by simp [aR.upd,hi]
 refine ⟨v',ρ.upd n p,rfl,⟨fun i p' h=>?_,fun i p' h=>?_,fun i p' h=>?_,fun i p' h1 h2 h=>?_,?_,?_,fun x hx=>?_,fun j row h=>?_,?_⟩⟩
 · rw [hne i (fun hi=>by subst hi;rw [hfn] at h;cases h)]
   exact h
 · by_cases hi:i=n
   · subst hi
     rw [hat] at h
     cases h
     exact hg1 d p hp1
   · rw [hne i hi] at h
     exact Nat.lt_of_lt_of_le (hg i p' h) hp.frm.size
 · by_cases hi:i=n
   · exact .inr (by subst hi;simp)
   · rw [hne i hi] at h
     exact .inl h
 · have hi:i=n:=by simp at h2;omega
   subst hi
   rw [hat] at h
   cases h
   rcases hwhere with h3 |h3
   · exact .inl h3
   · exact .inr ⟨id,q,hpres,⟨_,List.mem_cons_self ..⟩,hq,hqm,h3⟩
 · have old:∀i,dg pres n {ok:=ok,val:=.slice n k.st 0 len none,rd:=[id],wr:=[(id,.gone)],nw:=[.vec false k ys]} i→i≠n→pres i∧i≠id:=by
    intro i h hi
    rcases h with h |h
    · refine ⟨h.1,fun he=>?_⟩
      have:=h.2 (id,.gone) (List.mem_cons_self ..) he.symm
      cases this
    · have:=h.1;simp at this;omega
   have key:∀j p',pres j→j≠id→ρ j=some p'→p.b≠p'.b:=by
    intro j p' hj hji hpj
    rcases hwhere with h |h
    · have:=hg j p' hpj
      omega
    · rw [←h]
      exact hap id j q p' hpres hj (fun h=>hji h.symm) hq hpj (by rw [hqm];rfl)
   intro i j p1 p2 hi hj hij hpi hpj hmn
   by_cases ei:i=n
   · subst ei
     rw [hat] at hpi
     cases hpi
     obtain ⟨h1,h2⟩:=old j hj fun h=>hij h.symm
     rw [hne j fun h=>hij h.symm] at hpj
     exact key j p2 h1 h2 hpj
   · rw [hne i ei] at hpi
     obtain ⟨h1,h2⟩:=old i hi ei
     by_cases ej:j=n
     · subst ej
       rw [hat] at hpj
       cases hpj
       exact fun h=>key i p1 h1 h2 hpi h.symm
     · rw [hne j ej] at hpj
       exact hap i j p1 p2 h1 (old j hj ej).1 hij hpi hpj hmn
 · simp only [aE] at hr ⊢
   rcases hr with ⟨p',o,c,h1,rfl,h3,h4,h5,h6⟩|⟨h0,_,a,c,rfl⟩
   · rw [hp1] at h1
     cases h1
     refine .inl ⟨p,o,c,hat,rfl,by simp,?_,h5,h6⟩
     rcases h4 with h4 |⟨h4,_⟩
     · exact .inl h4
     · exact .inr ⟨h4,trivial⟩
   · exact .inr ⟨h0,trivial,a,c,rfl⟩
 · simp only [List.mem_cons,List.not_mem_nil,or_false] at hx
   subst hx
   trivial
 · match j,h with
   |0,h=>simp at h;subst h;exact .inr ⟨p,hat,by simp,hpro,hpcell⟩
   |j+1,h=>simp at h
 · refine hp.frm.weaken fun b _ hb=>?_
   exact ⟨_,List.mem_cons_self ..,q,hq,hqm,hmay b hb⟩
noncomputable def YO:bS:=aV [] []
theorem SL:bV Tryz.prog YO:=aD (by kernel_rfl)
theorem T0 (a b:Pt):aH YO (fun _ _=>none) 200 149 Tryz.f149 0 [.agg a.sv,.agg b.sv] []=
 some (SV.bool (decide (IntKind.i64.wrap (a.p*b.q)<IntKind.i64.wrap (b.p*a.q))),[]):=by kernel_rfl
def vT (a b:Pt):Bool:=decide (IntKind.i64.wrap (a.p*b.q)<IntKind.i64.wrap (b.p*a.q))
def Wu:List SV→Option aL
 |[.agg [.int .i64 a,.int .i64 b],.agg [.int .i64 c,.int .i64 d]]=>some {val:=.bool (vT ⟨a,b⟩ ⟨c,d⟩)}
 |_=>none
theorem RO {m:Nat→Option Row} {n:Nat} {args:List SV} {e:aL} (h:Wu args=some e):aN Tryz.prog 149 args m n e:=by
 unfold Wu at h
 split at h
 · rename_i a b c d
   cases h
   obtain ⟨rows',hc,_⟩:=aC SL ag Tryz.func149 (T0 ⟨a,b⟩ ⟨c,d⟩)
   exact aM hc rfl rfl
 · cases h
noncomputable def WR:bY:=⟨149,fun args _=>Wu args,fun _ _ _ h _=>RO h,aq Tryz.func149 (by kernel_rfl)⟩
noncomputable def YU:bS:=aV [] [WR]
theorem Eg:bV Tryz.prog YU:=aD (by kernel_rfl)
def GC (len:Nat) (k:Int):List SV:=[.slice 0 2 0 len none,.ptr 1 0 0 0,.nils,.int .i64 k]
def F0 (xs:List Pt) (x:Pt):List Row:=[.vec false .pt xs,.own x.sv]
noncomputable def Yh:List SV→List Row→Option aj:=bj YU (fun _ _=>none) 100 148 [0,0,1,1] (bg Tryz.f148 [0,0,1,1]) 46 2 [0,3,4,5]
theorem B3 (xs:List Pt) (x:Pt) (len:Nat) (k:Int):Yh (GC len k) (F0 xs x)=
 bif decide (k<(↑len:Int)) then
 bif decide (0≤k)&&decide (k<(↑len:Int)) then
 bif decide (0+k.toNat<xs.length) then
 bif vT (xs.getD (0+k.toNat) aA.pt.dflt) x then
 some
 (SV.tuple [SV.nilp,SV.tuple [SV.slice 0 2 0 len none,SV.ptr 1 0 0 0,SV.nils,.int .i64 (IntKind.i64.wrap (k+1))]],
 [Row.vec false aA.pt xs,Row.own [.int .i64 x.p,.int .i64 x.q]])
 else
 some
 (SV.tuple [SV.ptr 0 0 0 0,SV.tuple [SV.slice 0 2 0 len none,SV.ptr 1 0 0 0,SV.nils,.int .i64 k]],
 [Row.vec false aA.pt xs,Row.own [.int .i64 x.p,.int .i64 x.q]])
 else none
 else none
 else
 some
 (SV.tuple [SV.ptr 0 0 0 0,SV.tuple [SV.slice 0 2 0 len none,SV.ptr 1 0 0 0,SV.nils,.int .i64 k]],[Row.vec false aA.pt xs,Row.own [.int .i64 x.p,.int .i64 x.q]]):=by kernel_rfl
def br (xs:List Pt) (x:Pt):Nat→Nat→Nat
 |0,i=>i
 |n+1,i=>bif vT (xs.getD (0+i) aA.pt.dflt) x then br xs x n (i+1) else i
theorem Gk {xs:List Pt} {x:Pt} {len:Nat} (hl:len≤xs.length) (h64:len≤9223372036854775807):∀(n i:Nat),i+n=len→
    aJ Yh (GC len i) (F0 xs x) (.exit 0) (GC len (br xs x n i)) (F0 xs x)
 |0,i,h=>by
  obtain rfl:i=len:=by omega
  refine .done ?_ (by simp)
  rw [B3,decide_eq_false (by omega),cond_false]
  rfl
 | n+1,i,h=>by
  have hro:=B3 xs x len i
  rw [decide_eq_true (show (i:Int)<(len:Int) by omega),decide_eq_true (show (0:Int)≤(i:Int) by omega),show ((i:Int)).toNat=i by omega,decide_eq_true (show 0+i<xs.length by omega),IntWalk.i64_in ((i:Int)+1) (by omega)] at hro
  simp only [Bool.and_self,cond_true] at hro
  unfold br
  cases hc:vT (xs.getD (0+i) aA.pt.dflt) x with
  |true=>
   rw [hc,cond_true,show (i:Int)+1=((i+1:Nat):Int) by omega] at hro
   simp only [cond_true]
   exact .more hro (Gk hl h64 n (i+1) (by omega))
  |false=>
   rw [hc,cond_false] at hro
   simp only [cond_false]
   exact .done hro (by simp)
noncomputable def Td (v:List SV) (R:List Row) (k:Ex→List SV→List Row→Option aj):Option aj:=match v,R with
 | [.slice 0 2 0 len none,.ptr 1 0 0 0,.nils,.int .i64 i],[.vec false .pt xs,.own [.int .i64 p,.int .i64 q]]=>
     bif decide (i=0)&&(decide (len≤xs.length)&&decide (len≤9223372036854775807)) then k (.exit 0) (GC len (br xs ⟨p,q⟩ len 0)) (F0 xs ⟨p,q⟩) else none
 |_,_=>none
theorem LB:da 148 [0,0,1,1] (bG 46 [0,3,4,5] Td):=by
 intro b hat s K r h
 refine aQ (fuel:=100) Eg ag hat (fun v R k r hr=>?_) h
 have hbody:=aZ Tryz.func148 hat
 subst hbody
 unfold Td at hr
 split at hr
 · rename_i len i xs p q
   obtain ⟨hb,hr2⟩:=al hr
   simp only [Bool.and_eq_true,decide_eq_true_eq] at hb
   obtain ⟨rfl,h1,h2⟩:=hb
   exact ⟨_,_,_,hr2,Gk (x:=⟨p,q⟩) h1 h2 len 0 (by omega)⟩
 · cases hr
noncomputable def T2:jh:=⟨_,_,_,LB⟩
def kW (xs:List Pt) (x:Pt) (len:Nat):Nat:=((br xs x len 0:Nat):Int).toNat
def Cw (xs:List Pt) (x:Pt) (len:Nat):List Pt:=List.take (0+kW xs x len) (List.take 0 ([]:List Pt)++List.take (kW xs x len) (List.drop 0 xs))++List.take 1 (List.drop 0 [x])
def Pn (xs:List Pt) (x:Pt) (len:Nat):List Pt:=List.take (0+kW xs x len+1) (Cw xs x len)++List.take (len - kW xs x len) (List.drop (0+kW xs x len) xs)
def rB (xs:List Pt) (x:Pt) (len:Nat):Option aj:=
 bif decide (0≤((br xs x len 0:Nat):Int))&&decide (((br xs x len 0:Nat):Int)≤((dm none len:Nat):Int)) then
 bif decide (0+kW xs x len≤xs.length)&&((false||(some 0).isSome)&&(decide (0+kW xs x len≤9223372036854775807)&&decide ((0+kW xs x len)*16≤140737488355328))) then
 bif decide (0+1≤[x].length)&&((decide (0<0+kW xs x len)||(none:Option Nat).isSome)&&(decide (0+kW xs x len≤(List.take 0 ([]:List Pt)++List.take (kW xs x len) (List.drop 0 xs)).length)&&(decide (0+kW xs x len+1≤9223372036854775807)&&decide ((0+kW xs x len+1)*16≤140737488355328)))) then
 bif decide (0≤((br xs x len 0:Nat):Int))&&decide (((br xs x len 0:Nat):Int)≤(len:Int)) then
 bif decide (0+kW xs x len+(len - kW xs x len)≤xs.length)&&((decide (0<0+kW xs x len+1)||(none:Option Nat).isSome)&&(decide (0+kW xs x len+1≤(Cw xs x len).length)&&(decide (0+kW xs x len+1+(len - kW xs x len)≤9223372036854775807)&&decide ((0+kW xs x len+1+(len - kW xs x len))*16≤140737488355328)))) then
 some (.slice 6 2 0 (0+kW xs x len+1+(len - kW xs x len)) none,[.vec false .pt xs,.own x.sv,.gone,.gone,.vec false .pt [x],.gone,.vec false .pt (Pn xs x len)])
 else none else none else none else none else none
theorem SA (xs:List Pt) (x:Pt) (len:Nat):aH YU (aF [T2]) 300 148 Tryz.f148 9 [.slice 0 2 0 len none,.agg x.sv] [.vec false .pt xs]=
 bif decide (len≤xs.length)&&decide (len≤9223372036854775807) then
 bif decide (((br xs x len 0:Nat):Int)<(len:Int)) then
 bif decide (0≤((br xs x len 0:Nat):Int))&&decide (((br xs x len 0:Nat):Int)<(len:Int)) then
 bif decide (0+kW xs x len<xs.length) then
 bif !vT x (xs.getD (0+kW xs x len) aA.pt.dflt) then some (.slice 0 2 0 len none,[.vec false .pt xs,.own x.sv])
 else rB xs x len
 else none
 else none
 else rB xs x len
 else none:=by kernel_rfl
theorem ml {xs:List Pt} {x:Pt}:∀(n i:Nat),i≤br xs x n i∧br xs x n i≤i+n
 |0,i=>⟨Nat.le_refl _,Nat.le_refl _⟩
 |n+1,i=>by
  unfold br
  have ih:=ml (xs:=xs) (x:=x) n (i+1)
  cases vT (xs.getD (0+i) aA.pt.dflt) x
  · simp only [cond_false];omega
  · simp only [cond_true];omega
def dr (xs:List Pt) (x:Pt):Bool:=decide (br xs x xs.length 0<xs.length)&& !vT x (xs.getD (br xs x xs.length 0) ⟨0,0⟩)
def bX (xs:List Pt) (x:Pt):List Pt:=bif dr xs x then xs else xs.take (br xs x xs.length 0)++x::xs.drop (br xs x xs.length 0)
theorem S6 (xs:List Pt) (x:Pt):Pn xs x xs.length=xs.take (br xs x xs.length 0)++x::xs.drop (br xs x xs.length 0)∧(Cw xs x xs.length).length=br xs x xs.length 0+1:=by
 have hk:kW xs x xs.length=br xs x xs.length 0:=by unfold kW;omega
 have hle:=(ml (xs:=xs) (x:=x) xs.length 0).2
 have hm:Cw xs x xs.length=xs.take (br xs x xs.length 0)++[x]:=by
  unfold Cw
  rw [hk]
  simp [List.take_take]
 have hml:(Cw xs x xs.length).length=br xs x xs.length 0+1:=by
  rw [hm,List.length_append,List.length_take]
  simp
  omega
 refine ⟨?_,hml⟩
 unfold Pn
 rw [hk,List.take_of_length_le (l:=Cw xs x xs.length) (by omega),hm,Nat.zero_add,List.take_of_length_le (l:=List.drop _ xs) (by rw [List.length_drop];omega),List.append_assoc,List.singleton_append]
theorem W2 {xs:List Pt} {x:Pt} (h1:xs.length≤1000) (h0:0<br xs x xs.length 0∨dr xs x=true):
    aH YU (aF [T2]) 300 148 Tryz.f148 9 [.slice 0 2 0 xs.length none,.agg x.sv] [.vec false .pt xs]=
     bif dr xs x then some (.slice 0 2 0 (bX xs x).length none,[.vec false .pt xs,.own x.sv])
     else some (.slice 6 2 0 (bX xs x).length none,[.vec false .pt xs,.own x.sv,.gone,.gone,.vec false .pt [x],.gone,.vec false .pt (bX xs x)]):=by
 have hk:kW xs x xs.length=br xs x xs.length 0:=by unfold kW;omega
 have hle:=(ml (xs:=xs) (x:=x) xs.length 0).2
 rw [SA,decide_eq_true (Nat.le_refl _),decide_eq_true (show xs.length≤9223372036854775807 by omega)]
 have hins:0<br xs x xs.length 0→dr xs x=false→rB xs x xs.length=some (.slice 6 2 0 (bX xs x).length none,[.vec false .pt xs,.own x.sv,.gone,.gone,.vec false .pt [x],.gone,.vec false .pt (bX xs x)]):=by
  intro hp hf
  obtain ⟨e1,e2⟩:=S6 xs x
  have hw:bX xs x=Pn xs x xs.length:=by unfold bX;rw [hf,e1];rfl
  have hl:(bX xs x).length=br xs x xs.length 0+1+(xs.length - br xs x xs.length 0):=by
   rw [hw,e1,List.length_append,List.length_take,List.length_cons,List.length_drop]
   omega
  unfold rB
  rw [hk,e2,hl,←hw]
  have e3:(List.take 0 ([]:List Pt)++List.take (br xs x xs.length 0) (List.drop 0 xs)).length=br xs x xs.length 0:=by simp;omega
  rw [e3,show dm none xs.length=xs.length from rfl]
  simp only [Nat.zero_add]
  rw [decide_eq_true (show (0:Int)≤((br xs x xs.length 0:Nat):Int) by omega),decide_eq_true (show ((br xs x xs.length 0:Nat):Int)≤(xs.length:Int) by omega),decide_eq_true (show br xs x xs.length 0≤xs.length by omega),decide_eq_true (show br xs x xs.length 0≤9223372036854775807 by omega),decide_eq_true (show br xs x xs.length 0*16≤140737488355328 by omega),decide_eq_true (show 1≤[x].length by simp),decide_eq_true hp,decide_eq_true (Nat.le_refl (br xs x xs.length 0)),decide_eq_true (show br xs x xs.length 0+1≤9223372036854775807 by omega),decide_eq_true (show (br xs x xs.length 0+1)*16≤140737488355328 by omega),decide_eq_true (show br xs x xs.length 0+(xs.length - br xs x xs.length 0)≤xs.length by omega),decide_eq_true (show 0<br xs x xs.length 0+1 by omega),decide_eq_true (Nat.le_refl (br xs x xs.length 0+1)),decide_eq_true (show br xs x xs.length 0+1+(xs.length - br xs x xs.length 0)≤9223372036854775807 by omega),decide_eq_true (show (br xs x xs.length 0+1+(xs.length - br xs x xs.length 0))*16≤140737488355328 by omega)]
  rfl
 simp only [Bool.and_self,cond_true]
 by_cases hlt:br xs x xs.length 0<xs.length
 · rw [decide_eq_true (show ((br xs x xs.length 0:Nat):Int)<(xs.length:Int) by omega),decide_eq_true (show (0:Int)≤((br xs x xs.length 0:Nat):Int) by omega),hk,Nat.zero_add,decide_eq_true hlt]
   simp only [Bool.and_self,cond_true]
   have ef:dr xs x= !vT x (xs.getD (br xs x xs.length 0) aA.pt.dflt):=by unfold dr;rw [decide_eq_true hlt];rfl
   cases hf:dr xs x with
   |true=>
    rw [←ef,hf]
    simp only [cond_true]
    rw [show bX xs x=xs by unfold bX;rw [hf];rfl]
   |false=>
    rw [←ef,hf]
    simp only [cond_false]
    refine hins ?_ hf
    rcases h0 with h |h
    · exact h
    · rw [hf] at h;cases h
 · have hf:dr xs x=false:=by unfold dr;rw [decide_eq_false hlt];rfl
   rw [decide_eq_false (show ¬ ((br xs x xs.length 0:Nat):Int)<(xs.length:Int) by omega),hf]
   simp only [cond_false]
   refine hins ?_ hf
   rcases h0 with h |h
   · exact h
   · rw [hf] at h;cases h
def Lb (args:List SV) (rows:List Row):Option aL:=
 match args with
 |[.slice id 2 0 len cap,.agg [.int .i64 p,.int .i64 q]]=>match rows[id]? with
  |some (.vec false .pt xs)=>some {ok:=(decide (len=xs.length)&&decide (len≤1000))&&(decide (0<br xs ⟨p,q⟩ xs.length 0)||dr xs ⟨p,q⟩),val:=.slice rows.length 2 0 (bX xs ⟨p,q⟩).length none,rd:=[id],wr:=[(id,.gone)],nw:=[.vec false .pt (bX xs ⟨p,q⟩)]}
  |_=>none
 |_=>none
theorem Pi {args:List SV} {rows:List Row} {e:aL} (h:Lb args rows=some e) (hok:e.ok=true):aN Tryz.prog 148 args (rows[·]?) rows.length e:=by
 unfold Lb at h
 split at h
 · rename_i id len cap p q
   split at h
   · rename_i xs hrow
     cases h
     simp only [Bool.and_eq_true,Bool.or_eq_true,decide_eq_true_eq] at hok
     obtain ⟨⟨h1,h2⟩,h3⟩:=hok
     have e1:len=List.length (α:=Pt) xs:=h1
     have hv:=W2 (xs:=xs) (x:=⟨p,q⟩) (by omega) h3
     have l1:=(List.getElem?_eq_some_iff.1 hrow).1
     rw [e1]
     refine cy (args:=[.slice id 2 0 (List.length (α:=Pt) xs) none,.agg [.int .i64 p,.int .i64 q]]) ?_ fun ρ vs hr=>?_
     · cases hf:dr xs ⟨p,q⟩ with
       |true=>
        rw [hf,cond_true] at hv
        obtain ⟨rows',hc,ht⟩:=aC Eg aG Tryz.func148 hv
        have hw:bX xs ⟨p,q⟩=xs:=by unfold bX;rw [hf];rfl
        exact lF (k:=.pt) hc (fun i hi=>by simp [SV.idsL,SV.ids,Pt.sv] at hi;omega) (by rw [dv ht (by omega),hw];rfl) l1 hrow
       |false=>
        rw [hf,cond_false] at hv
        obtain ⟨rows',hc,ht⟩:=aC Eg aG Tryz.func148 hv
        exact lF (k:=.pt) hc (fun i hi=>by simp [SV.idsL,SV.ids,Pt.sv] at hi;omega) (by rw [dv ht (by omega)];rfl) l1 hrow
     · rw [au] at hr ⊢
       obtain ⟨u,us,rfl,h6,h7⟩:=hr
       exact ⟨u,us,rfl,bP h6,h7⟩
   · cases h
 · cases h
noncomputable def Sd:bY:=⟨148,Lb,fun _ _ _ h hok=>Pi h hok,aq Tryz.func148 (by kernel_rfl)⟩
noncomputable def Ys:bS:=aV [] [Sd]
theorem sH:bV Tryz.prog Ys:=aD (by kernel_rfl)
def lH (len:Nat) (a b k:Int):List SV:=[.slice 0 2 0 len none,.int .i64 a,.int .i64 b,.nils,.int .i64 k]
def gX (len:Nat) (a b k:Int):List SV:=[.slice 1 2 0 len none,.int .i64 a,.int .i64 b,.nils,.int .i64 k]
def lU (xs:List Pt):List Row:=[.vec false .pt xs]
def gO (xs:List Pt):List Row:=[.gone,.vec false .pt xs]
noncomputable def DD:List SV→List Row→Option aj:=bj Ys (fun _ _=>none) 100 145 [0,1,0,1] (bg Tryz.f145 [0,1,0,1]) 45 1 [0,1,2,6,7]
def nJ (a b k:Int):Pt:=⟨IntKind.i64.wrap (0 - IntKind.i64.wrap (IntKind.i64.wrap (k*65536) - a)),IntKind.i64.wrap (0 - IntKind.i64.wrap (b - a))⟩
def oA (a b k:Int):Pt:=⟨IntKind.i64.wrap (IntKind.i64.wrap (k*65536) - a),IntKind.i64.wrap (b - a)⟩
def XQ (len:Nat) (xs:List Pt) (x:Pt):Bool:=(decide (len=xs.length)&&decide (len≤1000))&&(decide (0<br xs x xs.length 0)||dr xs x)
theorem sr (xs:List Pt) (len:Nat) (a b k:Int):DD (lH len a b k) (lU xs)=
 bif (bif decide (k≤32)==true then a !=b else false) then
 bif decide (IntKind.i64.wrap (b - a)<0) then
 bif (bif decide ((nJ a b k).p≥0)==true then decide ((nJ a b k).p≤(nJ a b k).q) else false) then
 bif XQ len xs (nJ a b k) then some (.tuple [.nilp,.tuple (gX (bX xs (nJ a b k)).length a b (IntKind.i64.wrap (k+1)))],gO (bX xs (nJ a b k))) else none
 else some (.tuple [.nilp,.tuple (lH len a b (IntKind.i64.wrap (k+1)))],lU xs)
 else
 bif (bif decide ((oA a b k).p≥0)==true then decide ((oA a b k).p≤(oA a b k).q) else false) then
 bif XQ len xs (oA a b k) then some (.tuple [.nilp,.tuple (gX (bX xs (oA a b k)).length a b (IntKind.i64.wrap (k+1)))],gO (bX xs (oA a b k))) else none
 else some (.tuple [.nilp,.tuple (lH len a b (IntKind.i64.wrap (k+1)))],lU xs)
 else some (.tuple [.ptr 0 0 0 0,.tuple (lH len a b k)],lU xs):=by kernel_rfl
theorem yO (xs:List Pt) (len:Nat) (a b k:Int):DD (gX len a b k) (gO xs)=
 bif (bif decide (k≤32)==true then a !=b else false) then
 bif decide (IntKind.i64.wrap (b - a)<0) then
 bif (bif decide ((nJ a b k).p≥0)==true then decide ((nJ a b k).p≤(nJ a b k).q) else false) then
 bif XQ len xs (nJ a b k) then some (.tuple [.nilp,.tuple (gX (bX xs (nJ a b k)).length a b (IntKind.i64.wrap (k+1)))],gO (bX xs (nJ a b k))) else none
 else some (.tuple [.nilp,.tuple (gX len a b (IntKind.i64.wrap (k+1)))],gO xs)
 else
 bif (bif decide ((oA a b k).p≥0)==true then decide ((oA a b k).p≤(oA a b k).q) else false) then
 bif XQ len xs (oA a b k) then some (.tuple [.nilp,.tuple (gX (bX xs (oA a b k)).length a b (IntKind.i64.wrap (k+1)))],gO (bX xs (oA a b k))) else none
 else some (.tuple [.nilp,.tuple (gX len a b (IntKind.i64.wrap (k+1)))],gO xs)
 else some (.tuple [.ptr 0 0 0 0,.tuple (gX len a b k)],gO xs):=by kernel_rfl
def mS (a b k:Int):Pt:=bif decide (b<a) then ⟨a - k*65536,a - b⟩ else ⟨k*65536 - a,b - a⟩
def fk (a b k:Int):Bool:=decide (0≤(mS a b k).p)&&decide ((mS a b k).p≤(mS a b k).q)
def j3 (a b:Int):Nat→Int→List Pt→List Pt
 |0,_,xs=>xs
 |n+1,k,xs=>j3 a b n (k+1) (bif fk a b k then bX xs (mS a b k) else xs)
def mQ (a b:Int):Nat→Int→Bool
 |0,_=>false
 |n+1,k=>bif fk a b k then true else mQ a b n (k+1)
theorem uq {a b:Int}:∀{n:Nat} {k:Int} {xs:List Pt},mQ a b n k=false→j3 a b n k xs=xs
 |0,_,_,_=>rfl
 |n+1,k,xs,h=>by
  unfold mQ at h
  unfold j3
  cases hc:fk a b k with
  |true=>rw [hc] at h;cases h
  |false=>rw [hc] at h;simp only [cond_false] at h ⊢;exact uq h
def Hd (xs:List Pt):Prop:=xs[0]? =some ⟨0,1⟩
theorem Mv {xs:List Pt} (h:Hd xs):0<xs.length:=(List.getElem?_eq_some_iff.1 h).1
theorem QL {xs:List Pt} (h:Hd xs):xs.getD (0+0) aA.pt.dflt=(⟨0,1⟩:Pt):=by
 show xs.getD 0 (⟨0,0⟩:Pt)=_
 unfold Hd at h
 rw [List.getD_eq_getElem?_getD,h]
 rfl
theorem Un {xs:List Pt} {x:Pt} (h:Hd xs) (h0:0≤x.p) (h1:x.p≤4000000):0<br xs x xs.length 0∨dr xs x=true:=by
 have hp:=Mv h
 obtain ⟨n,hn⟩:∃n,xs.length=n+1:=⟨xs.length - 1,by omega⟩
 have hg:=QL h
 have e:vT (⟨0,1⟩:Pt) x=decide (0<x.p):=by
  unfold vT
  simp only [Int.zero_mul,Int.mul_one]
  rw [show IntKind.i64.wrap 0=0 from rfl,IntWalk.i64_in x.p (by omega)]
 have ep:br xs x xs.length 0=bif decide (0<x.p) then br xs x n 1 else 0:=by
  rw [hn,show br xs x (n+1) 0=(bif vT (xs.getD (0+0) aA.pt.dflt) x then br xs x n (0+1) else 0) from rfl,hg,e]
 by_cases hx:0<x.p
 · left
   rw [ep,decide_eq_true hx]
   have:=(ml (xs:=xs) (x:=x) n 1).1
   simp only [cond_true]
   omega
 · right
   unfold dr
   rw [ep,decide_eq_false hx]
   simp only [cond_false]
   rw [decide_eq_true hp]
   have hg':xs.getD 0 (⟨0,0⟩:Pt)=⟨0,1⟩:=hg
   rw [hg']
   unfold vT
   simp only [Int.zero_mul,Int.mul_one]
   rw [show IntKind.i64.wrap 0=0 from rfl,IntWalk.i64_in x.p (by omega),decide_eq_false (by omega)]
   rfl
theorem om {xs:List Pt} {x:Pt} (h:Hd xs) (h0:0≤x.p) (h1:x.p≤4000000):Hd (bX xs x)∧(bX xs x).length≤xs.length+1:=by
 unfold bX
 cases hf:dr xs x with
 |true=>exact ⟨h,by simp only [cond_true];omega⟩
 | false=>
  simp only [cond_false]
  have hp:0<br xs x xs.length 0:=by
   rcases Un h h0 h1 with hp |hp
   · exact hp
   · rw [hf] at hp;cases hp
  have hle:=(ml (xs:=xs) (x:=x) xs.length 0).2
  refine ⟨?_,?_⟩
  · unfold Hd at h ⊢
    rw [List.getElem?_append_left (by rw [List.length_take];have:=Mv h;omega),List.getElem?_take,if_pos hp]
    exact h
  · rw [List.length_append,List.length_take,List.length_cons,List.length_drop]
    omega
theorem rm {a b k:Int} (ha:0≤a∧a<2097152) (hb:0≤b∧b<2097152) (hk:0≤k∧k≤32):IntKind.i64.wrap (b - a)=b - a∧(b<a→nJ a b k=mS a b k)∧(¬ b<a→oA a b k=mS a b k)∧(mS a b k).p≤4000000:=by
 have e1:IntKind.i64.wrap (b - a)=b - a:=IntWalk.i64_in _ (by omega)
 have e2:IntKind.i64.wrap (IntKind.i64.wrap (k*65536) - a)=k*65536 - a:=by rw [IntWalk.i64_in (k*65536) (by omega),IntWalk.i64_in _ (by omega)]
 refine ⟨e1,fun h=>?_,fun h=>?_,?_⟩
 · unfold nJ mS
   rw [e1,e2,IntWalk.i64_in (0 - (k*65536 - a)) (by omega),IntWalk.i64_in (0 - (b - a)) (by omega),decide_eq_true h]
   show (⟨_,_⟩:Pt)=⟨_,_⟩
   congr 1<;>omega
 · unfold oA mS
   rw [e1,e2,decide_eq_false h]
   rfl
 · unfold mS
   cases decide (b<a)
   · simp only [cond_false];omega
   · simp only [cond_true];omega
theorem KQ {xs:List Pt} {x:Pt} (h:Hd xs) (hl:xs.length≤1000) (h0:0≤x.p) (h1:x.p≤4000000):XQ xs.length xs x=true:=by
 unfold XQ
 rw [decide_eq_true rfl,decide_eq_true hl]
 rcases Un h h0 h1 with h |h
 · rw [decide_eq_true h];rfl
 · rw [h,Bool.or_true];rfl
section
variable {a b:Int}
theorem Gv (ha:0≤a∧a<2097152) (hb:0≤b∧b<2097152) (hne:a≠b) {k:Int} (hk:0≤k∧k≤32) {xs:List Pt} (h:Hd xs) (hl:xs.length≤1000):
    DD (lH xs.length a b k) (lU xs)=(bif fk a b k then some (.tuple [.nilp,.tuple (gX (bX xs (mS a b k)).length a b (k+1))],gO (bX xs (mS a b k))) else some (.tuple [.nilp,.tuple (lH xs.length a b (k+1))],lU xs))∧
    DD (gX xs.length a b k) (gO xs)=(bif fk a b k then some (.tuple [.nilp,.tuple (gX (bX xs (mS a b k)).length a b (k+1))],gO (bX xs (mS a b k))) else some (.tuple [.nilp,.tuple (gX xs.length a b (k+1))],gO xs)):=by
 obtain ⟨e1,e2,e3,e4⟩:=rm ha hb hk
 have hn:(a !=b)=true:=by simpa using hne
 rw [sr,yO,decide_eq_true hk.2,hn,e1,IntWalk.i64_in (k+1) (by omega)]
 simp only [beq_self_eq_true,cond_true]
 by_cases hlt:b<a
 · rw [decide_eq_true (show b - a<0 by omega),e2 hlt]
   simp only [cond_true,dh]
   rw [show (decide ((mS a b k).p≥0)&&decide ((mS a b k).p≤(mS a b k).q))=fk a b k from rfl]
   cases hc:fk a b k with
   |false=>exact ⟨rfl,rfl⟩
   |true=>
    unfold fk at hc
    simp only [Bool.and_eq_true,decide_eq_true_eq] at hc
    rw [KQ h hl hc.1 e4]
    exact ⟨rfl,rfl⟩
 · rw [decide_eq_false (show ¬ b - a<0 by omega),e3 hlt]
   simp only [cond_false,dh]
   rw [show (decide ((mS a b k).p≥0)&&decide ((mS a b k).p≤(mS a b k).q))=fk a b k from rfl]
   cases hc:fk a b k with
   |false=>exact ⟨rfl,rfl⟩
   |true=>
    unfold fk at hc
    simp only [Bool.and_eq_true,decide_eq_true_eq] at hc
    rw [KQ h hl hc.1 e4]
    exact ⟨rfl,rfl⟩
theorem x7 (ha:0≤a∧a<2097152) (hb:0≤b∧b<2097152):∀(n:Nat) (k:Int) (xs:List Pt),0≤k→k+n=33→Hd xs→Hd (j3 a b n k xs)∧(j3 a b n k xs).length≤xs.length+n
 |0,k,xs,h0,h1,h=>⟨h,Nat.le_refl _⟩
 | n+1,k,xs,h0,h1,h=>by
  unfold j3
  cases hc:fk a b k with
  |false=>
   simp only [cond_false]
   have ih:=x7 ha hb n (k+1) xs (by omega) (by omega) h
   exact ⟨ih.1,by omega⟩
  |true=>
   simp only [cond_true]
   have hc':=hc
   unfold fk at hc'
   simp only [Bool.and_eq_true,decide_eq_true_eq] at hc'
   obtain ⟨w1,w2⟩:=om h hc'.1 (rm ha hb ⟨h0,by omega⟩).2.2.2
   have ih:=x7 ha hb n (k+1) _ (by omega) (by omega) w1
   exact ⟨ih.1,by omega⟩
theorem wU (ha:0≤a∧a<2097152) (hb:0≤b∧b<2097152) (hne:a≠b):∀(n:Nat) (k:Int) (xs:List Pt),0≤k→k+n=33→Hd xs→xs.length+n≤900→
    aJ DD (gX xs.length a b k) (gO xs) (.exit 0) (gX (j3 a b n k xs).length a b 33) (gO (j3 a b n k xs))
 |0,k,xs,h0,h1,h,hl=>by
  obtain rfl:k=33:=by omega
  refine .done ?_ (by simp)
  rw [yO]
  rfl
 | n+1,k,xs,h0,h1,h,hl=>by
  have hro:=(Gv ha hb hne ⟨h0,by omega⟩ h (by omega)).2
  unfold j3
  cases hc:fk a b k with
  |false=>
   rw [hc,cond_false] at hro
   simp only [cond_false]
   exact .more hro (wU ha hb hne n (k+1) xs (by omega) (by omega) h (by omega))
  |true=>
   rw [hc,cond_true] at hro
   simp only [cond_true]
   have hc':=hc
   unfold fk at hc'
   simp only [Bool.and_eq_true,decide_eq_true_eq] at hc'
   obtain ⟨w1,w2⟩:=om h hc'.1 (rm ha hb ⟨h0,by omega⟩).2.2.2
   exact .more hro (wU ha hb hne n (k+1) _ (by omega) (by omega) w1 (by omega))
theorem EV (ha:0≤a∧a<2097152) (hb:0≤b∧b<2097152) (hne:a≠b):∀(n:Nat) (k:Int) (xs:List Pt),0≤k→k+n=33→Hd xs→xs.length+n≤900→
    (mQ a b n k=true→aJ DD (lH xs.length a b k) (lU xs) (.exit 0) (gX (j3 a b n k xs).length a b 33) (gO (j3 a b n k xs)))∧
    (mQ a b n k=false→aJ DD (lH xs.length a b k) (lU xs) (.exit 0) (lH xs.length a b 33) (lU xs))
 |0,k,xs,h0,h1,h,hl=>by
  obtain rfl:k=33:=by omega
  refine ⟨fun hh=>(by cases hh),fun _=>.done ?_ (by simp)⟩
  rw [sr]
  rfl
 | n+1,k,xs,h0,h1,h,hl=>by
  have hro:=(Gv ha hb hne ⟨h0,by omega⟩ h (by omega)).1
  unfold j3 mQ
  cases hc:fk a b k with
  |false=>
   rw [hc,cond_false] at hro
   simp only [cond_false]
   have ih:=EV ha hb hne n (k+1) xs (by omega) (by omega) h (by omega)
   exact ⟨fun hh=>.more hro (ih.1 hh),fun hh=>.more hro (ih.2 hh)⟩
  |true=>
   rw [hc,cond_true] at hro
   simp only [cond_true]
   have hc':=hc
   unfold fk at hc'
   simp only [Bool.and_eq_true,decide_eq_true_eq] at hc'
   obtain ⟨w1,w2⟩:=om h hc'.1 (rm ha hb ⟨h0,by omega⟩).2.2.2
   exact ⟨fun _=>.more hro (wU ha hb hne n (k+1) _ (by omega) (by omega) w1 (by omega)),fun hh=>(by cases hh)⟩
end
def mO (a:Int):Bool:=decide (0≤a)&&decide (a<2097152)
theorem eG {a:Int}:mO a=true↔0≤a∧a<2097152:=by unfold mO;rw [Bool.and_eq_true,decide_eq_true_eq,decide_eq_true_eq]
def Zl (xs:List Pt):Bool:=decide (xs[0]? =some (⟨0,1⟩:Pt))
def bC (a b:Int) (xs:List Pt):List Pt:=bif a !=b then j3 a b 33 0 xs else xs
def qQ (a b:Int) (len:Nat) (xs:List Pt):Bool:=(mO a&&mO b)&&(decide (len=xs.length)&&(Zl xs&&decide (xs.length≤800)))
noncomputable def Tp (v:List SV) (R:List Row) (k:Ex→List SV→List Row→Option aj):Option aj:=match v,R with
 | [.slice 0 2 0 len none,.int .i64 a,.int .i64 b,.nils,.int .i64 i],[.vec false .pt xs]=>
     bif decide (i=0)&&qQ a b len xs then
      (bif a !=b then (bif mQ a b 33 0 then k (.exit 0) (gX (j3 a b 33 0 xs).length a b 33) (gO (j3 a b 33 0 xs)) else k (.exit 0) (lH len a b 33) (lU xs))
      else k (.exit 0) (lH len a b 0) (lU xs)) else none
 |_,_=>none
theorem Ou:da 145 [0,1,0,1] (bG 45 [0,1,2,6,7] Tp):=by
 intro b hat s K r h
 refine aQ (fuel:=100) sH ag hat (fun v R k r hr=>?_) h
 have hbody:=aZ Tryz.func145 hat
 subst hbody
 unfold Tp at hr
 split at hr
 · rename_i len a b i xs
   obtain ⟨hb,hr2⟩:=al hr
   unfold qQ at hb
   simp only [Bool.and_eq_true,decide_eq_true_eq] at hb
   obtain ⟨rfl,⟨h1,h2⟩,h3,h4,h5⟩:=hb
   have e1:len=List.length (α:=Pt) xs:=h3
   have h4':Hd xs:=by
    unfold Zl at h4
    have h40:=of_decide_eq_true h4
    exact h40
   have h5':List.length (α:=Pt) xs≤800:=h5
   subst e1
   cases hn:a !=b with
   |true=>
    rw [hn,cond_true] at hr2
    have hne:a≠b:=by simpa using hn
    have key:=EV (eG.1 h1) (eG.1 h2) hne 33 0 xs (by omega) (by omega) h4' (by omega)
    cases hh:mQ a b 33 0 with
    |true=>rw [hh,cond_true] at hr2;exact ⟨_,_,_,hr2,key.1 hh⟩
    |false=>rw [hh,cond_false] at hr2;exact ⟨_,_,_,hr2,key.2 hh⟩
   |false=>
    rw [hn,cond_false] at hr2
    refine ⟨_,_,_,hr2,.done ?_ (by simp)⟩
    have hc:=sr xs (List.length (α:=Pt) xs) a b 0
    rw [hn] at hc
    exact hc
 · cases hr
noncomputable def Y9:jh:=⟨_,_,_,Ou⟩
theorem Pv (xs:List Pt) (len:Nat) (a b:Int):aH Ys (aF [Y9]) 300 145 Tryz.f145 9 [.slice 0 2 0 len none,.int .i64 a,.int .i64 b] [.vec false .pt xs]=
 bif qQ a b len xs then
 bif a !=b then bif mQ a b 33 0 then some (.slice 1 2 0 (j3 a b 33 0 xs).length none,[.gone,.vec false .pt (j3 a b 33 0 xs)]) else some (.slice 0 2 0 len none,[.vec false .pt xs])
 else some (.slice 0 2 0 len none,[.vec false .pt xs])
 else none:=by kernel_rfl
def DN (args:List SV) (rows:List Row):Option aL:=
 match args with
 |[.slice id 2 0 len cap,.int .i64 a,.int .i64 b]=>match rows[id]? with
  |some (.vec false .pt xs)=>some {ok:=qQ a b len xs,val:=.slice rows.length 2 0 (bC a b xs).length none,rd:=[id],wr:=[(id,.gone)],nw:=[.vec false .pt (bC a b xs)]}
  |_=>none
 |_=>none
theorem Km {a b:Int} {len:Nat} {xs:List Pt} (h:qQ a b len xs=true):len=xs.length:=by
 unfold qQ at h
 simp only [Bool.and_eq_true,decide_eq_true_eq] at h
 exact h.2.1
theorem Dd {xs:List Pt} {len id:Nat} {a b:Int} {rows:List Row} {ok:Bool} (hrow:rows[id]? =some (.vec false .pt xs)) (hok:qQ a b len xs=true):
    aN Tryz.prog 145 [.slice id 2 0 len none,.int .i64 a,.int .i64 b] (rows[·]?) rows.length {ok:=ok,val:=.slice rows.length 2 0 (bC a b xs).length none,rd:=[id],wr:=[(id,.gone)],nw:=[.vec false .pt (bC a b xs)]}:=by
 have hv:=Pv xs len a b
 have l1:=(List.getElem?_eq_some_iff.1 hrow).1
 obtain rfl:=Km hok
 rw [hok] at hv
 cases hn:a !=b with
 | true=>
  rw [hn] at hv
  simp only [cond_true] at hv
  rw [show bC a b xs=j3 a b 33 0 xs by unfold bC;rw [hn];rfl]
  cases hh:mQ a b 33 0 with
  |true=>
   rw [hh,cond_true] at hv
   obtain ⟨rows',hc,ht⟩:=aC sH aG Tryz.func145 hv
   exact lF (k:=.pt) hc (fun i hi=>by simp [SV.idsL,SV.ids] at hi;omega) (by rw [dv ht (by omega)];rfl) l1 hrow
  |false=>
   rw [hh,cond_false] at hv
   rw [uq hh]
   obtain ⟨rows',hc,ht⟩:=aC sH aG Tryz.func145 hv
   exact lF (k:=.pt) hc (fun i hi=>by simp [SV.idsL,SV.ids] at hi;omega) (by rw [dv ht (by omega)];rfl) l1 hrow
 |false=>
  rw [hn] at hv
  simp only [cond_true,cond_false] at hv
  rw [show bC a b xs=xs by unfold bC;rw [hn];rfl]
  obtain ⟨rows',hc,ht⟩:=aC sH aG Tryz.func145 hv
  exact lF (k:=.pt) hc (fun i hi=>by simp [SV.idsL,SV.ids] at hi;omega) (by rw [dv ht (by omega)];rfl) l1 hrow
theorem Ju {args:List SV} {rows:List Row} {e:aL} (h:DN args rows=some e) (hok:e.ok=true):aN Tryz.prog 145 args (rows[·]?) rows.length e:=by
 unfold DN at h
 split at h
 · rename_i id len cap a b
   split at h
   · rename_i xs hrow
     cases h
     refine cy (args:=[.slice id 2 0 len none,.int .i64 a,.int .i64 b]) (Dd (xs:=xs) hrow hok) fun ρ vs hr=>?_
     rw [au] at hr ⊢
     obtain ⟨u,us,rfl,h6,h7⟩:=hr
     exact ⟨u,us,rfl,bP h6,h7⟩
   · cases h
 · cases h
noncomputable def OS:bY:=⟨145,DN,fun _ _ _ h hok=>Ju h hok,aq Tryz.func145 (by kernel_rfl)⟩
theorem Kn (a b:Int) (t:Pt):aH Ys (fun _ _=>none) 200 146 Tryz.f146 0 [.int .i64 a,.int .i64 b,.agg t.sv] []=
 bif !decide (IntKind.i64.wrap (t.q*65536)=0) then
 some (.int .i64 (IntKind.i64.wrap ((IntKind.i64.wrap (IntKind.i64.wrap (a*t.q)+IntKind.i64.wrap (IntKind.i64.wrap (b - a)*t.p))).tdiv (IntKind.i64.wrap (t.q*65536)))),[])
 else none:=by kernel_rfl
def fj (t:Pt):Bool:=(decide (0≤t.p)&&decide (t.p≤t.q))&&(decide (0<t.q)&&decide (t.q≤2097152))
theorem eA {t:Pt}:fj t=true↔(0≤t.p∧t.p≤t.q)∧0<t.q∧t.q≤2097152:=by
 unfold fj
 simp only [Bool.and_eq_true,decide_eq_true_eq]
theorem R4 {a b:Int} {t:Pt} (ha:0≤a∧a<2097152) (hb:0≤b∧b<2097152) (ht:fj t=true):aH Ys (fun _ _=>none) 200 146 Tryz.f146 0 [.int .i64 a,.int .i64 b,.agg t.sv] []=some (.int .i64 (aO a b t.p t.q),[]):=by
 obtain ⟨⟨h1,h2⟩,h3,h4⟩:=eA.1 ht
 have m1:0≤a*t.q∧a*t.q≤2097152*2097152:=⟨Int.mul_nonneg ha.1 (by omega),Int.mul_le_mul (by omega) h4 (by omega) (by omega)⟩
 have m2:0≤b*t.p∧b*t.p≤2097152*2097152:=⟨Int.mul_nonneg hb.1 h1,Int.mul_le_mul (by omega) (by omega) h1 (by omega)⟩
 have m3:0≤a*t.p∧a*t.p≤a*t.q:=⟨Int.mul_nonneg ha.1 h1,Int.mul_le_mul_of_nonneg_left h2 ha.1⟩
 have e:(b - a)*t.p=b*t.p - a*t.p:=by rw [Int.sub_mul]
 have e0:0≤a*t.q+(b - a)*t.p:=by rw [e];omega
 have e1:0≤aO a b t.p t.q:=Int.ediv_nonneg e0 (by omega)
 have e2:aO a b t.p t.q≤a*t.q+(b - a)*t.p:=by
  unfold aO
  have :0<t.q*65536:=by omega
  exact Int.ediv_le_self _ e0
 rw [Kn,IntWalk.i64_in (t.q*65536) (by omega),decide_eq_false (show ¬ t.q*65536=0 by omega),IntWalk.i64_in (a*t.q) (by omega),IntWalk.i64_in (b - a) (by omega),IntWalk.i64_in ((b - a)*t.p) (by omega),IntWalk.i64_in (a*t.q+(b - a)*t.p) (by omega),Int.tdiv_eq_ediv_of_nonneg e0]
 rw [show (a*t.q+(b - a)*t.p)/(t.q*65536)=aO a b t.p t.q from rfl,IntWalk.i64_in _ (by omega)]
 rfl
def Va:List SV→Option aL
 |[.int .i64 a,.int .i64 b,.agg [.int .i64 p,.int .i64 q]]=>some {ok:=(mO a&&mO b)&&fj ⟨p,q⟩,val:=.int .i64 (aO a b p q)}
 |_=>none
theorem RE {m:Nat→Option Row} {n:Nat} {args:List SV} {e:aL} (h:Va args=some e) (hok:e.ok=true):aN Tryz.prog 146 args m n e:=by
 unfold Va at h
 split at h
 · rename_i a b p q
   cases h
   simp only [Bool.and_eq_true] at hok
   obtain ⟨rows',hc,_⟩:=aC sH ag Tryz.func146 (R4 (t:=⟨p,q⟩) (eG.1 hok.1.1) (eG.1 hok.1.2) hok.2)
   exact aM hc rfl rfl
 · cases h
noncomputable def OE:bY:=⟨146,fun args _=>Va args,fun _ _ _ h hok=>RE h hok,aq Tryz.func146 (by kernel_rfl)⟩
noncomputable def Zn:bS:=aV [] [OE]
theorem UZ:bV Tryz.prog Zn:=aD (by kernel_rfl)
theorem Oo (a b:Int) (s t:Pt):aH Zn (fun _ _=>none) 200 147 Tryz.f147 0 [.int .i64 a,.int .i64 b,.agg s.sv,.agg t.sv] []=
 bif decide (b<a) then bif mO a&&mO b&&fj t then some (.int .i64 (aO a b t.p t.q),[]) else none
 else bif mO a&&mO b&&fj s then some (.int .i64 (aO a b s.p s.q),[]) else none:=by kernel_rfl
def jo (a b:Int) (s t:Pt):Int:=bif decide (b<a) then aO a b t.p t.q else aO a b s.p s.q
theorem SO {a b:Int} {s t:Pt} (ha:mO a=true) (hb:mO b=true) (hs:fj s=true) (ht:fj t=true):aH Zn (fun _ _=>none) 200 147 Tryz.f147 0 [.int .i64 a,.int .i64 b,.agg s.sv,.agg t.sv] []=some (.int .i64 (jo a b s t),[]):=by
 rw [Oo,ha,hb,hs,ht]
 unfold jo
 cases decide (b<a)<;>rfl
def VY:List SV→Option aL
 |[.int .i64 a,.int .i64 b,.agg [.int .i64 p,.int .i64 q],.agg [.int .i64 r,.int .i64 s]]=>some {ok:=(mO a&&mO b)&&(fj ⟨p,q⟩&&fj ⟨r,s⟩),val:=.int .i64 (jo a b ⟨p,q⟩ ⟨r,s⟩)}
 |_=>none
theorem RT {m:Nat→Option Row} {n:Nat} {args:List SV} {e:aL} (h:VY args=some e) (hok:e.ok=true):aN Tryz.prog 147 args m n e:=by
 unfold VY at h
 split at h
 · rename_i a b p q r s
   cases h
   simp only [Bool.and_eq_true] at hok
   obtain ⟨rows',hc,_⟩:=aC UZ ag Tryz.func147 (SO (s:=⟨p,q⟩) (t:=⟨r,s⟩) hok.1.1 hok.1.2 hok.2.1 hok.2.2)
   exact aM hc rfl rfl
 · cases h
noncomputable def WU:bY:=⟨147,fun args _=>VY args,fun _ _ _ h hok=>RT h hok,aq Tryz.func147 (by kernel_rfl)⟩
noncomputable def Z7:bS:=aV [] [pj,yC,OS,OE,WU]
theorem Nj:bV Tryz.prog Z7:=aD (by kernel_rfl)
def nV (len:Nat) (i:Int):List SV:=[.ptr 1 0 0 0,.ptr 2 0 0 0,.ptr 3 0 0 0,.bool false,.slice 7 2 0 len none,.int .i64 i]
def qD (w d h:Int) (off ln:Nat) (xs:List Bool) (a b:V3) (l:List Pt):List Row:=[.vec true .bool xs,.own [.int .i64 w,.int .i64 d,.int .i64 h,.slice 0 1 off ln none,.unk],.own a.sv,.own b.sv,.gone,.gone,.gone,.vec false .pt l]
noncomputable def Qr:List SV→List Row→Option aj:=bj Z7 (fun _ _=>none) 100 134 [0,1,0,1,1,1,1,1,1,1,1] (bg Tryz.f134 [0,1,0,1,1,1,1,1,1,1,1]) 124 8 [3,4,5,6,9,10]
theorem yH (w d h:Int) (off ln:Nat) (xs:List Bool) (a b:V3) (l:List Pt) (len:Nat) (i:Int):Qr (nV len i) (qD w d h off ln xs a b l)=
 bif decide (i<(↑len:Int)) then
 bif decide (0≤i)&&decide (i<(↑len:Int)) then
 bif decide (0+i.toNat<l.length) then
 bif mO a.x&&mO b.x&&fj (l.getD (0+i.toNat) aA.pt.dflt) then
 bif mO a.y&&mO b.y&&fj (l.getD (0+i.toNat) aA.pt.dflt) then
 bif mO a.z&&mO b.z&&fj (l.getD (0+i.toNat) aA.pt.dflt) then
 bif decide (off+ln≤xs.length) then
 bif
 (af w d h ln fun j=>xs.getD (off+j) false).solid (aO a.x b.x (l.getD (0+i.toNat) aA.pt.dflt).p (l.getD (0+i.toNat) aA.pt.dflt).q)
 (aO a.y b.y (l.getD (0+i.toNat) aA.pt.dflt).p (l.getD (0+i.toNat) aA.pt.dflt).q)
 (aO a.z b.z (l.getD (0+i.toNat) aA.pt.dflt).p (l.getD (0+i.toNat) aA.pt.dflt).q) then
 some
 (SV.tuple [SV.nils,SV.tuple [SV.ptr 1 0 0 0,SV.ptr 2 0 0 0,SV.ptr 3 0 0 0,SV.bool false,SV.slice 7 2 0 len none,.int .i64 i]],
 [Row.vec true aA.bool xs,Row.own [.int .i64 w,.int .i64 d,.int .i64 h,SV.slice 0 1 off ln none,SV.unk],
 Row.own [.int .i64 a.x,.int .i64 a.y,.int .i64 a.z],Row.own [.int .i64 b.x,.int .i64 b.y,.int .i64 b.z],Row.gone,
 Row.gone,Row.gone,Row.vec false aA.pt l])
 else
 bif i==0 then
 some
 (SV.tuple [SV.nilp,SV.tuple [SV.ptr 1 0 0 0,SV.ptr 2 0 0 0,SV.ptr 3 0 0 0,SV.bool false,SV.slice 7 2 0 len none,.int .i64 (IntKind.i64.wrap (i+1))]],
 [Row.vec true aA.bool xs,Row.own [.int .i64 w,.int .i64 d,.int .i64 h,SV.slice 0 1 off ln none,SV.unk],
 Row.own [.int .i64 a.x,.int .i64 a.y,.int .i64 a.z],Row.own [.int .i64 b.x,.int .i64 b.y,.int .i64 b.z],Row.gone,
 Row.gone,Row.gone,Row.vec false aA.pt l])
 else
 bif decide (0≤IntKind.i64.wrap (i - 1))&&decide (IntKind.i64.wrap (i - 1)<(↑len:Int)) then
 bif decide (0+(IntKind.i64.wrap (i - 1)).toNat<l.length) then
 bif mO a.x&&mO b.x&&(fj (l.getD (0+(IntKind.i64.wrap (i - 1)).toNat) aA.pt.dflt)&&fj (l.getD (0+i.toNat) aA.pt.dflt)) then
 bif mO a.y&&mO b.y&&(fj (l.getD (0+(IntKind.i64.wrap (i - 1)).toNat) aA.pt.dflt)&&fj (l.getD (0+i.toNat) aA.pt.dflt)) then
 bif mO a.z&&mO b.z&&(fj (l.getD (0+(IntKind.i64.wrap (i - 1)).toNat) aA.pt.dflt)&&fj (l.getD (0+i.toNat) aA.pt.dflt)) then
 bif decide (off+ln≤xs.length) then
 bif
 (af w d h ln fun j=>xs.getD (off+j) false).solid (jo a.x b.x (l.getD (0+(IntKind.i64.wrap (i - 1)).toNat) aA.pt.dflt) (l.getD (0+i.toNat) aA.pt.dflt))
 (jo a.y b.y (l.getD (0+(IntKind.i64.wrap (i - 1)).toNat) aA.pt.dflt) (l.getD (0+i.toNat) aA.pt.dflt))
 (jo a.z b.z (l.getD (0+(IntKind.i64.wrap (i - 1)).toNat) aA.pt.dflt) (l.getD (0+i.toNat) aA.pt.dflt)) then
 some
 (SV.tuple [SV.nils,SV.tuple [SV.ptr 1 0 0 0,SV.ptr 2 0 0 0,SV.ptr 3 0 0 0,SV.bool false,SV.slice 7 2 0 len none,.int .i64 i]],
 [Row.vec true aA.bool xs,Row.own [.int .i64 w,.int .i64 d,.int .i64 h,SV.slice 0 1 off ln none,SV.unk],
 Row.own [.int .i64 a.x,.int .i64 a.y,.int .i64 a.z],
 Row.own [.int .i64 b.x,.int .i64 b.y,.int .i64 b.z],Row.gone,Row.gone,Row.gone,Row.vec false aA.pt l])
 else
 some
 (SV.tuple [SV.nilp,SV.tuple [SV.ptr 1 0 0 0,SV.ptr 2 0 0 0,SV.ptr 3 0 0 0,SV.bool false,SV.slice 7 2 0 len none,.int .i64 (IntKind.i64.wrap (i+1))]],
 [Row.vec true aA.bool xs,Row.own [.int .i64 w,.int .i64 d,.int .i64 h,SV.slice 0 1 off ln none,SV.unk],
 Row.own [.int .i64 a.x,.int .i64 a.y,.int .i64 a.z],
 Row.own [.int .i64 b.x,.int .i64 b.y,.int .i64 b.z],Row.gone,Row.gone,Row.gone,Row.vec false aA.pt l])
 else none
 else none
 else none
 else none
 else none
 else none
 else none
 else none
 else none
 else none
 else none
 else none
 else
 some
 (SV.tuple [SV.ptr 0 0 0 0,SV.tuple [SV.ptr 1 0 0 0,SV.ptr 2 0 0 0,SV.ptr 3 0 0 0,SV.bool false,SV.slice 7 2 0 len none,.int .i64 i]],
 [Row.vec true aA.bool xs,Row.own [.int .i64 w,.int .i64 d,.int .i64 h,SV.slice 0 1 off ln none,SV.unk],
 Row.own [.int .i64 a.x,.int .i64 a.y,.int .i64 a.z],Row.own [.int .i64 b.x,.int .i64 b.y,.int .i64 b.z],Row.gone,Row.gone,
 Row.gone,Row.vec false aA.pt l]):=by kernel_rfl
def lZ (F:Int→Int→Int→Bool) (a b:V3) (l:List Pt) (i:Nat):Bool:=
 F (aO a.x b.x (l.getD (0+i) aA.pt.dflt).p (l.getD (0+i) aA.pt.dflt).q) (aO a.y b.y (l.getD (0+i) aA.pt.dflt).p (l.getD (0+i) aA.pt.dflt).q) (aO a.z b.z (l.getD (0+i) aA.pt.dflt).p (l.getD (0+i) aA.pt.dflt).q)||
 (!((i:Int)==0)&&F (jo a.x b.x (l.getD (0+(i - 1)) aA.pt.dflt) (l.getD (0+i) aA.pt.dflt)) (jo a.y b.y (l.getD (0+(i - 1)) aA.pt.dflt) (l.getD (0+i) aA.pt.dflt)) (jo a.z b.z (l.getD (0+(i - 1)) aA.pt.dflt) (l.getD (0+i) aA.pt.dflt)))
def CB (off ln:Nat) (xs:List Bool) (a b:V3) (l:List Pt) (len:Nat):Bool:=(((mO a.x&&mO b.x)&&((mO a.y&&mO b.y)&&(mO a.z&&mO b.z)))&&(l.all fj&&decide (off+ln≤xs.length)))&&(decide (len=l.length)&&decide (len≤900))
section
variable {w d h:Int} {off ln:Nat} {xs:List Bool} {a b:V3} {l:List Pt}
theorem Sf (hc:CB off ln xs a b l l.length=true):
    (gC (fun i=>lZ (af w d h ln fun j=>xs.getD (off+j) false).solid a b l i.toNat) l.length 0=true→aJ Qr (nV l.length 0) (qD w d h off ln xs a b l) .ret (nV l.length (kA (fun i=>lZ (af w d h ln fun j=>xs.getD (off+j) false).solid a b l i.toNat) l.length 0)) (qD w d h off ln xs a b l))∧
    (gC (fun i=>lZ (af w d h ln fun j=>xs.getD (off+j) false).solid a b l i.toNat) l.length 0=false→aJ Qr (nV l.length 0) (qD w d h off ln xs a b l) (.exit 0) (nV l.length (l.length:Int)) (qD w d h off ln xs a b l)):=by
 unfold CB at hc
 simp only [Bool.and_eq_true,decide_eq_true_eq] at hc
 obtain ⟨⟨⟨⟨h1,h2⟩,⟨h3,h4⟩,h5,h6⟩,h7,h8⟩,_,h9⟩:=hc
 have key:=fz (rd:=Qr) (val:=nV l.length) (valR:=nV l.length) (R:=qD w d h off ln xs a b l) (p:=fun i=>lZ (af w d h ln fun j=>xs.getD (off+j) false).solid a b l i.toNat) (W:=(l.length:Int)) (ex:=0) (i0:=0) (fun i i0 i1=>?_) ?_ l.length 0 (by omega) (by omega)
 · exact key
 · obtain ⟨i,rfl⟩:∃k:Nat,i=k:=⟨i.toNat,by omega⟩
   have hin:∀j,j<l.length→fj (l.getD (0+j) aA.pt.dflt)=true:=by
    intro j hj
    show fj (l.getD (0+j) ⟨0,0⟩)=true
    rw [List.getD_eq_getElem?_getD,List.getElem?_eq_getElem (by omega)]
    exact List.all_eq_true.1 h7 _ (List.getElem_mem _)
   have e1:((i:Int)).toNat=i:=by omega
   rw [yH,e1,decide_eq_true i1,decide_eq_true i0,decide_eq_true (show 0+i<l.length by omega),h1,h2,h3,h4,h5,h6,hin i (by omega),decide_eq_true h8,IntWalk.i64_in ((i:Int)+1) (by omega)]
   simp only [Bool.and_self,cond_true]
   unfold lZ
   generalize (af w d h ln fun j=>xs.getD (off+j) false).solid (aO a.x b.x (l.getD (0+i) aA.pt.dflt).p (l.getD (0+i) aA.pt.dflt).q) (aO a.y b.y (l.getD (0+i) aA.pt.dflt).p (l.getD (0+i) aA.pt.dflt).q) (aO a.z b.z (l.getD (0+i) aA.pt.dflt).p (l.getD (0+i) aA.pt.dflt).q)=S
   cases S with
   |true=>rfl
   | false=>
    simp only [cond_false,Bool.false_or]
    cases hz:(i:Int)==0 with
    |true=>rfl
    |false=>
     have hi:(i:Int)≠0:=by simpa using hz
     have e2:IntKind.i64.wrap ((i:Int) - 1)=((i - 1:Nat):Int):=by rw [IntWalk.i64_in _ (by omega)];omega
     rw [e2,show (((i - 1:Nat):Int)).toNat=i - 1 by omega,decide_eq_true (show (0:Int)≤((i - 1:Nat):Int) by omega),decide_eq_true (show ((i - 1:Nat):Int)<(l.length:Int) by omega),decide_eq_true (show 0+(i - 1)<l.length by omega),hin (i - 1) (by omega)]
     simp only [Bool.and_self,cond_true,cond_false,Bool.not_false,Bool.true_and]
     rfl
 · rw [yH,decide_eq_false (by omega)]
   rfl
end
noncomputable def Ta (v:List SV) (R:List Row) (k:Ex→List SV→List Row→Option aj):Option aj:=match v,R with
 | [.ptr 1 0 0 0,.ptr 2 0 0 0,.ptr 3 0 0 0,.bool r,.slice 7 2 0 len none,.int .i64 i],[.vec true .bool xs,.own [.int .i64 w,.int .i64 d,.int .i64 h,.slice 0 1 off ln none,.unk],.own [.int .i64 ax,.int .i64 ay,.int .i64 az],.own [.int .i64 bx,.int .i64 b_y,.int .i64 bz],.gone,.gone,.gone,.vec false .pt l]=>
     bif (!r&&decide (i=0))&&CB off ln xs ⟨ax,ay,az⟩ ⟨bx,b_y,bz⟩ l len then
      (bif gC (fun i=>lZ (af w d h ln fun j=>xs.getD (off+j) false).solid ⟨ax,ay,az⟩ ⟨bx,b_y,bz⟩ l i.toNat) len 0 then k .ret (nV len (kA (fun i=>lZ (af w d h ln fun j=>xs.getD (off+j) false).solid ⟨ax,ay,az⟩ ⟨bx,b_y,bz⟩ l i.toNat) len 0)) (qD w d h off ln xs ⟨ax,ay,az⟩ ⟨bx,b_y,bz⟩ l)
      else k (.exit 0) (nV len (len:Int)) (qD w d h off ln xs ⟨ax,ay,az⟩ ⟨bx,b_y,bz⟩ l)) else none
 |_,_=>none
theorem M3:da 134 [0,1,0,1,1,1,1,1,1,1,1] (bG 124 [3,4,5,6,9,10] Ta):=by
 intro b hat s K r h
 refine aQ (fuel:=100) Nj ag hat (fun v R k r hr=>?_) h
 have hbody:=aZ Tryz.func134 hat
 subst hbody
 unfold Ta at hr
 split at hr
 · rename_i rr len i xs w d h off ln ax ay az bx b_y bz l
   obtain ⟨hb,hr2⟩:=al hr
   simp only [Bool.and_eq_true,decide_eq_true_eq,Bool.not_eq_true'] at hb
   obtain ⟨⟨rfl,rfl⟩,h3⟩:=hb
   have e1:len=List.length (α:=Pt) l:=by
    unfold CB at h3
    simp only [Bool.and_eq_true,decide_eq_true_eq] at h3
    exact h3.2.1
   subst e1
   have hl:=Sf (w:=w) (d:=d) (h:=h) h3
   cases hq:gC (fun i=>lZ (af w d h ln fun j=>xs.getD (off+j) false).solid ⟨ax,ay,az⟩ ⟨bx,b_y,bz⟩ l i.toNat) (List.length (α:=Pt) l) 0 with
   |true=>rw [hq,cond_true] at hr2;exact ⟨_,_,_,hr2,hl.1 hq⟩
   |false=>rw [hq,cond_false] at hr2;exact ⟨_,_,_,hr2,hl.2 hq⟩
 · cases hr
noncomputable def TC:jh:=⟨_,_,_,M3⟩
theorem AT (w d h:Int) (off ln:Nat) (xs:List Bool) (a b:V3):aH Z7 (aF [TC]) 300 134 Tryz.f134 0 [bB w d h (.slice 0 1 off ln none) .unk,.agg a.sv,.agg b.sv] [.vec true .bool xs]=
 bif am a.x then
 bif am a.y then
 bif am a.z then
 bif decide (off+ln≤xs.length) then
 bif am b.x then
 bif am b.y then
 bif am b.z then
 bif decide (off+ln≤xs.length) then
 bif
 bif (af w d h ln fun j=>xs.getD (off+j) false).solid (a.x/65536) (a.y/65536) (a.z/65536)==false then
 (af w d h ln fun j=>xs.getD (off+j) false).solid (b.x/65536) (b.y/65536) (b.z/65536)
 else true then
 some (SV.bool false,[])
 else
 bif qQ a.x b.x 2 [Pt.mk 0 1,Pt.mk 1 1] then
 bif qQ a.y b.y (bC a.x b.x [Pt.mk 0 1,Pt.mk 1 1]).length (bC a.x b.x [Pt.mk 0 1,Pt.mk 1 1]) then
 bif qQ a.z b.z (bC a.y b.y (bC a.x b.x [Pt.mk 0 1,Pt.mk 1 1])).length (bC a.y b.y (bC a.x b.x [Pt.mk 0 1,Pt.mk 1 1])) then
 bif
 CB off ln xs a b (bC a.z b.z (bC a.y b.y (bC a.x b.x [Pt.mk 0 1,Pt.mk 1 1])))
 (bC a.z b.z (bC a.y b.y (bC a.x b.x [Pt.mk 0 1,Pt.mk 1 1]))).length then
 bif
 gC (fun i=>lZ (af w d h ln fun j=>xs.getD (off+j) false).solid a b (bC a.z b.z (bC a.y b.y (bC a.x b.x [Pt.mk 0 1,Pt.mk 1 1]))) i.toNat)
 (bC a.z b.z (bC a.y b.y (bC a.x b.x [Pt.mk 0 1,Pt.mk 1 1]))).length 0 then
 some (SV.bool false,[])
 else some (SV.bool true,[])
 else none
 else none
 else none
 else none
 else none
 else none
 else none
 else none
 else none
 else none
 else none
 else none:=by kernel_rfl
theorem qg {a p q:Int} (hq:0<q):aO a a p q=a/65536:=by
 unfold aO
 rw [show a*q+(a - a)*p=a*q by grind,Int.mul_comm q]
 exact Int.mul_ediv_mul_of_pos_left a 65536 hq
theorem o4 {a b p q k:Int} (hk:0<k):aO a b (p*k) (q*k)=aO a b p q:=by
 unfold aO
 rw [show a*(q*k)+(b - a)*(p*k)=(a*q+(b - a)*p)*k by grind,show q*k*65536=q*65536*k by grind]
 exact Int.mul_ediv_mul_of_pos_left _ _ hk
theorem Ik {a b p q m:Int} (hp:0≤p) (hpq:p≤q) (hq:0<q) (ha:m≤a) (hb:m≤b):m/65536≤aO a b p q:=by
 have hq6:0<q*65536:=by omega
 unfold aO
 rw [Int.le_ediv_iff_mul_le hq6]
 have h1:a*q+(b - a)*p=a*(q - p)+b*p:=by grind
 rw [h1]
 have h2:=Int.mul_le_mul_of_nonneg_right ha (show 0≤q - p by omega)
 have h3:=Int.mul_le_mul_of_nonneg_right hb hp
 have h4:m/65536*65536≤m:=by omega
 have h5:=Int.mul_le_mul_of_nonneg_right h4 (Int.le_of_lt hq)
 grind
def Lt (s t:Pt):Prop:=s.p*t.q<t.p*s.q
theorem sY {s t:Pt} (hs:fj s=true) (ht:fj t=true):0≤s.p*t.q∧s.p*t.q≤2097152*2097152:=by
 obtain ⟨⟨h1,h2⟩,h3,h4⟩:=eA.1 hs
 obtain ⟨⟨k1,k2⟩,k3,k4⟩:=eA.1 ht
 exact ⟨Int.mul_nonneg h1 (by omega),Int.mul_le_mul (by omega) k4 (by omega) (by omega)⟩
theorem rk {s t:Pt} (hs:fj s=true) (ht:fj t=true):vT s t=true↔Lt s t:=by
 have h1:=sY hs ht
 have h2:=sY ht hs
 unfold vT Lt
 rw [IntWalk.i64_in (s.p*t.q) (by omega),IntWalk.i64_in (t.p*s.q) (by omega),decide_eq_true_eq]
theorem me {s t u:Pt} (hs:0<s.q) (ht:0<t.q) (hu:0<u.q) (h1:Lt s t) (h2:Lt t u):Lt s u:=by
 unfold Lt at*
 have k1:=Int.mul_lt_mul_of_pos_right h1 hu
 have k2:=Int.mul_lt_mul_of_pos_right h2 hs
 have e1:s.p*t.q*u.q=(s.p*u.q)*t.q:=by grind
 have e2:t.p*s.q*u.q=t.p*u.q*s.q:=by grind
 have e3:u.p*t.q*s.q=(u.p*s.q)*t.q:=by grind
 rw [e1,e2] at k1
 rw [e3] at k2
 exact Int.lt_of_mul_lt_mul_right (Int.lt_trans k1 k2) (Int.le_of_lt ht)
theorem wY {s t u:Pt} (hs:0<s.q) (ht:0<t.q) (hu:0<u.q) (h1:s.p*t.q≤t.p*s.q) (h2:Lt t u):Lt s u:=by
 unfold Lt at*
 have k1:=Int.mul_le_mul_of_nonneg_right h1 (Int.le_of_lt hu)
 have k2:=Int.mul_lt_mul_of_pos_right h2 hs
 have e1:s.p*t.q*u.q=(s.p*u.q)*t.q:=by grind
 have e2:t.p*s.q*u.q=t.p*u.q*s.q:=by grind
 have e3:u.p*t.q*s.q=(u.p*s.q)*t.q:=by grind
 rw [e1,e2] at k1
 rw [e3] at k2
 exact Int.lt_of_mul_lt_mul_right (Int.lt_of_le_of_lt k1 k2) (Int.le_of_lt ht)
theorem yl {s t u:Pt} (hs:0<s.q) (ht:0<t.q) (hu:0<u.q) (h1:Lt s t) (h2:t.p*u.q≤u.p*t.q):Lt s u:=by
 unfold Lt at*
 have k1:=Int.mul_lt_mul_of_pos_right h1 hu
 have k2:=Int.mul_le_mul_of_nonneg_right h2 (Int.le_of_lt hs)
 have e1:s.p*t.q*u.q=(s.p*u.q)*t.q:=by grind
 have e2:t.p*s.q*u.q=t.p*u.q*s.q:=by grind
 have e3:u.p*t.q*s.q=(u.p*s.q)*t.q:=by grind
 rw [e1,e2] at k1
 rw [e3] at k2
 exact Int.lt_of_mul_lt_mul_right (Int.lt_of_lt_of_le k1 k2) (Int.le_of_lt ht)
theorem Gx {xs:List Pt} {x:Pt}:∀(n i j:Nat),i≤j→j<br xs x n i→vT (xs.getD (0+j) aA.pt.dflt) x=true
 |0,i,j,h1,h2=>by unfold br at h2;omega
 | n +1,i,j,h1,h2=>by
  unfold br at h2
  cases hc:vT (xs.getD (0+i) aA.pt.dflt) x with
  |false=>rw [hc] at h2;simp only [cond_false] at h2;omega
  | true=>
   rw [hc] at h2
   simp only [cond_true] at h2
   rcases Nat.lt_or_ge i j with h |h
   · exact Gx n (i+1) j (by omega) h2
   · obtain rfl:i=j:=by omega
     exact hc
theorem yE {xs:List Pt} {x:Pt}:∀(n i:Nat),br xs x n i<i+n→vT (xs.getD (0+br xs x n i) aA.pt.dflt) x=false
 |0,i,h=>by unfold br at h;omega
 | n+1,i,h=>by
  unfold br at h ⊢
  cases hc:vT (xs.getD (0+i) aA.pt.dflt) x with
  |false=>simp only [cond_false];exact hc
  |true=>
   rw [hc] at h
   simp only [cond_true] at h ⊢
   exact yE n (i+1) (by omega)
structure Gd (l:List Pt):Prop where
 ok:∀t∈l,fj t=true
 srt:l.Pairwise Lt
 hd:Hd l
 one:∃t∈l,t.p=t.q
def Rr (l:List Pt) (v:Pt):Prop:=∃t∈l,t.p*v.q=v.p*t.q
theorem w9 {xs:List Pt} {x t:Pt} (h:t∈xs):t∈bX xs x:=by
 unfold bX
 cases dr xs x with
 |true=>exact h
 |false=>
  simp only [cond_false]
  rw [←List.take_append_drop (br xs x xs.length 0) xs] at h
  rcases List.mem_append.1 h with h |h
  · exact List.mem_append_left _ h
  · exact List.mem_append_right _ (List.mem_cons_of_mem _ h)
theorem sa {xs:List Pt} {i:Nat} (h:i<xs.length):xs.getD (0+i) aA.pt.dflt∈xs:=by
 show xs.getD (0+i) (⟨0,0⟩:Pt)∈xs
 rw [Nat.zero_add,List.getD_eq_getElem?_getD,List.getElem?_eq_getElem h]
 exact List.getElem_mem _
theorem jP {t:Pt} (h:fj t=true):0<t.q:=(eA.1 h).2.1
theorem OH {xs:List Pt} {x:Pt} (h:Gd xs) (hx:fj x=true):Gd (bX xs x)∧Rr (bX xs x) x:=by
 have hxp:=eA.1 hx
 have hh:=om h.hd (x:=x) hxp.1.1 (by omega)
 have hle:=(ml (xs:=xs) (x:=x) xs.length 0).2
 cases hf:dr xs x with
 |true=>
  have hw:bX xs x=xs:=by unfold bX;rw [hf];rfl
  rw [hw]
  refine ⟨h,?_⟩
  unfold dr at hf
  rw [Bool.and_eq_true,decide_eq_true_eq,Bool.not_eq_true'] at hf
  have hm:=sa hf.1
  have h1:=yE (xs:=xs) (x:=x) xs.length 0 (by omega)
  have h2:vT x (xs.getD (0+br xs x xs.length 0) aA.pt.dflt)=false:=by rw [Nat.zero_add];exact hf.2
  generalize xs.getD (0+br xs x xs.length 0) aA.pt.dflt=y at hm h1 h2
  have hy:=h.ok y hm
  refine ⟨y,hm,?_⟩
  have k1: ¬ Lt y x:=fun hl=>by rw [(rk hy hx).2 hl] at h1;cases h1
  have k2: ¬ Lt x y:=fun hl=>by rw [(rk hx hy).2 hl] at h2;cases h2
  unfold Lt at k1 k2
  omega
 | false=>
  have hw:bX xs x=xs.take (br xs x xs.length 0)++x::xs.drop (br xs x xs.length 0):=by unfold bX;rw [hf];rfl
  have hsub:∀t∈xs,t∈bX xs x:=fun t ht=>w9 ht
  refine ⟨⟨fun t ht=>?_,?_,hh.1,?_⟩,x,by rw [hw];exact List.mem_append_right _ (List.mem_cons_self ..),rfl⟩
  · rw [hw] at ht
    rcases List.mem_append.1 ht with ht |ht
    · exact h.ok t (List.mem_of_mem_take ht)
    · rcases List.mem_cons.1 ht with rfl |ht
      · exact hx
      · exact h.ok t (List.mem_of_mem_drop ht)
  · rw [hw,List.pairwise_append]
    have hlow:∀t∈xs.take (br xs x xs.length 0),Lt t x:=by
     intro t ht
     obtain ⟨j,hj,rfl⟩:=List.getElem_of_mem ht
     rw [List.length_take] at hj
     have:=Gx (xs:=xs) (x:=x) xs.length 0 j (by omega) (by omega)
     have hm:=sa (xs:=xs) (i:=j) (by omega)
     have e:xs.getD (0+j) aA.pt.dflt=(xs.take (br xs x xs.length 0))[j]'(by rw [List.length_take];exact hj):=by
      show xs.getD (0+j) (⟨0,0⟩:Pt)=_
      rw [Nat.zero_add,List.getD_eq_getElem?_getD,List.getElem?_eq_getElem (by omega),List.getElem_take]
      rfl
     rw [e] at this hm
     exact (rk (h.ok _ hm) hx).1 this
    have hhigh:∀t∈xs.drop (br xs x xs.length 0),Lt x t:=by
     intro t ht
     have hlt:br xs x xs.length 0<xs.length:=by
      rcases Nat.lt_or_ge (br xs x xs.length 0) xs.length with hh |hh
      · exact hh
      · rw [List.drop_eq_nil_of_le hh] at ht;cases ht
     have hm:=sa hlt
     have h2:vT x (xs.getD (0+br xs x xs.length 0) aA.pt.dflt)=true:=by
      unfold dr at hf
      rw [decide_eq_true hlt,Bool.true_and,Bool.not_eq_false'] at hf
      rw [Nat.zero_add]
      exact hf
     have h3:=(rk hx (h.ok _ hm)).1 h2
     have e:xs.getD (0+br xs x xs.length 0) aA.pt.dflt=xs[br xs x xs.length 0]:=by
      show xs.getD (0+br xs x xs.length 0) (⟨0,0⟩:Pt)=_
      rw [Nat.zero_add,List.getD_eq_getElem?_getD,List.getElem?_eq_getElem hlt]
      rfl
     rw [e] at h3 hm
     rw [List.drop_eq_getElem_cons hlt] at ht
     rcases List.mem_cons.1 ht with rfl |ht
     · exact h3
     · have hs:(xs.drop (br xs x xs.length 0)).Pairwise Lt:=h.srt.sublist (List.drop_sublist ..)
       rw [List.drop_eq_getElem_cons hlt,List.pairwise_cons] at hs
       exact me (jP hx) (jP (h.ok _ hm)) (jP (h.ok t (List.mem_of_mem_drop ht))) h3 (hs.1 t ht)
    refine ⟨h.srt.sublist (List.take_sublist ..),?_,?_⟩
    · rw [List.pairwise_cons]
      exact ⟨hhigh,h.srt.sublist (List.drop_sublist ..)⟩
    · intro s hs t ht
      rcases List.mem_cons.1 ht with rfl |ht
      · exact hlow s hs
      · exact me (jP (h.ok s (List.mem_of_mem_take hs))) (jP hx) (jP (h.ok t (List.mem_of_mem_drop ht))) (hlow s hs) (hhigh t ht)
  · obtain ⟨t,ht,he⟩:=h.one
    exact ⟨t,hsub t ht,he⟩
theorem WK {a b k:Int} (ha:0≤a∧a<2097152) (hb:0≤b∧b<2097152) (hne:a≠b) (hk:fk a b k=true):fj (mS a b k)=true:=by
 unfold fk at hk
 simp only [Bool.and_eq_true,decide_eq_true_eq] at hk
 rw [eA]
 refine ⟨hk,?_⟩
 unfold mS at hk ⊢
 by_cases hlt:b<a
 · rw [decide_eq_true hlt];simp only [cond_true];omega
 · rw [decide_eq_false hlt];simp only [cond_false];omega
theorem wL {a b:Int} (ha:0≤a∧a<2097152) (hb:0≤b∧b<2097152) (hne:a≠b):∀(n:Nat) (k:Int) (xs:List Pt),Gd xs→
    Gd (j3 a b n k xs)∧(∀t∈xs,t∈j3 a b n k xs)∧∀j,k≤j→j<k+n→fk a b j=true→Rr (j3 a b n k xs) (mS a b j)
 |0,k,xs,h=>⟨h,fun _ h=>h,fun j h1 h2=>by omega⟩
 | n +1,k,xs,h=>by
  unfold j3
  cases hc:fk a b k with
  |false=>
   simp only [cond_false]
   obtain ⟨g1,g2,g3⟩:=wL ha hb hne n (k+1) xs h
   refine ⟨g1,g2,fun j h1 h2 h3=>?_⟩
   rcases Int.lt_or_eq_of_le h1 with h4 |h4
   · exact g3 j (by omega) (by omega) h3
   · subst h4;rw [hc] at h3;cases h3
  | true=>
   simp only [cond_true]
   obtain ⟨w1,w2⟩:=OH h (WK ha hb hne hc)
   obtain ⟨g1,g2,g3⟩:=wL ha hb hne n (k+1) _ w1
   refine ⟨g1,fun t ht=>g2 t (w9 ht),fun j h1 h2 h3=>?_⟩
   rcases Int.lt_or_eq_of_le h1 with h4 |h4
   · exact g3 j (by omega) (by omega) h3
   · subst h4
     obtain ⟨t,ht,he⟩:=w2
     exact ⟨t,g2 t ht,he⟩
theorem li {a b:Int} {xs:List Pt} (ha:0≤a∧a<2097152) (hb:0≤b∧b<2097152) (h:Gd xs):
    Gd (bC a b xs)∧(∀t∈xs,t∈bC a b xs)∧(a≠b→∀j,0≤j→j<33→fk a b j=true→Rr (bC a b xs) (mS a b j))∧(bC a b xs).length≤xs.length+33:=by
 unfold bC
 by_cases hne:a=b
 · rw [show (a !=b)=false by simpa using hne]
   exact ⟨h,fun _ h=>h,fun hn=>absurd hne hn,by simp only [cond_false];omega⟩
 · rw [show (a !=b)=true by simpa using hne]
   simp only [cond_true]
   obtain ⟨g1,g2,g3⟩:=wL ha hb hne 33 0 xs h
   exact ⟨g1,g2,fun _ j h1 h2 h3=>g3 j h1 (by omega) h3,(x7 ha hb 33 0 xs (by omega) (by omega) h.hd).2⟩
theorem Cu:Gd [⟨0,1⟩,⟨1,1⟩] where
 ok:=by
  intro t ht
  simp only [List.mem_cons,List.not_mem_nil,or_false] at ht
  rcases ht with rfl |rfl<;>rfl
 srt:=by
  simp only [List.pairwise_cons,List.mem_cons,List.not_mem_nil,or_false,forall_eq,List.Pairwise.nil,and_true]
  refine ⟨?_,fun _ h=>by cases h⟩
  show (0:Int)*1<1*1
  decide
 hd:=rfl
 one:=⟨⟨1,1⟩,by simp,rfl⟩
def bi (a b:V3):List Pt:=bC a.z b.z (bC a.y b.y (bC a.x b.x [⟨0,1⟩,⟨1,1⟩]))
def Hf (a:V3):Prop:=(0≤a.x∧a.x<2097152)∧(0≤a.y∧a.y<2097152)∧(0≤a.z∧a.z<2097152)
theorem sj {l m:List Pt} {v:Pt} (h:Rr l v) (hs:∀t∈l,t∈m):Rr m v:=by
 obtain ⟨t,ht,he⟩:=h
 exact ⟨t,hs t ht,he⟩
theorem Ah {a b:V3} (ha:Hf a) (hb:Hf b):Gd (bi a b)∧(bi a b).length≤101∧
    (a.x≠b.x→∀j,0≤j→j<33→fk a.x b.x j=true→Rr (bi a b) (mS a.x b.x j))∧
    (a.y≠b.y→∀j,0≤j→j<33→fk a.y b.y j=true→Rr (bi a b) (mS a.y b.y j))∧
    (a.z≠b.z→∀j,0≤j→j<33→fk a.z b.z j=true→Rr (bi a b) (mS a.z b.z j)):=by
 obtain ⟨x1,x2,x3,x4⟩:=li ha.1 hb.1 Cu
 obtain ⟨y1,y2,y3,y4⟩:=li ha.2.1 hb.2.1 x1
 obtain ⟨z1,z2,z3,z4⟩:=li ha.2.2 hb.2.2 y1
 have e2:([⟨0,1⟩,⟨1,1⟩]:List Pt).length=2:=rfl
 refine ⟨z1,by unfold bi;omega,fun hn j h1 h2 h3=>?_,fun hn j h1 h2 h3=>?_,fun hn j h1 h2 h3=>z3 hn j h1 h2 h3⟩
 · exact sj (sj (x3 hn j h1 h2 h3) y2) z2
 · exact sj (y3 hn j h1 h2 h3) z2
theorem Y3 {P:Nat→Prop}:∀(n:Nat),P n→∃m,P m∧m≤n∧∀j,j<m→ ¬ P j
 |0,h=>⟨0,h,Nat.le_refl _,fun j hj=>by omega⟩
 | n+1,h=>by
  rcases Classical.em (∃k,k≤n∧P k) with ⟨k,hk,hP⟩|hn
  · obtain ⟨m,h1,h2,h3⟩:=least_le k hP
    exact ⟨m,h1,by omega,h3⟩
  · exact ⟨n+1,h,Nat.le_refl _,fun j hj hP=>hn ⟨j,by omega,hP⟩⟩
where
 least_le {P:Nat→Prop} (k:Nat) (h:P k):∃m,P m∧m≤k∧∀j,j<m→ ¬ P j:=by
  induction k using Nat.strongRecOn with
  | ind k ih=>
   rcases Classical.em (∃j,j<k∧P j) with ⟨j,hj,hP⟩|hn
   · obtain ⟨m,h1,h2,h3⟩:=ih j hj hP
     exact ⟨m,h1,by omega,h3⟩
   · exact ⟨k,h,Nat.le_refl _,fun j hj hP=>hn ⟨j,hj,hP⟩⟩
section
variable {l:List Pt}
def fM (l:List Pt) (i:Nat):Pt:=l.getD (0+i) aA.pt.dflt
theorem pM {i:Nat} (h:i<l.length):fM l i=l[i]:=by
 unfold fM
 show l.getD (0+i) (⟨0,0⟩:Pt)=_
 rw [Nat.zero_add,List.getD_eq_getElem?_getD,List.getElem?_eq_getElem h]
 rfl
theorem ko {i:Nat} (h:i<l.length):fM l i∈l:=by rw [pM h];exact List.getElem_mem _
theorem BV (hs:l.Pairwise Lt) {i j:Nat} (hij:i<j) (hj:j<l.length):Lt (fM l i) (fM l j):=by
 rw [pM (by omega),pM hj]
 exact List.pairwise_iff_getElem.1 hs i j (by omega) hj hij
theorem km {t:Pt}: ¬ Lt t t:=fun h=>by unfold Lt at h;omega
theorem PE (h:Gd l) {p q:Int} (hp:0≤p) (hpq:p≤q) (hq:0<q):
    ∃i,i<l.length∧((fM l i).p*q=p*(fM l i).q∨(0<i∧Lt (fM l (i - 1)) ⟨p,q⟩∧Lt ⟨p,q⟩ (fM l i))):=by
 obtain ⟨t,ht,he⟩:=h.one
 obtain ⟨n,hn,rfl⟩:=List.getElem_of_mem ht
 have htq:=jP (h.ok _ ht)
 obtain ⟨m,h1,h2,h3⟩:=Y3 (P:=fun i=>i<l.length∧p*(fM l i).q≤(fM l i).p*q) n ⟨hn,by
  rw [pM hn,he,Int.mul_comm l[n].q q]
  exact Int.mul_le_mul_of_nonneg_right hpq (by omega)⟩
 refine ⟨m,h1.1,?_⟩
 by_cases heq:(fM l m).p*q=p*(fM l m).q
 · exact .inl heq
 · right
   have hlt:Lt ⟨p,q⟩ (fM l m):=by
    show p*(fM l m).q<(fM l m).p*q
    have:=h1.2
    omega
   have hm:0<m:=by
    rcases Nat.eq_zero_or_pos m with h0 |h0
    · subst h0
      have e0:fM l 0=⟨0,1⟩:=by
       rw [pM h1.1]
       have:=h.hd
       unfold Hd at this
       rw [List.getElem?_eq_getElem h1.1] at this
       exact Option.some.inj this
      have:=h1.2
      rw [e0] at this heq
      simp only at this heq
      omega
    · exact h0
   refine ⟨hm,?_,hlt⟩
   have:=h3 (m - 1) (by omega)
   show (fM l (m - 1)).p*q<p*(fM l (m - 1)).q
   rcases Int.lt_or_le ((fM l (m - 1)).p*q) (p*(fM l (m - 1)).q) with hh |hh
   · exact hh
   · exact absurd ⟨by omega,hh⟩ this
theorem D3 (h:Gd l) {i:Nat} (hi:i<l.length) (h0:0<i) {y:Pt} (hy:y∈l) (h1:Lt (fM l (i - 1)) y) (h2:Lt y (fM l i)):False:=by
 obtain ⟨j,hj,rfl⟩:=List.getElem_of_mem hy
 rw [←pM hj] at h1 h2 hy
 have p1:=jP (h.ok _ (ko (l:=l) (i:=i - 1) (by omega)))
 have p2:=jP (h.ok _ (ko hi))
 have p3:=jP (h.ok _ hy)
 rcases Nat.lt_trichotomy j (i - 1) with hh |hh |hh
 · exact km (me p1 p3 p1 h1 (BV h.srt hh (by omega)))
 · subst hh;exact km h1
 · rcases Nat.lt_or_ge j i with hk |hk
   · omega
   · rcases Nat.lt_or_eq_of_le hk with hk |hk
     · exact km (me p3 p2 p3 h2 (BV h.srt hk hj))
     · subst hk;exact km h2
theorem Si {a b:Int} {s u:Pt} (hs:0<s.q) (hu:0<u.q) (hab:a≤b) (h:Lt s u):aO a b s.p s.q≤aO a b u.p u.q:=by
 unfold aO
 have hu6:0<u.q*65536:=by omega
 have hs6:0<s.q*65536:=by omega
 rw [Int.le_ediv_iff_mul_le hu6]
 have e:=Int.ediv_mul_le (a*s.q+(b - a)*s.p) (show s.q*65536≠0 by omega)
 generalize (a*s.q+(b - a)*s.p)/(s.q*65536)=c at e ⊢
 have k1:=Int.mul_le_mul_of_nonneg_right e (Int.le_of_lt hu)
 have k2:=Int.mul_le_mul_of_nonneg_left (Int.le_of_lt h) (show 0≤b - a by omega)
 have e1:c*(s.q*65536)*u.q=(c*(u.q*65536))*s.q:=by grind
 have e2:(a*s.q+(b - a)*s.p)*u.q=a*u.q*s.q+(b - a)*(s.p*u.q):=by grind
 have e3:(a*u.q+(b - a)*u.p)*s.q=a*u.q*s.q+(b - a)*(u.p*s.q):=by grind
 rw [e1,e2] at k1
 exact Int.le_of_mul_le_mul_right (by rw [e3];omega) hs
theorem RJ {a b:Int} {s u:Pt} (hs:0<s.q) (hu:0<u.q) (hab:b≤a) (h:Lt u s):aO a b s.p s.q≤aO a b u.p u.q:=by
 unfold aO
 have hu6:0<u.q*65536:=by omega
 rw [Int.le_ediv_iff_mul_le hu6]
 have e:=Int.ediv_mul_le (a*s.q+(b - a)*s.p) (show s.q*65536≠0 by omega)
 generalize (a*s.q+(b - a)*s.p)/(s.q*65536)=c at e ⊢
 have k1:=Int.mul_le_mul_of_nonneg_right e (Int.le_of_lt hu)
 have k2:=Int.mul_le_mul_of_nonneg_left (Int.le_of_lt h) (show 0≤a - b by omega)
 have e1:c*(s.q*65536)*u.q=(c*(u.q*65536))*s.q:=by grind
 have e2:(a*s.q+(b - a)*s.p)*u.q=a*u.q*s.q - (a - b)*(s.p*u.q):=by grind
 have e3:(a*u.q+(b - a)*u.p)*s.q=a*u.q*s.q - (a - b)*(u.p*s.q):=by grind
 rw [e1,e2] at k1
 exact Int.le_of_mul_le_mul_right (by rw [e3];omega) hs
theorem rQ (h:Gd l) {i:Nat} (hi:i<l.length) (h0:0<i) {a b:Int} (ha:0≤a∧a<2097152) (hb:0≤b∧b<2097152) (hc:a≠b→∀j,0≤j→j<33→fk a b j=true→Rr l (mS a b j))
    {u:Pt} (hup:0≤u.p) (hupq:u.p≤u.q) (hu:0<u.q) (h1:Lt (fM l (i - 1)) u) (h2:Lt u (fM l i)):jo a b (fM l (i - 1)) (fM l i)=aO a b u.p u.q:=by
 have ps:=eA.1 (h.ok _ (ko (l:=l) (i:=i - 1) (by omega)))
 have pt:=eA.1 (h.ok _ (ko hi))
 generalize hS:fM l (i - 1)=s at h1 ps ⊢
 generalize hT:fM l i=t at h2 pt ⊢
 have hin:∀{y:Pt},y∈l→Lt s y→Lt y t→False:=fun hy k1 k2=>D3 h hi h0 hy (by rw [hS];exact k1) (by rw [hT];exact k2)
 have hrange:0≤aO a b u.p u.q∧aO a b u.p u.q≤31:=by
  have g1:=Ik (m:=0) hup hupq hu ha.1 hb.1
  have g2:aO a b u.p u.q<32:=by
   unfold aO
   rw [Int.ediv_lt_iff_lt_mul (by omega)]
   have e:a*u.q+(b - a)*u.p=a*(u.q - u.p)+b*u.p:=by grind
   rw [e]
   have k1:=Int.mul_le_mul_of_nonneg_right (show a≤2097151 by omega) (show 0≤u.q - u.p by omega)
   have k2:=Int.mul_le_mul_of_nonneg_right (show b≤2097151 by omega) hup
   omega
  omega
 unfold jo
 by_cases hlt:b<a
 · rw [decide_eq_true hlt]
   simp only [cond_true]
   refine Int.le_antisymm (RJ pt.2.1 hu (by omega) h2) ?_
   rcases Int.lt_or_le (aO a b t.p t.q) (aO a b u.p u.q) with hh |hh
   · exfalso
     generalize hk:aO a b u.p u.q=k at hh hrange
     have x1:k*65536*u.q≤a*u.q - (a - b)*u.p:=by
      have:=Int.ediv_mul_le (a*u.q+(b - a)*u.p) (show u.q*65536≠0 by omega)
      rw [show (a*u.q+(b - a)*u.p)/(u.q*65536)=k from hk] at this
      have e1:k*(u.q*65536)=k*65536*u.q:=by grind
      have e2:a*u.q+(b - a)*u.p=a*u.q - (a - b)*u.p:=by grind
      rw [e1,e2] at this
      exact this
     have x2:a*t.q - (a - b)*t.p<k*65536*t.q:=by
      unfold aO at hh
      rw [Int.ediv_lt_iff_lt_mul (by omega)] at hh
      have e1:k*(t.q*65536)=k*65536*t.q:=by grind
      have e2:a*t.q+(b - a)*t.p=a*t.q - (a - b)*t.p:=by grind
      rw [e1,e2] at hh
      exact hh
     have y1:(a - b)*u.p≤(a - k*65536)*u.q:=by rw [Int.sub_mul a (k*65536) u.q];omega
     have y2:(a - k*65536)*t.q<(a - b)*t.p:=by rw [Int.sub_mul a (k*65536) t.q];omega
     have z1:0≤a - k*65536:=by
      rcases Int.lt_or_le (a - k*65536) 0 with hn |hn
      · have k1:=Int.mul_lt_mul_of_pos_right hn hu
        rw [Int.zero_mul] at k1
        have k2:=Int.mul_nonneg (show 0≤a - b by omega) hup
        omega
      · exact hn
     have z2:a - k*65536≤a - b:=by
      rcases Int.lt_or_le (a - b) (a - k*65536) with hn |hn
      · have k1:=Int.mul_lt_mul_of_pos_right hn pt.2.1
        have k2:=Int.mul_le_mul_of_nonneg_left pt.1.2 (show 0≤a - b by omega)
        omega
      · exact hn
     have hcr:mS a b k=⟨a - k*65536,a - b⟩:=by unfold mS;rw [decide_eq_true hlt];rfl
     have hi2:fk a b k=true:=by unfold fk;rw [hcr,decide_eq_true z1,decide_eq_true z2];rfl
     obtain ⟨y,hy,he⟩:=hc (by omega) k (by omega) (by omega) hi2
     rw [hcr] at he
     simp only at he
     have hyq:=jP (h.ok y hy)
     have w1:u.p*y.q≤y.p*u.q:=by
      have k1:=Int.mul_le_mul_of_nonneg_right y1 (Int.le_of_lt hyq)
      have e1:(a - b)*u.p*y.q=(u.p*y.q)*(a - b):=by grind
      have e2:(a - k*65536)*u.q*y.q=(y.p*u.q)*(a - b):=by
       rw [show (a - k*65536)*u.q*y.q=((a - k*65536)*y.q)*u.q by grind,←he];grind
      rw [e1,e2] at k1
      exact Int.le_of_mul_le_mul_right k1 (by omega)
     have w2:Lt y t:=by
      have k1:=Int.mul_lt_mul_of_pos_right y2 hyq
      have e1:(a - k*65536)*t.q*y.q=(y.p*t.q)*(a - b):=by
       rw [show (a - k*65536)*t.q*y.q=((a - k*65536)*y.q)*t.q by grind,←he];grind
      have e2:(a - b)*t.p*y.q=(t.p*y.q)*(a - b):=by grind
      rw [e1,e2] at k1
      exact Int.lt_of_mul_lt_mul_right k1 (by omega)
     exact hin hy (yl ps.2.1 hu hyq h1 w1) w2
   · exact hh
 · rw [decide_eq_false hlt]
   simp only [cond_false]
   by_cases heq:a=b
   · subst heq
     rw [qg ps.2.1,qg hu]
   · refine Int.le_antisymm (Si ps.2.1 hu (by omega) h1) ?_
     rcases Int.lt_or_le (aO a b s.p s.q) (aO a b u.p u.q) with hh |hh
     · exfalso
       generalize hk:aO a b u.p u.q=k at hh hrange
       have x1:k*65536*u.q≤a*u.q+(b - a)*u.p:=by
        have:=Int.ediv_mul_le (a*u.q+(b - a)*u.p) (show u.q*65536≠0 by omega)
        rw [show (a*u.q+(b - a)*u.p)/(u.q*65536)=k from hk] at this
        have e1:k*(u.q*65536)=k*65536*u.q:=by grind
        rw [e1] at this
        exact this
       have x2:a*s.q+(b - a)*s.p<k*65536*s.q:=by
        unfold aO at hh
        rw [Int.ediv_lt_iff_lt_mul (by omega)] at hh
        have e1:k*(s.q*65536)=k*65536*s.q:=by grind
        rw [e1] at hh
        exact hh
       have y1:(k*65536 - a)*u.q≤(b - a)*u.p:=by rw [Int.sub_mul (k*65536) a u.q];omega
       have y2:(b - a)*s.p<(k*65536 - a)*s.q:=by rw [Int.sub_mul (k*65536) a s.q];omega
       have z1:0≤k*65536 - a:=by
        rcases Int.lt_or_le (k*65536 - a) 0 with hn |hn
        · have k1:=Int.mul_lt_mul_of_pos_right hn ps.2.1
          rw [Int.zero_mul] at k1
          have k2:=Int.mul_nonneg (show 0≤b - a by omega) ps.1.1
          omega
        · exact hn
       have z2:k*65536 - a≤b - a:=by
        rcases Int.lt_or_le (b - a) (k*65536 - a) with hn |hn
        · have k1:=Int.mul_lt_mul_of_pos_right hn hu
          have k2:=Int.mul_le_mul_of_nonneg_left hupq (show 0≤b - a by omega)
          omega
        · exact hn
       have hcr:mS a b k=⟨k*65536 - a,b - a⟩:=by unfold mS;rw [decide_eq_false hlt];rfl
       have hi2:fk a b k=true:=by unfold fk;rw [hcr,decide_eq_true z1,decide_eq_true z2];rfl
       obtain ⟨y,hy,he⟩:=hc heq k (by omega) (by omega) hi2
       rw [hcr] at he
       simp only at he
       have hyq:=jP (h.ok y hy)
       have w1:y.p*u.q≤u.p*y.q:=by
        have k1:=Int.mul_le_mul_of_nonneg_right y1 (Int.le_of_lt hyq)
        have e1:(b - a)*u.p*y.q=(u.p*y.q)*(b - a):=by grind
        have e2:(k*65536 - a)*u.q*y.q=(y.p*u.q)*(b - a):=by
         rw [show (k*65536 - a)*u.q*y.q=((k*65536 - a)*y.q)*u.q by grind,←he];grind
        rw [e1,e2] at k1
        exact Int.le_of_mul_le_mul_right k1 (by omega)
       have w2:Lt s y:=by
        have k1:=Int.mul_lt_mul_of_pos_right y2 hyq
        have e1:(k*65536 - a)*s.q*y.q=(y.p*s.q)*(b - a):=by
         rw [show (k*65536 - a)*s.q*y.q=((k*65536 - a)*y.q)*s.q by grind,←he];grind
        have e2:(b - a)*s.p*y.q=(s.p*y.q)*(b - a):=by grind
        rw [e1,e2] at k1
        exact Int.lt_of_mul_lt_mul_right k1 (by omega)
       exact hin hy w2 (wY hyq hu pt.2.1 w1 h2)
     · exact hh
theorem pb {a b p q:Int} {t:Pt} (ht:0<t.q) (hq:0<q) (h:t.p*q=p*t.q):aO a b t.p t.q=aO a b p q:=by
 rw [←o4 (a:=a) (b:=b) (p:=t.p) (q:=t.q) hq,←o4 (a:=a) (b:=b) (p:=p) (q:=q) ht,h,Int.mul_comm t.q q]
end
theorem I2 {F:Int→Int→Int→Bool} {a b:V3} (ha:Hf a) (hb:Hf b):gC (fun i=>lZ F a b (bi a b) i.toNat) (bi a b).length 0=false↔∀p q,0≤p→p≤q→0<q→kz F a b p q:=by
 obtain ⟨hg,_,c1,c2,c3⟩:=Ah ha hb
 rw [←Bool.not_eq_true,ew]
 have key:∀{i:Nat},i<(bi a b).length→0<i→∀{u:Pt},0≤u.p→u.p≤u.q→0<u.q→Lt (fM (bi a b) (i - 1)) u→Lt u (fM (bi a b) i)→
     jo a.x b.x (fM (bi a b) (i - 1)) (fM (bi a b) i)=aO a.x b.x u.p u.q∧jo a.y b.y (fM (bi a b) (i - 1)) (fM (bi a b) i)=aO a.y b.y u.p u.q∧jo a.z b.z (fM (bi a b) (i - 1)) (fM (bi a b) i)=aO a.z b.z u.p u.q:=
  fun hi h0 _ k1 k2 k3 k4 k5=>⟨rQ hg hi h0 ha.1 hb.1 c1 k1 k2 k3 k4 k5,rQ hg hi h0 ha.2.1 hb.2.1 c2 k1 k2 k3 k4 k5,rQ hg hi h0 ha.2.2 hb.2.2 c3 k1 k2 k3 k4 k5⟩
 constructor
 · intro h p q hp hpq hq
   obtain ⟨i,hi,hb1 |⟨h0,hb2,hb3⟩⟩:=PE hg hp hpq hq
   · have htq:=jP (hg.ok _ (ko hi))
     unfold kz
     rw [←pb htq hq hb1,←pb htq hq hb1,←pb htq hq hb1,←Bool.not_eq_true]
     intro hF
     refine h ⟨(i:Int),by omega,by omega,?_⟩
     show lZ F a b (bi a b) ((i:Int)).toNat=true
     rw [show ((i:Int)).toNat=i by omega]
     unfold lZ
     rw [Bool.or_eq_true]
     exact .inl hF
   · obtain ⟨e1,e2,e3⟩:=key hi h0 (u:=⟨p,q⟩) hp hpq hq hb2 hb3
     unfold kz
     rw [←Bool.not_eq_true]
     intro hF
     refine h ⟨(i:Int),by omega,by omega,?_⟩
     show lZ F a b (bi a b) ((i:Int)).toNat=true
     rw [show ((i:Int)).toNat=i by omega]
     unfold lZ
     rw [Bool.or_eq_true]
     right
     rw [show ((i:Int)==0)=false by rw [beq_eq_false_iff_ne];omega]
     show F (jo a.x b.x (fM (bi a b) (i - 1)) (fM (bi a b) i)) (jo a.y b.y (fM (bi a b) (i - 1)) (fM (bi a b) i)) (jo a.z b.z (fM (bi a b) (i - 1)) (fM (bi a b) i))=true
     rw [e1,e2,e3]
     exact hF
 · rintro h ⟨j,j0,j1,hj⟩
   obtain ⟨i,rfl⟩:∃k:Nat,j=k:=⟨j.toNat,by omega⟩
   have hj:lZ F a b (bi a b) ((i:Int)).toNat=true:=hj
   rw [show ((i:Int)).toNat=i by omega] at hj
   have hi:i<(bi a b).length:=by omega
   have pt:=eA.1 (hg.ok _ (ko hi))
   unfold lZ at hj
   rw [Bool.or_eq_true,Bool.and_eq_true] at hj
   rcases hj with hj |⟨hz,hj⟩
   · have:=h (fM (bi a b) i).p (fM (bi a b) i).q pt.1.1 pt.1.2 pt.2.1
     unfold kz at this
     have hj':F (aO a.x b.x (fM (bi a b) i).p (fM (bi a b) i).q) (aO a.y b.y (fM (bi a b) i).p (fM (bi a b) i).q) (aO a.z b.z (fM (bi a b) i).p (fM (bi a b) i).q)=true:=hj
     rw [this] at hj'
     cases hj'
   · have h0:0<i:=by
      rcases Nat.eq_zero_or_pos i with h0 |h0
      · subst h0;cases hz
      · exact h0
     have ps:=eA.1 (hg.ok _ (ko (l:=bi a b) (i:=i - 1) (by omega)))
     have hst:=BV hg.srt (show i - 1<i by omega) hi
     have hj':F (jo a.x b.x (fM (bi a b) (i - 1)) (fM (bi a b) i)) (jo a.y b.y (fM (bi a b) (i - 1)) (fM (bi a b) i)) (jo a.z b.z (fM (bi a b) (i - 1)) (fM (bi a b) i))=true:=hj
     generalize hS:fM (bi a b) (i - 1)=s at ps hst hj'
     generalize hT:fM (bi a b) i=t at pt hst hj'
     have m1:=Int.mul_nonneg ps.1.1 (Int.le_of_lt pt.2.1)
     have m2:=Int.mul_nonneg pt.1.1 (Int.le_of_lt ps.2.1)
     have m3:=Int.mul_pos ps.2.1 pt.2.1
     have m4:=Int.mul_le_mul_of_nonneg_right ps.1.2 (Int.le_of_lt pt.2.1)
     have m5:=Int.mul_le_mul_of_nonneg_right pt.1.2 (Int.le_of_lt ps.2.1)
     rw [Int.mul_comm t.q s.q] at m5
     have hst':s.p*t.q<t.p*s.q:=hst
     have l1:Lt s ⟨s.p*t.q+t.p*s.q,2*(s.q*t.q)⟩:=by
      show s.p*(2*(s.q*t.q))<(s.p*t.q+t.p*s.q)*s.q
      have e1:s.p*(2*(s.q*t.q))=(2*(s.p*t.q))*s.q:=by grind
      rw [e1]
      exact Int.mul_lt_mul_of_pos_right (by omega) ps.2.1
     have l2:Lt ⟨s.p*t.q+t.p*s.q,2*(s.q*t.q)⟩ t:=by
      show (s.p*t.q+t.p*s.q)*t.q<t.p*(2*(s.q*t.q))
      have e1:t.p*(2*(s.q*t.q))=(2*(t.p*s.q))*t.q:=by grind
      rw [e1]
      exact Int.mul_lt_mul_of_pos_right (by omega) pt.2.1
     obtain ⟨e1,e2,e3⟩:=key hi h0 (u:=⟨s.p*t.q+t.p*s.q,2*(s.q*t.q)⟩) (by show 0≤s.p*t.q+t.p*s.q;omega) (by show s.p*t.q+t.p*s.q≤2*(s.q*t.q);omega) (by show 0<2*(s.q*t.q);omega) (by rw [hS];exact l1) (by rw [hT];exact l2)
     rw [hS,hT] at e1 e2 e3
     rw [e1,e2,e3] at hj'
     have:=h (s.p*t.q+t.p*s.q) (2*(s.q*t.q)) (by omega) (by omega) (by omega)
     unfold kz at this
     rw [this] at hj'
     cases hj'
theorem xX {a b:Int} {l:List Pt} (ha:0≤a∧a<2097152) (hb:0≤b∧b<2097152) (h:Gd l) (hl:l.length≤800):qQ a b l.length l=true:=by
 unfold qQ Zl
 rw [eG.2 ha,eG.2 hb,decide_eq_true rfl,decide_eq_true hl]
 have:=h.hd
 unfold Hd at this
 rw [decide_eq_true this]
 rfl
theorem Et {w d h:Int} {off ln:Nat} {xs:List Bool} {a b:V3} (ha:a.fits) (hb:b.fits) (hl:off+ln≤xs.length):
    aH Z7 (aF [TC]) 300 134 Tryz.f134 0 [bB w d h (.slice 0 1 off ln none) .unk,.agg a.sv,.agg b.sv] [.vec true .bool xs]=some (.bool ((af w d h ln fun j=>xs.getD (off+j) false).sight a b),[]):=by
 rw [AT,ap.2 ha.1,ap.2 ha.2.1,ap.2 ha.2.2,ap.2 hb.1,ap.2 hb.2.1,ap.2 hb.2.2,decide_eq_true hl]
 simp only [cond_true,cY]
 have hF:∀x y z,(af w d h ln fun j=>xs.getD (off+j) false).solid x y z=false→(0≤x∧x<32)∧(0≤y∧y<32)∧(0≤z∧z<32):=fun x y z hs=>lQ x y z hs
 unfold Mp.sight
 generalize (af w d h ln fun j=>xs.getD (off+j) false).solid=F at hF ⊢
 have hi:=Iv hF a b
 cases s1:F (a.x/65536) (a.y/65536) (a.z/65536) with
 |true=>unfold nc;rw [s1];rfl
 | false=>
  cases s2:F (b.x/65536) (b.y/65536) (b.z/65536) with
  |true=>unfold nc;rw [s1,s2];rfl
  | false=>
   have r1:=hF _ _ _ s1
   have r2:=hF _ _ _ s2
   have na:Hf a:=⟨by omega,by omega,by omega⟩
   have nb:Hf b:=⟨by omega,by omega,by omega⟩
   obtain ⟨x1,x2,x3,x4⟩:=li na.1 nb.1 Cu
   obtain ⟨y1,y2,y3,y4⟩:=li na.2.1 nb.2.1 x1
   have e2:([⟨0,1⟩,⟨1,1⟩]:List Pt).length=2:=rfl
   have k1:=xX na.1 nb.1 Cu (by omega)
   have k2:=xX na.2.1 nb.2.1 x1 (by omega)
   have k3:=xX na.2.2 nb.2.2 y1 (by omega)
   rw [e2] at k1
   obtain ⟨hg,hlen,_⟩:=Ah na nb
   have hp:=I2 (F:=F) na nb
   rw [show bC a.z b.z (bC a.y b.y (bC a.x b.x [⟨0,1⟩,⟨1,1⟩]))=bi a b from rfl]
   have k4:CB off ln xs a b (bi a b) (bi a b).length=true:=by
    unfold CB
    rw [eG.2 na.1,eG.2 na.2.1,eG.2 na.2.2,eG.2 nb.1,eG.2 nb.2.1,eG.2 nb.2.2,List.all_eq_true.2 hg.ok,decide_eq_true hl,decide_eq_true rfl,decide_eq_true (show (bi a b).length≤900 by omega)]
    rfl
   rw [k1,k2,k3,k4]
   simp only [Bool.or_self,cond_true,cond_false]
   cases hq:gC (fun i=>lZ F a b (bi a b) i.toNat) (bi a b).length 0 with
   |false=>
    rw [hi.2 (hp.1 hq)]
    rfl
   | true=>
    have :nc F a b=false:=by
     rw [←Bool.not_eq_true]
     intro hs
     rw [hp.2 (hi.1 hs)] at hq
     cases hq
    rw [this]
    rfl
noncomputable def wv (args:List SV) (rows:List Row):Option aL:=
 match args with
 |[.agg [.int .i64 w,.int .i64 d,.int .i64 h,.slice id st off len _,sp],.agg [.int .i64 x,.int .i64 y,.int .i64 z],.agg [.int .i64 p,.int .i64 q,.int .i64 r]]=>match rows[id]? with
  |some (.vec _ .bool xs)=>bif Nat.beq st 1&&sp.one then some {ok:=(aw ⟨x,y,z⟩&&aw ⟨p,q,r⟩)&&decide (off+len≤xs.length),val:=.bool ((af w d h len fun j=>xs.getD (off+j) false).sight ⟨x,y,z⟩ ⟨p,q,r⟩),rd:=[id]} else none
  |_=>none
 |_=>none
theorem Ev {args:List SV} {rows:List Row} {n:Nat} {e:aL} (h:wv args rows=some e) (hok:e.ok=true):aN Tryz.prog 134 args (rows[·]?) n e:=by
 unfold wv at h
 split at h
 · rename_i wd dd hd id st off len cap sp x y z p q r
   split at h
   · rename_i ro xs hrow
     obtain ⟨hb,h⟩:=al h
     cases h
     simp only [Bool.and_eq_true,decide_eq_true_eq,aB] at hok
     exact iq Nj aG Tryz.func134 hb hrow rfl rfl (Et (a:=⟨x,y,z⟩) (b:=⟨p,q,r⟩) hok.1.1 hok.1.2 hok.2)
   · cases h
 · cases h
noncomputable def Id:bY:=⟨134,wv,fun _ _ _ h hok=>Ev h hok,aq Tryz.func134 (by kernel_rfl)⟩
theorem D2 (p:Pl) (n:Int):aH Y1 (fun _ _=>none) 200 114 Tryz.f114 0 [.agg p.sv,.int .i64 n] []=
 bif bif decide (p.dead>0)==false then decide (n<1) else true then
 some
 (SV.agg
 [.int .i64 p.id,.int .i64 p.pos.x,.int .i64 p.pos.y,.int .i64 p.pos.z,.int .i64 p.vel.x,.int .i64 p.vel.y,
 .int .i64 p.vel.z,SV.bool p.ground,.int .i64 p.health,.int .i64 p.armour,.int .i64 p.score,.int .i64 p.a0,.int .i64 p.a1,
 .int .i64 p.wait,.int .i64 p.dead],
 [])
 else
 bif decide (IntKind.i64.wrap (p.health - IntKind.i64.wrap (n - min (IntKind.i64.wrap (n.tdiv 2)) p.armour))≤0) then
 some
 (SV.agg
 [.int .i64 p.id,.int .i64 p.pos.x,.int .i64 p.pos.y,.int .i64 p.pos.z,.int .i64 p.vel.x,.int .i64 p.vel.y,
 .int .i64 p.vel.z,SV.bool p.ground,.int .i64 0,.int .i64 (IntKind.i64.wrap (p.armour - min (IntKind.i64.wrap (n.tdiv 2)) p.armour)),
 .int .i64 p.score,.int .i64 p.a0,.int .i64 p.a1,.int .i64 p.wait,.int .i64 30],
 [])
 else
 some
 (SV.agg
 [.int .i64 p.id,.int .i64 p.pos.x,.int .i64 p.pos.y,.int .i64 p.pos.z,.int .i64 p.vel.x,.int .i64 p.vel.y,
 .int .i64 p.vel.z,SV.bool p.ground,.int .i64 (IntKind.i64.wrap (p.health - IntKind.i64.wrap (n - min (IntKind.i64.wrap (n.tdiv 2)) p.armour))),
 .int .i64 (IntKind.i64.wrap (p.armour - min (IntKind.i64.wrap (n.tdiv 2)) p.armour)),.int .i64 p.score,.int .i64 p.a0,.int .i64 p.a1,
 .int .i64 p.wait,.int .i64 p.dead],
 []):=by kernel_rfl
theorem Hx (p:Pl) (n:Int):aH Y1 (fun _ _=>none) 200 114 Tryz.f114 0 [.agg p.sv,.int .i64 n] []=some (.agg (jb p n).sv,[]):=by
 rw [D2]
 simp only [cY]
 unfold jb
 rw [show IntKind.i64.wrap (p.health - IntKind.i64.wrap (n - min (IntKind.i64.wrap (n.tdiv 2)) p.armour))=o1 p n from rfl]
 cases (decide (p.dead>0)||decide (n<1))
 · cases decide (o1 p n≤0)<;>rfl
 · rfl
theorem IP {m:Nat→Option Row} {n:Nat} {args:List SV} {e:aL} (h:vp args=some e):aN Tryz.prog 114 args m n e:=by
 unfold vp at h
 split at h
 · rename_i a0 a1 a2 a3 a4 a5 a6 a7 a8 a9 a10 a11 a12 a13 a14 nn
   cases h
   obtain ⟨rows',hc,_⟩:=aC L9 ag Tryz.func114 (Hx ⟨a0,⟨a1,a2,a3⟩,⟨a4,a5,a6⟩,a7,a8,a9,a10,a11,a12,a13,a14⟩ nn)
   exact aM hc rfl rfl
 · cases h
noncomputable def Nk:bY:=⟨114,fun args _=>vp args,fun _ _ _ h _=>IP h,aq Tryz.func114 (by kernel_rfl)⟩
noncomputable def Za:bS:=aV [] [zK,lN,Id]
theorem WX:bV Tryz.prog Za:=aD (by kernel_rfl)
theorem Ct (w d h:Int) (len off:Nat) (xs:List Bool) (a:V3) (p:Pl):aH Za (fun _ _=>none) 200 115 Tryz.f115 0 [bB w d h (.slice 0 1 off len none) .unk,.agg a.sv,.agg p.sv] [.vec true .bool xs]=
 bif aw p.pos&&aw a then
 bif aw (p.pos.minus a) then
 bif bif decide (p.dead>0)==false then decide ((p.pos.minus a).long≥196608) else true then some (.int .i64 0,[])
 else
 bif aw a&&aw p.pos&&decide (off+len≤xs.length) then
 bif !(af w d h len fun j=>xs.getD (off+j) false).sight a p.pos then some (.int .i64 0,[])
 else some (.int .i64 (IntKind.i64.wrap ((IntKind.i64.wrap (100*IntKind.i64.wrap (196608 - (p.pos.minus a).long))).tdiv 196608)),[])
 else none
 else none
 else none:=by kernel_rfl
theorem Mj (a:V3):0≤a.long∧a.long≤9223372036854775807:=by
 unfold V3.long
 omega
theorem HR {w d h:Int} {len off:Nat} {xs:List Bool} {a:V3} {p:Pl} (hl:decide (off+len≤xs.length)=true) (ha:a.fits) (hp:p.pos.fits):
    aH Za (fun _ _=>none) 200 115 Tryz.f115 0 [bB w d h (.slice 0 1 off len none) .unk,.agg a.sv,.agg p.sv] [.vec true .bool xs]=some (.int .i64 ((af w d h len fun j=>xs.getD (off+j) false).hurt a p),[]):=by
 rw [Ct]
 simp only [hl,aB.2 ha,aB.2 hp,aB.2 (qt p.pos a),Bool.and_self,cond_true,cY]
 have hL:=Mj (p.pos.minus a)
 have e:decide (uE a p≤0)=decide ((p.pos.minus a).long≥196608):=by
  unfold uE
  rw [IntWalk.i64_in (196608 - (p.pos.minus a).long) (by omega)]
  exact decide_eq_decide.2 (by omega)
 unfold Mp.hurt
 rw [e]
 unfold uE
 cases decide (p.dead>0)||decide ((p.pos.minus a).long≥196608)
 · cases (af w d h len fun j=>xs.getD (off+j) false).sight a p.pos<;>rfl
 · rfl
theorem J1 {args:List SV} {rows:List Row} {n:Nat} {e:aL} (h:uR args rows=some e) (hok:e.ok=true):aN Tryz.prog 115 args (rows[·]?) n e:=by
 unfold uR at h
 split at h
 · rename_i wd dd hd id st off len cap sp x y z a0 a1 a2 a3 a4 a5 a6 a7 a8 a9 a10 a11 a12 a13 a14
   split at h
   · rename_i ro xs hrow
     obtain ⟨hb,h⟩:=al h
     cases h
     rw [Bool.and_eq_true] at hb
     have hst:=Nat.eq_of_beq_eq_true hb.1
     subst hst
     simp only [Bool.and_eq_true,aB] at hok
     obtain ⟨h1,h2,h3,h4⟩:=hok
     obtain ⟨rows',hc,_⟩:=aC WX ag Tryz.func115 (HR (w:=wd) (d:=dd) (h:=hd) (a:=⟨x,y,z⟩) (p:=⟨a0,⟨a1,a2,a3⟩,⟨a4,a5,a6⟩,a7,a8,a9,a10,a11,a12,a13,a14⟩) h4 h2 h3)
     exact c7 hb.2 hc rfl rfl hrow
   · cases h
 · cases h
noncomputable def Ob:bY:=⟨115,uR,fun _ _ _ h hok=>J1 h hok,aq Tryz.func115 (by kernel_rfl)⟩
noncomputable def YR:bS:=aV [] [Ob,Nk]
theorem y6:bV Tryz.prog YR:=aD (by kernel_rfl)
def xG (owner s:Int) (ll:Nat) (i:Int):List SV:=[.int .i64 owner,.slice 1 15 0 ll none,.ptr 2 0 0 0,.ptr 3 0 0 0,.nils,.slice 4 15 0 0 (some 0),.int .i64 s,.int .i64 i]
def fy (owner s:Int) (ll k:Nat) (i:Int):List SV:=[.int .i64 owner,.slice 1 15 0 ll none,.ptr 2 0 0 0,.ptr 3 0 0 0,.nils,.slice 5 15 0 k none,.int .i64 s,.int .i64 i]
def ku (w d h:Int) (off len:Nat) (xs:List Bool) (at':V3) (ps:List Pl):List Row:=[.vec true .bool xs,.vec true .pl ps,.own [.int .i64 w,.int .i64 d,.int .i64 h,.slice 0 1 off len none,.unk],.own at'.sv,.vec false .pl []]
def cD (w d h:Int) (off len:Nat) (xs:List Bool) (at':V3) (ps ys:List Pl):List Row:=[.vec true .bool xs,.vec true .pl ps,.own [.int .i64 w,.int .i64 d,.int .i64 h,.slice 0 1 off len none,.unk],.own at'.sv,.gone,.vec false .pl ys]
noncomputable def PH:List SV→List Row→Option aj:=bj YR (fun _ _=>none) 100 88 [0,1,0,1,1,1] (bg Tryz.f88 [0,1,0,1,1,1]) 100 5 [2,3,4,5,8,9,10,11]
theorem uu (w d h:Int) (off len:Nat) (xs:List Bool) (at':V3) (ps:List Pl) (owner s:Int) (ll:Nat) (i:Int):PH (xG owner s ll i) (ku w d h off len xs at' ps)=
 bif decide (i<(ll:Int)) then
 bif decide (0≤i)&&decide (i<(ll:Int)) then
 bif decide (0+i.toNat<ps.length) then
 bif decide (0≤i)&&decide (i<(ll:Int)) then
 bif decide (0+i.toNat<ps.length) then
 bif aP w d h len&&(aw at'&&(aw (ps.getD (0+i.toNat) aA.pl.dflt).pos&&decide (off+len≤xs.length))) then
 bif (decide (0≤i)&&decide (i<(ll:Int))&&(decide (0+i.toNat<ps.length)&&true)&&true||decide (((af w d h len fun j=>xs.getD (off+j) false).brQ at' (ps.getD (0+i.toNat) aA.pl.dflt)).dead>0) !=true)&&(true||decide (((af w d h len fun j=>xs.getD (off+j) false).brQ at' (ps.getD (0+i.toNat) aA.pl.dflt)).dead>0)==true)&&true then
 bif bif (bif decide (((af w d h len fun j=>xs.getD (off+j) false).brQ at' (ps.getD (0+i.toNat) aA.pl.dflt)).dead>0)==true then decide ((ps.getD (0+i.toNat) aA.pl.dflt).dead≤0) else false)==true then ((af w d h len fun j=>xs.getD (off+j) false).brQ at' (ps.getD (0+i.toNat) aA.pl.dflt)).id !=owner else false then
 bif (decide (0≤i)&&decide (i<(ll:Int))&&(decide (0+i.toNat<ps.length)&&true)&&true||decide (((af w d h len fun j=>xs.getD (off+j) false).brQ at' (ps.getD (0+i.toNat) aA.pl.dflt)).dead>0) !=true)&&(true||decide (((af w d h len fun j=>xs.getD (off+j) false).brQ at' (ps.getD (0+i.toNat) aA.pl.dflt)).dead>0)==true)&&true then
 bif bif (bif decide (((af w d h len fun j=>xs.getD (off+j) false).brQ at' (ps.getD (0+i.toNat) aA.pl.dflt)).dead>0)==true then decide ((ps.getD (0+i.toNat) aA.pl.dflt).dead≤0) else false)==true then ((af w d h len fun j=>xs.getD (off+j) false).brQ at' (ps.getD (0+i.toNat) aA.pl.dflt)).id==owner else false then some (.tuple [.nilp,.tuple (fy owner (IntKind.i64.wrap (IntKind.i64.wrap (s+1) - 1)) ll 1 (IntKind.i64.wrap (i+1)))],cD w d h off len xs at' ps [((af w d h len fun j=>xs.getD (off+j) false).brQ at' (ps.getD (0+i.toNat) aA.pl.dflt))])
 else some (.tuple [.nilp,.tuple (fy owner (IntKind.i64.wrap (s+1)) ll 1 (IntKind.i64.wrap (i+1)))],cD w d h off len xs at' ps [((af w d h len fun j=>xs.getD (off+j) false).brQ at' (ps.getD (0+i.toNat) aA.pl.dflt))])
 else none
 else
 bif (decide (0≤i)&&decide (i<(ll:Int))&&(decide (0+i.toNat<ps.length)&&true)&&true||decide (((af w d h len fun j=>xs.getD (off+j) false).brQ at' (ps.getD (0+i.toNat) aA.pl.dflt)).dead>0) !=true)&&(true||decide (((af w d h len fun j=>xs.getD (off+j) false).brQ at' (ps.getD (0+i.toNat) aA.pl.dflt)).dead>0)==true)&&true then
 bif bif (bif decide (((af w d h len fun j=>xs.getD (off+j) false).brQ at' (ps.getD (0+i.toNat) aA.pl.dflt)).dead>0)==true then decide ((ps.getD (0+i.toNat) aA.pl.dflt).dead≤0) else false)==true then ((af w d h len fun j=>xs.getD (off+j) false).brQ at' (ps.getD (0+i.toNat) aA.pl.dflt)).id==owner else false then some (.tuple [.nilp,.tuple (fy owner (IntKind.i64.wrap (s - 1)) ll 1 (IntKind.i64.wrap (i+1)))],cD w d h off len xs at' ps [((af w d h len fun j=>xs.getD (off+j) false).brQ at' (ps.getD (0+i.toNat) aA.pl.dflt))])
 else some (.tuple [.nilp,.tuple (fy owner s ll 1 (IntKind.i64.wrap (i+1)))],cD w d h off len xs at' ps [((af w d h len fun j=>xs.getD (off+j) false).brQ at' (ps.getD (0+i.toNat) aA.pl.dflt))])
 else none
 else none
 else none
 else none
 else none
 else none
 else none
 else some (.tuple [.ptr 0 0 0 0,.tuple (xG owner s ll i)],ku w d h off len xs at' ps):=by kernel_rfl
theorem vV (w d h:Int) (off len:Nat) (xs:List Bool) (at':V3) (ps ys:List Pl) (owner s:Int) (ll k:Nat) (i:Int):PH (fy owner s ll k i) (cD w d h off len xs at' ps ys)=
 bif decide (i<(ll:Int)) then
 bif decide (0≤i)&&decide (i<(ll:Int)) then
 bif decide (0+i.toNat<ps.length) then
 bif decide (0≤i)&&decide (i<(ll:Int)) then
 bif decide (0+i.toNat<ps.length) then
 bif aP w d h len&&(aw at'&&(aw (ps.getD (0+i.toNat) aA.pl.dflt).pos&&decide (off+len≤xs.length))) then
 bif (decide (0≤i)&&decide (i<(ll:Int))&&(decide (0+i.toNat<ps.length)&&true)&&true||decide (((af w d h len fun j=>xs.getD (off+j) false).brQ at' (ps.getD (0+i.toNat) aA.pl.dflt)).dead>0) !=true)&&(true||decide (((af w d h len fun j=>xs.getD (off+j) false).brQ at' (ps.getD (0+i.toNat) aA.pl.dflt)).dead>0)==true)&&true then
 bif bif (bif decide (((af w d h len fun j=>xs.getD (off+j) false).brQ at' (ps.getD (0+i.toNat) aA.pl.dflt)).dead>0)==true then decide ((ps.getD (0+i.toNat) aA.pl.dflt).dead≤0) else false)==true then ((af w d h len fun j=>xs.getD (off+j) false).brQ at' (ps.getD (0+i.toNat) aA.pl.dflt)).id !=owner else false then
 bif (decide (0≤i)&&decide (i<(ll:Int))&&(decide (0+i.toNat<ps.length)&&true)&&true||decide (((af w d h len fun j=>xs.getD (off+j) false).brQ at' (ps.getD (0+i.toNat) aA.pl.dflt)).dead>0) !=true)&&(true||decide (((af w d h len fun j=>xs.getD (off+j) false).brQ at' (ps.getD (0+i.toNat) aA.pl.dflt)).dead>0)==true)&&true then
 bif bif (bif decide (((af w d h len fun j=>xs.getD (off+j) false).brQ at' (ps.getD (0+i.toNat) aA.pl.dflt)).dead>0)==true then decide ((ps.getD (0+i.toNat) aA.pl.dflt).dead≤0) else false)==true then ((af w d h len fun j=>xs.getD (off+j) false).brQ at' (ps.getD (0+i.toNat) aA.pl.dflt)).id==owner else false then (bif fI k ys ((af w d h len fun j=>xs.getD (off+j) false).brQ at' (ps.getD (0+i.toNat) aA.pl.dflt)) then some (.tuple [.nilp,.tuple (fy owner (IntKind.i64.wrap (IntKind.i64.wrap (s+1) - 1)) ll (k+1) (IntKind.i64.wrap (i+1)))],cD w d h off len xs at' ps (ys.take k++[((af w d h len fun j=>xs.getD (off+j) false).brQ at' (ps.getD (0+i.toNat) aA.pl.dflt))])) else none)
 else (bif fI k ys ((af w d h len fun j=>xs.getD (off+j) false).brQ at' (ps.getD (0+i.toNat) aA.pl.dflt)) then some (.tuple [.nilp,.tuple (fy owner (IntKind.i64.wrap (s+1)) ll (k+1) (IntKind.i64.wrap (i+1)))],cD w d h off len xs at' ps (ys.take k++[((af w d h len fun j=>xs.getD (off+j) false).brQ at' (ps.getD (0+i.toNat) aA.pl.dflt))])) else none)
 else none
 else
 bif (decide (0≤i)&&decide (i<(ll:Int))&&(decide (0+i.toNat<ps.length)&&true)&&true||decide (((af w d h len fun j=>xs.getD (off+j) false).brQ at' (ps.getD (0+i.toNat) aA.pl.dflt)).dead>0) !=true)&&(true||decide (((af w d h len fun j=>xs.getD (off+j) false).brQ at' (ps.getD (0+i.toNat) aA.pl.dflt)).dead>0)==true)&&true then
 bif bif (bif decide (((af w d h len fun j=>xs.getD (off+j) false).brQ at' (ps.getD (0+i.toNat) aA.pl.dflt)).dead>0)==true then decide ((ps.getD (0+i.toNat) aA.pl.dflt).dead≤0) else false)==true then ((af w d h len fun j=>xs.getD (off+j) false).brQ at' (ps.getD (0+i.toNat) aA.pl.dflt)).id==owner else false then (bif fI k ys ((af w d h len fun j=>xs.getD (off+j) false).brQ at' (ps.getD (0+i.toNat) aA.pl.dflt)) then some (.tuple [.nilp,.tuple (fy owner (IntKind.i64.wrap (s - 1)) ll (k+1) (IntKind.i64.wrap (i+1)))],cD w d h off len xs at' ps (ys.take k++[((af w d h len fun j=>xs.getD (off+j) false).brQ at' (ps.getD (0+i.toNat) aA.pl.dflt))])) else none)
 else (bif fI k ys ((af w d h len fun j=>xs.getD (off+j) false).brQ at' (ps.getD (0+i.toNat) aA.pl.dflt)) then some (.tuple [.nilp,.tuple (fy owner s ll (k+1) (IntKind.i64.wrap (i+1)))],cD w d h off len xs at' ps (ys.take k++[((af w d h len fun j=>xs.getD (off+j) false).brQ at' (ps.getD (0+i.toNat) aA.pl.dflt))])) else none)
 else none
 else none
 else none
 else none
 else none
 else none
 else none
 else some (.tuple [.ptr 0 0 0 0,.tuple (fy owner s ll k i)],cD w d h off len xs at' ps ys):=by kernel_rfl
theorem B6 (p:Pl) (n:Int):(jb p n).id=p.id:=by
 unfold jb
 cases (decide (p.dead>0)||decide (n<1))
 · cases decide (o1 p n≤0)<;>rfl
 · rfl
theorem BH (s:Int):IntKind.i64.wrap (IntKind.i64.wrap (s - 2)+1)=IntKind.i64.wrap (s - 1):=by
 rw [IntKind.wrap_i64,IntKind.wrap_i64,IntKind.wrap_i64]
 omega
section
variable {w d h:Int} {off len:Nat} {xs:List Bool} {a:V3} {ps:List Pl}
theorem zg (hm:aP w d h len=true) (ha:aw a=true) (hl:decide (off+len≤xs.length)=true) (hp:ps.all (fun p=>aw p.pos)=true) (hL:ps.length≤1000) {owner:Int}:∀(n i:Nat) (s:Int) (ys:List Pl),i+n=ps.length→ys.length=i→0<i→
    aJ PH (fy owner s ps.length i i) (cD w d h off len xs a ps ys) (.exit 0) (fy owner (jC ((af w d h len fun j=>xs.getD (off+j) false).brQ a) owner (ps.drop i) s) ps.length ps.length ps.length) (cD w d h off len xs a ps (ys++(ps.drop i).map ((af w d h len fun j=>xs.getD (off+j) false).brQ a)))
 |0,i,s,ys,h1,h2,h3=>by
  obtain rfl:i=ps.length:=by omega
  refine .done ?_ (by simp)
  rw [vV,decide_eq_false (by omega),cond_false,List.drop_length]
  simp only [List.map_nil,List.append_nil]
  rfl
 | n+1,i,s,ys,h1,h2,h3=>by
  have hi:i<ps.length:=by omega
  have hro:=vV w d h off len xs a ps ys owner s ps.length i i
  have e0:ps.getD (0+((i:Int)).toNat) aA.pl.dflt=ps[i]:=by
   rw [show 0+((i:Int)).toNat=i by omega]
   exact fJ _ hi
  have ef:aw (ps[i]).pos=true:=List.all_eq_true.1 hp _ (List.getElem_mem hi)
  have eg:fI i ys ((af w d h len fun j=>xs.getD (off+j) false).brQ a ps[i])=true:=by
   unfold fI
   rw [decide_eq_true (show 0+1≤[(af w d h len fun j=>xs.getD (off+j) false).brQ a ps[i]].length by simp),decide_eq_true h3,decide_eq_true (show i≤ys.length by omega),decide_eq_true (show i+1≤9223372036854775807 by omega),decide_eq_true (show (i+1)*120≤140737488355328 by omega)]
   rfl
  have eq:((af w d h len fun j=>xs.getD (off+j) false).brQ a ps[i]).id=(ps[i]).id:=B6 _ _
  rw [e0,eq,decide_eq_true (show (i:Int)<(ps.length:Int) by omega),decide_eq_true (show (0:Int)≤(i:Int) by omega),decide_eq_true (show 0+((i:Int)).toNat<ps.length by omega),hm,ha,ef,hl,eg,IntWalk.i64_in ((i:Int)+1) (by omega)] at hro
  simp only [Bool.and_self,Bool.true_or,Bool.and_true,cond_true,dh] at hro
  have et:ys.take i=ys:=by rw [←h2];exact List.take_length
  rw [et] at hro
  have ih:=zg hm ha hl hp hL (owner:=owner) n (i+1) (H5 owner ps[i] ((af w d h len fun j=>xs.getD (off+j) false).brQ a ps[i]) s) (ys++[(af w d h len fun j=>xs.getD (off+j) false).brQ a ps[i]]) (by omega) (by simp [h2]) (by omega)
  rw [List.append_assoc,List.singleton_append] at ih
  rw [List.drop_eq_getElem_cons hi,List.map_cons]
  refine .more ?_ ih
  rw [hro]
  unfold H5 zu bne
  rw [BH]
  cases decide (((af w d h len fun j=>xs.getD (off+j) false).brQ a ps[i]).dead>0)&&decide ((ps[i]).dead≤0)
  · rfl
  · cases (ps[i]).id==owner<;>rfl
theorem Oi (hm:aP w d h len=true) (ha:aw a=true) (hl:decide (off+len≤xs.length)=true) (hp:ps.all (fun p=>aw p.pos)=true) (hL:ps.length≤1000) (h0:0<ps.length) {owner:Int}:
    aJ PH (xG owner 0 ps.length 0) (ku w d h off len xs a ps) (.exit 0) (fy owner (jC ((af w d h len fun j=>xs.getD (off+j) false).brQ a) owner ps 0) ps.length ps.length ps.length) (cD w d h off len xs a ps (ps.map ((af w d h len fun j=>xs.getD (off+j) false).brQ a))):=by
 have hro:=uu w d h off len xs a ps owner 0 ps.length 0
 have e0:ps.getD (0+(0:Int).toNat) aA.pl.dflt=ps[0]:=by
  rw [show 0+(0:Int).toNat=0 from rfl]
  exact fJ _ h0
 have ef:aw (ps[0]).pos=true:=List.all_eq_true.1 hp _ (List.getElem_mem h0)
 have eq:((af w d h len fun j=>xs.getD (off+j) false).brQ a ps[0]).id=(ps[0]).id:=B6 _ _
 rw [e0,eq,decide_eq_true (show (0:Int)<(ps.length:Int) by omega),decide_eq_true (show (0:Int)≤0 by omega),decide_eq_true (show 0+(0:Int).toNat<ps.length by have :(0:Int).toNat=0:=rfl;omega),hm,ha,ef,hl] at hro
 simp only [Bool.and_self,Bool.true_or,Bool.and_true,cond_true,dh] at hro
 have ih:=zg hm ha hl hp hL (owner:=owner) (ps.length - 1) 1 (H5 owner ps[0] ((af w d h len fun j=>xs.getD (off+j) false).brQ a ps[0]) 0) [(af w d h len fun j=>xs.getD (off+j) false).brQ a ps[0]] (by omega) rfl (by omega)
 have ed:ps=ps[0]::ps.drop 1:=by
  have:=List.drop_eq_getElem_cons h0
  rw [List.drop_zero] at this
  exact this
 have em:ps.map ((af w d h len fun j=>xs.getD (off+j) false).brQ a)=[(af w d h len fun j=>xs.getD (off+j) false).brQ a ps[0]]++(ps.drop 1).map ((af w d h len fun j=>xs.getD (off+j) false).brQ a):=by
  rw [List.singleton_append,←List.map_cons,←ed]
 have es:jC ((af w d h len fun j=>xs.getD (off+j) false).brQ a) owner ps 0=jC ((af w d h len fun j=>xs.getD (off+j) false).brQ a) owner (ps.drop 1) (H5 owner ps[0] ((af w d h len fun j=>xs.getD (off+j) false).brQ a ps[0]) 0):=by
  have :jC ((af w d h len fun j=>xs.getD (off+j) false).brQ a) owner (ps[0]::ps.drop 1) 0=jC ((af w d h len fun j=>xs.getD (off+j) false).brQ a) owner (ps.drop 1) (H5 owner ps[0] ((af w d h len fun j=>xs.getD (off+j) false).brQ a ps[0]) 0):=rfl
  rwa [←ed] at this
 rw [em,es]
 refine .more ?_ ih
 rw [hro]
 unfold H5 zu bne
 rw [BH]
 cases decide (((af w d h len fun j=>xs.getD (off+j) false).brQ a ps[0]).dead>0)&&decide ((ps[0]).dead≤0)
 · rfl
 · cases (ps[0]).id==owner<;>rfl
end
noncomputable def T9 (v:List SV) (R:List Row) (k:Ex→List SV→List Row→Option aj):Option aj:=match v,R with
 | [.int .i64 owner,.slice 1 15 0 ll none,.ptr 2 0 0 0,.ptr 3 0 0 0,.nils,.slice 4 15 0 0 (some 0),.int .i64 s,.int .i64 i],[.vec true .bool xs,.vec true .pl ps,.own [.int .i64 w,.int .i64 d,.int .i64 h,.slice 0 1 off len none,.unk],.own [.int .i64 ax,.int .i64 ay,.int .i64 az],.vec false .pl []]=>
     bif (decide (s=0)&&decide (i=0))&&js w d h off len xs ⟨ax,ay,az⟩ ps ll then
      (bif Nat.beq ll 0 then k (.exit 0) (xG owner 0 ll 0) (ku w d h off len xs ⟨ax,ay,az⟩ ps)
      else k (.exit 0) (fy owner (jC ((af w d h len fun j=>xs.getD (off+j) false).brQ ⟨ax,ay,az⟩) owner ps 0) ll ll ll) (cD w d h off len xs ⟨ax,ay,az⟩ ps (ps.map ((af w d h len fun j=>xs.getD (off+j) false).brQ ⟨ax,ay,az⟩)))) else none
 |_,_=>none
theorem OX:da 88 [0,1,0,1,1,1] (bG 100 [2,3,4,5,8,9,10,11] T9):=by
 intro b hat s K r h
 refine aQ (fuel:=100) y6 ag hat (fun v R k r hr=>?_) h
 have hbody:=aZ Tryz.func88 hat
 subst hbody
 unfold T9 at hr
 split at hr
 · rename_i owner ll s i xs ps w d h off len ax ay az
   obtain ⟨hb,hr2⟩:=al hr
   unfold js at hb
   simp only [Bool.and_eq_true,decide_eq_true_eq] at hb
   obtain ⟨⟨rfl,rfl⟩,⟨⟨h1,h2⟩,h3⟩,h4,h5,h6⟩:=hb
   have e1:ll=List.length (α:=Pl) ps:=h5
   subst e1
   cases h0:Nat.beq (List.length (α:=Pl) ps) 0 with
   |true=>
    rw [h0,cond_true] at hr2
    have hz:=Nat.eq_of_beq_eq_true h0
    refine ⟨_,_,_,hr2,.done ?_ (by simp)⟩
    have hro:=uu w d h off len xs ⟨ax,ay,az⟩ ps owner 0 (List.length (α:=Pl) ps) 0
    rw [decide_eq_false (by omega)] at hro
    exact hro
   |false=>
    rw [h0,cond_false] at hr2
    have hz:=Nat.ne_of_beq_eq_false h0
    exact ⟨_,_,_,hr2,Oi h1 h2 (decide_eq_true h3) h4 h6 (by omega)⟩
 · cases hr
noncomputable def YJ:jh:=⟨_,_,_,OX⟩
def nT (owner s:Int) (k:Nat) (i:Int):List SV:=[.int .i64 owner,.nils,.slice 5 15 0 k none,.int .i64 s,.int .i64 i]
def Cs (owner s:Int) (i:Int):List SV:=[.int .i64 owner,.nils,.slice 4 15 0 0 (some 0),.int .i64 s,.int .i64 i]
noncomputable def Rd (n0:Nat):List SV→List Row→Option aj:=bj YR (fun _ _=>none) 100 88 [0,1,0,1,1,1,1] (bg Tryz.f88 [0,1,0,1,1,1,1]) 100 n0 [2,8,9,10,13]
theorem Ac (w d h:Int) (off len:Nat) (xs:List Bool) (at':V3) (ps ys:List Pl) (owner s:Int) (k:Nat) (i:Int):Rd 6 (nT owner s k i) (cD w d h off len xs at' ps ys)=
 bif decide (i<(k:Int)) then
 bif decide (0≤i)&&decide (i<(k:Int)) then
 bif decide (0+i.toNat<ys.length) then
 bif (ys.getD (0+i.toNat) aA.pl.dflt).id==owner then
 bif decide (0≤i)&&decide (i<(k:Int)) then
 bif decide (0+i.toNat<ys.length) then
 bif decide (0≤i)&&decide (i<(k:Int)) then
 bif decide (0+i.toNat<ys.length) then
 some (.tuple [.nilp,.tuple (nT owner s k (IntKind.i64.wrap (i+1)))],cD w d h off len xs at' ps (ys.set (0+i.toNat) (Pl.scored (ys.getD (0+i.toNat) aA.pl.dflt) s)))
 else none
 else none
 else none
 else none
 else some (.tuple [.nilp,.tuple (nT owner s k (IntKind.i64.wrap (i+1)))],cD w d h off len xs at' ps ys)
 else none
 else none
 else some (.tuple [.ptr 2 0 0 0,.tuple (nT owner s k i)],cD w d h off len xs at' ps ys):=by kernel_rfl
theorem Is (w d h:Int) (off len:Nat) (xs:List Bool) (at':V3) (ps:List Pl) (owner s:Int):Rd 5 (Cs owner s 0) (ku w d h off len xs at' ps)=some (.tuple [.ptr 2 0 0 0,.tuple (Cs owner s 0)],ku w d h off len xs at' ps):=by kernel_rfl
section
variable {w d h:Int} {off len:Nat} {xs:List Bool} {a:V3} {ps:List Pl}
theorem xg {owner s:Int}:∀(n i:Nat) (ys:List Pl),i+n=ys.length→ys.length≤1000→
    aJ (Rd 6) (nT owner s ys.length i) (cD w d h off len xs a ps ys) (.exit 2) (nT owner s ys.length ys.length) (cD w d h off len xs a ps (ys.take i++(ys.drop i).map (cG owner s)))
 |0,i,ys,h1,h2=>by
  obtain rfl:i=ys.length:=by omega
  refine .done ?_ (by simp)
  rw [Ac,decide_eq_false (by omega),cond_false,List.drop_length,List.take_length]
  simp only [List.map_nil,List.append_nil]
  rfl
 | n+1,i,ys,h1,h2=>by
  have hi:i<ys.length:=by omega
  have hro:=Ac w d h off len xs a ps ys owner s ys.length i
  have e0:ys.getD (0+((i:Int)).toNat) aA.pl.dflt=ys[i]:=by
   rw [show 0+((i:Int)).toNat=i by omega]
   exact fJ _ hi
  rw [e0,decide_eq_true (show (i:Int)<(ys.length:Int) by omega),decide_eq_true (show (0:Int)≤(i:Int) by omega),decide_eq_true (show 0+((i:Int)).toNat<ys.length by omega),IntWalk.i64_in ((i:Int)+1) (by omega),show 0+((i:Int)).toNat=i by omega] at hro
  simp only [Bool.and_self,cond_true] at hro
  cases hc:(ys[i]).id==owner with
  | false=>
   rw [hc,cond_false] at hro
   have ih:=xg (owner:=owner) (s:=s) n (i+1) ys (by omega) h2
   have e:ys.take (i+1)++(ys.drop (i+1)).map (cG owner s)=ys.take i++(ys.drop i).map (cG owner s):=by
    rw [List.drop_eq_getElem_cons hi,List.map_cons,List.take_add_one,List.getElem?_eq_getElem hi,show cG owner s ys[i]=ys[i] by unfold cG;rw [hc];rfl]
    simp only [Option.toList_some,List.append_assoc,List.singleton_append,List.cons_append,List.nil_append]
   rw [e] at ih
   exact .more hro ih
  | true=>
   rw [hc,cond_true] at hro
   have hl:(ys.set i (Pl.scored ys[i] s)).length=ys.length:=List.length_set ..
   have ih:=xg (owner:=owner) (s:=s) n (i+1) (ys.set i (Pl.scored ys[i] s)) (by omega) (by omega)
   rw [hl] at ih
   have e:(ys.set i (Pl.scored ys[i] s)).take (i+1)++((ys.set i (Pl.scored ys[i] s)).drop (i+1)).map (cG owner s)=ys.take i++(ys.drop i).map (cG owner s):=by
    rw [List.drop_eq_getElem_cons hi,List.map_cons,List.take_add_one,List.getElem?_set_self hi,List.take_set_of_le (by omega),List.drop_set_of_lt (by omega),show cG owner s ys[i]=Pl.scored ys[i] s by unfold cG;rw [hc];rfl]
    simp only [Option.toList_some,List.append_assoc,List.singleton_append,List.cons_append,List.nil_append]
   rw [e] at ih
   exact .more hro ih
theorem Me {owner s:Int} {ys:List Pl} (h2:ys.length≤1000):
    aJ (Rd 6) (nT owner s ys.length 0) (cD w d h off len xs a ps ys) (.exit 2) (nT owner s ys.length ys.length) (cD w d h off len xs a ps (ys.map (cG owner s))):=by
 have key:=xg (w:=w) (d:=d) (h:=h) (off:=off) (len:=len) (xs:=xs) (a:=a) (ps:=ps) (owner:=owner) (s:=s) ys.length 0 ys (by omega) h2
 rw [List.take_zero,List.nil_append,List.drop_zero] at key
 exact key
end
noncomputable def To (v:List SV) (R:List Row) (k:Ex→List SV→List Row→Option aj):Option aj:=match v,R with
 | [.int .i64 owner,.nils,.slice 5 15 0 kk none,.int .i64 s,.int .i64 i],[.vec true .bool xs,.vec true .pl ps,.own [.int .i64 w,.int .i64 d,.int .i64 h,.slice 0 1 off len none,.unk],.own [.int .i64 ax,.int .i64 ay,.int .i64 az],.gone,.vec false .pl ys]=>
     bif decide (i=0)&&(decide (kk=ys.length)&&decide (kk≤1000)) then
      k (.exit 2) (nT owner s kk kk) (cD w d h off len xs ⟨ax,ay,az⟩ ps (ys.map (cG owner s))) else none
 | [.int .i64 owner,.nils,.slice 4 15 0 0 (some 0),.int .i64 s,.int .i64 i],[.vec true .bool xs,.vec true .pl ps,.own [.int .i64 w,.int .i64 d,.int .i64 h,.slice 0 1 off len none,.unk],.own [.int .i64 ax,.int .i64 ay,.int .i64 az],.vec false .pl []]=>
     bif decide (i=0) then k (.exit 2) (Cs owner s 0) (ku w d h off len xs ⟨ax,ay,az⟩ ps) else none
 |_,_=>none
theorem NL:da 88 [0,1,0,1,1,1,1] (bG 100 [2,8,9,10,13] To):=by
 intro b hat s K r h
 refine aQ (fuel:=100) y6 ag hat (fun v R k r hr=>?_) h
 have hbody:=aZ Tryz.func88 hat
 subst hbody
 unfold To at hr
 split at hr
 · rename_i owner kk s i xs ps w d h off len ax ay az ys
   obtain ⟨hb,hr2⟩:=al hr
   simp only [Bool.and_eq_true,decide_eq_true_eq] at hb
   obtain ⟨rfl,h1,h2⟩:=hb
   have e1:kk=List.length (α:=Pl) ys:=h1
   subst e1
   exact ⟨_,_,_,hr2,Me (w:=w) (d:=d) (h:=h) (off:=off) (len:=len) (xs:=xs) (a:=⟨ax,ay,az⟩) (ps:=ps) (owner:=owner) (s:=s) (ys:=ys) h2⟩
 · rename_i owner s i xs ps w d h off len ax ay az
   obtain ⟨hb,hr2⟩:=al hr
   simp only [Bool.and_eq_true,decide_eq_true_eq] at hb
   obtain rfl:=hb
   exact ⟨_,_,_,hr2,.done (Is w d h off len xs ⟨ax,ay,az⟩ ps owner s) (by simp)⟩
 · cases hr
noncomputable def Yy:jh:=⟨_,_,_,NL⟩
theorem Bf (w d h:Int) (off len:Nat) (xs:List Bool) (a:V3) (ps:List Pl) (owner:Int) (ll:Nat):aH YR (aF [YJ,Yy]) 300 88 Tryz.f88 9 [bB w d h (.slice 0 1 off len none) .unk,.agg a.sv,.int .i64 owner,.slice 1 15 0 ll none] [.vec true .bool xs,.vec true .pl ps]=
 bif js w d h off len xs a ps ll then
 bif Nat.beq ll 0 then some (.slice 4 15 0 0 (some 0),ku w d h off len xs a ps)
 else bif decide (ll=(ps.map ((af w d h len fun j=>xs.getD (off+j) false).brQ a)).length)&&decide (ll≤1000) then some (.slice 5 15 0 ll none,cD w d h off len xs a ps (bZ ((af w d h len fun j=>xs.getD (off+j) false).brQ a) owner ps)) else none
 else none:=by kernel_rfl
theorem Vd {rows':List Row} {w d h:Int} {off len:Nat} {xs:List Bool} {a:V3} {ps ys:List Pl} (ht:rows'.take 9=cD w d h off len xs a ps ys):rows'[5]? =some (.vec false .pl ys):=by
 have :(rows'.take 9)[5]? =some (.vec false .pl ys):=by rw [ht];rfl
 rw [List.getElem?_take] at this
 exact this
theorem So {rows':List Row} {w d h:Int} {off len:Nat} {xs:List Bool} {a:V3} {ps:List Pl} (ht:rows'.take 9=ku w d h off len xs a ps):rows'[4]? =some (.vec false .pl ([]:List Pl)):=by
 have :(rows'.take 9)[4]? =some (.vec false .pl ([]:List Pl)):=by rw [ht];rfl
 rw [List.getElem?_take] at this
 exact this
def pq (n:Nat):Option Nat:=bif Nat.beq n 0 then some 0 else none
def Qf (ro:Bool) (n:Nat):Option Nat:=bif ro then none else pq n
theorem Bi {w d h:Int} {off len:Nat} {xs:List Bool} {a:V3} {ps:List Pl} {owner:Int} {rows:List Row} {id ip:Nat} {ra rb ok ro':Bool} (h1:rows[id]? =some (.vec ra .bool xs)) (h2:rows[ip]? =some (.vec rb .pl ps)) (hok:js w d h off len xs a ps ps.length=true):
    aN Tryz.prog 88 [bB w d h (.slice id 1 off len none) .unk,.agg a.sv,.int .i64 owner,.slice ip 15 0 ps.length none] (rows[·]?) rows.length {ok:=ok,val:=.slice rows.length 15 0 (bZ ((af w d h len fun j=>xs.getD (off+j) false).brQ a) owner ps).length (Qf ro' (bZ ((af w d h len fun j=>xs.getD (off+j) false).brQ a) owner ps).length),rd:=[id,ip],nw:=[.vec ro' .pl (bZ ((af w d h len fun j=>xs.getD (off+j) false).brQ a) owner ps)]}:=by
 have hv:=Bf w d h off len xs a ps owner ps.length
 rw [hok,cond_true] at hv
 have hm:∀(i:Nat) (row:Row),([.vec true .bool xs,.vec true .pl ps]:List Row)[i]? =some row→∃(k:aA) (zs:List k.T) (ro:Bool),row=.vec true k zs∧(rows[·]?) (gV [id,ip] rows.length i)=some (.vec ro k zs):=by
  intro i row hr
  match i with
  |0=>simp at hr;subst hr;exact ⟨.bool,xs,ra,rfl,h1⟩
  |1=>simp at hr;subst hr;exact ⟨.pl,ps,rb,rfl,h2⟩
  |i+2=>simp at hr
 have ha:∀i∈SV.idsL [bB w d h (.slice 0 1 off len none) .unk,.agg a.sv,.int .i64 owner,.slice 1 15 0 ps.length none],i<([.vec true .bool xs,.vec true .pl ps]:List Row).length:=by
  intro i hi
  simp [bB,SV.idsL,SV.ids,V3.sv] at hi
  simp
  omega
 cases h0:Nat.beq ps.length 0 with
 | true=>
  rw [h0,cond_true] at hv
  have hz:=Nat.eq_of_beq_eq_true h0
  obtain ⟨rows',hc,ht⟩:=aC y6 aG Tryz.func88 hv
  have hb:bZ ((af w d h len fun j=>xs.getD (off+j) false).brQ a) owner ps=[]:=by
   rw [List.length_eq_zero_iff.1 hz]
   rfl
  rw [hb]
  exact lI (k:=.pl) (ds:=([]:List Pl)) hc (σ:=[id,ip]) rfl ha hm (.inr ⟨4,some 0,false,([]:List Pl),rfl,by simp,So ht,fun i hi=>rfl,fun _=>⟨rfl,rfl⟩,by cases ro';exact .inr ⟨rfl,rfl⟩;exact .inl rfl⟩) (fun h=>by rw [h];rfl)
 | false=>
  have hL:ps.length≤1000:=by
   unfold js at hok
   simp only [Bool.and_eq_true,decide_eq_true_eq] at hok
   exact hok.2.2.2
  rw [h0,cond_false,List.length_map,decide_eq_true rfl,decide_eq_true hL] at hv
  simp only [Bool.and_self,cond_true] at hv
  obtain ⟨rows',hc,ht⟩:=aC y6 aG Tryz.func88 hv
  have hne:Qf ro' (bZ ((af w d h len fun j=>xs.getD (off+j) false).brQ a) owner ps).length=none:=by
   rw [jr]
   unfold Qf pq
   rw [h0]
   cases ro'<;>rfl
  rw [hne]
  exact lI (k:=.pl) (ds:=bZ ((af w d h len fun j=>xs.getD (off+j) false).brQ a) owner ps) hc (σ:=[id,ip]) rfl ha hm (.inr ⟨5,none,false,bZ ((af w d h len fun j=>xs.getD (off+j) false).brQ a) owner ps,congrArg (fun q=>SV.slice 5 15 0 q none) (jr _ _ _).symm,by simp,Vd ht,fun i hi=>rfl,(fun _=>⟨rfl,rfl⟩),.inl rfl⟩) (fun _=>rfl)
def T7 (ro:Bool):SV→SV
 |.slice id st off len _=>.slice id st off len (Qf ro len)
 |v=>v
def Ud (ro:Bool):Row→Row
 |.vec _ k xs=>.vec ro k xs
 |r=>r
theorem Bu {ro:Bool} {args:List SV} {rows:List Row} {e:aL} (h:mY args rows=some e) (hok:e.ok=true):aN Tryz.prog 88 args (rows[·]?) rows.length {e with val:=T7 ro e.val,nw:=e.nw.map (Ud ro)}:=by
 unfold mY at h
 split at h
 · rename_i w d hh id st off len cap sp x y z owner ip ll cp
   split at h
   · rename_i ra xs rb ps h1 h2
     obtain ⟨hb,h⟩:=al h
     cases h
     rw [Bool.and_eq_true] at hb
     have hst:=Nat.eq_of_beq_eq_true hb.1
     subst hst
     have hok:js w d hh off len xs ⟨x,y,z⟩ ps ll=true:=hok
     have e1:ll=List.length (α:=Pl) ps:=by
      have:=hok
      unfold js at this
      simp only [Bool.and_eq_true,decide_eq_true_eq] at this
      exact this.2.2.1
     subst e1
     refine cy (args:=[bB w d hh (.slice id 1 off len none) .unk,.agg [.int .i64 x,.int .i64 y,.int .i64 z],.int .i64 owner,.slice ip 15 0 (List.length (α:=Pl) ps) none]) (Bi (a:=⟨x,y,z⟩) (xs:=xs) (ps:=ps) h1 h2 hok) fun ρ vs hr=>?_
     rw [au] at hr ⊢
     obtain ⟨u,us,rfl,k1,k2⟩:=hr
     refine ⟨u,us,rfl,F7 hb.2 k1,?_⟩
     rw [au] at k2 ⊢
     obtain ⟨u,us,rfl,k1,k2⟩:=k2
     refine ⟨u,us,rfl,k1,?_⟩
     rw [au] at k2 ⊢
     obtain ⟨u,us,rfl,k1,k2⟩:=k2
     refine ⟨u,us,rfl,k1,?_⟩
     rw [au] at k2 ⊢
     obtain ⟨u,us,rfl,k1,k2⟩:=k2
     exact ⟨u,us,rfl,bP k1,k2⟩
   · cases h
 · cases h
noncomputable def y9 (args:List SV) (rows:List Row):Option aL:=match mY args rows with
 |some e=>some {e with val:=T7 false e.val,nw:=e.nw.map (Ud false)}
 |none=>none
theorem BM {args:List SV} {rows:List Row} {e:aL} (h:y9 args rows=some e) (hok:e.ok=true):aN Tryz.prog 88 args (rows[·]?) rows.length e:=by
 unfold y9 at h
 split at h
 · rename_i e0 he
   cases h
   exact Bu he hok
 · cases h
noncomputable def Ef:bY:=⟨88,y9,fun _ _ _ h hok=>BM h hok,aq Tryz.func88 (by kernel_rfl)⟩
noncomputable def RC:bS:=aV [] [Ew,Jl,Ef]
theorem xL:bV Tryz.prog RC:=aD (by kernel_rfl)
def lu (k:Nat) (b:Bool) (i:Int):List SV:=[.ptr 0 0 0 0,.ptr k 0 0 0,.ptr (k+1) 0 0 0,.bool b,.int .i64 i]
noncomputable def KT (n0:Nat):List SV→List Row→Option aj:=bj RC (fun _ _=>none) 100 58 [0,1,0,1,1] (bg Tryz.f58 [0,1,0,1,1]) 70 n0 [0,3,4,6,7]
def JY (t:Sh) (p:Pl):Bool:=nQ (nQ (decide (p.dead≤0)) (p.id !=t.owner)) (zD p t.pos)
theorem R3 (t:Sh) (p:Pl):JY t p=tP t p:=by
 unfold JY tP zD
 rw [gv,gv,Bool.and_assoc]
def XM (r:RS) (v:Vr) (t z:Sh) (b:Bool) (i:Int):Option aj:=
 bif decide (i<(r.np:Int)) then bif decide (0≤i)&&decide (i<(r.np:Int)) then bif decide (0+i.toNat<r.ps.length) then
 bif JY t (r.ps.getD (0+i.toNat) aA.pl.dflt) then some (.tuple [.nilp,.tuple (lu v.len true (IntKind.i64.wrap (i+1)))],r.rows v++[.own t.sv,.own z.sv])
 else some (.tuple [.nilp,.tuple (lu v.len b (IntKind.i64.wrap (i+1)))],r.rows v++[.own t.sv,.own z.sv])
 else none else none
 else some (.tuple [.ptr 0 0 0 0,.tuple (lu v.len b i)],r.rows v++[.own t.sv,.own z.sv])
theorem oo (r:RS) (t z:Sh) (b:Bool) (i:Int):KT 7 (lu 5 b i) (r.rows .s++[.own t.sv,.own z.sv])=XM r .s t z b i∧KT 8 (lu 6 b i) (r.rows .f++[.own t.sv,.own z.sv])=XM r .f t z b i:=⟨by kernel_rfl,by kernel_rfl⟩
def yj (t:Sh):List Pl→Bool
 |[]=>false
 |p::ps=>tP t p||yj t ps
theorem rx {r:RS} {v:Vr} {t z:Sh} (hv:v≠ .n) (hn:r.np=r.ps.length) (hl:r.ps.length≤1000):∀(ps:List Pl) (i:Nat) (b:Bool),r.ps.drop i=ps→i+ps.length=r.ps.length→
    aJ (KT (v.len+2)) (lu v.len b i) (r.rows v++[.own t.sv,.own z.sv]) (.exit 0) (lu v.len (b||yj t ps) r.ps.length) (r.rows v++[.own t.sv,.own z.sv])
 | [],i,b,hd,hi=>by
  obtain rfl:i=r.ps.length:=by simpa using hi
  have :KT (v.len+2) (lu v.len b (r.ps.length:Int)) (r.rows v++[.own t.sv,.own z.sv])=XM r v t z b (r.ps.length:Int):=by
   cases v with
   |n=>exact absurd rfl hv
   |s=>exact (oo r t z b _).1
   |f=>exact (oo r t z b _).2
  refine .done ?_ (by simp)
  rw [this]
  unfold XM
  rw [hn,decide_eq_false (by omega),cond_false,yj,Bool.or_false]
  rfl
 | p::ps,i,b,hd,hi=>by
  have hlt:i<r.ps.length:=by simp at hi;omega
  have hp:r.ps.getD (0+(i:Int).toNat) aA.pl.dflt=p:=by
   have h1:r.ps[i]? =some p:=by
    have:=congrArg List.head? hd
    rw [List.head?_drop] at this
    exact this
   simp only [List.getD,Int.toNat_natCast,Nat.zero_add,h1]
   rfl
  have hr:KT (v.len+2) (lu v.len b (i:Int)) (r.rows v++[.own t.sv,.own z.sv])=XM r v t z b (i:Int):=by
   cases v with
   |n=>exact absurd rfl hv
   |s=>exact (oo r t z b _).1
   |f=>exact (oo r t z b _).2
  unfold XM at hr
  have hp':JY t (r.ps.getD (0+(i:Int).toNat) aA.pl.dflt)=tP t p:=(congrArg (JY t) hp).trans (R3 t p)
  rw [hn,decide_eq_true (by omega),decide_eq_true (by omega),decide_eq_true (by omega),hp',IntWalk.i64_in _ (by omega)] at hr
  simp only [Bool.and_self,cond_true] at hr
  rw [yj]
  cases hb:tP t p with
  |true=>
   rw [hb,cond_true] at hr
   have ih:=rx hv hn hl (t:=t) (z:=z) ps (i+1) true (by rw [←List.drop_drop,hd];rfl) (by simp at hi;omega)
   rw [Bool.true_or,Bool.or_true]
   rw [Bool.true_or] at ih
   exact .more hr ih
  |false=>
   rw [hb,cond_false] at hr
   have ih:=rx hv hn hl (t:=t) (z:=z) ps (i+1) b (by rw [←List.drop_drop,hd];rfl) (by simp at hi;omega)
   rw [Bool.false_or]
   exact .more hr ih
noncomputable def Tb (v:List SV) (R:List Row) (k:Ex→List SV→List Row→Option aj):Option aj:=match v,cW R 0,R with
 |[.ptr 0 0 0 0,.ptr 5 0 0 0,.ptr 6 0 0 0,.bool b,.int .i64 i],some (q,.s,[0,1,2,3,4]),[_,_,_,_,_,.own ts,.own zs]=>match JQ ts,JQ zs with
  |some t,some z=>bif decide (i=0)&&okLen q then k (.exit 0) (lu 5 (b||yj t q.ps) q.ps.length) (q.rows .s++[.own t.sv,.own z.sv]) else none
  |_,_=>none
 |[.ptr 0 0 0 0,.ptr 6 0 0 0,.ptr 7 0 0 0,.bool b,.int .i64 i],some (q,.f,[0,1,2,3,4,5]),[_,_,_,_,_,_,.own ts,.own zs]=>match JQ ts,JQ zs with
  |some t,some z=>bif decide (i=0)&&okLen q then k (.exit 0) (lu 6 (b||yj t q.ps) q.ps.length) (q.rows .f++[.own t.sv,.own z.sv]) else none
  |_,_=>none
 |_,_,_=>none
theorem NK:da 58 [0,1,0,1,1] (bG 70 [0,3,4,6,7] Tb):=by
 intro b hat s K r h
 refine aQ (fuel:=100) xL ag hat (fun v R k r hr=>?_) h
 have hbody:=aZ Tryz.func58 hat
 subst hbody
 unfold Tb at hr
 split at hr
 · rename_i b i q r0 r1 r2 r3 r4 ts zs hq
   split at hr
   · rename_i t z ht hz
     obtain ⟨hb,hr2⟩:=al hr
     rw [Bool.and_eq_true,decide_eq_true_eq] at hb
     obtain ⟨rfl,h2⟩:=hb
     have e:=tJ (v:=.s) (bQ hq).1
     rw [show List.drop Vr.s.len [r0,r1,r2,r3,r4,Row.own ts,Row.own zs]=[.own ts,.own zs] from rfl,fE ht,fE hz] at e
     rw [fE ht,fE hz,e]
     unfold okLen at h2
     rw [Bool.and_eq_true,decide_eq_true_eq,decide_eq_true_eq] at h2
     exact ⟨_,_,_,hr2,rx (r:=q) (v:=.s) (t:=t) (z:=z) (by simp) h2.1 h2.2 q.ps 0 b rfl (by simp)⟩
   · cases hr
 · rename_i b i q r0 r1 r2 r3 r4 r5 ts zs hq
   split at hr
   · rename_i t z ht hz
     obtain ⟨hb,hr2⟩:=al hr
     rw [Bool.and_eq_true,decide_eq_true_eq] at hb
     obtain ⟨rfl,h2⟩:=hb
     have e:=tJ (v:=.f) (bQ hq).1
     rw [show List.drop Vr.f.len [r0,r1,r2,r3,r4,r5,Row.own ts,Row.own zs]=[.own ts,.own zs] from rfl,fE ht,fE hz] at e
     rw [fE ht,fE hz,e]
     unfold okLen at h2
     rw [Bool.and_eq_true,decide_eq_true_eq,decide_eq_true_eq] at h2
     exact ⟨_,_,_,hr2,rx (r:=q) (v:=.f) (t:=t) (z:=z) (by simp) h2.1 h2.2 q.ps 0 b rfl (by simp)⟩
   · cases hr
 · cases hr
noncomputable def Fz:jh:=⟨_,_,_,NK⟩
noncomputable def RS.mp (r:RS):Mp:=af r.w r.d r.h r.len fun j=>r.xs.getD (0+j) false
noncomputable def RS.burst (r:RS) (t:Sh):RS:={r with np:=(bZ (r.mp.brQ t.pos) t.owner r.ps).length,cp:=pq (bZ (r.mp.brQ t.pos) t.owner r.ps).length,ps:=bZ (r.mp.brQ t.pos) t.owner r.ps}
noncomputable def RS.hit (r:RS) (s:Sh):Bool:=(bf r.mp.at s).2||yj (bf r.mp.at s).1 r.ps
noncomputable def RS.bok (r:RS) (t:Sh):Bool:=js r.w r.d r.h 0 r.len r.xs t.pos r.ps r.np
noncomputable def RS.sok (r:RS) (s:Sh):Bool:=aw s.pos&&decide (0+r.len≤r.xs.length)
noncomputable def G1 (r:RS) (v:Vr) (s:Sh):Option aj:=
 bif r.sok s then bif okLen r then bif r.hit s then bif r.bok (bf r.mp.at s).1 then some (.tuple [.agg (bf r.mp.at s).1.sv,.bool (!r.hit s)],(r.burst (bf r.mp.at s).1).rows v) else none
 else some (.tuple [.agg (bf r.mp.at s).1.sv,.bool (!r.hit s)],r.rows v) else none else none
theorem vY (r:RS) (s:Sh):gN RC (aF [Fz]) 58 Tryz.f58 [.agg s.sv] r .s=G1 r .s s∧
    gN RC (aF [Fz]) 58 Tryz.f58 [.agg s.sv] r .f=G1 r .f s:=⟨by kernel_rfl,by kernel_rfl⟩
noncomputable def RS.flown (r:RS) (s:Sh):RS:={r with np:=bif r.hit s then (r.burst (bf r.mp.at s).1).np else r.np,cp:=bif r.hit s then (r.burst (bf r.mp.at s).1).cp else r.cp,ps:=bif r.hit s then (r.burst (bf r.mp.at s).1).ps else r.ps}
noncomputable def bM (r:RS) (s:Sh):RS×Sh×Bool:=(r.flown s,(bf r.mp.at s).1,!r.hit s)
theorem kt {r:RS} {s:Sh} (h:r.hit s=true):r.flown s=r.burst (bf r.mp.at s).1:=by unfold RS.flown;rw [h];rfl
theorem ja {r:RS} {s:Sh} (h:r.hit s=false):r.flown s=r:=by unfold RS.flown;rw [h];rfl
noncomputable def iK (r:RS) (s:Sh):Bool:=r.sok s&&(okLen r&&(!r.hit s||r.bok (bf r.mp.at s).1))
theorem BD {r:RS} {v:Vr} {s:Sh} (h:iK r s=true):G1 r v s=some (.tuple [.agg (bM r s).2.1.sv,.bool (bM r s).2.2],(bM r s).1.rows v):=by
 unfold iK at h
 rw [Bool.and_eq_true,Bool.and_eq_true] at h
 unfold G1 bM
 rw [h.1,h.2.1]
 cases hh:r.hit s with
 |false=>rw [ja hh];rfl
 |true=>
  have h3:=h.2.2
  rw [hh] at h3
  simp only [Bool.not_true,Bool.false_or] at h3
  rw [h3,kt hh]
  rfl
noncomputable def MO (args:List SV) (rows:List Row):Option aL:=match args with
 |[.ptr g 0 0 0,.agg cs]=>match cW rows g,JQ cs with
  |some (r,.s,σ),some s=>some (ji σ rows.length (iK r s) (.tuple [.agg (bM r s).2.1.sv,.bool (bM r s).2.2]) (bM r s).1 .s)
  |some (r,.f,σ),some s=>some (ji σ rows.length (iK r s) (.tuple [.agg (bM r s).2.1.sv,.bool (bM r s).2.2]) (bM r s).1 .f)
  |_,_=>none
 |_=>none
theorem K4 {args:List SV} {rows:List Row} {e:aL} (h:MO args rows=some e) (hok:e.ok=true):aN Tryz.prog 58 args (rows[·]?) rows.length e:=by
 unfold MO at h
 split at h
 · rename_i g cs
   split at h
   · rename_i r σ s hr hs
     cases h
     unfold ji at hok
     simp only [Bool.and_eq_true] at hok
     rw [fE hs]
     exact kH (L:=aF [Fz]) xL aG Tryz.func58 (ds:=[.agg s.sv]) ((vY r s).1.trans (BD hok.2)) rfl rfl hr hok.1
   · rename_i r σ s hr hs
     cases h
     unfold ji at hok
     simp only [Bool.and_eq_true] at hok
     rw [fE hs]
     exact kH (L:=aF [Fz]) xL aG Tryz.func58 (ds:=[.agg s.sv]) ((vY r s).2.trans (BD hok.2)) rfl rfl hr hok.1
   · cases h
 · cases h
noncomputable def GD:bY:=⟨58,MO,fun _ _ _ h hok=>K4 h hok,aq Tryz.func58 (by kernel_rfl)⟩
end Go.Proofs.YtimkhidniolpeaaGreat
