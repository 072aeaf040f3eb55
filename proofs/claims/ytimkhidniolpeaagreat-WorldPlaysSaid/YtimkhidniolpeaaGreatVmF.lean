/- Part of the proof. -/
import Derived.Test.YtimkhidniolpeaaGreatVmE
import Derived.Orders
namespace Go.Proofs.YtimkhidniolpeaaGreat
set_option linter.unusedSimpArgs false
set_option linter.unusedVariables false
set_option maxRecDepth 100000
set_option maxHeartbeats 0
open Go.RowKit
structure Cf where
 tm:List SV
 m:jM
def Cf.ev (c:Cf):Operand→SV
 |.tmp t=>c.tm.getD t .top
 |.const v=>ofValue v
 |.global _=>.top
 |.func f=>.fn f []
def Cf.after (c:Cf) (d:Option Nat) (n:Nat) (e:aL):Cf:=⟨AQ c.tm d e.val,iD (iB c.m e.wr) n e.nw⟩
def St.cf (s:St):Cf:=⟨s.tmps.list,fun i=>s.rows[i]?⟩
theorem St.cf_ev (s:St):s.cf.ev=s.ev:=by
 funext x
 cases x with
 |tmp t=>exact s.tmps.list_get t
 |_=>rfl
theorem mT:∀(l:List (Nat×Row)) (rows:List Row),(nz rows l).length=rows.length
 |[],_=>rfl
 |(i,r)::l,rows=>by rw [nz,mT l];simp
theorem tW:∀(l:List (Nat×Row)) (rows:List Row),(fun i=>(nz rows l)[i]?)=iB (fun i=>rows[i]?) l
 |[],_=>rfl
 | (i,r)::l,rows=>by
  rw [nz,tW l,iB]
  congr 1
  funext j
  by_cases hj:j=i
  · subst hj
    by_cases hlt:j<rows.length
    · simp [hlt]
    · simp [List.getElem?_set,hlt,List.getElem?_eq_none (Nat.le_of_not_lt hlt)]
  · rw [List.getElem?_set_ne (Ne.symm hj),if_neg (fun h=>hj h.1)]
theorem St.cf_after (s:St) {d:Option Nat} (hd:jk s.tmps d=true) (e:aL):(s.after d e).cf=s.cf.after d s.rows.length e:=by
 unfold St.after St.cf Cf.after
 simp only [ms hd]
 congr 1
 funext i
 have h:=congrFun (tW e.wr s.rows) i
 have hl:=mT e.wr s.rows
 unfold iD
 by_cases hi:s.rows.length≤i
 · rw [List.getElem?_append_right (by omega),hl]
   by_cases h2:i<s.rows.length+e.nw.length
   · rw [if_pos ⟨hi,h2⟩]
   · rw [if_neg (by omega),List.getElem?_eq_none (by omega),←h,List.getElem?_eq_none (by omega)]
 · rw [List.getElem?_append_left (by omega),h,if_neg (by omega)]
structure dt (ρ:aR) (c:Cf) (a:Act) (w:World):Prop where
 tm:au ρ c.tm a.tmps.toList
 df:a.defers=[]
 good:gK ρ w
 rows:∀i row,c.m i=some row→bk ρ i row w
 apart:gY ρ (bq c.m)
 free:∀i,c.m i=none→ρ i=none
 obj:zG ρ c.m w
theorem dt.w {ρ:aR} {c:Cf} {a:Act} {w:World} (h:dt ρ c a w):rP ρ c.m w:=⟨h.good,h.rows,h.apart,h.free,h.obj⟩
structure ZO (ρ:aR) (m:jM) (w:World) (ρ':aR) (m':jM) (w':World):Prop where
 le:ρ.le ρ'
 keep:∀i,m' i=none→m i=none
 live:∀i,bq m' i→bq m i∨m i=none
 dom:∀i p,ρ' i=some p→ρ i=some p∨m i=none
 new:∀i p,m i=none→ρ' i=some p→w.heap.size≤p.b∨fZ ρ m p.b
 frm:um (fZ ρ m) w w'
theorem dE.plain {ρ ρ':aR} {m m':jM} {w w':World} (h:dE ρ m w ρ' m' w') (hm:∀i s,m i≠some (.obj s)):ZO ρ m w ρ' m' w':=by
 have may:∀b,CS ρ m w b→fZ ρ m b:=by
  rintro b (h |⟨i,s,_,hi,_⟩)
  · exact h
  · exact absurd hi (hm i s)
 exact ⟨h.le,h.keep,h.live,h.dom,fun i p hi hp=>(h.new i p hi hp).imp id (may _),h.frm.weaken fun b _ hb=>may b hb⟩
def bR (all:List Oper) (ts:List SV) (o:Oper) (b:Bool):Prop:=
 match o.guard with
 |none=>b=true
 | some (j,want)=>match (all[j]?).bind (·.dst) with
  |none=>b=false
  |some t=>match ts[t]? with
   |some (.bool v)=>b=(v==want)
   |some (.tuple [])=>b=false
   |none=>b=false
   |_=>False
theorem oQ {ρ:aR} {all:List Oper} {ts:List SV} {o:Oper} {b:Bool} (h:bR all ts o b) {tmps:Array Value} (hr:au ρ ts tmps.toList):Region.wanted o (yielded all.toArray tmps)=b:=by
 unfold bR at h
 unfold Region.wanted
 cases hg:o.guard with
 |none=>simp only [hg] at h;simp [h]
 | some jw=>
  obtain ⟨j,want⟩:=jw
  simp only [hg] at h
  simp only
  unfold yielded
  simp only [List.getElem?_toArray]
  cases hd:(all[j]?).bind (·.dst) with
  |none=>simp only [hd] at h;simp [h]
  | some t=>
   simp only [hd] at h
   simp only [Option.bind_some]
   cases ht:ts[t]? with
   | none=>
    simp only [ht] at h
    have hl:=hr.length
    have :tmps[t]? =none:=by
     rw [List.getElem?_eq_none_iff] at ht
     rw [Array.getElem?_eq_none_iff]
     simp at hl
     omega
    rw [this]
    simp [h]
   | some sv=>
    obtain ⟨v,hv,hrel⟩:=hr.get ht
    rw [Array.getElem?_toList] at hv
    rw [hv]
    rw [ht] at h
    split at h
    · rename_i c hc
      cases hc
      simp only [aE] at hrel
      subst hrel
      simp only
      rw [h]
      cases c<;>cases want<;>rfl
    · rename_i hc
      cases hc
      simp only [aE,au] at hrel
      obtain ⟨vs,rfl,rfl⟩:=hrel
      simp [h]
    · rename_i hc;cases hc
    · exact h.elim
structure jj (P:Program) (all:List Oper) (o:Oper) (n:Nat) (e:aL) (c:Cf):Prop where
 op:(bR all c.tm o false∧e={val:=.tuple []})∨(bR all c.tm o true∧mJ P o c.ev c.m n e∧(∀x∈e.wr,bq c.m x.1)∧iP e=true)∨(bR all c.tm o true∧Fr P o c.ev c.m n e)
 wr:∀x∈e.wr,∃row,c.m x.1=some row
 nd:(e.wr.map (·.1)).Nodup
 nw:∀j,n≤j→j<n+e.nw.length→c.m j=none
theorem tX {ρ:aR} {c:Cf} {a:Act} (h:au ρ c.tm a.tmps.toList) (x:Operand):aE ρ (c.ev x) (a.eval x):=by
 cases x with
 | tmp t=>
  simp only [Cf.ev,Act.eval]
  cases ht:c.tm[t]? with
  |none=>simp [List.getD,ht,aE]
  |some sv=>
   obtain ⟨v,hv,hr⟩:=h.get ht
   rw [Array.getElem?_toList] at hv
   simpa [List.getD,ht,Array.getD_eq_getD_getElem?,hv] using hr
 |const v=>exact zV ρ v
 |global g=>simp [Cf.ev,aE]
 |func f=>simp [Cf.ev,Act.eval,aE,au]
theorem G7 {ρ:aR} {tm:List SV} {a:Act} (h:au ρ tm a.tmps.toList) (d:Option Nat) {s:SV} {v:Value} (hv:aE ρ s v):au ρ (AQ tm d s) (a.put d v).tmps.toList:=by
 cases d with
 |none=>exact h
 |some d=>simpa [AQ,Act.put] using h.set hv d
theorem gH:∀(l:List (Nat×Row)) (m:jM),(l.map (·.1)).Nodup→∀i,(∀r,(i,r)∈l→(m i).isSome=true→iB m l i=some r)∧((∀r,(i,r)∉l)→iB m l i=m i)
 |[],m,_,i=>by simp [iB]
 | (j,s)::l,m,hn,i=>by
  simp only [List.map_cons,List.nodup_cons] at hn
  obtain ⟨h1,h2⟩:=gH l (fun k=>if k=j∧(m k).isSome=true then some s else m k) hn.2 i
  rw [iB]
  constructor
  · intro r hr hs
    rcases List.mem_cons.1 hr with hr |hr
    · cases hr
      rw [h2 (fun r hr=>hn.1 (List.mem_map.2 ⟨_,hr,rfl⟩))]
      simp [hs]
    · refine h1 r hr ?_
      split
      · rfl
      · exact hs
  · intro hno
    rw [h2 (fun r hr=>hno r (by simp [hr])),if_neg]
    rintro ⟨rfl,_⟩
    exact hno s (by simp)
theorem zJ {e:aL} (h:iP e=true):(∀x∈e.wr,x.2.isObj=false)∧∀r∈e.nw,r.isObj=false:=by
 unfold iP at h
 rw [Bool.and_eq_true,List.all_eq_true,List.all_eq_true] at h
 exact ⟨fun x hx=>by simpa using h.1 x hx,fun r hr=>by simpa using h.2 r hr⟩
theorem yr {P:Program} {all:List Oper} {o:Oper} {n:Nat} {e:aL} {c:Cf} (hs:jj P all o n e c) (hswr:∀x∈e.wr,bq c.m x.1) (hpl:iP e=true) {ρ:aR} {a:Act} {w:World} (hr:dt ρ c a w) {v:Value} {ρ':aR} {w':World} (ha:cv ρ (bq c.m) n e w v ρ' w'):
    dt ρ' (c.after o.dst n e) (a.put o.dst v) w'∧dE ρ c.m w ρ' (c.after o.dst n e).m w':=by
 obtain ⟨hpl1,hpl2⟩:=zJ hpl
 have hm:∀i,((n≤i∧i<n+e.nw.length)∧(c.after o.dst n e).m i=e.nw[i - n]? ∧c.m i=none)∨((¬ (n≤i∧i<n+e.nw.length))∧((∃r,(i,r)∈e.wr∧(c.after o.dst n e).m i=some r)∨((∀r,(i,r)∉e.wr)∧(c.after o.dst n e).m i=c.m i))):=by
  intro i
  unfold Cf.after iD
  by_cases h:n≤i∧i<n+e.nw.length
  · exact .inl ⟨h,by simp [h],hs.nw i h.1 h.2⟩
  · refine .inr ⟨h,?_⟩
    simp only [if_neg h]
    by_cases hw:∃r,(i,r)∈e.wr
    · obtain ⟨r,hr⟩:=hw
      obtain ⟨row,h1⟩:=hs.wr _ hr
      exact .inl ⟨r,hr,(gH e.wr c.m hs.nd i).1 r hr (by simp [h1])⟩
    · refine .inr ⟨fun r hr=>hw ⟨r,hr⟩,(gH e.wr c.m hs.nd i).2 (fun r hr=>hw ⟨r,hr⟩)⟩
 have hkeepb:∀i p row,c.m i=some row→row.live=true→(∀r,(i,r)∉e.wr)→ρ i=some p→w'.heap[p.b]? =w.heap[p.b]? :=by
  intro i p row h1 h2 h3 h4
  refine ha.frm.block p.b (hr.good i p h4) ?_
  rintro ⟨x,hx,q,hq,hqm,hqb⟩
  refine hr.apart i x.1 p q ⟨row,h1,h2⟩ (hswr x hx) ?_ h4 hq (by simp [hqm]) hqb.symm
  rintro rfl
  exact h3 x.2 hx
 have hlive:∀i,bq (c.after o.dst n e).m i→dg (bq c.m) n e i:=by
  rintro i ⟨row,h1,h2⟩
  rcases hm i with ⟨h,_⟩|⟨h,hw⟩
  · rename_i hh
    exact .inr ⟨h,fun row' hrow'=>by rw [hh.1,hrow'] at h1;cases h1;exact h2⟩
  · refine .inl ?_
    rcases hw with ⟨r,hr1,hr2⟩|⟨hno,hsame⟩
    · refine ⟨hswr _ hr1,fun x hx hxi=>?_⟩
      have :x=(i,r):=by
       have hnd:=hs.nd
       obtain ⟨xi,xr⟩:=x
       simp only at hxi
       subst hxi
       have h3:=(gH e.wr c.m hs.nd xi).1
       obtain ⟨row',h4⟩:=hs.wr _ hr1
       have h5:=h3 r hr1 (by simp [h4])
       have h6:=h3 xr hx (by simp [h4])
       rw [h5] at h6
       cases h6
       rfl
      subst this
      rw [hr2] at h1
      cases h1
      exact h2
    · exact ⟨⟨row,by rw [←hsame];exact h1,h2⟩,fun x hx hxi=>absurd (show (i,x.2)∈e.wr by subst hxi;exact hx) (hno x.2)⟩
 have hmay:∀b,(∃x∈e.wr,∃p,ρ x.1=some p∧p.mine=true∧p.b=b)→fZ ρ c.m b:=by
  rintro b ⟨x,hx,p,hp,hpm,hpb⟩
  exact ⟨x.1,p,hswr x hx,hp,hpm,hpb⟩
 have hnew:∀i p,n≤i→i<n+e.nw.length→ρ' i=some p→w.heap.size≤p.b∨fZ ρ c.m p.b:=by
  intro i p h1 h2 hp
  rcases ha.new i p h1 h2 hp with h1 |⟨j,q,h1,_,h3,h4,h5⟩
  · exact .inl h1
  · exact .inr ⟨j,q,h1,h3,h4,h5⟩
 obtain ⟨hobj1,hobj2⟩:=hr.obj.step (m':=(c.after o.dst n e).m) (w':=w') ha.le (by
     intro i s hi
     rcases hm i with ⟨h,h1,_⟩|⟨h,hw⟩
     · rw [h1] at hi
       have:=hpl2 _ (List.mem_of_getElem? hi)
       simp [Row.isObj] at this
     · rcases hw with ⟨r,hr1,hr2⟩|⟨hno,hsame⟩
       · rw [hr2] at hi
         cases hi
         have:=hpl1 _ hr1
         simp [Row.isObj] at this
       · rw [←hsame];exact hi) ha.frm.size (fun b hb hn=>ha.frm.block b hb fun hk=>hn (hmay b hk)) (by
     intro j q hj hq
     rcases hlive j hj with h |h
     · rcases ha.dom j q hq with h1 |h1
       · exact .inl ⟨h.1,h1⟩
       · exact .inr (hnew j q h1.1 h1.2 hq)
     · exact .inr (hnew j q h.1.1 h.1.2 hq))
 refine ⟨⟨?_,?_,ha.good,?_,?_,?_,hobj1⟩,⟨ha.le,?_,?_,?_,?_,?_,?_⟩⟩
 · exact G7 (au.mono ha.le _ _ hr.tm) o.dst ha.val
 · cases o.dst<;>exact hr.df
 · intro i row hi
   rcases hm i with ⟨h,h1,_⟩|⟨h,hw⟩
   · rw [h1] at hi
     have:=ha.nw (i - n) row hi
     rwa [show n+(i - n)=i by omega] at this
   · rcases hw with ⟨r,hr1,hr2⟩|⟨hno,hsame⟩
     · rw [hr2] at hi
       cases hi
       exact ha.wr _ hr1
     · rw [hsame] at hi
       by_cases hl:row.live=true
       · exact (hr.rows i row hi).keep ha.le (fun p hp=>hkeepb i p row hi hl hno hp)
       · cases row with
         |gone=>trivial
         |obj _=>trivial
         |own cs=>simp [Row.live] at hl
         |pre ro cs=>simp [Row.live] at hl
         |vec ro k xs=>
          refine .inl ?_
          cases ro<;>cases xs<;>simp [Row.live] at hl
          exact ⟨rfl,rfl⟩
 · intro i j p q hi hj hij hp hq hmm
   exact ha.apart i j p q (hlive i hi) (hlive j hj) hij hp hq hmm
 · intro i hi
   rcases hm i with ⟨h,h1,_⟩|⟨h,hw⟩
   · rw [h1,List.getElem?_eq_none_iff] at hi
     omega
   · rcases hw with ⟨r,hr1,hr2⟩|⟨hno,hsame⟩
     · rw [hr2] at hi;cases hi
     · rw [hsame] at hi
       cases hρ:ρ' i with
       |none=>rfl
       |some p=>
        rcases ha.dom i p hρ with h1 |h1
        · rw [hr.free i hi] at h1;cases h1
        · exact absurd h1 h
 · intro i hi
   rcases hm i with ⟨h,h1,h2⟩|⟨h,hw⟩
   · exact h2
   · rcases hw with ⟨r,hr1,hr2⟩|⟨hno,hsame⟩
     · rw [hr2] at hi;cases hi
     · rwa [hsame] at hi
 · intro i hi
   rcases hlive i hi with h |h
   · exact .inl h.1
   · exact .inr (hs.nw i h.1.1 h.1.2)
 · intro i p hp
   rcases ha.dom i p hp with h |h
   · exact .inl h
   · exact .inr (hs.nw i h.1 h.2)
 · intro i p hi hp
   rcases ha.dom i p hp with h |h
   · rw [hr.free i hi] at h;cases h
   · exact (hnew i p h.1 h.2 hp).imp id .inl
 · exact ha.frm.weaken fun b _ hb=>.inl (hmay b hb)
 · intro i s p hi hp x hx
   obtain ⟨h1,h2⟩:=hobj2 i s p hi hp
   refine .inr (.inr ⟨i,s,p,?_,h1,(h2 x).1 hx⟩)
   rcases hm i with ⟨h,h1,_⟩|⟨h,hw⟩
   · rw [h1] at hi
     have:=hpl2 _ (List.mem_of_getElem? hi)
     simp [Row.isObj] at this
   · rcases hw with ⟨r,hr1,hr2⟩|⟨hno,hsame⟩
     · rw [hr2] at hi
       cases hi
       have:=hpl1 _ hr1
       simp [Row.isObj] at this
     · rw [←hsame];exact hi
theorem FK {P:Program} {all:List Oper} {i:Nat} {o:Oper} (hi:all[i]? =some o) {n:Nat} {e:aL} {c:Cf} (hs:jj P all o n e c) {ρ:aR} {a:Act} {w:World} (hr:dt ρ c a w) {Q:Exit→Act→World→Prop} {K:Act→World→Prop}
    (hK:∀v ρ' w',dt ρ' (c.after o.dst n e) (a.put o.dst v) w'→dE ρ c.m w ρ' (c.after o.dst n e).m w'→K (a.put o.dst v) w'):wpOp P all.toArray Q i K a w:=by
 unfold wpOp
 simp only [List.getElem?_toArray,hi]
 rcases hs.op with ⟨hw,rfl⟩|⟨hw,hop,hwr,hpl⟩|⟨hw,hop⟩
 · rw [oQ hw hr.tm]
   simp only [Bool.false_eq_true,if_false]
   have haft:cv ρ (bq c.m) n {val:=.tuple []} w undef ρ w:=cv.quiet hr.good hr.apart (by simp [aE,au,undef]) rfl rfl
   obtain ⟨h1,h2⟩:=yr hs (by simp) rfl hr haft
   exact hK _ _ _ h1 h2
 · rw [oQ hw hr.tm]
   simp only [if_true]
   refine .inl (hop ρ (bq c.m) a w (fun x _=>tX hr.tm x) hr.good hr.apart (fun id _ row h=>⟨hr.rows id row h,fun hl=>⟨row,h,hl⟩⟩) (fun j h1 h2=>⟨hr.free j (hs.nw j h1 h2),fun ⟨row,hrow,_⟩=>by rw [hs.nw j h1 h2] at hrow;cases hrow⟩) K Q fun v ρ' w' haft=>?_)
   obtain ⟨h1,h2⟩:=yr hs hwr hpl hr haft
   exact hK _ _ _ h1 h2
 · rw [oQ hw hr.tm]
   simp only [if_true]
   refine .inl (hop ρ c.m a w (fun x _=>tX hr.tm x) (fun _ _=>rfl) (fun _ _=>rfl) hs.nw hr.w K Q fun v ρ' w' hv hw' hp=>?_)
   refine hK _ _ _ ⟨G7 (au.mono hp.le _ _ hr.tm) o.dst hv,?_,hw'.good,hw'.rows,hw'.apart,hw'.free,hw'.obj⟩ hp
   cases o.dst<;>exact hr.df
structure er where
 o:Oper
 n:Nat
 e:aL
def er.touch (x:er) (i:Nat):Prop:=(∃r,(i,r)∈x.e.wr)∨(x.n≤i∧i<x.n+x.e.nw.length)
abbrev er.on (x:er) (c:Cf):Cf:=c.after x.o.dst x.n x.e
abbrev er.Ok (P:Program) (all:List Oper) (x:er) (c:Cf):Prop:=jj P all x.o x.n x.e c
inductive sQ (P:Program) (all:List Oper):Cf→List (Nat×er)→Cf→Prop
 |nil (c:Cf):sQ P all c [] c
 |cons {c c':Cf} {i:Nat} {x:er} {l:List (Nat×er)} (hi:all[i]? =some x.o) (hs:x.Ok P all c) (h:sQ P all (x.on c) l c'):sQ P all c ((i,x)::l) c'
section
variable {P:Program} {all:List Oper}
structure VC (c c0:Cf):Prop where
 m:c0.m=c.m
 tm:∀(ρ:aR) (us:List Value),au ρ c.tm us→au ρ c0.tm us
theorem dt.weak {ρ:aR} {c c0:Cf} {a:Act} {w:World} (h:dt ρ c a w) (hw:VC c c0):dt ρ c0 a w:=
 ⟨hw.tm ρ _ h.tm,h.df,h.good,by rw [hw.m];exact h.rows,by rw [hw.m];exact h.apart,by rw [hw.m];exact h.free,by rw [hw.m];exact h.obj⟩
theorem va {ρ:aR}:∀{xs ys:List SV} {us:List Value},xs.length=ys.length→(∀(i:Nat) (v:SV),ys[i]? =some v→v=.top∨xs[i]? =some v)→au ρ xs us→au ρ ys us
 |[],[],us,_,_,h=>h
 |[],_::_,_,hl,_,_=>by simp at hl
 |_::_,[],_,hl,_,_=>by simp at hl
 |x::xs,y::ys,us,hl,hp,h=>by
  rw [au] at h
  obtain ⟨u,us',rfl,h1,h2⟩:=h
  rw [aa]
  refine ⟨?_,va (by simpa using hl) (fun i v hi=>by simpa using hp (i+1) v (by simpa using hi)) h2⟩
  rcases hp 0 y (by simp) with h3 |h3
  · rw [h3];simp [aE]
  · simp at h3;rw [←h3];exact h1
inductive e6 (P:Program) (all:List Oper):Cf→List (Nat×er)→Cf→Prop
 |nil (c:Cf):e6 P all c [] c
 |cons {c c':Cf} {i:Nat} {x:er} {l:List (Nat×er)} (hi:all[i]? =some x.o) (hs:x.Ok P all c) (h:e6 P all (x.on c) l c'):e6 P all c ((i,x)::l) c'
 |weak {c c0 c':Cf} {l:List (Nat×er)} (hw:VC c c0) (h:e6 P all c0 l c'):e6 P all c l c'
theorem e6.append {c c1 c':Cf} {l l':List (Nat×er)} (h:e6 P all c l c1) (k:e6 P all c1 l' c'):e6 P all c (l++l') c':=by
 induction h with
 |nil c=>exact k
 |cons hi hs _ ih=>exact .cons hi hs (ih k)
 |weak hw _ ih=>exact .weak hw (ih k)
theorem Bs {Q:Exit→Act→World→Prop} {c c':Cf} {l:List (Nat×er)} (h:e6 P all c l c'):∀{ρ:aR} {a:Act} {w:World},dt ρ c a w→
    (∀ρ' a' w',dt ρ' c' a' w'→dE ρ c.m w ρ' c'.m w'→Q .normal a' w')→wpOps P all.toArray Q (l.map (·.1)) a w:=by
 induction h with
 |nil c=>
  intro ρ a w hr hQ
  exact hQ ρ a w hr (dE.refl _ _ _ hr.free)
 |cons hi hs h ih=>
  intro ρ a w hr hQ
  rw [List.map_cons,wpOps_cons]
  refine FK hi hs hr fun v ρ' w' hr' hp=>ih hr' fun ρ'' a'' w'' hr'' hp'=>hQ _ _ _ hr'' (hp.trans hp')
 |weak hw h ih=>
  intro ρ a w hr hQ
  exact ih (hr.weak hw) fun ρ' a' w' hr' hp=>hQ ρ' a' w' hr' (by rw [hw.m] at hp;exact hp)
theorem gA {x:er} {c:Cf} (hs:x.Ok P all c) (i:Nat):((x.n≤i∧i<x.n+x.e.nw.length)∧(x.on c).m i=x.e.nw[i - x.n]? ∧c.m i=none)∨
    ((¬ (x.n≤i∧i<x.n+x.e.nw.length))∧((∃r,(i,r)∈x.e.wr∧(x.on c).m i=some r)∨((∀r,(i,r)∉x.e.wr)∧(x.on c).m i=c.m i))):=by
 unfold er.on Cf.after iD
 by_cases h:x.n≤i∧i<x.n+x.e.nw.length
 · exact .inl ⟨h,by simp [h],hs.nw i h.1 h.2⟩
 · refine .inr ⟨h,?_⟩
   simp only [if_neg h]
   by_cases hw:∃r,(i,r)∈x.e.wr
   · obtain ⟨r,hr⟩:=hw
     obtain ⟨row,h1⟩:=hs.wr _ hr
     exact .inl ⟨r,hr,(gH x.e.wr c.m hs.nd i).1 r hr (by simp [h1])⟩
   · exact .inr ⟨fun r hr=>hw ⟨r,hr⟩,(gH x.e.wr c.m hs.nd i).2 (fun r hr=>hw ⟨r,hr⟩)⟩
theorem dl {x:er} {c:Cf} (hs:x.Ok P all c) {i:Nat} (h: ¬ x.touch i):(x.on c).m i=c.m i:=by
 rcases gA hs i with ⟨h1,_⟩|⟨_,⟨r,h1,_⟩|⟨_,h1⟩⟩
 · exact absurd (.inr h1) h
 · exact absurd (.inl ⟨r,h1⟩) h
 · exact h1
structure YA (all:List Oper) (x y:er):Prop where
 d1:∀d,x.o.dst=some d→d∉mw all y.o
 d2:∀d,y.o.dst=some d→d∉mw all x.o
 d3:∀d,x.o.dst=some d→y.o.dst≠some d
 r1:∀i,x.touch i→i∉y.e.rd
 r2:∀i,y.touch i→i∉x.e.rd
 w:∀i,x.touch i→ ¬ y.touch i
theorem jj.congr {o:Oper} {n:Nat} {e:aL} {c c':Cf} (h:jj P all o n e c) (h1:∀t∈mw all o,c'.tm[t]? =c.tm[t]?) (h2:∀i∈e.rd,c'.m i=c.m i) (h3:∀x∈e.wr,c'.m x.1=c.m x.1)
    (h4:∀j,n≤j→j<n+e.nw.length→c'.m j=none):jj P all o n e c':=by
 have hw:∀b,bR all c.tm o b→bR all c'.tm o b:=by
  intro b hb
  unfold bR at hb ⊢
  cases hg:o.guard with
  |none=>simpa [hg] using hb
  | some jw=>
   obtain ⟨j,want⟩:=jw
   simp only [hg] at hb ⊢
   cases hd:(all[j]?).bind (·.dst) with
   |none=>simpa [hd] using hb
   |some t=>
    simp only [hd] at hb ⊢
    rw [h1 t (by unfold mw;simp [hg,hd])]
    exact hb
 have hev:∀x∈o.op.operands,c'.ev x=c.ev x:=by
  intro x hx
  cases x with
  |tmp t=>
   simp only [Cf.ev,List.getD]
   rw [h1 t]
   unfold mw
   refine List.mem_append_left _ (List.mem_filterMap.2 ⟨.tmp t,by simpa using hx,rfl⟩)
  |const v=>rfl
  |global g=>rfl
  |func f=>rfl
 refine ⟨?_,fun x hx=>?_,h.nd,h4⟩
 · rcases h.op with ⟨hb,he⟩|⟨hb,ho,hl,hpl⟩|⟨hb,ho⟩
   · exact .inl ⟨hw _ hb,he⟩
   · refine .inr (.inl ⟨hw _ hb,fun ρ pres a w hx hg ha hrd hfree=>ho ρ pres a w (fun x hxo=>by rw [←hev x hxo];exact hx x hxo) hg ha (fun id hid row hrow=>hrd id hid row (by rw [h2 id hid];exact hrow)) hfree,fun x hx=>?_,hpl⟩)
     obtain ⟨row,hr,hlv⟩:=hl x hx
     exact ⟨row,by rw [h3 x hx];exact hr,hlv⟩
   · refine .inr (.inr ⟨hw _ hb,fun ρ m1 a w hx hrd hwr hfree=>ho ρ m1 a w (fun x hxo=>by rw [←hev x hxo];exact hx x hxo) (fun i hi=>(hrd i hi).trans (h2 i hi)) (fun x hx=>(hwr x hx).trans (h3 x hx)) hfree⟩)
 · obtain ⟨row,hr⟩:=h.wr x hx
   exact ⟨row,by rw [h3 x hx];exact hr⟩
theorem yL {ts:List SV} {d:Option Nat} {v:SV} {t:Nat} (h:d≠some t):(AQ ts d v)[t]? =ts[t]? :=by
 cases d with
 |none=>rfl
 |some d=>simp only [AQ];rw [List.getElem?_set_ne];rintro rfl;exact h rfl
theorem Hc {c c':Cf} {i k:Nat} {x y:er} {l:List (Nat×er)} (hi:YA all x y) (h:sQ P all c ((i,x)::(k,y)::l) c'):sQ P all c ((k,y)::(i,x)::l) c':=by
 cases h with
 | cons hix hx h=>
  cases h with
  | cons hky hy h=>
   have hy':y.Ok P all c:=hy.congr (fun t ht=>(yL (fun hd=>hi.d1 t hd ht)).symm) (fun j hj=>(dl hx (fun ht=>hi.r1 j ht hj)).symm)
    (fun z hz=>(dl hx (fun ht=>hi.w _ ht (.inl ⟨z.2,hz⟩))).symm)
    (fun j h1 h2=>by rw [←dl hx (i:=j) (fun ht=>hi.w _ ht (.inr ⟨h1,h2⟩))];exact hy.nw j h1 h2)
   have hx':x.Ok P all (y.on c):=hx.congr (fun t ht=>yL (fun hd=>hi.d2 t hd ht)) (fun j hj=>dl hy' (fun ht=>hi.r2 j ht hj))
    (fun z hz=>dl hy' (fun ht=>hi.w _ (.inl ⟨z.2,hz⟩) ht))
    (fun j h1 h2=>by rw [dl hy' (i:=j) (fun ht=>hi.w _ (.inr ⟨h1,h2⟩) ht)];exact hx.nw j h1 h2)
   refine .cons hky hy' (.cons hix hx' ?_)
   have : x.on (y.on c)=y.on (x.on c):=by
    have htm:(x.on (y.on c)).tm=(y.on (x.on c)).tm:=by
     simp only [er.on,Cf.after]
     cases hxd:x.o.dst with
     |none=>rfl
     | some d=>
      cases hyd:y.o.dst with
      |none=>rfl
      |some d'=>
       simp only [AQ]
       rw [List.set_comm]
       rintro rfl
       exact hi.d3 _ hxd hyd
    have hm:(x.on (y.on c)).m=(y.on (x.on c)).m:=by
     funext j
     by_cases tx:x.touch j
     · have ty: ¬ y.touch j:=hi.w j tx
       rw [dl hy ty]
       rcases gA hx' j with ⟨h1,h2,_⟩|⟨h0,⟨r,h1,h2⟩|⟨h1,_⟩⟩
       · rw [h2]
         rcases gA hx j with ⟨_,k2,_⟩|⟨k0,_⟩
         · rw [k2]
         · exact absurd h1 k0
       · rw [h2]
         have k:=(gH x.e.wr c.m hx.nd j).1 r h1 (by obtain ⟨row,g⟩:=hx.wr _ h1;simp [g])
         simp only [er.on,Cf.after,iD]
         rw [if_neg h0,k]
       · rcases tx with ⟨r,hr⟩|hr
         · exact absurd hr (h1 r)
         · exact absurd hr h0
     · rw [dl hx' tx]
       by_cases ty:y.touch j
       · rcases gA hy' j with ⟨h1,h2,_⟩|⟨h0,⟨r,h1,h2⟩|⟨h1,_⟩⟩
         · rw [h2]
           rcases gA hy j with ⟨_,k2,_⟩|⟨k0,_⟩
           · rw [k2]
           · exact absurd h1 k0
         · rw [h2]
           have k:=(gH y.e.wr (x.on c).m hy.nd j).1 r h1 (by obtain ⟨row,g⟩:=hy.wr _ h1;simp [g])
           change _=iD (iB (x.on c).m y.e.wr) y.n y.e.nw j
           simp only [iD]
           rw [if_neg h0,k]
         · rcases ty with ⟨r,hr⟩|hr
           · exact absurd hr (h1 r)
           · exact absurd hr h0
       · rw [dl hy' ty,dl hy ty,dl hx tx]
    cases h1:x.on (y.on c)
    cases h2:y.on (x.on c)
    rw [h1,h2] at htm hm
    simp only at htm hm
    rw [htm,hm]
   rw [this]
   exact h
theorem rX {c':Cf} {k:Nat} {y:er} {post:List (Nat×er)}:∀(pre:List (Nat×er)) (c:Cf),(∀x∈pre,YA all x.2 y)→sQ P all c (pre++(k,y)::post) c'→sQ P all c ((k,y)::(pre++post)) c'
 |[],_,_,h=>h
 | (i,x)::pre,c,hi,h=>by
  cases h with
  |cons hix hx h=>
   exact Hc (hi (i,x) (by simp)) (.cons hix hx (rX pre _ (fun z hz=>hi z (by simp [hz])) h))
inductive Sm (all:List Oper):Nat→Nat→Prop
 |edge {i k:Nat} {o:Oper} {e:Edge} (ho:all[k]? =some o) (he:e∈o.after) (hb:Region.binds .any e=true) (hi:e.on=i):Sm all i k
 |trans {i j k:Nat} (h1:Sm all i j) (h2:Sm all j k):Sm all i k
theorem DZ {listed:Array Bool} (hc:∀j o,all[j]? =some o→listed.getD j false=true→∀e∈o.after,Region.binds .any e=true→listed.getD e.on false=true) {i k:Nat} (h:Sm all i k):
    listed.getD k false=true→listed.getD i false=true:=by
 induction h with
 |edge ho he hb hi=>intro hk;subst hi;exact hc _ _ ho hk _ he hb
 |trans _ _ ih1 ih2=>exact fun hk=>ih1 (ih2 hk)
theorem J6 {listed:Array Bool} (hc:∀j o,all[j]? =some o→listed.getD j false=true→∀e∈o.after,Region.binds .any e=true→listed.getD e.on false=true) {i k:Nat} (h:Sm all i k):
    (∀o,all[k]? =some o→∀e∈o.after,Region.binds .any e=true→listed.getD e.on false=true)→listed.getD i false=true:=by
 induction h with
 |edge ho he hb hi=>intro hk;subst hi;exact hk _ ho _ he hb
 |trans h1 _ _ ih2=>exact fun hk=>DZ hc h1 (ih2 hk)
theorem DL {Q:Exit→Act→World→Prop} (hback:∀k o,all[k]? =some o→∀e∈o.after,Region.binds .any e=true→e.on<k) {c':Cf}:∀(fuel:Nat) (l:List (Nat×er)) (listed:Array Bool) (c:Cf) (ρ:aR) (a:Act) (w:World),
    sQ P all c l c'→l.length=fuel→listed.size=all.length→(∀j,j∈l.map (·.1)↔j<all.length∧listed.getD j true=false)→
    l.Pairwise (fun x y=>x.1<y.1∧(Sm all x.1 y.1∨YA all x.2 y.2))→
    (∀j o,all[j]? =some o→listed.getD j false=true→∀e∈o.after,Region.binds .any e=true→listed.getD e.on false=true)→
    dt ρ c a w→(∀ρ' a' w',dt ρ' c' a' w'→dE ρ c.m w ρ' c'.m w'→Q .normal a' w')→wpAny P .any all.toArray Q fuel listed a w:=by
 intro fuel
 have flip:∀(listed:Array Bool) (j:Nat),listed.size=all.length→j<all.length→(listed.getD j true=false↔listed.getD j false=false):=by
  intro listed j h1 h2
  have :j<listed.size:=by omega
  simp [Array.getD,this]
 induction fuel with
 | zero=>
  intro l listed c ρ a w hrun hlen hsz hun hpw hcl hr hQ
  have :l=[]:=List.length_eq_zero_iff.1 hlen
  subst this
  cases hrun
  refine ⟨?_,hQ _ _ _ hr (dE.refl _ _ _ hr.free)⟩
  rw [List.eq_nil_iff_forall_not_mem]
  intro j hj
  obtain ⟨h1,o,ho,_⟩:=mem_ready.1 hj
  have hlt:j<all.length:=by
   have:=(Array.getElem?_eq_some_iff.1 ho).1
   simpa using this
  have:=(hun j).2 ⟨hlt,h1⟩
  simp at this
 | succ fuel ih=>
  intro l listed c ρ a w hrun hlen hsz hun hpw hcl hr hQ
  refine ⟨fun hready=>?_,fun k hk=>?_⟩
  · exfalso
    cases l with
    |nil=>simp at hlen
    | cons x l=>
     obtain ⟨k,x⟩:=x
     have hk:=(hun k).1 (by simp)
     have hkr:k∈Region.ready .any all.toArray listed:=by
      refine mem_ready.2 ⟨hk.2,all[k]'hk.1,by simp [hk.1],fun e he hb=>?_⟩
      have hlt:=hback k _ (List.getElem?_eq_getElem hk.1) e he hb
      cases hl:listed.getD e.on false with
      |true=>rfl
      | false=>
       exfalso
       have h1:listed.getD e.on true=false:=(flip listed e.on hsz (by omega)).2 hl
       have h2:=(hun e.on).2 ⟨by omega,h1⟩
       rw [List.map_cons,List.mem_cons] at h2
       rcases h2 with h2 |h2
       · omega
       · obtain ⟨y,hy,hye⟩:=List.mem_map.1 h2
         have:=(List.pairwise_cons.1 hpw).1 y hy
         simp only at this
         omega
     rw [hready] at hkr
     cases hkr
  · obtain ⟨hkun,o,ho,hall⟩:=mem_ready.1 hk
    have ho':all[k]? =some o:=by simpa using ho
    have hklt:k<all.length:=(List.getElem?_eq_some_iff.1 ho').1
    obtain ⟨y,hy,hyk⟩:=List.mem_map.1 ((hun k).2 ⟨hklt,hkun⟩)
    obtain ⟨k',y⟩:=y
    simp only at hyk
    subst hyk
    obtain ⟨pre,post,rfl⟩:=List.append_of_mem hy
    have hpw':=List.pairwise_append.1 hpw
    have hind:∀x∈pre,YA all x.2 y:=by
     intro x hx
     rcases (hpw'.2.2 x hx (k',y) (by simp)).2 with hb |hi
     · exfalso
       have h1:=J6 hcl hb (fun o2 ho2 e he hbind=>by rw [ho'] at ho2;cases ho2;exact hall e he hbind)
       have h2:=(hun x.1).1 (by simp;exact .inl ⟨x.2,hx⟩)
       rw [(flip listed x.1 hsz h2.1).1 h2.2] at h1
       cases h1
     · exact hi
    have hfront:=rX pre c hind hrun
    cases hfront with
    | cons hiy hy' h=>
     rw [ho'] at hiy
     cases hiy
     refine FK ho' hy' hr fun v ρ' w' hr' hp=>ih (pre++post) (listed.setIfInBounds k' true) _ ρ' _ w' h ?_ (by simpa using hsz) ?_ ?_ ?_ hr' fun ρ'' a'' w'' hr'' hp'=>hQ _ _ _ hr'' (hp.trans hp')
     · simp only [List.length_append,List.length_cons] at hlen ⊢
       omega
     · intro j
       have hnd:k'∉(pre++post).map (·.1):=by
        intro hm
        rw [List.map_append,List.mem_append] at hm
        rcases hm with hm |hm
        · obtain ⟨z,hz,hze⟩:=List.mem_map.1 hm
          have:=(hpw'.2.2 z hz (k',y) (by simp)).1
          simp only at this
          omega
        · obtain ⟨z,hz,hze⟩:=List.mem_map.1 hm
          have:=((List.pairwise_cons.1 hpw'.2.1).1 z hz).1
          simp only at this
          omega
       by_cases hjk:j=k'
       · subst hjk
         constructor
         · exact fun h=>absurd h hnd
         · rintro ⟨h1,h2⟩
           rw [Array.getD_eq_getD_getElem?,Array.getElem?_setIfInBounds_self_of_lt (by omega)] at h2
           simp at h2
       · rw [getD_set_ne true (Ne.symm hjk)]
         rw [←hun j]
         simp only [List.map_append,List.map_cons,List.mem_append,List.mem_cons]
         constructor
         · rintro (h |h)
           · exact .inl h
           · exact .inr (.inr h)
         · rintro (h |h |h)
           · exact .inl h
           · exact absurd h hjk
           · exact .inr h
     · exact hpw.sublist (List.Sublist.append (List.Sublist.refl _) (List.sublist_cons_self _ _))
     · intro j oj hoj hl e he hb
       by_cases hjk:j=k'
       · subst hjk
         rw [ho'] at hoj
         cases hoj
         exact getD_set_true (hall e he hb)
       · rw [getD_set_ne false (Ne.symm hjk)] at hl
         exact getD_set_true (hcl j oj hoj hl e he hb)
end
theorem di {x:Nat}:∀{l:List Nat},iR x l=true↔x∈l
 |[]=>by simp [iR]
 | y::l=>by
  rw [iR,List.mem_cons]
  cases h:Nat.beq x y with
  |true=>simp [Nat.eq_of_beq_eq_true h]
  |false=>
   have:=Nat.ne_of_beq_eq_false h
   simp [this,di (l:=l)]
theorem jB {x:Nat}:∀{l:List Nat},x∈qK l↔x∈l
 |[]=>by simp [qK]
 | y ::l=>by
  rw [qK]
  cases h:iR y l with
  | true=>
   simp only [cond_true,jB (l:=l),List.mem_cons]
   constructor
   · exact .inr
   · rintro (rfl |h2)
     · exact di.1 h
     · exact h2
  |false=>simp [jB (l:=l)]
theorem tj {rows:List Row} {args:List SV} {i:Nat} (h:i∈SV.idsL args):i∈cu rows args:=by
 unfold cu
 rw [jB]
 unfold oK
 refine List.mem_append_left _ ?_
 rw [jB]
 refine List.mem_append_left _ ?_
 rw [jB]
 exact h
theorem dN (rch:List Nat):∀(l:List Row) (i:Nat),(bF rch i l).length=l.length
 |[],_=>rfl
 |r::l,i=>by simp [bF,dN rch l]
theorem tq (rch:List Nat):∀(l:List Row) (i j:Nat),(bF rch i l)[j]? =(l[j]?).map fun r=>if i+j∈rch∧r.isObj=false then r else .gone
 |[],i,j=>by simp [bF]
 | r ::l,i,0=>by
  simp only [bF,List.getElem?_cons_zero,Option.map_some,Nat.add_zero,Option.some.injEq]
  by_cases h:i∈rch
  · cases ho:r.isObj<;>simp [di.2 h,h]
  · have :iR i rch=false:=by
     cases hb:iR i rch with
     |false=>rfl
     |true=>exact absurd (di.1 hb) h
    simp [this,h]
 |r::l,i,j+1=>by
  simp only [bF,List.getElem?_cons_succ,tq rch l]
  rw [show i+1+j=i+(j+1) by omega]
def cQ (P:Program) (f:Nat) (args:List SV) (rows:List Row) (v:SV) (rows':List Row):Prop:=
 ∀ (ρ:aR) (vargs:List Value) (w:World),au ρ args vargs→gK ρ w→(∀i row,rows[i]? =some row→bk ρ i row w)→gY ρ (bq (fun i=>rows[i]?))→(∀i,rows.length≤i→ρ i=none)→
  Calls P f vargs.toArray w fun en w'=>∃v' ρ',en=.returned v'∧aE ρ' v v'∧gK ρ' w'∧(∀i row,rows'[i]? =some row→bk ρ' i row w')∧gY ρ' (bq (fun i=>rows'[i]?))∧(∀i,rows'.length≤i→ρ' i=none)∧
   ZO ρ (fun i=>rows[i]?) w ρ' (fun i=>rows'[i]?) w'
def kx (P:Program) (f:Nat) (args:List SV) (rows:List Row) (v:SV) (rows':List Row):Prop:=
 ∀(ρ:aR) (vargs:List Value) (w:World),au ρ args vargs→rP ρ (fun i=>rows[i]?) w→
  Calls P f vargs.toArray w fun en w'=>∃v' ρ',en=.returned v'∧aE ρ' v v'∧rP ρ' (fun i=>rows'[i]?) w'∧dE ρ (fun i=>rows[i]?) w ρ' (fun i=>rows'[i]?) w'
theorem kx.plain {P:Program} {f:Nat} {args:List SV} {rows:List Row} {v:SV} {rows':List Row} (h:kx P f args rows v rows') (hn:gU rows=true):cQ P f args rows v rows':=by
 intro ρ vargs w hargs hg hrows ha hf
 refine (h ρ vargs w hargs ⟨hg,hrows,ha,fun i hi=>hf i (by simpa using hi),.none fun i s=>sw hn i s⟩).mono ?_
 rintro en w' ⟨v',ρ',rfl,hv,hw,hp⟩
 exact ⟨v',ρ',rfl,hv,hw.good,hw.rows,hw.apart,fun i hi=>hw.free i (by simpa using hi),hp.plain fun i s=>sw hn i s⟩
theorem nr (rch:List Nat):∀(l:List Row) (i:Nat),gU (bF rch i l)=true
 |[],_=>rfl
 |r::l,i=>by
  have ih:=nr rch l (i+1)
  unfold gU at ih ⊢
  rw [bF,List.all_cons,ih,Bool.and_true]
  cases ho:iR i rch<;>cases hr:r.isObj<;>first |rfl |simp [hr]
theorem lm {old rows:List Row} {x:Nat×Row}:∀{l:List Nat},x∈iE old rows l↔x.1∈l∧rows[x.1]? =some x.2∧((∃c,old[x.1]? =some (.own c))∨(∃k xs,old[x.1]? =some (.vec false k xs))∨∃c,old[x.1]? =some (.pre false c))
 |[]=>by simp [iE]
 | i :: l=>by
  rw [iE]
  have ih:=lm (x:=x) (old:=old) (rows:=rows) (l:=l)
  obtain ⟨xi,xr⟩:=x
  simp only at ih ⊢
  split
  · rename_i c r h1 h2
    rw [List.mem_cons,ih,List.mem_cons]
    constructor
    · rintro (h |h)
      · cases h;exact ⟨.inl rfl,h2,.inl ⟨c,h1⟩⟩
      · exact ⟨.inr h.1,h.2⟩
    · rintro ⟨h |h,h3,h4⟩
      · subst h;rw [h2] at h3;cases h3;exact .inl rfl
      · exact .inr ⟨h,h3,h4⟩
  · rename_i k xs r h1 h2
    rw [List.mem_cons,ih,List.mem_cons]
    constructor
    · rintro (h |h)
      · cases h;exact ⟨.inl rfl,h2,.inr (.inl ⟨k,xs,h1⟩)⟩
      · exact ⟨.inr h.1,h.2⟩
    · rintro ⟨h |h,h3,h4⟩
      · subst h;rw [h2] at h3;cases h3;exact .inl rfl
      · exact .inr ⟨h,h3,h4⟩
  · rename_i c r h1 h2
    rw [List.mem_cons,ih,List.mem_cons]
    constructor
    · rintro (h |h)
      · cases h;exact ⟨.inl rfl,h2,.inr (.inr ⟨c,h1⟩)⟩
      · exact ⟨.inr h.1,h.2⟩
    · rintro ⟨h |h,h3,h4⟩
      · subst h;rw [h2] at h3;cases h3;exact .inl rfl
      · exact .inr ⟨h,h3,h4⟩
  · rename_i h1 h2 h2b
    rw [ih,List.mem_cons]
    constructor
    · rintro ⟨h,h3⟩;exact ⟨.inr h,h3⟩
    · rintro ⟨h |h,h3,h4⟩
      · subst h
        rcases h4 with ⟨c,h4⟩|⟨k,xs,h4⟩|⟨c,h4⟩
        · exact absurd h3 (by intro h5;exact h1 _ _ h4 h5)
        · exact absurd h3 (by intro h5;exact h2 _ _ _ h4 h5)
        · exact absurd h3 (by intro h5;exact h2b _ _ h4 h5)
      · exact ⟨h,h3,h4⟩
theorem gJ {n:Nat} {l:List Nat}:eH n l=true↔∀i∈l,i<n:=by
 unfold eH
 rw [List.all_eq_true]
 constructor
 · intro h i hi;have:=h i hi;simpa [Nat.blt_eq] using this
 · intro h i hi;simpa [Nat.blt_eq] using h i hi
theorem PQ {old rows:List Row} {rch:List Nat} {i:Nat} {row:Row} {ρ:aR} {w:World} {p:uc} (hi:i∈rch) (ho:old[i]? =some row) (hl:row.live=true) (hr:bk ρ i row w) (hp:ρ i=some p) (hm:p.mine=true) {r:Row} (hr':rows[i]? =some r):(i,r)∈iE old rows rch:=by
 rw [lm]
 refine ⟨hi,hr',?_⟩
 cases row with
 |gone=>simp [Row.live] at hl
 |obj _=>simp [Row.live] at hl
 |own c=>exact .inl ⟨c,ho⟩
 | pre ro c=>
  cases ro with
  |false=>exact .inr (.inr ⟨c,ho⟩)
  |true=>
   obtain ⟨q,_,_,hq,_,hqm,_⟩:=hr
   rw [hp] at hq;cases hq
   rw [hqm] at hm
   cases hm
 | vec ro k xs=>
  cases ro with
  |false=>exact .inr (.inl ⟨k,xs,ho⟩)
  | true=>
   rcases hr with ⟨_,he⟩|⟨q,hq,hro,_⟩
   · subst he;simp [Row.live] at hl
   · rw [hp] at hq
     cases hq
     rw [hro rfl] at hm
     cases hm
theorem V5 {P:Program} {fid:Nat} {args:List SV} {rows rows':List Row} {v:SV} (hc:cQ P fid args (bF (cu rows args) 0 rows) v rows') (hreach:gp rows (cu rows args)=true):
    aN P fid args (fun i=>rows[i]?) rows.length (d6 rows (cu rows args) v rows'):=by
 intro ρ pres vargs w hargs hg ha hrd hfree
 generalize hrch:cu rows args=rch at*
 have hsub:∀i∈SV.idsL args,i∈rch:=fun i hi=>hrch ▸ tj hi
 unfold gp at hreach
 rw [Bool.and_eq_true,gJ] at hreach
 obtain ⟨hlt,hcl⟩:=hreach
 have hcl':∀i∈rch,∀row,rows[i]? =some row→∀j∈row.idsR,j∈rch:=by
  intro i hi row hrow j hj
  have h1:=List.all_eq_true.1 hcl i hi
  rw [List.all_eq_true] at h1
  exact di.1 (h1 j (by simpa [List.getD,hrow] using hj))
 have hrdeq:(d6 rows rch v rows').rd=rch:=by unfold d6;cases eH rows.length (v.ids++(iE rows rows' rch).flatMap fun x=>x.2.idsR)<;>rfl
 have hwreq:(d6 rows rch v rows').wr=iE rows rows' rch:=by unfold d6;cases eH rows.length (v.ids++(iE rows rows' rch).flatMap fun x=>x.2.idsR)<;>rfl
 have hval:(d6 rows rch v rows').val=v:=by unfold d6;cases eH rows.length (v.ids++(iE rows rows' rch).flatMap fun x=>x.2.idsR)<;>rfl
 rw [hrdeq] at hrd
 -- the callee's places
 let ρ0:aR:=fun i=>if i∈rch then ρ i else none
 have hρ0:∀i p,ρ0 i=some p→ρ i=some p∧i∈rch:=by
  intro i p h
  simp only [ρ0] at h
  split at h
  · exact ⟨h,by assumption⟩
  · cases h
 have hm0:∀i row,(bF rch 0 rows)[i]? =some row→row.live=true→i∈rch∧rows[i]? =some row:=by
  intro i row h hl
  rw [tq,Nat.zero_add] at h
  cases hrow:rows[i]? with
  |none=>simp [hrow] at h
  |some r=>
   simp only [hrow,Option.map_some,Option.some.injEq] at h
   by_cases hi:i∈rch∧r.isObj=false
   · rw [if_pos hi] at h;subst h;exact ⟨hi.1,rfl⟩
   · rw [if_neg hi] at h;subst h;simp [Row.live] at hl
 have hrow0:∀i row,(bF rch 0 rows)[i]? =some row→bk ρ0 i row w:=by
  intro i row h
  cases hl:row.live with
  | false=>
   cases row with
   |gone=>trivial
   |obj _=>trivial
   |own c=>simp [Row.live] at hl
   |pre ro c=>simp [Row.live] at hl
   |vec ro k xs=>
    refine .inl ?_
    cases ro<;>cases xs<;>simp [Row.live] at hl
    exact ⟨rfl,rfl⟩
  |true=>
   obtain ⟨hi,hrow⟩:=hm0 i row h hl
   refine (hrd i hi row hrow).1.only (fun p hp=>by simp only [ρ0,if_pos hi];exact hp) (fun j hj p hp=>?_)
   simp only [ρ0,if_pos (hcl' i hi row hrow j hj)]
   exact hp
 have hlive0:∀i,bq (fun i=>(bF rch 0 rows)[i]?) i→i∈rch∧pres i∧∃row,rows[i]? =some row∧row.live=true:=by
  rintro i ⟨row,h,hl⟩
  obtain ⟨hi,hrow⟩:=hm0 i row h hl
  exact ⟨hi,(hrd i hi row hrow).2 hl,row,hrow,hl⟩
 have hcall:=hc ρ0 vargs w (au.only _ _ (fun i hi p hp=>by simp only [ρ0,if_pos (hsub i hi)];exact hp) hargs) (fun i p h=>hg i p (hρ0 i p h).1) hrow0
  (fun i j p q hi hj hij hp hq hm=>ha i j p q (hlive0 i hi).2.1 (hlive0 j hj).2.1 hij (hρ0 i p hp).1 (hρ0 j q hq).1 hm)
  (fun i hi=>by
   rw [dN] at hi
   cases h:ρ0 i with
   |none=>rfl
   |some p=>have:=hlt i (hρ0 i p h).2;omega)
 refine hcall.mono ?_
 rintro en w' ⟨v',ρ1,rfl,hv,hg1,hrows1,ha1,hfree1,hprg⟩
 refine ⟨v',?_⟩
 have hlen:rows.length≤rows'.length:=by
  rcases Nat.lt_or_ge rows'.length rows.length with h |h
  · have:=hprg.keep rows'.length (by simp)
    simp only [List.getElem?_eq_none_iff,dN] at this
    omega
  · exact h
 have hold:∀i p,i<rows.length→ρ1 i=some p→ρ i=some p∧i∈rch:=by
  intro i p hi hp
  rcases hprg.dom i p hp with h |h
  · exact hρ0 i p h
  · simp only [List.getElem?_eq_none_iff,dN] at h;omega
 have hmay:∀b,fZ ρ0 (fun i=>(bF rch 0 rows)[i]?) b→∃i row p r,i∈rch∧pres i∧rows[i]? =some row∧row.live=true∧ρ i=some p∧p.mine=true∧p.b=b∧(i,r)∈iE rows rows' rch:=by
  rintro b ⟨i,p,hl,hp,hm,rfl⟩
  obtain ⟨hi,hpr,row,hrow,hrl⟩:=hlive0 i hl
  have hp':=(hρ0 i p hp).1
  have hil:=hlt i hi
  obtain ⟨r,hr⟩:∃r,rows'[i]? =some r:=⟨rows'[i]'(by omega),List.getElem?_eq_getElem (by omega)⟩
  exact ⟨i,row,p,r,hi,hpr,hrow,hrl,hp',hm,rfl,PQ hi hrow hrl (hrd i hi row hrow).1 hp' hm hr⟩
 have hfrm:um (fun b=>∃x∈iE rows rows' rch,∃p,ρ x.1=some p∧p.mine=true∧p.b=b) w w':=by
  refine hprg.frm.weaken fun b _ hb=>?_
  obtain ⟨i,row,p,r,h1,h2,h3,h4,h5,h6,h7,h8⟩:=hmay b hb
  exact ⟨(i,r),h8,p,h5,h6,h7⟩
 have hgood:gK ρ w':=fun i p h=>Nat.lt_of_lt_of_le (hg i p h) hprg.frm.size
 cases hclosed:eH rows.length (v.ids++(iE rows rows' rch).flatMap fun x=>x.2.idsR) with
 | true=>
  have heff:d6 rows rch v rows'={val:=v,rd:=rch,wr:=iE rows rows' rch,nw:=[]}:=by unfold d6;rw [hclosed];rfl
  rw [heff]
  rw [gJ] at hclosed
  refine ⟨ρ,rfl,⟨aR.le.refl ρ,hgood,fun _ _ h=>.inl h,fun i p h1 h2=>by simp at h2;omega,?_,?_,?_,by simp,hfrm⟩⟩
  · intro i j p q hi hj
    refine ha i j p q ?_ ?_
    · rcases hi with h |h
      · exact h.1
      · simp at h;omega
    · rcases hj with h |h
      · exact h.1
      · simp at h;omega
  · refine aE.only _ _ (fun i hi p hp=>(hold i p (hclosed i (List.mem_append_left _ hi)) hp).1) hv
  · intro x hx
    have hx':=lm.1 hx
    refine (hrows1 x.1 x.2 hx'.2.1).only (fun p hp=>(hold x.1 p (hlt _ hx'.1) hp).1) (fun j hj p hp=>(hold j p (hclosed j (List.mem_append_right _ (List.mem_flatMap.2 ⟨x,hx,hj⟩))) hp).1)
 | false =>
  have heff:d6 rows rch v rows'={val:=v,rd:=rch,wr:=iE rows rows' rch,nw:=rows'.drop rows.length}:=by unfold d6;rw [hclosed];rfl
  rw [heff] at hfree ⊢
  simp only [List.length_drop] at hfree
  let ρ2:aR:=fun i=>if rows.length≤i∧i<rows'.length then ρ1 i else ρ i
  have h2new:∀i,rows.length≤i→i<rows'.length→ρ2 i=ρ1 i:=fun i h1 h2=>by simp only [ρ2,if_pos (And.intro h1 h2)]
  have h2old:∀i, ¬ (rows.length≤i∧i<rows'.length)→ρ2 i=ρ i:=fun i h=>by simp only [ρ2,if_neg h]
  have hle:ρ.le ρ2:=by
   intro i p hp
   by_cases h:rows.length≤i∧i<rows'.length
   · rw [(hfree i h.1 (by omega)).1] at hp;cases hp
   · rw [h2old i h];exact hp
  have hle1:ρ1.le ρ2:=by
   intro i p hp
   by_cases h:rows.length≤i∧i<rows'.length
   · rw [h2new i h.1 h.2];exact hp
   · by_cases h3:rows'.length≤i
     · rw [hfree1 i h3] at hp;cases hp
     · rw [h2old i h];exact (hold i p (by omega) hp).1
  refine ⟨ρ2,rfl,⟨hle,?_,?_,?_,?_,aE.mono hle1 _ _ hv,?_,?_,hfrm⟩⟩
  · intro i p hp
    by_cases h:rows.length≤i∧i<rows'.length
    · rw [h2new i h.1 h.2] at hp;exact hg1 i p hp
    · rw [h2old i h] at hp;exact hgood i p hp
  · intro i p hp
    by_cases h:rows.length≤i∧i<rows'.length
    · exact .inr ⟨h.1,by simp;omega⟩
    · rw [h2old i h] at hp;exact .inl hp
  · intro i p h1 h2 hp
    simp only [List.length_drop] at h2
    rw [h2new i h1 (by omega)] at hp
    rcases hprg.new i p (by simp [dN,h1]) hp with h |h
    · exact .inl h
    · obtain ⟨j,row,q,r,k1,k2,k3,k4,k5,k6,k7,k8⟩:=hmay _ h
      exact .inr ⟨j,q,k2,⟨r,k8⟩,k5,k6,k7⟩
  · -- apart
    have hn:∀j q,rows.length≤j→j<rows'.length→ρ2 j=some q→(∀row,rows'[j]? =some row→row.live=true)→∀i p,pres i→(∀x∈iE rows rows' rch,x.1=i→x.2.live=true)→ ¬ (rows.length≤i∧i<rows'.length)→ρ i=some p→p.b≠q.b:=by
     intro j q hj1 hj2 hq hjl i p hpi hwi hio hp heq
     rw [h2new j hj1 hj2] at hq
     rcases hprg.new j q (by simp [dN,hj1]) hq with h |h
     · have:=hg i p hp;omega
     · obtain ⟨i0,row,p0,r,k1,k2,k3,k4,k5,k6,k7,k8⟩:=hmay _ h
       by_cases hii:i=i0
       · subst hii
         rw [hp] at k5
         cases k5
         have hrl:=hwi _ k8 rfl
         have hri:=(lm.1 k8).2.1
         have h1:ρ1 i=some p:=hprg.le i p (by simp only [ρ0,if_pos k1];exact hp)
         have hne:i≠j:=by have:=hlt i k1;omega
         exact ha1 i j p q ⟨r,hri,hrl⟩ ⟨rows'[j]'hj2,List.getElem?_eq_getElem hj2,hjl _ (List.getElem?_eq_getElem hj2)⟩ hne h1 hq (by simp [k6]) heq
       · exact ha i i0 p p0 hpi k2 hii hp k5 (by simp [k6]) (by rw [heq,k7])
    have split':∀i p,dg pres rows.length {val:=v,rd:=rch,wr:=iE rows rows' rch,nw:=rows'.drop rows.length} i→ρ2 i=some p→
        (¬ (rows.length≤i∧i<rows'.length)∧ρ i=some p∧pres i∧∀x∈iE rows rows' rch,x.1=i→x.2.live=true)∨(rows.length≤i∧i<rows'.length∧ρ1 i=some p∧∀row,rows'[i]? =some row→row.live=true):=by
     intro i p hpr hp
     by_cases h:rows.length≤i∧i<rows'.length
     · refine .inr ⟨h.1,h.2,by rw [←h2new i h.1 h.2];exact hp,fun row hrow=>?_⟩
       rcases hpr with hpr |hpr
       · exact absurd hpr.1 (hfree i h.1 (by omega)).2
       · refine hpr.2 row ?_
         simp only [List.getElem?_drop]
         rw [show rows.length+(i - rows.length)=i by omega]
         exact hrow
     · refine .inl ⟨h,by rw [←h2old i h];exact hp,?_⟩
       rcases hpr with hpr |hpr
       · exact hpr
       · exact absurd ⟨hpr.1.1,by have:=hpr.1.2;simp only [List.length_drop] at this;omega⟩ h
    intro i j p q hi hj hij hp hq hm
    rcases split' i p hi hp with ⟨h1,h2,h3,h4⟩|⟨h1,h2,h3,h4⟩<;>rcases split' j q hj hq with ⟨k1,k2,k3,k4⟩|⟨k1,k2,k3,k4⟩
    · exact ha i j p q h3 k3 hij h2 k2 hm
    · exact hn j q k1 k2 hq k4 i p h3 h4 h1 h2
    · exact fun h=>hn i p h1 h2 hp h4 j q k3 k4 k1 k2 h.symm
    · exact ha1 i j p q ⟨rows'[i]'h2,List.getElem?_eq_getElem h2,h4 _ (List.getElem?_eq_getElem h2)⟩ ⟨rows'[j]'k2,List.getElem?_eq_getElem k2,k4 _ (List.getElem?_eq_getElem k2)⟩ hij h3 k3 hm
  · intro x hx
    exact (hrows1 x.1 x.2 (lm.1 hx).2.1).keep hle1 (fun _ _=>rfl)
  · intro j row hj
    simp only [List.getElem?_drop] at hj
    exact (hrows1 _ row hj).keep hle1 (fun _ _=>rfl)
mutual
theorem Qo {ρ ρ0:aR}:∀{s:SV} {u:Value},aE ρ s u→(∀i∈s.ids,ρ0 i=(ρ i).map (fun p=>{p with mine:=false}))→aE ρ0 s u
 |.top,_,_,_=>by simp [aE]
 |.unk,_,r,_=>by simpa only [aE] using r
 |.int ..,_,r,_=>by simpa [aE] using r
 |.bool _,_,r,_=>by simpa [aE] using r
 |.nilp,_,r,_=>by simpa [aE] using r
 |.nils,_,r,_=>by simpa [aE] using r
 |.ptr id _ _ _,_,r,h=>by
  simp only [aE] at r ⊢
  obtain ⟨p,hp,hv⟩:=r
  exact ⟨{p with mine:=false},by rw [h id (by simp [SV.ids]),hp];rfl,hv⟩
 |.slice id _ _ _ _,_,r,h=>by
  simp only [aE] at r ⊢
  rcases r with ⟨p,o,c,hp,hv,h1,h2,h3,_⟩|r
  · exact .inl ⟨{p with mine:=false},o,c,by rw [h id (by simp [SV.ids]),hp];rfl,hv,h1,h2,h3,fun h=>by cases h⟩
  · exact .inr r
 |.agg xs,_,r,h=>by
  simp only [aE] at r ⊢
  obtain ⟨vs,hv,hr⟩:=r
  exact ⟨vs,hv,dU hr fun i hi=>h i (by simpa [SV.ids] using hi)⟩
 |.tuple xs,_,r,h=>by
  simp only [aE] at r ⊢
  obtain ⟨vs,hv,hr⟩:=r
  exact ⟨vs,hv,dU hr fun i hi=>h i (by simpa [SV.ids] using hi)⟩
 |.fn _ xs,_,r,h=>by
  simp only [aE] at r ⊢
  obtain ⟨vs,hv,hr⟩:=r
  exact ⟨vs,hv,dU hr fun i hi=>h i (by simpa [SV.ids] using hi)⟩
theorem dU {ρ ρ0:aR}:∀{s:List SV} {us:List Value},au ρ s us→(∀i∈SV.idsL s,ρ0 i=(ρ i).map (fun p=>{p with mine:=false}))→au ρ0 s us
 |[],_,r,_=>by simpa [au] using r
 |x::xs,_,r,h=>by
  simp only [au] at r ⊢
  obtain ⟨v,vs,hv,h1,h2⟩:=r
  exact ⟨v,vs,hv,Qo h1 fun i hi=>h i (by simp [SV.idsL,hi]),dU h2 fun i hi=>h i (by simp [SV.idsL,hi])⟩
end
theorem Sj {r:Row}:(lS r).isObj=r.isObj:=by cases r<;>rfl
theorem GG (rch:List Nat) (l:List Row) (i:Nat):gU ((bF rch i l).map lS)=true:=by
 have h:=nr rch l i
 unfold gU at h ⊢
 rw [List.all_map]
 rw [List.all_eq_true] at h ⊢
 intro r hr
 have:=h r hr
 simp only [Function.comp,Sj]
 exact this
theorem qw {n:Nat} {r:Row}:gt n r=.gone∨(gt n r=r∧∀i∈r.idsR,n≤i):=by
 unfold gt
 cases h:r.isObj|| !(r.idsR.all fun i=>Nat.ble n i) with
 |true=>exact .inl rfl
 |false=>
  rw [Bool.or_eq_false_iff,Bool.not_eq_false'] at h
  exact .inr ⟨rfl,fun i hi=>Nat.le_of_ble_eq_true (List.all_eq_true.1 h.2 i hi)⟩
theorem WZ {P:Program} {fid:Nat} {args:List SV} {rows rows':List Row} {v:SV} (hc:cQ P fid args ((bF (cu rows args) 0 rows).map lS) v rows') (hreach:gp rows (cu rows args)=true) (hval:uP rows.length v=true):
    aN P fid args (fun i=>rows[i]?) rows.length (jG rows (cu rows args) v rows'):=by
 intro ρ pres vargs w hargs hg ha hrd hfree
 generalize hrch:cu rows args=rch at*
 have hsub:∀i∈SV.idsL args,i∈rch:=fun i hi=>hrch ▸ tj hi
 unfold gp at hreach
 rw [Bool.and_eq_true,gJ] at hreach
 obtain ⟨hlt,hcl⟩:=hreach
 have hcl':∀i∈rch,∀row,rows[i]? =some row→∀j∈row.idsR,j∈rch:=by
  intro i hi row hrow j hj
  have h1:=List.all_eq_true.1 hcl i hi
  rw [List.all_eq_true] at h1
  exact di.1 (h1 j (by simpa [List.getD,hrow] using hj))
 let ρ0:aR:=fun i=>if i∈rch then (ρ i).map (fun p=>{p with mine:=false}) else none
 have hρ0:∀i,i∈rch→ρ0 i=(ρ i).map (fun p=>{p with mine:=false}):=fun i hi=>by simp only [ρ0,if_pos hi]
 have hmine:∀i p,ρ0 i=some p→p.mine=false∧i∈rch∧∃q,ρ i=some q∧p={q with mine:=false}:=by
  intro i p h
  simp only [ρ0] at h
  split at h
  · cases hq:ρ i with
    |none=>simp [hq] at h
    |some q=>simp [hq] at h;subst h;exact ⟨rfl,by assumption,q,rfl,rfl⟩
  · cases h
 have hrow0:∀i row,((bF rch 0 rows).map lS)[i]? =some row→bk ρ0 i row w:=by
  intro i row h
  rw [List.getElem?_map,tq,Nat.zero_add] at h
  cases hrow:rows[i]? with
  |none=>simp [hrow] at h
  | some r=>
   simp only [hrow,Option.map_some,Option.some.injEq] at h
   by_cases hi:i∈rch∧r.isObj=false
   · rw [if_pos hi] at h
     subst h
     have hr:=(hrd i (by unfold jG;exact hi.1) r hrow).1
     cases r with
     |gone=>trivial
     |obj _=>trivial
     | own cs=>
      obtain ⟨p,vs,ty,h1,h2,h3,h4,h5⟩:=hr
      have hl:=h5.length
      exact ⟨{p with mine:=false},vs,ty,by rw [hρ0 i hi.1,h1];rfl,h2,rfl,h4,fun h=>(by cases h),by
       rw [hl,List.take_length]
       exact dU h5 fun j hj=>hρ0 j (hcl' i hi.1 _ hrow j hj)⟩
     |pre ro cs=>
      obtain ⟨p,vs,ty,h1,h2,h3,h4,h5,h6⟩:=hr
      exact ⟨{p with mine:=false},vs,ty,by rw [hρ0 i hi.1,h1];rfl,h2,rfl,h4,fun h=>(by cases h),dU h6 fun j hj=>hρ0 j (hcl' i hi.1 _ hrow j hj)⟩
     |vec ro k xs=>
      rcases hr with ⟨_,h0⟩|⟨p,hp,_,_,hcell⟩
      · exact .inl ⟨rfl,h0⟩
      · exact .inr ⟨{p with mine:=false},by rw [hρ0 i hi.1,hp];rfl,fun _=>rfl,fun h=>(by cases h),hcell⟩
   · rw [if_neg hi] at h
     subst h
     trivial
 have hlen0:((bF rch 0 rows).map lS).length=rows.length:=by rw [List.length_map,dN]
 have hcall:=hc ρ0 vargs w (dU hargs fun i hi=>hρ0 i (hsub i hi)) (fun i p h=>by obtain ⟨_,_,q,hq,rfl⟩:=hmine i p h;exact hg i q hq) hrow0
  (fun i j p q _ _ hij hp hq hm=>by rw [(hmine i p hp).1,(hmine j q hq).1] at hm;cases hm)
  (fun i hi=>by
   rw [hlen0] at hi
   simp only [ρ0]
   rw [if_neg (fun h=>by have:=hlt i h;omega)])
 refine hcall.mono ?_
 rintro en w' ⟨u,ρ1,rfl,hu,hg1,hr1,ha1,hf1,hp⟩
 have hno:∀b, ¬ fZ ρ0 (fun i=>((bF rch 0 rows).map lS)[i]?) b:=by
  rintro b ⟨i,p,_,h3,h4,_⟩
  rw [(hmine i p h3).1] at h4
  cases h4
 have hfrm:∀may:Nat→Prop,um may w w':=fun may=>hp.frm.weaken fun b _ hb=>absurd hb (hno b)
 have hold:∀i p,i<rows.length→ρ1 i=some p→∃q,ρ i=some q∧p={q with mine:=false}:=by
  intro i p hi h
  rcases hp.dom i p h with h1 |h1
  · obtain ⟨_,_,q,hq,rfl⟩:=hmine i p h1;exact ⟨q,hq,rfl⟩
  · simp only [List.getElem?_eq_none_iff,hlen0] at h1;omega
 have hnewf:∀i p,rows.length≤i→ρ1 i=some p→w.heap.size≤p.b:=by
  intro i p hi h
  rcases hp.new i p (by simp only [List.getElem?_eq_none_iff,hlen0];exact hi) h with h1 |h1
  · exact h1
  · exact absurd h1 (hno _)
 have hlenr:rows.length≤rows'.length:=by
  rcases Nat.lt_or_ge rows'.length rows.length with h |h
  · have:=hp.keep rows'.length (by simp)
    simp only [List.getElem?_eq_none_iff,hlen0] at this
    omega
  · exact h
 cases hclosed:eH rows.length v.ids with
 | true =>
  have heff:jG rows rch v rows'={val:=v,rd:=rch}:=by unfold jG;rw [hclosed];rfl
  rw [heff]
  rw [gJ] at hclosed
  refine ⟨u,ρ,rfl,⟨aR.le.refl ρ,fun i p h=>Nat.lt_of_lt_of_le (hg i p h) hp.frm.size,fun _ _ h=>.inl h,fun i p h1 h2=>by simp at h2;omega,?_,?_,by simp,by simp,hfrm _⟩⟩
  · intro i j p q hi hj
    refine ha i j p q ?_ ?_
    · rcases hi with h |h
      · exact h.1
      · have:=h.1;simp at this;omega
    · rcases hj with h |h
      · exact h.1
      · have:=h.1;simp at this;omega
  · simp only
    cases v with
    |ptr id st i j=>
     simp only [aE] at hu ⊢
     obtain ⟨p,hp1,hu⟩:=hu
     obtain ⟨q,hq,rfl⟩:=hold id p (hclosed id (by simp [SV.ids])) hp1
     exact ⟨q,hq,hu⟩
    |slice id st off len cap=>
     have h1:=hclosed id (by simp [SV.ids])
     have h2:=Nat.le_of_ble_eq_true hval
     omega
    | _ =>exact aE.only _ _ (fun i hi=>by
        simp only [uP,List.isEmpty_iff] at hval
        rw [hval] at hi;cases hi) hu
 | false =>
  have heff:jG rows rch v rows'={val:=v,rd:=rch,nw:=(rows'.drop rows.length).map (gt rows.length)}:=by unfold jG;rw [hclosed];rfl
  rw [heff] at hfree ⊢
  simp only [List.length_map,List.length_drop] at hfree
  let ρ2:aR:=fun i=>if rows.length≤i∧i<rows'.length then ρ1 i else ρ i
  have h2new:∀i,rows.length≤i→i<rows'.length→ρ2 i=ρ1 i:=fun i h1 h2=>by simp only [ρ2,if_pos (And.intro h1 h2)]
  have h2old:∀i, ¬ (rows.length≤i∧i<rows'.length)→ρ2 i=ρ i:=fun i h=>by simp only [ρ2,if_neg h]
  have hle:ρ.le ρ2:=by
   intro i p hpi
   by_cases h:rows.length≤i∧i<rows'.length
   · rw [(hfree i h.1 (by omega)).1] at hpi;cases hpi
   · rw [h2old i h];exact hpi
  have hle1:∀i,rows.length≤i→∀p,ρ1 i=some p→ρ2 i=some p:=by
   intro i hi p hpi
   by_cases h3:rows'.length≤i
   · rw [hf1 i h3] at hpi;cases hpi
   · rw [h2new i hi (by omega)];exact hpi
  refine ⟨u,ρ2,rfl,⟨hle,?_,?_,?_,?_,?_,by simp,?_,hfrm _⟩⟩
  · intro i p hpi
    by_cases h:rows.length≤i∧i<rows'.length
    · rw [h2new i h.1 h.2] at hpi;exact hg1 i p hpi
    · rw [h2old i h] at hpi;exact Nat.lt_of_lt_of_le (hg i p hpi) hp.frm.size
  · intro i p hpi
    by_cases h:rows.length≤i∧i<rows'.length
    · exact .inr ⟨h.1,by simp;omega⟩
    · rw [h2old i h] at hpi;exact .inl hpi
  · intro i p h1 h2 hpi
    simp only [List.length_map,List.length_drop] at h2
    rw [h2new i h1 (by omega)] at hpi
    exact .inl (hnewf i p h1 hpi)
  · intro i j p q hi hj hij hpi hq hm
    have key:∀i p,dg pres rows.length {val:=v,rd:=rch,nw:=(rows'.drop rows.length).map (gt rows.length)} i→ρ2 i=some p→
        (ρ i=some p∧pres i∧p.b<w.heap.size)∨(rows.length≤i∧i<rows'.length∧ρ1 i=some p∧w.heap.size≤p.b∧bq (fun i=>rows'[i]?) i):=by
     intro i p hpr hpi
     by_cases h:rows.length≤i∧i<rows'.length
     · have hpi1:ρ1 i=some p:=by rw [←h2new i h.1 h.2];exact hpi
       refine .inr ⟨h.1,h.2,hpi1,hnewf i p h.1 hpi1,?_⟩
       rcases hpr with hpr |hpr
       · exact absurd hpr.1 (hfree i h.1 (by omega)).2
       · have hgi:((rows'.drop rows.length).map (gt rows.length))[i - rows.length]? =some (gt rows.length (rows'[i]'h.2)):=by
          rw [List.getElem?_map,List.getElem?_drop,show rows.length+(i - rows.length)=i by omega,List.getElem?_eq_getElem h.2]
          rfl
         have hl:=hpr.2 _ hgi
         rcases qw (n:=rows.length) (r:=rows'[i]'h.2) with h5 |⟨h5,_⟩
         · rw [h5] at hl;simp [Row.live] at hl
         · rw [h5] at hl
           exact ⟨_,List.getElem?_eq_getElem h.2,hl⟩
     · rw [h2old i h] at hpi
       refine .inl ⟨hpi,?_,hg i p hpi⟩
       rcases hpr with hpr |hpr
       · exact hpr.1
       · have:=hpr.1;simp only [List.length_map,List.length_drop] at this;exact absurd ⟨this.1,by omega⟩ h
    rcases key i p hi hpi with ⟨h1,h2,h3⟩|⟨h1,h2,h3,h4,h5⟩<;>rcases key j q hj hq with ⟨k1,k2,k3⟩|⟨k1,k2,k3,k4,k5⟩
    · exact ha i j p q h2 k2 hij h1 k1 hm
    · omega
    · omega
    · exact ha1 i j p q h5 k5 hij h3 k3 hm
  · simp only
    have hnew:∀i∈v.ids,rows.length≤i:=by
     intro i hi
     cases v with
     | ptr id st a b=>
      simp only [SV.ids,List.mem_singleton] at hi
      subst hi
      rcases Nat.lt_or_ge i rows.length with h |h
      · exfalso
        have :eH rows.length (SV.ptr i st a b).ids=true:=gJ.2 fun k hk=>by simp only [SV.ids,List.mem_singleton] at hk;omega
        rw [this] at hclosed;cases hclosed
      · exact h
     |slice id st off len cap=>
      simp only [SV.ids,List.mem_singleton] at hi
      subst hi
      exact Nat.le_of_ble_eq_true hval
     |_=>simp only [uP,List.isEmpty_iff] at hval;rw [hval] at hi;cases hi
    exact aE.only _ _ (fun i hi p hpi=>hle1 i (hnew i hi) p hpi) hu
  · intro j row hj
    rw [List.getElem?_map,List.getElem?_drop] at hj
    cases hr:rows'[rows.length+j]? with
    |none=>simp [hr] at hj
    | some r=>
     simp only [hr,Option.map_some,Option.some.injEq] at hj
     subst hj
     rcases qw (n:=rows.length) (r:=r) with h5 |⟨h5,h6⟩
     · rw [h5];trivial
     · rw [h5]
       exact (hr1 _ r hr).only (hle1 _ (by omega)) fun i hi p hpi=>hle1 i (h6 i hi) p hpi
theorem rY (ts:Tm) (d:Option Nat) (v:SV):(dJ ts d v).n=ts.n:=by cases d<;>rfl
theorem Tm.get_set_ne {ts:Tm} {d t:Nat} {v:SV} (h:ts.inb d=true) (hne:t≠d):(ts.set d v).get t=ts.get t:=by
 rw [←Tm.list_get,←Tm.list_get,Tm.list_set h,List.getD_eq_getElem?_getD,List.getD_eq_getElem?_getD,List.getElem?_set_ne (Ne.symm hne)]
theorem fN {ts:Tm} {d:Option Nat} {t:Nat} {v:SV} (h:jk ts d=true) (hne:d≠some t):(dJ ts d v).get t=ts.get t:=by
 cases d with
 |none=>rfl
 |some d=>exact Tm.get_set_ne h (fun h=>hne (by rw [h]))
theorem Tm.inb_set (ts:Tm) (i j:Nat) (v:SV):(ts.set i v).inb j=ts.inb j:=by
 unfold Tm.inb Tm.set
 simp only
 congr 1
 by_cases h:i/8=j/8
 · rw [h]
   by_cases hl:j/8<ts.cs.length
   · rw [List.getD_eq_getElem?_getD,List.getElem?_set_self hl]
     simp [List.getD_eq_getElem?_getD]
   · rw [List.getD_eq_getElem?_getD,List.getD_eq_getElem?_getD,List.getElem?_eq_none (by simp;omega),List.getElem?_eq_none (by omega)]
 · simp [List.getD_eq_getElem?_getD,List.getElem?_set_ne h]
theorem gn {ts:Tm} {d e:Option Nat} {v:SV}:jk (dJ ts d v) e=jk ts e:=by
 cases e with
 |none=>rfl
 |some e=>cases d with
  |none=>rfl
  |some d=>exact Tm.inb_set ts d e v
theorem Tm.list_len (ts:Tm):ts.list.length=ts.n:=by simp [Tm.list]
theorem Tm.get_bool {ts:Tm} {t:Nat} {b:Bool} (h:ts.get t=.bool b):ts.list[t]? =some (.bool b):=by
 rw [Tm.list_get?]
 cases hb:Nat.blt t ts.n with
 |true=>rw [h];rfl
 |false=>unfold Tm.get at h;simp [hb] at h
theorem Tm.get_nil {ts:Tm} {t:Nat} (h:ts.get t=.tuple []):ts.list[t]? =some (.tuple []):=by
 rw [Tm.list_get?]
 cases hb:Nat.blt t ts.n with
 |true=>rw [h];rfl
 |false=>unfold Tm.get at h;simp [hb] at h
theorem H8 {all:List Oper} {ts:Tm} {o:Oper} (h:lA all ts o=.yes):bR all ts.list o true:=by
 unfold lA at h
 unfold bR
 split at h
 · rename_i hg;simp only [hg]
 · split at h
   · cases h
   · rename_i t hd
     cases hbl:Nat.blt t ts.n with
     |false=>simp [hbl] at h
     |true=>
      simp only [hbl,cond_true] at h
      split at h<;>cases h
theorem KM {all:List Oper} {ts:Tm} {o:Oper} (h:lA all ts o=.no):bR all ts.list o false:=by
 unfold lA at h
 unfold bR
 split at h
 · cases h
 · rename_i j want hg
   simp only [hg]
   split at h
   · rename_i hd;simp only [hd]
   · rename_i t hd
     simp only [hd,Tm.list_get?]
     cases hbl:Nat.blt t ts.n with
     |false=>simp
     |true=>
      simp only [hbl,cond_true] at h ⊢
      split at h
      · cases h
      · rename_i hsv;simp [hsv]
      · cases h
theorem HH {all:List Oper} {ts:Tm} {o:Oper} {t:Nat} {b w:Bool} (h:lA all ts o=.ask t b w):∃j,o.guard=some (j,w)∧(all[j]?).bind (·.dst)=some t∧ts.get t=.bool b:=by
 unfold lA at h
 split at h
 · cases h
 · rename_i j want hg
   split at h
   · cases h
   · rename_i t' hd
     cases hbl:Nat.blt t' ts.n with
     |false=>simp [hbl] at h
     | true=>
      simp only [hbl,cond_true] at h
      split at h
      · rename_i b' hb'
        cases h
        exact ⟨j,hg,hd,hb'⟩
      · cases h
      · cases h
def TU (all:List Oper) (kn:Jr) (ts:Tm):Prop:=∀x∈kn,(all[x.1]?).bind (·.dst)=some x.2.2∧ts.get x.2.2=.bool x.2.1
theorem TU.put {all:List Oper} {kn:Jr} {ts:Tm} (h:TU all kn ts) {d:Option Nat} (hin:jk ts d=true) (hf:fV kn d=true) (v:SV):TU all kn (dJ ts d v):=by
 intro x hx
 refine ⟨(h x hx).1,?_⟩
 rw [fN hin,(h x hx).2]
 intro hd
 subst hd
 have:=List.all_eq_true.1 hf x hx
 simp at this
theorem sG {all:List Oper} {kn:Jr} {ts:Tm} (h:TU all kn ts) {j:Nat} {w:Bool} (hk:tZ kn j w=true) {o:Oper} (hg:o.guard=some (j,w)):bR all ts.list o true:=by
 unfold tZ at hk
 obtain ⟨x,hx,hxe⟩:=List.any_eq_true.1 hk
 rw [Bool.and_eq_true] at hxe
 have h1:=Nat.eq_of_beq_eq_true hxe.1
 have h2:x.2.1=w:=by simpa using hxe.2
 obtain ⟨k1,k2⟩:=h x hx
 unfold bR
 rw [hg]
 simp only
 rw [←h1,k1]
 simp only
 rw [Tm.get_bool k2,h2]
 simp
section
variable {P:Program} {X:bS} {all:List Oper} {rows:List Row}
def dV (ts:Tm) (rows:List Row):Cf:=⟨ts.list,fun i=>rows[i]?⟩
theorem rg (ts:Tm) (rows:List Row):(dV ts rows).ev=(St.mk ts rows).ev:=(St.mk ts rows).cf_ev
theorem Om (m:jM) (n:Nat):iD m n []=m:=by
 funext j
 unfold iD
 rw [if_neg (by simp)]
theorem lv {ts:Tm} {d:Option Nat} (hin:jk ts d=true) {e:aL} (h1:e.wr=[]) (h2:e.nw=[]):(dV ts rows).after d rows.length e=dV (dJ ts d e.val) rows:=by
 unfold Cf.after dV
 rw [h1,h2,Om,ms hin]
 rfl
theorem sI (hX:bV P X) {ts:Tm} {o:Oper} {ok:Bool} {v:SV} (hin:jk ts o.dst=true) (h:oO X (St.mk ts rows).ev rows o.op=some (ok,v)) (hok:ok=true) (hw:bR all ts.list o true):
    ∃e,jj P all o rows.length e (dV ts rows)∧(dV ts rows).after o.dst rows.length e=dV (dJ ts o.dst v) rows:=by
 unfold oO at h
 split at h
 · rename_i r hpu
   cases h
   refine ⟨{val:=v},⟨.inr (.inl ⟨hw,?_,by simp,rfl⟩),by simp,by simp,fun j h1 h2=>by simp at h2;omega⟩,lv hin rfl rfl⟩
   rw [rg]
   refine fo fun ρ pres a w hev hg ha _ _=>?_
   obtain ⟨rv,g1,g2⟩:=yG hX.T hpu hok hev w
   exact ⟨rv,ρ,w,.inl g1,cv.quiet hg ha g2 rfl rfl⟩
 · split at h
   · rename_i e hme
     split at h
     · rename_i h0 h1 h2
       cases h
       refine ⟨e,⟨.inr (.inl ⟨hw,?_,by simp [h1],by simp [iP,h1,h2]⟩),by simp [h1],by simp [h1],fun j g1 g2=>by simp [h2] at g2;omega⟩,lv hin h1 h2⟩
       rw [rg]
       exact FC hX hme hok h0
     · cases h
   · cases h
theorem vM {ts:Tm} {o:Oper} (hin:jk ts o.dst=true) (hw:bR all ts.list o false):
    jj P all o rows.length {val:=.tuple []} (dV ts rows)∧(dV ts rows).after o.dst rows.length {val:=.tuple []}=dV (dJ ts o.dst (.tuple [])) rows:=
 ⟨⟨.inl ⟨hw,rfl⟩,by simp,by simp,fun j h1 h2=>by simp at h2;omega⟩,lv hin rfl rfl⟩
theorem AF {t:Nat} {w b:Bool} (hbw:b≠w):∀(ops:List Oper) (i:Nat) (ts ts':Tm),jz all t w ops ts=some ts'→(∀k o,ops[k]? =some o→all[i+k]? =some o)→ts.get t=.bool b→
    (∃l,e6 P all (dV ts rows) l (dV ts' rows)∧l.map (·.1)=List.range' i ops.length)
 |[],i,ts,ts',h,_,_=>by
  simp only [jz,Option.some.injEq] at h
  subst h
  exact ⟨[],.nil _,rfl⟩
 | o :: rest,i,ts,ts',h,hall,ht=>by
  simp only [jz] at h
  cases hb:jk ts o.dst&&fV [(0,true,t)] o.dst with
  |false=>simp [hb] at h
  | true =>
   simp only [hb,cond_true] at h
   rw [Bool.and_eq_true] at hb
   obtain ⟨hin,hfr⟩:=hb
   have hdt:o.dst≠some t:=by
    intro hd
    rw [hd] at hfr
    simp [fV] at hfr
   have step:bR all ts.list o false→jz all t w rest (dJ ts o.dst (.tuple []))=some ts'→∃l,e6 P all (dV ts rows) l (dV ts' rows)∧l.map (·.1)=List.range' i (o::rest).length:=by
    intro hw h
    obtain ⟨l,h1,h2⟩:=AF hbw rest (i+1) _ ts' h (fun k o' hk=>by have:=hall (k+1) o' (by simpa using hk);rw [←this];congr 1;omega) (by rw [fN hin hdt];exact ht)
    obtain ⟨s1,s2⟩:=vM (P:=P) (all:=all) (rows:=rows) hin hw
    refine ⟨(i,⟨o,rows.length,{val:=.tuple []}⟩)::l,.cons (by have:=hall 0 o (by simp);simpa using this) s1 ?_,by simp [h2,List.range'_succ]⟩
    show e6 P all ((dV ts rows).after o.dst rows.length {val:=.tuple []}) l _
    rw [s2]
    exact h1
   split at h
   · rename_i j w' hg
     split at h
     · rename_i hd
       exact step (by unfold bR;rw [hg];simp only [hd]) h
     · rename_i g hd
       cases hc:Nat.beq g t&&(w'==w) with
       |true=>
        simp only [hc,cond_true] at h
        rw [Bool.and_eq_true] at hc
        have h1:=Nat.eq_of_beq_eq_true hc.1
        have h2:w'=w:=by simpa using hc.2
        subst h1
        subst h2
        refine step ?_ h
        unfold bR
        rw [hg]
        simp only [hd]
        rw [Tm.get_bool ht]
        simp only
        cases b<;>cases w'<;>simp_all
       | false=>
        simp only [hc,cond_false] at h
        split at h
        · rename_i hnil
          refine step ?_ h
          unfold bR
          rw [hg]
          simp only [hd]
          rw [Tm.get_nil hnil]
          simp
        · cases h
   · cases h
theorem qp {t:Nat} {w:Bool}:∀(ops:List Oper) (ts ts':Tm),jz all t w ops ts=some ts'→(∀x,(∀o∈ops,o.dst≠some x)→ts'.get x=ts.get x)∧ts'.n=ts.n∧(∀o∈ops,jk ts o.dst=true∧o.dst≠some t)∧(∀d,jk ts' d=jk ts d)
 |[],ts,ts',h=>by
  simp only [jz,Option.some.injEq] at h
  subst h
  exact ⟨fun _ _=>rfl,rfl,by simp,fun _=>rfl⟩
 | o :: rest,ts,ts',h=>by
  simp only [jz] at h
  cases hb:jk ts o.dst&&fV [(0,true,t)] o.dst with
  |false=>simp [hb] at h
  | true =>
   simp only [hb,cond_true] at h
   rw [Bool.and_eq_true] at hb
   obtain ⟨hin,hfr⟩:=hb
   have hdt:o.dst≠some t:=by
    intro hd
    rw [hd] at hfr
    simp [fV] at hfr
   have key:jz all t w rest (dJ ts o.dst (.tuple []))=some ts':=by
    split at h
    · rename_i j w' hg
      split at h
      · exact h
      · rename_i g hd
        cases hc:Nat.beq g t&&(w'==w) with
        |true=>simp only [hc,cond_true] at h;exact h
        |false=>
         simp only [hc,cond_false] at h
         split at h
         · exact h
         · cases h
    · cases h
   obtain ⟨h1,h2,h3,h4⟩:=qp rest _ ts' key
   refine ⟨fun x hx=>?_,by rw [h2,rY],fun o' ho'=>?_,fun d=>by rw [h4,gn]⟩
   · rw [h1 x fun o' ho'=>hx o' (by simp [ho']),fN hin (hx o (by simp))]
   · rcases List.mem_cons.1 ho' with rfl |ho'
     · exact ⟨hin,hdt⟩
     · have:=h3 o' ho'
       rw [gn] at this
       exact this
theorem mn:∀(ops:List Oper) (ts:Tm),(∀o∈ops,jk ts o.dst=true)→(mG ops ts).n=ts.n∧(∀d,jk (mG ops ts) d=jk ts d)∧∀x,(mG ops ts).get x=.top∨((mG ops ts).get x=ts.get x∧∀o∈ops,o.dst≠some x)
 |[],ts,_=>⟨rfl,fun _=>rfl,fun x=>.inr ⟨rfl,by simp⟩⟩
 | o ::rest,ts,h=>by
  have hin:=h o (by simp)
  obtain ⟨h1,h2,h3⟩:=mn rest (dJ ts o.dst .top) (fun o' ho'=>by rw [gn];exact h o' (by simp [ho']))
  simp only [mG]
  refine ⟨by rw [h1,rY],fun d=>by rw [h2,gn],fun x=>?_⟩
  rcases h3 x with h4 |⟨h4,h5⟩
  · exact .inl h4
  · by_cases hd:o.dst=some x
    · left
      rw [h4,hd]
      simp only [dJ]
      rw [←Tm.list_get,Tm.list_set (by rw [hd] at hin;exact hin),List.getD_eq_getElem?_getD]
      by_cases hx:x<ts.list.length
      · rw [List.getElem?_set_self hx];rfl
      · rw [List.getElem?_eq_none (by simp;omega)];rfl
    · right
      refine ⟨by rw [h4,fN hin hd],fun o' ho'=>?_⟩
      rcases List.mem_cons.1 ho' with rfl |ho'
      · exact hd
      · exact h5 o' ho'
theorem Hl {ops:List Oper} {ts ts1:Tm} {d:Option Nat} {v:SV} (hin:∀o∈ops,jk ts o.dst=true) (hd:jk ts d=true) (hd1:jk ts1 d=true) (hn:ts1.n=ts.n) (hfr:∀x,(∀o∈ops,o.dst≠some x)→ts1.get x=ts.get x):
    VC (dV (dJ ts1 d v) rows) (dV (dJ (mG ops ts) d v) rows):=by
 obtain ⟨h1,h2,h3⟩:=mn ops ts hin
 refine ⟨rfl,fun ρ us h=>va ?_ ?_ h⟩
 · simp only [dV,Tm.list_len,rY,hn,h1]
 · intro i u hu
   simp only [dV] at hu ⊢
   rw [ms (by rw [h2];exact hd)] at hu
   rw [ms hd1]
   have key:∀u,(mG ops ts).list[i]? =some u→u=.top∨ts1.list[i]? =some u:=by
    intro u hu
    rw [Tm.list_get?] at hu ⊢
    rw [h1] at hu
    rw [hn]
    cases hb:Nat.blt i ts.n with
    |false=>simp [hb] at hu
    | true=>
     simp only [hb,cond_true,Option.some.injEq] at hu ⊢
     rcases h3 i with h4 |⟨h4,h5⟩
     · exact .inl (hu.symm.trans h4)
     · right
       rw [hfr i h5,←h4,hu]
   cases d with
   |none=>exact key u hu
   | some d=>
    simp only [AQ] at hu ⊢
    by_cases hdi:d=i
    · subst hdi
      have hlt:d<ts1.list.length:=by
       have:=(List.getElem?_eq_some_iff.1 hu).1
       simp [Tm.list_len,h1] at this
       simp [Tm.list_len,hn,this]
      have hlt2:d<(mG ops ts).list.length:=by
       have:=(List.getElem?_eq_some_iff.1 hu).1
       simpa using this
      rw [List.getElem?_set_self hlt2] at hu
      rw [List.getElem?_set_self hlt]
      exact .inr hu
    · rw [List.getElem?_set_ne hdi] at hu ⊢
      exact key u hu
theorem Nl {ts:Tm} {t:Nat} {b:Bool} (hin:ts.inb t=true) (h:ts.get t=.bool b):(ts.set t (.bool b)).list=ts.list:=by
 rw [Tm.list_set hin]
 have hl:=Tm.get_bool h
 apply List.ext_getElem?
 intro i
 by_cases hi:i=t
 · subst hi
   have hlt:=(List.getElem?_eq_some_iff.1 hl).1
   rw [List.getElem?_set_self hlt,hl]
 · rw [List.getElem?_set_ne (Ne.symm hi)]
theorem PJ {ts ts':Tm} (h:ts.list=ts'.list) (rows:List Row):(St.mk ts rows).ev=(St.mk ts' rows).ev:=by
 rw [←rg,←rg]
 unfold dV
 rw [h]
theorem al {α:Type} {c:Bool} {x:Option α} {r:α} (h:(bif c then x else none)=some r):c=true∧x=some r:=by
 cases c with
 |false=>simp at h
 |true=>exact ⟨rfl,h⟩
structure Zy (X:bS) (all:List Oper) (rows:List Row) (n i:Nat) (kn:Jr) (ops:List Oper) (ts:Tm) (ok:Bool) (ts':Tm) (t:Nat) (b w:Bool) (j:Nat) (sub:List Oper) (p:Oper) (rest2:List Oper)
    (ok1:Bool) (ts1 ts0:Tm) (okA d1 okB d2 ok':Bool):Prop where
 cat:ops=sub++p::rest2
 pg:Vs kn p=true
 pin:jk ts p.dst=true
 pfr:fV ((j,w,t)::kn) p.dst=true
 inb:ts.inb t=true
 ev:fB X all rows n i ((j,w,t)::kn) sub ts=some (ok1,ts1)
 sk:jz all t w sub ts=some ts0
 p1:kJ X.T (St.mk (ts1.set t (.bool w)) rows).ev p.op=some (okA,.bool d1)
 p2:kJ X.T (St.mk (ts0.set t (.bool (!w))) rows).ev p.op=some (okB,.bool d2)
 ev2:fB X all rows n (i+sub.length+1) kn rest2 (dJ (mG sub ts) p.dst (.bool (bif (b==w) then d1 else d2)))=some (ok',ts')
 ok:ok=((((ok1&&okA)||b !=w)&&(okB||b==w))&&ok')
theorem wa {n i:Nat} {kn:Jr} {o:Oper} {rest:List Oper} {ts:Tm} {ok:Bool} {ts':Tm} (h:fB X all rows (n+1) i kn (o::rest) ts=some (ok,ts')):
    jk ts o.dst=true∧fV kn o.dst=true∧
    ((rN all kn ts o=.no∧fB X all rows n (i+1) kn rest (dJ ts o.dst (.tuple []))=some (ok,ts'))∨
     (rN all kn ts o=.yes∧∃ok1 v ok2,oO X (St.mk ts rows).ev rows o.op=some (ok1,v)∧fB X all rows n (i+1) kn rest (dJ ts o.dst v)=some (ok2,ts')∧ok=(ok1&&ok2))∨
     (∃t b w j w0 sub p rest2 ok1 ts1 ts0 okA d1 okB d2 ok',rN all kn ts o=.ask t b w∧o.guard=some (j,w0)∧Zy X all rows n i kn (o::rest) ts ok ts' t b w j sub p rest2 ok1 ts1 ts0 okA d1 okB d2 ok')):=by
 simp only [fB] at h
 obtain ⟨hb,h⟩:=al h
 rw [Bool.and_eq_true] at hb
 refine ⟨hb.1,hb.2,?_⟩
 split at h
 · cases h
 · rename_i hw
   exact .inl ⟨hw,h⟩
 · rename_i hw
   split at h
   · rename_i ok1 v hq
     split at h
     · rename_i ok2 ts2 he
       simp only [Option.some.injEq,Prod.mk.injEq] at h
       obtain ⟨rfl,rfl⟩:=h
       exact .inr (.inl ⟨hw,ok1,v,ok2,hq,he,rfl⟩)
     · cases h
   · cases h
 · rename_i t b w hw
   split at h
   · cases h
   · rename_i j w0 hg
     split at h
     · cases h
     · rename_i p rest2 hdrop
       obtain ⟨hb2,h⟩:=al h
       rw [Bool.and_eq_true,Bool.and_eq_true,Bool.and_eq_true] at hb2
       obtain ⟨hpg,hpin,hpfr,hinb⟩:=hb2
       split at h
       · rename_i r1 r2 ok1 ts1 ts0 he1 he0
         split at h
         · rename_i q1 q2 okA d1 okB d2 hp1 hp2
           split at h
           · rename_i ok' ts2 he2
             simp only [Option.some.injEq,Prod.mk.injEq] at h
             obtain ⟨rfl,rfl⟩:=h
             refine .inr (.inr ⟨t,b,w,j,w0,_,p,rest2,ok1,ts1,ts0,okA,d1,okB,d2,ok',hw,hg,⟨?_,hpg,hpin,hpfr,hinb,he1,he0,hp1,hp2,he2,rfl⟩⟩)
             rw [←hdrop]
             have:=List.prefix_iff_eq_take.1 (List.takeWhile_prefix (nW i j w) (l:=o::rest))
             conv=>lhs;rw [←List.take_append_drop ((o::rest).takeWhile (nW i j w)).length (o::rest)]
             rw [←this]
           · cases h
         · cases h
       · cases h
theorem nC {kn:Jr} {d:Option Nat} (h:fV kn d=true) {x:Nat×Bool×Nat} (hx:x∈kn):d≠some x.2.2:=by
 intro hd
 subst hd
 have:=List.all_eq_true.1 h x hx
 simp at this
theorem yX :∀(n i:Nat) (kn:Jr) (ops:List Oper) (ts:Tm) (ok:Bool) (ts':Tm),fB X all rows n i kn ops ts=some (ok,ts')→
    (∀x,(∀o∈ops,o.dst≠some x)→ts'.get x=ts.get x)∧ts'.n=ts.n∧(∀o∈ops,jk ts o.dst=true∧fV kn o.dst=true)∧(∀d,jk ts' d=jk ts d):=by
 intro n
 induction n with
 |zero=>intro i kn ops ts ok ts' h;simp [fB] at h
 | succ n ih=>
  intro i kn ops ts ok ts' h
  cases ops with
  |nil=>
   simp only [fB,Option.some.injEq,Prod.mk.injEq] at h
   obtain ⟨rfl,rfl⟩:=h
   exact ⟨fun _ _=>rfl,rfl,by simp,fun _=>rfl⟩
  | cons o rest=>
   obtain ⟨hin,hfr,h⟩:=wa h
   have one:∀(v:SV) (ok2:Bool),fB X all rows n (i+1) kn rest (dJ ts o.dst v)=some (ok2,ts')→
       (∀x,(∀o'∈o::rest,o'.dst≠some x)→ts'.get x=ts.get x)∧ts'.n=ts.n∧(∀o'∈o::rest,jk ts o'.dst=true∧fV kn o'.dst=true)∧(∀d,jk ts' d=jk ts d):=by
    intro v ok2 he
    obtain ⟨h1,h2,h3,h4⟩:=ih (i+1) kn rest _ ok2 ts' he
    refine ⟨fun x hx=>?_,by rw [h2,rY],fun o' ho'=>?_,fun d=>by rw [h4,gn]⟩
    · rw [h1 x fun o' ho'=>hx o' (by simp [ho']),fN hin (hx o (by simp))]
    · rcases List.mem_cons.1 ho' with rfl |ho'
      · exact ⟨hin,hfr⟩
      · have:=h3 o' ho';rw [gn] at this;exact this
   rcases h with ⟨_,he⟩|⟨_,ok1,v,ok2,_,he,_⟩|⟨t,b,w,j,w0,sub,p,rest2,ok1,ts1,ts0,okA,d1,okB,d2,ok',hw,hg,hA⟩
   · exact one _ _ he
   · exact one _ _ he
   · obtain ⟨s1,s2,s3,s4⟩:=ih _ _ _ _ _ _ hA.ev
     obtain ⟨tn,tin,tget⟩:=mn sub ts (fun o' ho'=>(s3 o' ho').1)
     obtain ⟨r1,r2,r3,r4⟩:=ih _ _ _ _ _ _ hA.ev2
     have hpfr:fV kn p.dst=true:=by
      cases hpd:p.dst with
      |none=>rfl
      |some d=>
       have:=hA.pfr
       rw [hpd] at this
       simp only [fV,List.all_cons,Bool.and_eq_true] at this ⊢
       exact this.2
     have hdown:∀d,fV ((j,w,t)::kn) d=true→fV kn d=true:=by
      intro d hd
      cases d with
      |none=>rfl
      |some d=>
       simp only [fV,List.all_cons,Bool.and_eq_true] at hd ⊢
       exact hd.2
     rw [hA.cat]
     refine ⟨fun x hx=>?_,by rw [r2,rY,tn],fun o' ho'=>?_,fun d=>by rw [r4,gn,tin]⟩
     · rw [r1 x fun o' ho'=>hx o' (by simp [ho']),fN (by rw [tin];exact hA.pin) (hx p (by simp))]
       have key:∀(l:List Oper) (ts:Tm),(∀o∈l,jk ts o.dst=true)→(∀o∈l,o.dst≠some x)→(mG l ts).get x=ts.get x:=by
        intro l
        induction l with
        |nil=>intro ts _ _;rfl
        |cons a l ihl=>
         intro ts h1 h2
         simp only [mG]
         rw [ihl (dJ ts a.dst .top) (fun o ho=>by rw [gn];exact h1 o (by simp [ho])) (fun o ho=>h2 o (by simp [ho])),fN (h1 a (by simp)) (h2 a (by simp))]
       exact key sub ts (fun o' ho'=>(s3 o' ho').1) (fun o' ho'=>hx o' (by simp [ho']))
     · rcases List.mem_append.1 ho' with ho' |ho'
       · exact ⟨(s3 o' ho').1,hdown _ (s3 o' ho').2⟩
       · rcases List.mem_cons.1 ho' with rfl |ho'
         · exact ⟨hA.pin,hpfr⟩
         · have:=r3 o' ho'
           rw [gn,tin] at this
           exact this
theorem P7 (hX:bV P X):∀(n i:Nat) (kn:Jr) (ops:List Oper) (ts:Tm) (ok:Bool) (ts':Tm),fB X all rows n i kn ops ts=some (ok,ts')→(∀k o,ops[k]? =some o→all[i+k]? =some o)→TU all kn ts→ok=true→
    ∃l,e6 P all (dV ts rows) l (dV ts' rows)∧l.map (·.1)=List.range' i ops.length:=by
 intro n
 induction n with
 |zero=>intro i kn ops ts ok ts' h;simp [fB] at h
 | succ n ih=>
  intro i kn ops ts ok ts' h hall hk hok
  cases ops with
  |nil=>
   simp only [fB,Option.some.injEq,Prod.mk.injEq] at h
   obtain ⟨rfl,rfl⟩:=h
   exact ⟨[],.nil _,rfl⟩
  | cons o rest=>
   obtain ⟨hin,hfr,h⟩:=wa h
   have hall1:∀k o',rest[k]? =some o'→all[i+1+k]? =some o':=fun k o' hk=>by have:=hall (k+1) o' (by simpa using hk);rw [←this];congr 1;omega
   have hoi:all[i]? =some o:=by have:=hall 0 o (by simp);simpa using this
   have one:∀(v:SV) (ok2:Bool),(∃e,jj P all o rows.length e (dV ts rows)∧(dV ts rows).after o.dst rows.length e=dV (dJ ts o.dst v) rows)→fB X all rows n (i+1) kn rest (dJ ts o.dst v)=some (ok2,ts')→ok2=true→
       ∃l,e6 P all (dV ts rows) l (dV ts' rows)∧l.map (·.1)=List.range' i (o::rest).length:=by
    rintro v ok2 ⟨e,s1,s2⟩ he hok2
    obtain ⟨l,k1,k2⟩:=ih (i+1) kn rest _ ok2 ts' he hall1 (hk.put hin hfr v) hok2
    refine ⟨(i,⟨o,rows.length,e⟩)::l,.cons hoi s1 ?_,by simp [k2,List.range'_succ]⟩
    show e6 P all ((dV ts rows).after o.dst rows.length e) l _
    rw [s2]
    exact k1
   rcases h with ⟨hw,he⟩|⟨hw,ok1,v,ok2,hq,he,rfl⟩|⟨t,b,w,j,w0,sub,p,rest2,ok1,ts1,ts0,okA,d1,okB,d2,ok',hw,hg,hA⟩
   · have hno:bR all ts.list o false:=by
      unfold rN at hw
      split at hw
      · cases hw
      · rename_i j w hg
        cases hkn:tZ kn j w with
        |true=>simp [hkn] at hw
        |false=>simp only [hkn,cond_false] at hw;exact KM hw
     exact one (.tuple []) ok ⟨_,vM hin hno⟩ he hok
   · rw [Bool.and_eq_true] at hok
     have hyes:bR all ts.list o true:=by
      unfold rN at hw
      split at hw
      · rename_i hg;unfold bR;rw [hg]
      · rename_i j w hg
        cases hkn:tZ kn j w with
        |true=>exact sG hk hkn hg
        |false=>simp only [hkn,cond_false] at hw;exact H8 hw
     exact one v ok2 (sI hX hin hq hok.1 hyes) he hok.2
   · have hask:w0=w∧(all[j]?).bind (·.dst)=some t∧ts.get t=.bool b:=by
      unfold rN at hw
      rw [hg] at hw
      simp only at hw
      cases hkn:tZ kn j w0 with
      |true=>simp [hkn] at hw
      |false=>
       simp only [hkn,cond_false] at hw
       obtain ⟨j',h1,h2,h3⟩:=HH hw
       rw [hg] at h1
       cases h1
       exact ⟨rfl,h2,h3⟩
     obtain ⟨rfl,hjt,htb⟩:=hask
     have hcat:=hA.cat
     have hallS:∀k o',sub[k]? =some o'→all[i+k]? =some o':=fun k o' hk=>hall k o' (by
      rw [hcat,List.getElem?_append_left (List.getElem?_eq_some_iff.1 hk).1];exact hk)
     have hallP:all[i+sub.length]? =some p:=hall sub.length p (by
      rw [hcat,List.getElem?_append_right (Nat.le_refl _)];simp)
     have hallR:∀k o',rest2[k]? =some o'→all[i+sub.length+1+k]? =some o':=fun k o' hk=>by
      have:=hall (sub.length+1+k) o' (by rw [hcat,List.getElem?_append_right (by omega),show sub.length+1+k - sub.length=k+1 by omega];simpa using hk)
      rw [←this];congr 1;omega
     obtain ⟨f1,f2,f3,f4⟩:=qp sub ts ts0 hA.sk
     obtain ⟨s1,s2,s3,s4⟩:=yX _ _ _ _ _ _ _ hA.ev
     have fin0:∀o'∈sub,jk ts o'.dst=true:=fun o' ho'=>(f3 o' ho').1
     have fdt:∀o'∈sub,o'.dst≠some t:=fun o' ho'=>(f3 o' ho').2
     have hpt:p.dst≠some t:=nC hA.pfr (x:=(j,w0,t)) (by simp)
     -- the guards that are known stay so
     have hk2:TU all kn (dJ (mG sub ts) p.dst (.bool (bif (b==w0) then d1 else d2))):=by
      obtain ⟨tn,tin,tget⟩:=mn sub ts fin0
      intro x hx
      refine ⟨(hk x hx).1,?_⟩
      rw [fN (by rw [tin];exact hA.pin) (nC hA.pfr (x:=x) (by simp [hx]))]
      rcases tget x.2.2 with h |⟨h,_⟩
      · exfalso
        have key:∀(l:List Oper) (ts:Tm),(∀o∈l,jk ts o.dst=true)→(∀o∈l,o.dst≠some x.2.2)→(mG l ts).get x.2.2=ts.get x.2.2:=by
         intro l
         induction l with
         |nil=>intro ts _ _;rfl
         |cons a l ihl=>
          intro ts h1 h2
          simp only [mG]
          rw [ihl (dJ ts a.dst .top) (fun o ho=>by rw [gn];exact h1 o (by simp [ho])) (fun o ho=>h2 o (by simp [ho])),fN (h1 a (by simp)) (h2 a (by simp))]
        rw [key sub ts fin0 (fun o' ho'=>nC (s3 o' ho').2 (x:=x) (by simp [hx])),(hk x hx).2] at h
        cases h
      · rw [h];exact (hk x hx).2
     rw [hA.ok,Bool.and_eq_true,Bool.and_eq_true,Bool.or_eq_true,Bool.or_eq_true] at hok
     obtain ⟨⟨hokA,hokB⟩,hok'⟩:=hok
     obtain ⟨l2,k1,k2⟩:=ih _ _ _ _ _ _ hA.ev2 hallR hk2 hok'
     -- the block,then what picks
     have fin:∀(tsx:Tm) (lx:List (Nat×er)) (dx okx:Bool),e6 P all (dV ts rows) lx (dV tsx rows)→lx.map (·.1)=List.range' i sub.length→tsx.n=ts.n→(∀x,(∀o∈sub,o.dst≠some x)→tsx.get x=ts.get x)→(∀d,jk tsx d=jk ts d)→
         kJ X.T (St.mk (tsx.set t (.bool b)) rows).ev p.op=some (okx,.bool dx)→okx=true→(bif (b==w0) then d1 else d2)=dx→TU all kn tsx→
         ∃l,e6 P all (dV ts rows) l (dV ts' rows)∧l.map (·.1)=List.range' i (o::rest).length:=by
      intro tsx lx dx okx hrun hidx hn hf hi hp hokx hd hkx
      have htx:tsx.get t=.bool b:=(hf t fdt).trans htb
      have hinb:tsx.inb t=true:=by
       have:=hi (some t)
       simp only [jk] at this
       rw [this];exact hA.inb
      rw [PJ (Nl hinb htx)] at hp
      have hpin:jk tsx p.dst=true:=by rw [hi];exact hA.pin
      have hyes:bR all tsx.list p true:=by
       have:=hA.pg
       unfold Vs at this
       split at this
       · rename_i hg';unfold bR;rw [hg']
       · rename_i j' w' hg'
         exact sG hkx this hg'
      have hq:oO X (St.mk tsx rows).ev rows p.op=some (okx,.bool dx):=by unfold oO;rw [hp]
      obtain ⟨e,g1,g2⟩:=sI (all:=all) hX hpin hq hokx hyes
      have hw:=Hl (rows:=rows) (v:=.bool dx) fin0 hA.pin hpin hn hf
      rw [hd] at k1
      refine ⟨lx++(i+sub.length,⟨p,rows.length,e⟩)::l2,hrun.append (.cons hallP g1 ?_),?_⟩
      · show e6 P all ((dV tsx rows).after p.dst rows.length e) l2 _
        rw [g2]
        exact .weak hw k1
      · rw [List.map_append,List.map_cons,hidx,k2,hcat,List.length_append,List.length_cons]
        simp only
        rw [show sub.length+(rest2.length+1)=sub.length+(1+rest2.length) by omega,←List.range'_append,←List.range'_append]
        simp
     by_cases hbw:b=w0
     · subst hbw
       have hkS:TU all ((j,b,t)::kn) ts:=by
        intro x hx
        rcases List.mem_cons.1 hx with rfl |hx
        · exact ⟨hjt,htb⟩
        · exact hk x hx
       have hokA':(ok1&&okA)=true:=by
        rcases hokA with h |h
        · exact h
        · simp at h
       rw [Bool.and_eq_true] at hokA'
       obtain ⟨l1,m1,m2⟩:=ih _ _ _ _ _ _ hA.ev hallS hkS hokA'.1
       refine fin ts1 l1 d1 okA m1 m2 s2 s1 s4 hA.p1 hokA'.2 (by simp) ?_
       intro x hx
       refine ⟨(hk x hx).1,?_⟩
       rw [s1 x.2.2 (fun o' ho'=>nC (s3 o' ho').2 (x:=x) (by simp [hx]))]
       exact (hk x hx).2
     · obtain ⟨l1,m1,m2⟩:=AF (P:=P) (rows:=rows) hbw sub i ts ts0 hA.sk hallS htb
       have hokB':okB=true:=by
        rcases hokB with h |h
        · exact h
        · simp at h;exact absurd h hbw
       have hnb:(!w0)=b:=by cases b<;>cases w0<;>simp_all
       have hp2:=hA.p2
       rw [hnb] at hp2
       refine fin ts0 l1 d2 okB m1 m2 f2 f1 f4 hp2 hokB' (by rw [beq_eq_false_iff_ne.2 hbw];rfl) ?_
       intro x hx
       refine ⟨(hk x hx).1,?_⟩
       rw [f1 x.2.2 (fun o' ho'=>nC (s3 o' ho').2 (x:=x) (by simp [hx]))]
       exact (hk x hx).2
theorem Js (hX:bV P X) {i:Nat} {ops:List Oper} {ts ts':Tm} {k:Nat} (h:Ca X all rows i ops ts=some (k,true,ts')) (hall:∀k o,ops[k]? =some o→all[i+k]? =some o):
    ∃l,e6 P all (dV ts rows) l (dV ts' rows)∧l.map (·.1)=List.range' i (ops.take (k+1)).length:=by
 unfold Ca at h
 split at h
 · cases h
 · rename_i o rest
   split at h
   · cases h
   · rename_i j w hg
     split at h
     · rename_i ok ts2 he
       simp only [Option.some.injEq,Prod.mk.injEq] at h
       obtain ⟨rfl,rfl,rfl⟩:=h
       exact P7 hX _ _ _ _ _ _ _ he (fun k o hk=>hall k o (by
        rw [List.getElem?_take] at hk
        split at hk
        · exact hk
        · cases hk)) (fun x hx=>by cases hx) rfl
     · cases h
end
end Go.Proofs.YtimkhidniolpeaaGreat
