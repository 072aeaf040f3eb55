/- Part of the proof. -/
import Derived.Test.YtimkhidniolpeaaGreatRows
import Derived.ProofKit
import Derived.Below
import Derived.Carry
import Derived.ChangeSame
import Derived.WideKeyArgs
import Derived.WalkKit
import Derived.WalkSpells
import Derived.WalkLawsBesides
import Derived.Laws.ByValue
import Derived.Lib.Hide
import Derived.Handy
import Derived.Deep.QuietTactic
import Derived.BigQuiet
import Derived.KernelRfl
import Derived.Laws.Tables
import Derived.Laws.Rows
namespace Go.Proofs.YtimkhidniolpeaaGreat
set_option linter.unusedSimpArgs false
set_option linter.unusedVariables false
set_option maxRecDepth 100000
set_option maxHeartbeats 0
open Go.ChangeShapes Go.WideShapes Go.ChangeAt Go.RowKit
section
variable {H:Type} {enc:TypeId×Value→H} {P:Program}
theorem uh {f:Func} {s:ChangeSpec} {apart fresh handsOn again:Bool} {W W':World} {args:Array Value} {v:Value} {ds gs:List (DataW H)} {before pa pv:List MemPlace}
    (hW:DataW.Whole enc P f.params.toList s.vars apart W args.toList ds gs before)
    (hres:∀(b:Nat) (sp:Nat→Bool) (hd:Bool),DataW.TrodAll enc P W' b sp hd f.resultTypes.toList (v.resultList f.resultTypes.size) (s.fn H (ds++gs)).results [])
    (hargs:∀sp:Nat→Bool,(∀p∈before,sp p.block=true)→DataW.TrodAll enc P W' 0 sp true f.params.toList args.toList (s.fn H (ds++gs)).args pa)
    (hvars:∀sp:Nat→Bool,(∀p∈before,sp p.block=true)→DataW.TrodVars enc P W' sp s.vars (s.fn H (ds++gs)).vars pv)
    (hps:before=pa++pv) (hb:Below W.heap.size W W')
    (hok:∀(j:Nat) (t:TypeId) (r:Value),f.resultTypes[j]? =some t→(v.resultList f.resultTypes.size)[j]? =some r→Value.okWide P W' .any 0 t r):
    s.post enc P f apart fresh handsOn again W args v W':=by
 have hlt:∀p∈before,p.block<W.heap.size:=fun p hp=>hW.lt p hp
 have hold:∀p∈before,(fun b=>decide (b<W.heap.size)) p.block=true:=fun p hp=>by simpa using hlt p hp
 refine ⟨ds,gs,before,[],pa,pv,hW,hres _ _ _,hargs _ hold,hvars _ hold,World.keptBut_mono (fun p hp=>⟨hp,?_⟩) (hb.frame (· ∈before)),fun _=>?_⟩
 · rw [hps,List.mem_append] at hp
   exact Or.inr hp
 · obtain ⟨_,_,_,_,_,hz,hn⟩:=hW
   refine ⟨hok,_,_,([]++pa)++pv,⟨[]++pa,pv,trodAll_append (hargs _ (fun _ _=>rfl)) (hres _ _ _),hvars _ (fun _ _=>rfl),rfl,?_,?_⟩,?_⟩
   · intro b off hp
     have hin:MemPlace.cell b off∈before:=by rw [hps];simpa using hp
     rw [hb.frozen (hlt _ hin)]
     exact hz b off hin
   · intro ha
     have:=hn ha
     rw [hps] at this
     simpa using this
   · intro p hp _
     rw [hps]
     simpa using hp
theorem uZ (hl:laidOutB P=true) {W W':World} (hb:Below W.heap.size W W') {sp:Nat→Bool}:
    ∀{ts:List TypeId} {vs:List Value} {ds:List (DataW H)} {ps:List MemPlace},(∀t∈ts,P.readableRec t=true∧t<P.types.size)→
     DataW.TrodAll enc P W 0 (fun _=>true) true ts vs ds ps→(∀x∈ps,x.block<W.heap.size)→(∀x∈ps,sp x.block=true)→
     DataW.TrodAll enc P W' 0 sp true ts vs ds ps
 |[],[],[],_,_,h,_,_=>h
 |[],[],_::_,_,_,h,_,_=>h.elim
 |[],_::_,_,_,_,h,_,_=>h.elim
 |_::_,[],_,_,_,h,_,_=>h.elim
 |_::_,_::_,[],_,_,h,_,_=>h.elim
 |t::ts,v::vs,d::ds,ps,hr,h,hlt,hs=>by
  obtain ⟨p,q,h1,h2,rfl⟩:=h
  refine ⟨p,q,?_,?_,rfl⟩
  · exact WideElems.Trod_stays hl (hr t (by simp)).1 (hr t (by simp)).2 h1 (fun x hx=>hb.same (hlt x (by simp [hx]))) (fun x hx=>hs x (by simp [hx]))
  · exact uZ hl hb (fun u hu=>hr u (by simp [hu])) h2 (fun x hx=>hlt x (by simp [hx])) (fun x hx=>hs x (by simp [hx]))
theorem LF {f:Func} {s:ChangeSpec} {tb:TypeId} {W W':World} {args:Array Value} {ds gs:List (DataW H)} {before:List MemPlace}
    (hl:laidOutB P=true) (hr:∀t∈f.params.toList,P.readableRec t=true∧t<P.types.size) (hres:f.resultTypes= #[tb]) (htb:P.underlying tb=some .bool)
    (hvars:s.vars=[]) (hfn:∀l:List (DataW H),l.length=f.params.toList.length→s.fn H l={results:=[.lit (.bool true)],args:=l})
    (hW:DataW.Whole enc P f.params.toList s.vars false W args.toList ds gs before) (hb:Below W.heap.size W W'):
    s.post enc P f false true false false W args (.bool true) W':=by
 have hlt:∀p∈before,p.block<W.heap.size:=fun p hp=>hW.lt p hp
 have hW0:=hW
 obtain ⟨p,q,hA,hV,hpq,hfz,hnd⟩:=hW
 rw [hvars] at hV
 cases gs with
 |cons g gs=>exact hV.elim
 | nil=>
  have hV':q=[]:=hV
  subst hV'
  have hlen:∀(ts:List TypeId) (vs:List Value) (ds:List (DataW H)) (ps:List MemPlace),DataW.TrodAll enc P W 0 (fun _=>true) true ts vs ds ps→ds.length=ts.length:=by
   intro ts
   induction ts with
   |nil=>intro vs ds ps h;cases vs<;>cases ds<;>first |rfl |exact h.elim
   | cons t ts ih=>
    intro vs ds ps h
    cases vs with
    |nil=>exact h.elim
    | cons v vs=>
     cases ds with
     |nil=>exact h.elim
     |cons d ds=>
      obtain ⟨_,_,_,h2,_⟩:=h
      simp [ih _ _ _ h2]
  have hf:=hfn (ds++[]) (by rw [List.append_nil];exact hlen _ _ _ _ hA)
  rw [List.append_nil] at hf
  refine uh (pa:=p) (pv:=[]) hW0 ?_ ?_ ?_ (by simpa using hpq) hb ?_
  · intro b sp hd
    rw [List.append_nil,hf,hres]
    exact trodAll_mk1 (shut_bool htb true)
  · intro sp hsp
    rw [List.append_nil,hf]
    exact uZ hl hb hr hA (fun x hx=>hlt x (by rw [hpq];simp [hx])) (fun x hx=>hsp x (by rw [hpq];simp [hx]))
  · intro sp hsp
    rw [List.append_nil,hf,hvars]
    rfl
  · exact ok_one hres rfl (okWide_bool_mk htb true)
end
open Go.RowKit
abbrev I (n:Int):Value:=.int .i64 n
structure V3 where
 x:Int
 y:Int
 z:Int
 deriving DecidableEq
structure Pl where
 id:Int
 pos:V3
 vel:V3
 ground:Bool
 health:Int
 armour:Int
 score:Int
 a0:Int
 a1:Int
 wait:Int
 dead:Int
 deriving DecidableEq
def YZ (w:World) (v:Value) (e:Ending) (w':World):Prop:=e=.returned v∧Below w.heap.size w w'
open Go.RowKit
structure ZT where
 b:Nat
 cs:Array Value
 t:TypeId
structure V7 (P:Program) (t:TypeId) (n:Nat):Prop where
 desc:∃d,P.underlying t=some d∧(match d with |.struct _|.array _ _=>true |_=>false)=true
 size:(P.info? t).map (·.size)=some n
structure WQ (P:Program) (t:TypeId):Prop where
 desc:∃d,P.underlying t=some d∧(match d with |.struct _|.array _ _=>true |_=>false)=false
 size:(P.info? t).map (·.size)=some 1
section
variable {P:Program}
theorem V7.isAgg {t:TypeId} {n:Nat} (h:V7 P t n) (w:World):(isAgg t).run P w=.ok true w:=by
 obtain ⟨⟨d,hd,hm⟩,_⟩:=h
 unfold Go.isAgg
 rw [Sem.run_bind,run_underlying hd w]
 cases d<;>simp_all
theorem WQ.isAgg {t:TypeId} (h:WQ P t) (w:World):(isAgg t).run P w=.ok false w:=by
 obtain ⟨⟨d,hd,hm⟩,_⟩:=h
 unfold Go.isAgg
 rw [Sem.run_bind,run_underlying hd w]
 cases d<;>simp_all
theorem jY {t:TypeId} {n:Nat} (h:(P.info? t).map (·.size)=some n) (w:World):(sizeOf t).run P w=.ok n w:=by
 cases hq:P.info? t with
 |none=>simp [hq] at h
 |some i=>simp [hq] at h;simp [sizeOf,typeInfo,hq,h]
theorem dw (g i j:Nat):(⟨g,i,none⟩:Addr).add j=⟨g,i+j,none⟩:=by unfold Addr.add;split<;>simp_all
def cP (cs:Array Value) (i:Nat):List Value→Array Value
 |[]=>cs
 |v::vs=>cP (cs.setIfInBounds i v) (i+1) vs
theorem tT (vs:List Value):∀(cs:Array Value) (i:Nat),(cP cs i vs).size=cs.size:=by
 induction vs with
 |nil=>intro cs i;rfl
 |cons v vs ih=>intro cs i;rw [cP,ih];simp
theorem vO (vs:List Value):∀(cs:Array Value) (i k:Nat),i+vs.length≤cs.size→(cP cs i vs)[k]? =if i≤k∧k<i+vs.length then vs[k - i]? else cs[k]? :=by
 induction vs with
 |nil=>intro cs i k _;rw [if_neg (by simp only [List.length_nil];omega)];rfl
 | cons v vs ih=>
  intro cs i k h
  simp only [List.length_cons] at h
  rw [cP,ih _ _ _ (by simp;omega)]
  by_cases h1:i+1≤k∧k<i+1+vs.length
  · rw [if_pos h1,if_pos (by simp only [List.length_cons];omega)]
    obtain ⟨j,rfl⟩:∃j,k=i+1+j:=⟨k - (i+1),by omega⟩
    rw [show i+1+j - (i+1)=j by omega,show i+1+j - i=j+1 by omega,List.getElem?_cons_succ]
  · rw [if_neg h1]
    by_cases h2:k=i
    · subst h2
      rw [if_pos (by simp only [List.length_cons];omega)]
      have :k<cs.size:=by omega
      simp [Array.getElem?_setIfInBounds,this]
    · rw [if_neg (by simp only [List.length_cons];omega)]
      simp [Array.getElem?_setIfInBounds,Ne.symm h2]
theorem lL (g:Nat) (off:Nat) (u:TypeId) (hone:True):∀(vs:List Value) (i:Nat) (w:World) (cs:Array Value),(∀v∈vs,v.oneCell'=true)→w.heap[g]? =some (.cells cs u (0,0))→off+i+vs.length≤cs.size→
    (storeCells ⟨g,off,none⟩ vs i).run P w=.ok () (w.setRow g (cP cs (off+i) vs))
 | [], i,w,cs,_,hg,_=>by
  have :w.setRow g cs=w:=by
   have hlt:=(Array.getElem?_eq_some_iff.1 hg).1
   cases w with
   | mk heap tape drawn os output=>
    unfold World.setRow
    congr 1
    apply Array.ext
    · simp
    · intro k h1 h2
      rw [Array.getElem_modify]
      split
      · rename_i hk
        subst hk
        rw [(Array.getElem?_eq_some_iff.1 hg).2]
      · rfl
  simp [storeCells,cP,this]
 | v::vs,i,w,cs,ho,hg,hn=>by
  simp only [List.length_cons] at hn
  have hv:v.oneCell'=true:=ho v (by simp)
  have hlt:off+i<cs.size:=by omega
  have hc:w.cell? ⟨g,off+i,none⟩=some cs[off+i]:=by
   rw [cell_of_row w g (off+i) cs u _ hg];simp [hlt]
  have hf:w.frozen? ⟨g,off+i,none⟩=false:=frozen_of_row w g (off+i) cs u hg
  have hs:(store ⟨g,off+i,none⟩ v).run P w=.ok () (w.setRow g (cs.setIfInBounds (off+i) v)):=by
   rw [run_store P w _ v _ hv,hc]
   simp only [hf]
   rw [setCell_eq_setRow w g (off+i) cs u _ v hg]
   rfl
  have ih:=lL g off u hone vs (i+1) (w.setRow g (cs.setIfInBounds (off+i) v)) (cs.setIfInBounds (off+i) v) (fun x hx=>ho x (by simp [hx])) (setRow_heap w g cs _ u _ hg) (by simp;omega)
  rw [storeCells,Sem.run_bind,dw,hs]
  simp only [Result.andThen_ok]
  rw [ih,setRow_setRow,cP,Nat.add_assoc]
theorem ks {t:TypeId} {n:Nat} (h:(P.info? t).map (·.size)=some n) (w:World) (g off:Nat) (cs:Array Value) (u:TypeId) (v:Value) (hg:w.heap[g]? =some (.cells cs u (0,0))) (hv:v.cells.size=n)
    (ho:v.cells.toList.all (·.oneCell')=true) (hn:off+n≤cs.size):(storeVar t ⟨g,off,none⟩ v).run P w=.ok () (w.setRow g (cP cs off v.cells.toList)):=by
 have hs:=lL (P:=P) g off u trivial v.cells.toList 0 w cs (fun x hx=>by simpa using List.all_eq_true.1 ho x hx) hg (by simp;omega)
 unfold storeVar
 rw [Sem.run_bind,jY h]
 simp only [Result.andThen_ok]
 rw [if_neg (by simp [hv])]
 simpa using hs
end
section
variable {P:Program} {ops:Array Oper} {rest:List Oper} {o:Oper} {a:Act} {w w0:World} {B:Nat} {L:List ZT} {Q:Exit→Act→World→Prop}
def xp (tmps:Array Value):ResultVar→Sem Value
 |.tmp t=>pure (tmps.getD t undef)
 |.cell p t=>do loadVar t (←asAddr (tmps.getD p undef))
theorem Eo (fn:Func) (tmps:Array Value):results fn tmps=(do
    let vs ←fn.results.mapM (xp tmps)
    pure (if h:vs.size=1 then vs[0] else .tuple vs)):=by
 unfold results
 congr 1
theorem aT {t:TypeId} (h:WQ P t) (w:World) (xs:Array Value) (off:Nat) {v:Value} (hv:xs[off]? =some v):(part t xs off).run P w=.ok v w:=by
 unfold part
 rw [Sem.run_bind,h.isAgg]
 simp [hv]
theorem eB {t:TypeId} {n:Nat} (h:V7 P t n) (w:World) (xs:Array Value) (off:Nat) {ds:Array Value} (hd:xs.extract off (off+n)=ds):(part t xs off).run P w=.ok (.agg ds) w:=by
 unfold part
 rw [Sem.run_bind,h.isAgg]
 simp [Sem.run_bind,jY h.size,hd]
theorem rh (d:Nat) (xs ys:Array Value) (w:World):(Op.eqFields d xs ys []).run P w=.ok true w:=by simp [Op.eqFields]
theorem bJ {d:Nat} {xs ys:Array Value} {f:Field} {fs:List Field} {x y:Value} {r s:Bool} (w:World) (hn:(f.name== "_")=false) (ha:(part f.type xs f.offset).run P w=.ok x w) (hb:(part f.type ys f.offset).run P w=.ok y w)
    (he:(Op.equalIn d f.type x y).run P w=.ok r w) (hr:(Op.eqFields d xs ys fs).run P w=.ok s w):(Op.eqFields d xs ys (f::fs)).run P w=.ok (r&&s) w:=by
 have hn':f.name≠ "_" :=by simpa using hn
 rw [Op.eqFields]
 simp only [if_pos hn',Sem.run_bind,ha,hb,he,Result.andThen_ok]
 cases r
 · simp
 · simpa using hr
theorem x6 {d:Nat} {t:TypeId} {fs:Array Field} {xs ys:Array Value} {r:Bool} (w:World) (hu:P.underlying t=some (.struct fs)) (hp:P.stoodInHeld t=false) (h:(Op.eqFields d xs ys fs.toList).run P w=.ok r w):
    (Op.equalIn (d+1) t (.agg xs) (.agg ys)).run P w=.ok r w:=by
 have hf:P.fieldsOf t=fs:=by simp [Program.fieldsOf,hu]
 rw [run_equalIn_struct (P:=P) w d t xs ys (by rw [hf];exact hu) hp,hf]
 exact h
theorem Su {d:Nat} {t e:TypeId} {n:Nat} {xs ys:Array Value} {x0 x1 y0 y1:Value} {r0 r1:Bool} (w:World) (hu:P.underlying t=some (.array 2 e)) (hs:(P.info? e).map (·.size)=some n)
    (a0:(part e xs 0).run P w=.ok x0 w) (a1:(part e xs n).run P w=.ok x1 w) (b0:(part e ys 0).run P w=.ok y0 w) (b1:(part e ys n).run P w=.ok y1 w)
    (h0:(Op.equalIn d e x0 y0).run P w=.ok r0 w) (h1:(Op.equalIn d e x1 y1).run P w=.ok r1 w):(Op.equalIn (d+1) t (.agg xs) (.agg ys)).run P w=.ok (r0&&r1) w:=by
 simp only [Op.equalIn,Sem.run_bind,run_underlying hu,Result.andThen_ok,jY hs]
 cases r0<;>cases r1<;>simp [Std.Legacy.Range.forIn_eq_forIn_range',Std.Legacy.Range.size,List.range'_succ,Sem.run_bind,a0,a1,b0,b1,h0,h1]
end
end Go.Proofs.YtimkhidniolpeaaGreat
