/- Part of the proof. -/
import Derived.Test.YtimkhidniolpeaaGreatVmI
import Derived.Test.YtimkhidniolpeaaGreatVmT
import Derived.Laws.Externs
namespace Go.Proofs.YtimkhidniolpeaaGreat
set_option linter.unusedSimpArgs false
set_option linter.unusedVariables false
set_option maxRecDepth 100000
set_option maxHeartbeats 0
open Go.RowKit
def am (n:Int):Bool:=decide (-9223372036854775808≤n)&&decide (n≤9223372036854775807)
theorem ap {n:Int}:am n=true↔aU n:=by unfold am aU;simp
def aw (a:V3):Bool:=am a.x&&(am a.y&&am a.z)
theorem aB {a:V3}:aw a=true↔a.fits:=by unfold aw V3.fits;simp [ap]
noncomputable def Gt (l:List Nat) (f:Nat):Option Func:=bif iR f l then Tryz.prog.funcs[f]? else none
theorem aq {f:Nat} {fn:Func} (h:Tryz.prog.funcs[f]? =some fn) (hok:(fn.name== "runtime.NumGoroutine" ||fn.body.isNone)=false):∃fn,Tryz.prog.funcs[f]? =some fn∧(fn.name== "runtime.NumGoroutine" ||fn.body.isNone)=false:=⟨fn,h,hok⟩
theorem Aq {l:List Nat} (hl:(l.all fun f=>match Tryz.prog.funcs[f]? with
    |some fn=> !(fn.name== "runtime.NumGoroutine" ||fn.body.isNone)
    |none=>true)=true):∀f fn,Gt l f=some fn→Tryz.prog.funcs[f]? =some fn∧(fn.name== "runtime.NumGoroutine" ||fn.body.isNone)=false:=by
 intro f fn h
 unfold Gt at h
 cases hm:iR f l with
 |false=>simp [hm] at h
 |true=>
  simp only [hm,cond_true] at h
  have h1:=List.all_eq_true.1 hl f (di.1 hm)
  rw [h] at h1
  exact ⟨h,by simpa using h1⟩
def UE (f:Nat) (args:List SV):Option aL:=bif Nat.beq f 122 then (match args with
 |[.int .u64 x,.int .u64 y,.int .u64 c]=>some {ok:=decide (0≤x)&&(decide (0≤y)&&(decide (0≤c)&&decide (c≤1))),val:=.tuple [.int .u64 ((x+y+c)%18446744073709551616),.int .u64 ((x+y+c)/18446744073709551616)]}
 |_=>none) else none
theorem R0 {f:Nat} {args:List SV} {e:aL} (h:UE f args=some e) (hok:e.ok=true):As Tryz.prog f args e:=by
 unfold UE at h
 cases hb:Nat.beq f 122 with
 |false=>rw [hb] at h;cases h
 | true=>
  obtain rfl:=Nat.eq_of_beq_eq_true hb
  rw [hb,cond_true] at h
  split at h
  · rename_i x y c
    cases h
    simp only [Bool.and_eq_true,decide_eq_true_eq] at hok
    obtain ⟨h1,h2,h3,h4⟩:=hok
    refine ⟨rfl,rfl,rfl,rfl,fun ρ vargs w hr=>?_⟩
    simp only [au,aE] at hr
    obtain ⟨_,_,rfl,rfl,_,_,rfl,rfl,_,_,rfl,rfl,rfl⟩:=hr
    refine ⟨.tuple #[.int .u64 ((x+y+c)%18446744073709551616),.int .u64 ((x+y+c)/18446744073709551616)],⟨[_,_],rfl,by simp only [aa,ai,aE,and_self]⟩,?_⟩
    rw [run_callFunc_extern Tryz.func122 (by kernel_rfl) (by kernel_rfl) (by kernel_rfl) (e:=add64Entry) (by kernel_rfl)]
    rw [show [Value.int .u64 x,.int .u64 y,.int .u64 c].toArray= #[Value.int .u64 x,.int .u64 y,.int .u64 c] from rfl,run_add64 x y c h1 h2 h3 h4]
    rfl
  · cases h
structure bY where
 f:Nat
 call:List SV→List Row→Option aL
 ok:∀args rows e,call args rows=some e→e.ok=true→aN Tryz.prog f args (rows[·]?) rows.length e
 bod:∃fn,Tryz.prog.funcs[f]? =some fn∧(fn.name== "runtime.NumGoroutine" ||fn.body.isNone)=false
noncomputable def tH:List bY→Nat→List SV→List Row→Option aL
 |[],f,args,_=>UE f args
 |o::l,f,args,rows=>bif Nat.beq f o.f then (match o.call args rows with
  |some e=>some {e with obj:=false}
  |none=>none) else tH l f args rows
theorem aN.obj {P:Program} {f:Nat} {args:List SV} {m:Nat→Option Row} {n:Nat} {e:aL} (h:aN P f args m n e):aN P f args m n {e with obj:=false}:=fun ρ pres vargs w h1 h2 h3 h4 h5=>
 (h ρ pres vargs w h1 h2 h3 h4 h5).mono fun _ _ ⟨v,ρ',he,ha⟩=>⟨v,ρ',he,⟨ha.le,ha.good,ha.dom,ha.new,ha.apart,ha.val,ha.wr,ha.nw,ha.frm⟩⟩
theorem oU {f:Nat} {args:List SV} {rows:List Row} {e:aL}:∀{l:List bY},tH l f args rows=some e→e.ok=true→As Tryz.prog f args e∨((bif e.obj then dp Tryz.prog f args (rows[·]?) rows.length e else aN Tryz.prog f args (rows[·]?) rows.length e)∧(∃fn,Tryz.prog.funcs[f]? =some fn∧(fn.name== "runtime.NumGoroutine" ||fn.body.isNone)=false))
 |[],h,hok=>.inl (R0 h hok)
 | o ::l,h,hok=>by
  rw [tH] at h
  cases hb:Nat.beq f o.f with
  | true=>
   rw [hb,cond_true] at h
   have:=Nat.eq_of_beq_eq_true hb
   subst this
   split at h
   · rename_i e0 he
     cases h
     exact .inr ⟨(o.ok _ _ _ he hok).obj,o.bod⟩
   · cases h
  |false=>
   rw [hb,cond_false] at h
   exact oU h hok
structure mL where
 f:Nat
 call:List SV→List Row→Option aL
 ok:∀args rows e,call args rows=some e→e.ok=true→dp Tryz.prog f args (rows[·]?) rows.length e
 bod:∃fn,Tryz.prog.funcs[f]? =some fn∧(fn.name== "runtime.NumGoroutine" ||fn.body.isNone)=false
theorem dp.obj {P:Program} {f:Nat} {args:List SV} {m:jM} {n:Nat} {e:aL} (h:dp P f args m n e):dp P f args m n {e with obj:=true}:=fun ρ m1 vargs w h1 h2 h3 h4 h5=>h ρ m1 vargs w h1 h2 h3 h4 h5
noncomputable def qY (l0:List bY):List mL→Nat→List SV→List Row→Option aL
 |[],f,args,rows=>tH l0 f args rows
 |o::l,f,args,rows=>bif Nat.beq f o.f then (match o.call args rows with
  |some e=>some {e with obj:=true}
  |none=>none) else qY l0 l f args rows
theorem tA {l0:List bY} {f:Nat} {args:List SV} {rows:List Row} {e:aL}:∀{l:List mL},qY l0 l f args rows=some e→e.ok=true→As Tryz.prog f args e∨((bif e.obj then dp Tryz.prog f args (rows[·]?) rows.length e else aN Tryz.prog f args (rows[·]?) rows.length e)∧(∃fn,Tryz.prog.funcs[f]? =some fn∧(fn.name== "runtime.NumGoroutine" ||fn.body.isNone)=false))
 |[],h,hok=>oU h hok
 | o ::l,h,hok=>by
  rw [qY] at h
  cases hb:Nat.beq f o.f with
  | true=>
   rw [hb,cond_true] at h
   have:=Nat.eq_of_beq_eq_true hb
   subst this
   split at h
   · rename_i e0 he
     cases h
     exact .inr ⟨(o.ok _ _ _ he hok).obj,o.bod⟩
   · cases h
  |false=>
   rw [hb,cond_false] at h
   exact tA h hok
noncomputable def aV (fns:List Nat) (l:List bY) (ro:List Nat:=[]) (z:Bool:=false):bS:=⟨XZ,Gt (ro++fns),tH l,fun f=>iR f ro,z⟩
theorem aD {fns:List Nat} {l:List bY} {ro:List Nat} {z:Bool} (hl:((ro++fns).all fun f=>match Tryz.prog.funcs[f]? with
    |some fn=> !(fn.name== "runtime.NumGoroutine" ||fn.body.isNone)
    |none=>true)=true):bV Tryz.prog (aV fns l ro z) where
 mixed:=by kernel_rfl
 T:=BW
 fn:=Aq hl
 call:=fun _ _ _ _ h hok=>oU h hok
noncomputable def xS (fns:List Nat) (l:List bY) (lo:List mL) (ro:List Nat:=[]) (z:Bool:=false):bS:=⟨XZ,Gt (ro++fns),qY l lo,fun f=>iR f ro,z⟩
theorem pI {fns:List Nat} {l:List bY} {lo:List mL} {ro:List Nat} {z:Bool} (hl:((ro++fns).all fun f=>match Tryz.prog.funcs[f]? with
    |some fn=> !(fn.name== "runtime.NumGoroutine" ||fn.body.isNone)
    |none=>true)=true):bV Tryz.prog (xS fns l lo ro z) where
 mixed:=by kernel_rfl
 T:=BW
 fn:=Aq hl
 call:=fun _ _ _ _ h hok=>tA h hok
noncomputable def C7 (v:SV) (args:List SV):Option aL:=match args with
 |[]=>some {val:=v}
 |_=>none
theorem Iw {f:Nat} {v:SV} {rows':List Row} (hc:cQ Tryz.prog f [] [] v rows') (hv:v.ids=[]) {args:List SV} {m:Nat→Option Row} {n:Nat} {e:aL} (h:C7 v args=some e):aN Tryz.prog f args m n e:=by
 unfold C7 at h
 split at h
 · cases h;exact aM hc rfl hv
 · cases h
def da (f:Nat) (p:List Nat) (F:dq):Prop:=∀b,At Tryz.prog f p (.loop b)→∀(s:St) (K:Ex→St→Option aj) (r:aj),F s K=some r→∃e s',K e s'=some r∧OK Tryz.prog b s e s'
structure jh where
 f:Nat
 p:List Nat
 F:dq
 ok:da f p F
noncomputable def aF:List jh→Nat→List Nat→Option dq
 |[],_,_=>none
 |o::l,f,p=>bif Nat.beq f o.f&&decide (p=o.p) then some o.F else aF l f p
theorem aG:∀{l:List jh},AM Tryz.prog (aF l)
 |[]=>fun _ _ _ h=>by cases h
 | o::l=>by
  intro f p F hF b hat s K r h
  rw [aF] at hF
  cases hb:Nat.beq f o.f&&decide (p=o.p) with
  |true=>
   rw [hb,cond_true] at hF
   cases hF
   rw [Bool.and_eq_true,decide_eq_true_eq] at hb
   obtain ⟨h1,rfl⟩:=hb
   obtain rfl:=Nat.eq_of_beq_eq_true h1
   exact o.ok b hat s K r h
  |false=>
   rw [hb,cond_false] at hF
   exact aG f p F hF b hat s K r h
end Go.Proofs.YtimkhidniolpeaaGreat
