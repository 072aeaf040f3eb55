/- Part of the proof. -/
import Derived.Test.YtimkhidniolpeaaGreatVmE
import Derived.Test.YtimkhidniolpeaaGreatLaw
namespace Go.Proofs.YtimkhidniolpeaaGreat
set_option linter.unusedSimpArgs false
set_option linter.unusedVariables false
set_option maxRecDepth 100000
set_option maxHeartbeats 0
open Go.RowKit
theorem bA {k:IntKind} {n:Int} {zs xs ys:List SV} {r:Bool} (h:oF (.int k n::zs) xs ys=some r):∃(a b:Int) (xs' ys':List SV) (r':Bool),xs=.int k a::xs'∧ys=.int k b::ys'∧r=((a==b)&&r')∧oF zs xs' ys'=some r':=by
 cases xs with
 |nil=>simp [oF] at h
 | cons x xs=>
  cases ys with
  |nil=>simp [oF] at h
  | cons y ys=>
   simp only [oF] at h
   split at h
   · rename_i p q hp hq
     cases h
     unfold XU at hp
     split at hp
     · rename_i k0 _ k1 a k2 b heq
       cases heq
       by_cases h1:k1=k<;>by_cases h2:k2=k<;>simp [h1,h2] at hp
       subst h1 h2
       subst hp
       exact ⟨a,b,xs,ys,q,rfl,rfl,rfl,hq⟩
     · rename_i heq;cases heq
     · cases hp
   · cases h
theorem zB {n:Bool} {zs xs ys:List SV} {r:Bool} (h:oF (.bool n::zs) xs ys=some r):∃(a b:Bool) (xs' ys':List SV) (r':Bool),xs=.bool a::xs'∧ys=.bool b::ys'∧r=((a==b)&&r')∧oF zs xs' ys'=some r':=by
 cases xs with
 |nil=>simp [oF] at h
 | cons x xs=>
  cases ys with
  |nil=>simp [oF] at h
  | cons y ys=>
   simp only [oF] at h
   split at h
   · rename_i p q hp hq
     cases h
     unfold XU at hp
     split at hp
     · rename_i heq;cases heq
     · rename_i a b heq
       simp only [Option.some.injEq] at hp
       subst hp
       exact ⟨a,b,xs,ys,q,rfl,rfl,rfl,hq⟩
     · cases hp
   · cases h
theorem o3 {xs ys:List SV} {r:Bool} (h:oF [] xs ys=some r):xs=[]∧ys=[]∧r=true:=by
 cases xs<;>cases ys<;>simp [oF] at h<;>simp [h]
theorem mt:WQ Tryz.prog 2:=⟨⟨_,Tryz.underlying2,rfl⟩,by kernel_rfl⟩
theorem bH:WQ Tryz.prog 3:=⟨⟨_,Tryz.underlying3,rfl⟩,by kernel_rfl⟩
theorem rc:WQ Tryz.prog 4:=⟨⟨_,Tryz.underlying4,rfl⟩,by kernel_rfl⟩
theorem zQ:WQ Tryz.prog 30:=⟨⟨_,Tryz.underlying30,rfl⟩,by kernel_rfl⟩
theorem gI:V7 Tryz.prog 44 3:=⟨⟨_,Tryz.underlying44,rfl⟩,by kernel_rfl⟩
theorem AK:V7 Tryz.prog 64 2:=⟨⟨_,Tryz.underlying64,rfl⟩,by kernel_rfl⟩
theorem Ym (d:Nat) (w:World) (a0:Int) (a1:Int) (b0:Int) (b1:Int):(Op.equalIn (d+2) 37 (.agg #[.int .i64 a0,.int .i64 a1]) (.agg #[.int .i64 b0,.int .i64 b1])).run Tryz.prog w=.ok ((a0==b0)&&((a1==b1)&&true)) w:=
 x6 (P:=Tryz.prog) (d:=d+1) (xs:= #[.int .i64 a0,.int .i64 a1]) (ys:= #[.int .i64 b0,.int .i64 b1]) w Tryz.underlying37 (by kernel_rfl) (bJ w rfl (aT bH w _ _ rfl) (aT bH w _ _ rfl) (run_equalIn_int w _ 3 _ _ _ _ Tryz.underlying3) (bJ w rfl (aT zQ w _ _ rfl) (aT zQ w _ _ rfl) (run_equalIn_int w _ 30 _ _ _ _ Tryz.underlying30) (rh _ _ _ w)))
theorem Yb (xs ys:List SV) (r:Bool) (h:oF [.int .i64 0,.int .i64 0] xs ys=some r) (w:World):(Op.equalIn 10000 37 (.agg (xs.map bK).toArray) (.agg (ys.map bK).toArray)).run Tryz.prog w=.ok r w:=by
 obtain ⟨a0,b0,xs0,ys0,r0,rfl,rfl,rfl,h0⟩:=bA h
 obtain ⟨a1,b1,xs1,ys1,r1,rfl,rfl,rfl,h1⟩:=bA h0
 obtain ⟨rfl,rfl,rfl⟩:=o3 h1
 have e:=Ym 9998 w a0 a1 b0 b1
 simp only [Bool.and_assoc,Bool.true_and,Bool.and_true] at e ⊢
 exact e
theorem yJ (d:Nat) (w:World) (a0:Int) (a1:Int) (a2:Int) (b0:Int) (b1:Int) (b2:Int):(Op.equalIn (d+2) 44 (.agg #[.int .i64 a0,.int .i64 a1,.int .i64 a2]) (.agg #[.int .i64 b0,.int .i64 b1,.int .i64 b2])).run Tryz.prog w=.ok ((a0==b0)&&((a1==b1)&&((a2==b2)&&true))) w:=
 x6 (P:=Tryz.prog) (d:=d+1) (xs:= #[.int .i64 a0,.int .i64 a1,.int .i64 a2]) (ys:= #[.int .i64 b0,.int .i64 b1,.int .i64 b2]) w Tryz.underlying44 (by kernel_rfl) (bJ w rfl (aT mt w _ _ rfl) (aT mt w _ _ rfl) (run_equalIn_int w _ 2 _ _ _ _ Tryz.underlying2) (bJ w rfl (aT mt w _ _ rfl) (aT mt w _ _ rfl) (run_equalIn_int w _ 2 _ _ _ _ Tryz.underlying2) (bJ w rfl (aT mt w _ _ rfl) (aT mt w _ _ rfl) (run_equalIn_int w _ 2 _ _ _ _ Tryz.underlying2) (rh _ _ _ w))))
theorem Y6 (xs ys:List SV) (r:Bool) (h:oF [.int .i64 0,.int .i64 0,.int .i64 0] xs ys=some r) (w:World):(Op.equalIn 10000 44 (.agg (xs.map bK).toArray) (.agg (ys.map bK).toArray)).run Tryz.prog w=.ok r w:=by
 obtain ⟨a0,b0,xs0,ys0,r0,rfl,rfl,rfl,h0⟩:=bA h
 obtain ⟨a1,b1,xs1,ys1,r1,rfl,rfl,rfl,h1⟩:=bA h0
 obtain ⟨a2,b2,xs2,ys2,r2,rfl,rfl,rfl,h2⟩:=bA h1
 obtain ⟨rfl,rfl,rfl⟩:=o3 h2
 have e:=yJ 9998 w a0 a1 a2 b0 b1 b2
 simp only [Bool.and_assoc,Bool.true_and,Bool.and_true] at e ⊢
 exact e
theorem Ub (d:Nat) (w:World) (a0:Int) (a1:Int) (b0:Int) (b1:Int):(Op.equalIn (d+2) 64 (.agg #[.int .i64 a0,.int .i64 a1]) (.agg #[.int .i64 b0,.int .i64 b1])).run Tryz.prog w=.ok ((a0==b0)&&(a1==b1)) w:=
 Su (d:=d+1) (n:=1) w Tryz.underlying64 bH.size (aT bH w _ _ rfl) (aT bH w _ _ rfl) (aT bH w _ _ rfl) (aT bH w _ _ rfl) (run_equalIn_int w _ 3 _ _ _ _ Tryz.underlying3) (run_equalIn_int w _ 3 _ _ _ _ Tryz.underlying3)
theorem Yw (xs ys:List SV) (r:Bool) (h:oF [.int .i64 0,.int .i64 0] xs ys=some r) (w:World):(Op.equalIn 10000 64 (.agg (xs.map bK).toArray) (.agg (ys.map bK).toArray)).run Tryz.prog w=.ok r w:=by
 obtain ⟨a0,b0,xs0,ys0,r0,rfl,rfl,rfl,h0⟩:=bA h
 obtain ⟨a1,b1,xs1,ys1,r1,rfl,rfl,rfl,h1⟩:=bA h0
 obtain ⟨rfl,rfl,rfl⟩:=o3 h1
 have e:=Ub 9998 w a0 a1 b0 b1
 simp only [Bool.and_assoc,Bool.true_and,Bool.and_true] at e ⊢
 exact e
theorem Y8 (d:Nat) (w:World) (a0:Int) (a1:Int) (a2:Int) (a3:Int) (a4:Int) (a5:Int) (a6:Int) (a7:Bool) (a8:Int) (a9:Int) (a10:Int) (a11:Int) (a12:Int) (a13:Int) (a14:Int) (b0:Int) (b1:Int) (b2:Int) (b3:Int) (b4:Int) (b5:Int) (b6:Int) (b7:Bool) (b8:Int) (b9:Int) (b10:Int) (b11:Int) (b12:Int) (b13:Int) (b14:Int):(Op.equalIn (d+3) 66 (.agg #[.int .i64 a0,.int .i64 a1,.int .i64 a2,.int .i64 a3,.int .i64 a4,.int .i64 a5,.int .i64 a6,.bool a7,.int .i64 a8,.int .i64 a9,.int .i64 a10,.int .i64 a11,.int .i64 a12,.int .i64 a13,.int .i64 a14]) (.agg #[.int .i64 b0,.int .i64 b1,.int .i64 b2,.int .i64 b3,.int .i64 b4,.int .i64 b5,.int .i64 b6,.bool b7,.int .i64 b8,.int .i64 b9,.int .i64 b10,.int .i64 b11,.int .i64 b12,.int .i64 b13,.int .i64 b14])).run Tryz.prog w=.ok ((a0==b0)&&(((a1==b1)&&((a2==b2)&&((a3==b3)&&true)))&&(((a4==b4)&&((a5==b5)&&((a6==b6)&&true)))&&((a7==b7)&&((a8==b8)&&((a9==b9)&&((a10==b10)&&(((a11==b11)&&(a12==b12))&&((a13==b13)&&((a14==b14)&&true)))))))))) w:=
 x6 (P:=Tryz.prog) (d:=d+2) (xs:= #[.int .i64 a0,.int .i64 a1,.int .i64 a2,.int .i64 a3,.int .i64 a4,.int .i64 a5,.int .i64 a6,.bool a7,.int .i64 a8,.int .i64 a9,.int .i64 a10,.int .i64 a11,.int .i64 a12,.int .i64 a13,.int .i64 a14]) (ys:= #[.int .i64 b0,.int .i64 b1,.int .i64 b2,.int .i64 b3,.int .i64 b4,.int .i64 b5,.int .i64 b6,.bool b7,.int .i64 b8,.int .i64 b9,.int .i64 b10,.int .i64 b11,.int .i64 b12,.int .i64 b13,.int .i64 b14]) w Tryz.underlying66 (by kernel_rfl) (bJ w rfl (aT bH w _ _ rfl) (aT bH w _ _ rfl) (run_equalIn_int w _ 3 _ _ _ _ Tryz.underlying3) (bJ w rfl (eB gI w _ _ rfl) (eB gI w _ _ rfl) (yJ _ w a1 a2 a3 b1 b2 b3) (bJ w rfl (eB gI w _ _ rfl) (eB gI w _ _ rfl) (yJ _ w a4 a5 a6 b4 b5 b6) (bJ w rfl (aT rc w _ _ rfl) (aT rc w _ _ rfl) (run_equalIn_bool w _ 4 _ _ Tryz.underlying4) (bJ w rfl (aT bH w _ _ rfl) (aT bH w _ _ rfl) (run_equalIn_int w _ 3 _ _ _ _ Tryz.underlying3) (bJ w rfl (aT bH w _ _ rfl) (aT bH w _ _ rfl) (run_equalIn_int w _ 3 _ _ _ _ Tryz.underlying3) (bJ w rfl (aT bH w _ _ rfl) (aT bH w _ _ rfl) (run_equalIn_int w _ 3 _ _ _ _ Tryz.underlying3) (bJ w rfl (eB AK w _ _ rfl) (eB AK w _ _ rfl) (Ub _ w a11 a12 b11 b12) (bJ w rfl (aT bH w _ _ rfl) (aT bH w _ _ rfl) (run_equalIn_int w _ 3 _ _ _ _ Tryz.underlying3) (bJ w rfl (aT bH w _ _ rfl) (aT bH w _ _ rfl) (run_equalIn_int w _ 3 _ _ _ _ Tryz.underlying3) (rh _ _ _ w)))))))))))
theorem YB (xs ys:List SV) (r:Bool) (h:oF [.int .i64 0,.int .i64 0,.int .i64 0,.int .i64 0,.int .i64 0,.int .i64 0,.int .i64 0,.bool false,.int .i64 0,.int .i64 0,.int .i64 0,.int .i64 0,.int .i64 0,.int .i64 0,.int .i64 0] xs ys=some r) (w:World):(Op.equalIn 10000 66 (.agg (xs.map bK).toArray) (.agg (ys.map bK).toArray)).run Tryz.prog w=.ok r w:=by
 obtain ⟨a0,b0,xs0,ys0,r0,rfl,rfl,rfl,h0⟩:=bA h
 obtain ⟨a1,b1,xs1,ys1,r1,rfl,rfl,rfl,h1⟩:=bA h0
 obtain ⟨a2,b2,xs2,ys2,r2,rfl,rfl,rfl,h2⟩:=bA h1
 obtain ⟨a3,b3,xs3,ys3,r3,rfl,rfl,rfl,h3⟩:=bA h2
 obtain ⟨a4,b4,xs4,ys4,r4,rfl,rfl,rfl,h4⟩:=bA h3
 obtain ⟨a5,b5,xs5,ys5,r5,rfl,rfl,rfl,h5⟩:=bA h4
 obtain ⟨a6,b6,xs6,ys6,r6,rfl,rfl,rfl,h6⟩:=bA h5
 obtain ⟨a7,b7,xs7,ys7,r7,rfl,rfl,rfl,h7⟩:=zB h6
 obtain ⟨a8,b8,xs8,ys8,r8,rfl,rfl,rfl,h8⟩:=bA h7
 obtain ⟨a9,b9,xs9,ys9,r9,rfl,rfl,rfl,h9⟩:=bA h8
 obtain ⟨a10,b10,xs10,ys10,r10,rfl,rfl,rfl,h10⟩:=bA h9
 obtain ⟨a11,b11,xs11,ys11,r11,rfl,rfl,rfl,h11⟩:=bA h10
 obtain ⟨a12,b12,xs12,ys12,r12,rfl,rfl,rfl,h12⟩:=bA h11
 obtain ⟨a13,b13,xs13,ys13,r13,rfl,rfl,rfl,h13⟩:=bA h12
 obtain ⟨a14,b14,xs14,ys14,r14,rfl,rfl,rfl,h14⟩:=bA h13
 obtain ⟨rfl,rfl,rfl⟩:=o3 h14
 have e:=Y8 9997 w a0 a1 a2 a3 a4 a5 a6 a7 a8 a9 a10 a11 a12 a13 a14 b0 b1 b2 b3 b4 b5 b6 b7 b8 b9 b10 b11 b12 b13 b14
 simp only [Bool.and_assoc,Bool.true_and,Bool.and_true] at e ⊢
 exact e
theorem YK (d:Nat) (w:World) (a0:Int) (a1:Int) (a2:Int) (a3:Int) (a4:Int) (a5:Int) (a6:Int) (a7:Int) (a8:Int) (a9:Int) (a10:Bool) (b0:Int) (b1:Int) (b2:Int) (b3:Int) (b4:Int) (b5:Int) (b6:Int) (b7:Int) (b8:Int) (b9:Int) (b10:Bool):(Op.equalIn (d+3) 78 (.agg #[.int .i64 a0,.int .i64 a1,.int .i64 a2,.int .i64 a3,.int .i64 a4,.int .i64 a5,.int .i64 a6,.int .i64 a7,.int .i64 a8,.int .i64 a9,.bool a10]) (.agg #[.int .i64 b0,.int .i64 b1,.int .i64 b2,.int .i64 b3,.int .i64 b4,.int .i64 b5,.int .i64 b6,.int .i64 b7,.int .i64 b8,.int .i64 b9,.bool b10])).run Tryz.prog w=.ok ((a0==b0)&&((a1==b1)&&((a2==b2)&&(((a3==b3)&&((a4==b4)&&((a5==b5)&&true)))&&(((a6==b6)&&((a7==b7)&&((a8==b8)&&true)))&&((a9==b9)&&((a10==b10)&&true))))))) w:=
 x6 (P:=Tryz.prog) (d:=d+2) (xs:= #[.int .i64 a0,.int .i64 a1,.int .i64 a2,.int .i64 a3,.int .i64 a4,.int .i64 a5,.int .i64 a6,.int .i64 a7,.int .i64 a8,.int .i64 a9,.bool a10]) (ys:= #[.int .i64 b0,.int .i64 b1,.int .i64 b2,.int .i64 b3,.int .i64 b4,.int .i64 b5,.int .i64 b6,.int .i64 b7,.int .i64 b8,.int .i64 b9,.bool b10]) w Tryz.underlying78 (by kernel_rfl) (bJ w rfl (aT bH w _ _ rfl) (aT bH w _ _ rfl) (run_equalIn_int w _ 3 _ _ _ _ Tryz.underlying3) (bJ w rfl (aT bH w _ _ rfl) (aT bH w _ _ rfl) (run_equalIn_int w _ 3 _ _ _ _ Tryz.underlying3) (bJ w rfl (aT bH w _ _ rfl) (aT bH w _ _ rfl) (run_equalIn_int w _ 3 _ _ _ _ Tryz.underlying3) (bJ w rfl (eB gI w _ _ rfl) (eB gI w _ _ rfl) (yJ _ w a3 a4 a5 b3 b4 b5) (bJ w rfl (eB gI w _ _ rfl) (eB gI w _ _ rfl) (yJ _ w a6 a7 a8 b6 b7 b8) (bJ w rfl (aT bH w _ _ rfl) (aT bH w _ _ rfl) (run_equalIn_int w _ 3 _ _ _ _ Tryz.underlying3) (bJ w rfl (aT rc w _ _ rfl) (aT rc w _ _ rfl) (run_equalIn_bool w _ 4 _ _ Tryz.underlying4) (rh _ _ _ w))))))))
theorem YG (xs ys:List SV) (r:Bool) (h:oF [.int .i64 0,.int .i64 0,.int .i64 0,.int .i64 0,.int .i64 0,.int .i64 0,.int .i64 0,.int .i64 0,.int .i64 0,.int .i64 0,.bool false] xs ys=some r) (w:World):(Op.equalIn 10000 78 (.agg (xs.map bK).toArray) (.agg (ys.map bK).toArray)).run Tryz.prog w=.ok r w:=by
 obtain ⟨a0,b0,xs0,ys0,r0,rfl,rfl,rfl,h0⟩:=bA h
 obtain ⟨a1,b1,xs1,ys1,r1,rfl,rfl,rfl,h1⟩:=bA h0
 obtain ⟨a2,b2,xs2,ys2,r2,rfl,rfl,rfl,h2⟩:=bA h1
 obtain ⟨a3,b3,xs3,ys3,r3,rfl,rfl,rfl,h3⟩:=bA h2
 obtain ⟨a4,b4,xs4,ys4,r4,rfl,rfl,rfl,h4⟩:=bA h3
 obtain ⟨a5,b5,xs5,ys5,r5,rfl,rfl,rfl,h5⟩:=bA h4
 obtain ⟨a6,b6,xs6,ys6,r6,rfl,rfl,rfl,h6⟩:=bA h5
 obtain ⟨a7,b7,xs7,ys7,r7,rfl,rfl,rfl,h7⟩:=bA h6
 obtain ⟨a8,b8,xs8,ys8,r8,rfl,rfl,rfl,h8⟩:=bA h7
 obtain ⟨a9,b9,xs9,ys9,r9,rfl,rfl,rfl,h9⟩:=bA h8
 obtain ⟨a10,b10,xs10,ys10,r10,rfl,rfl,rfl,h10⟩:=zB h9
 obtain ⟨rfl,rfl,rfl⟩:=o3 h10
 have e:=YK 9997 w a0 a1 a2 a3 a4 a5 a6 a7 a8 a9 a10 b0 b1 b2 b3 b4 b5 b6 b7 b8 b9 b10
 simp only [Bool.and_assoc,Bool.true_and,Bool.and_true] at e ⊢
 exact e
def XZ:Nat→Option TI
 |2=>some ⟨.int .i64,1,[.int .i64 0],8,some .i64,false⟩
 |3=>some ⟨.int .i64,1,[.int .i64 0],8,some .i64,false⟩
 |4=>some ⟨.bool,1,[.bool false],1,some .bool,false⟩
 |5=>some ⟨.int .u8,1,[.int .u8 0],1,none,false⟩
 |6=>some ⟨.int .u8,1,[.int .u8 0],1,none,false⟩
 |7=>some ⟨.struct [(0,2),(1,3),(2,4),(3,6)],4,[.int .i64 0,.int .i64 0,.bool false,.int .u8 0],24,none,false⟩
 |8=>some ⟨.struct [(0,2),(1,3),(2,4),(3,6)],4,[.int .i64 0,.int .i64 0,.bool false,.int .u8 0],24,none,false⟩
 |12=>some ⟨.int .u64,1,[.int .u64 0],8,none,false⟩
 |15=>some ⟨.ptr 183,1,[.nilp],8,none,false⟩
 |16=>some ⟨.ptr 186,1,[.nilp],8,none,false⟩
 |17=>some ⟨.ptr 195,1,[.nilp],8,none,false⟩
 |18=>some ⟨.struct [(0,17)],1,[.nilp],8,none,false⟩
 |19=>some ⟨.struct [(0,17)],1,[.nilp],8,none,false⟩
 |21=>some ⟨.int .i32,1,[.int .i32 0],4,none,false⟩
 |22=>some ⟨.slice 4,1,[.nils],24,none,false⟩
 |23=>some ⟨.slice 44,1,[.nils],24,none,false⟩
 |24=>some ⟨.struct [(0,3),(1,3),(2,3),(3,22),(4,23)],5,[.int .i64 0,.int .i64 0,.int .i64 0,.nils,.nils],72,none,false⟩
 |25=>some ⟨.struct [(0,3),(1,3),(2,3),(3,22),(4,23)],5,[.int .i64 0,.int .i64 0,.int .i64 0,.nils,.nils],72,none,false⟩
 |26=>some ⟨.slice 46,1,[.nils],24,none,false⟩
 |29=>some ⟨.ptr 71,1,[.nilp],8,none,false⟩
 |30=>some ⟨.int .i64,1,[.int .i64 0],8,none,false⟩
 |33=>some ⟨.ptr 53,1,[.nilp],8,none,false⟩
 |36=>some ⟨.struct [(0,3),(1,30)],2,[.int .i64 0,.int .i64 0],16,none,false⟩
 |37=>some ⟨.struct [(0,3),(1,30)],2,[.int .i64 0,.int .i64 0],16,none,true⟩
 |39=>some ⟨.int .u16,1,[.int .u16 0],2,none,false⟩
 |40=>some ⟨.int .i8,1,[.int .i8 0],1,none,false⟩
 |41=>some ⟨.struct [(0,39),(1,5),(2,40),(3,40),(4,3)],5,[.int .u16 0,.int .u8 0,.int .i8 0,.int .i8 0,.int .i64 0],16,none,false⟩
 |42=>some ⟨.struct [(0,39),(1,5),(2,40),(3,40),(4,3)],5,[.int .u16 0,.int .u8 0,.int .i8 0,.int .i8 0,.int .i64 0],16,some .cm,false⟩
 |43=>some ⟨.struct [(0,2),(1,2),(2,2)],3,[.int .i64 0,.int .i64 0,.int .i64 0],24,none,false⟩
 |44=>some ⟨.struct [(0,2),(1,2),(2,2)],3,[.int .i64 0,.int .i64 0,.int .i64 0],24,some .vec,true⟩
 |45=>some ⟨.struct [(0,3),(1,3),(2,42),(7,3),(8,3),(9,44)],12,[.int .i64 0,.int .i64 0,.int .u16 0,.int .u8 0,.int .i8 0,.int .i8 0,.int .i64 0,.int .i64 0,.int .i64 0,.int .i64 0,.int .i64 0,.int .i64 0],72,none,false⟩
 |46=>some ⟨.struct [(0,3),(1,3),(2,42),(7,3),(8,3),(9,44)],12,[.int .i64 0,.int .i64 0,.int .u16 0,.int .u8 0,.int .i8 0,.int .i8 0,.int .i64 0,.int .i64 0,.int .i64 0,.int .i64 0,.int .i64 0,.int .i64 0],72,some .wop,false⟩
 |49=>some ⟨.slice 66,1,[.nils],24,none,false⟩
 |50=>some ⟨.slice 3,1,[.nils],24,none,false⟩
 |51=>some ⟨.slice 78,1,[.nils],24,none,false⟩
 |52=>some ⟨.struct [(0,25),(5,3),(6,49),(7,50),(8,51),(9,3),(10,3)],11,[.int .i64 0,.int .i64 0,.int .i64 0,.nils,.nils,.int .i64 0,.nils,.nils,.nils,.int .i64 0,.int .i64 0],168,none,false⟩
 |53=>some ⟨.struct [(0,25),(5,3),(6,49),(7,50),(8,51),(9,3),(10,3)],11,[.int .i64 0,.int .i64 0,.int .i64 0,.nils,.nils,.int .i64 0,.nils,.nils,.nils,.int .i64 0,.int .i64 0],168,none,false⟩
 |64=>some ⟨.array 2 3,2,[.int .i64 0,.int .i64 0],16,none,true⟩
 |65=>some ⟨.struct [(0,3),(1,44),(4,44),(7,4),(8,3),(9,3),(10,3),(11,64),(13,3),(14,3)],15,[.int .i64 0,.int .i64 0,.int .i64 0,.int .i64 0,.int .i64 0,.int .i64 0,.int .i64 0,.bool false,.int .i64 0,.int .i64 0,.int .i64 0,.int .i64 0,.int .i64 0,.int .i64 0,.int .i64 0],120,none,false⟩
 |66=>some ⟨.struct [(0,3),(1,44),(4,44),(7,4),(8,3),(9,3),(10,3),(11,64),(13,3),(14,3)],15,[.int .i64 0,.int .i64 0,.int .i64 0,.int .i64 0,.int .i64 0,.int .i64 0,.int .i64 0,.bool false,.int .i64 0,.int .i64 0,.int .i64 0,.int .i64 0,.int .i64 0,.int .i64 0,.int .i64 0],120,some .pl,true⟩
 |69=>some ⟨.slice 74,1,[.nils],24,none,false⟩
 |70=>some ⟨.struct [(0,25),(5,3),(6,69),(7,51),(8,3),(9,3)],10,[.int .i64 0,.int .i64 0,.int .i64 0,.nils,.nils,.int .i64 0,.nils,.nils,.int .i64 0,.int .i64 0],144,none,false⟩
 |71=>some ⟨.struct [(0,25),(5,3),(6,69),(7,51),(8,3),(9,3)],10,[.int .i64 0,.int .i64 0,.int .i64 0,.nils,.nils,.int .i64 0,.nils,.nils,.int .i64 0,.int .i64 0],144,none,false⟩
 |74=>some ⟨.ptr 76,1,[.nilp],8,none,false⟩
 |75=>some ⟨.struct [(0,66),(15,3)],16,[.int .i64 0,.int .i64 0,.int .i64 0,.int .i64 0,.int .i64 0,.int .i64 0,.int .i64 0,.bool false,.int .i64 0,.int .i64 0,.int .i64 0,.int .i64 0,.int .i64 0,.int .i64 0,.int .i64 0,.int .i64 0],128,none,false⟩
 |76=>some ⟨.struct [(0,66),(15,3)],16,[.int .i64 0,.int .i64 0,.int .i64 0,.int .i64 0,.int .i64 0,.int .i64 0,.int .i64 0,.bool false,.int .i64 0,.int .i64 0,.int .i64 0,.int .i64 0,.int .i64 0,.int .i64 0,.int .i64 0,.int .i64 0],128,none,false⟩
 |77=>some ⟨.struct [(0,3),(1,3),(2,3),(3,44),(6,44),(9,3),(10,4)],11,[.int .i64 0,.int .i64 0,.int .i64 0,.int .i64 0,.int .i64 0,.int .i64 0,.int .i64 0,.int .i64 0,.int .i64 0,.int .i64 0,.bool false],88,none,false⟩
 |78=>some ⟨.struct [(0,3),(1,3),(2,3),(3,44),(6,44),(9,3),(10,4)],11,[.int .i64 0,.int .i64 0,.int .i64 0,.int .i64 0,.int .i64 0,.int .i64 0,.int .i64 0,.int .i64 0,.int .i64 0,.int .i64 0,.bool false],88,some .sh,true⟩
 |88=>some ⟨.ptr 78,1,[.nilp],8,none,false⟩
 |103=>some ⟨.ptr 2,1,[.nilp],8,none,false⟩
 |104=>some ⟨.array 3 103,3,[.nilp,.nilp,.nilp],24,none,false⟩
 |106=>some ⟨.ptr 44,1,[.nilp],8,none,false⟩
 |123=>some ⟨.int .u64,1,[.int .u64 0],8,some .u64,false⟩
 |124=>some ⟨.struct [(0,123),(1,123)],2,[.int .u64 0,.int .u64 0],16,none,false⟩
 |125=>some ⟨.struct [(0,123),(1,123)],2,[.int .u64 0,.int .u64 0],16,none,false⟩
 |135=>some ⟨.int .u64,1,[.int .u64 0],8,none,false⟩
 |139=>some ⟨.slice 123,1,[.nils],24,none,false⟩
 |140=>some ⟨.struct [(0,4),(1,139)],2,[.bool false,.nils],32,none,false⟩
 |141=>some ⟨.struct [(0,4),(1,139)],2,[.bool false,.nils],32,none,false⟩
 |147=>some ⟨.array 3 4,3,[.bool false,.bool false,.bool false],3,none,false⟩
 |161=>some ⟨.array 3 2,3,[.int .i64 0,.int .i64 0,.int .i64 0],24,none,false⟩
 |165=>some ⟨.struct [(0,3),(1,3),(2,2),(3,2)],4,[.int .i64 0,.int .i64 0,.int .i64 0,.int .i64 0],32,none,false⟩
 |166=>some ⟨.struct [(0,3),(1,3),(2,2),(3,2)],4,[.int .i64 0,.int .i64 0,.int .i64 0,.int .i64 0],32,none,false⟩
 |168=>some ⟨.array 3 166,12,[.int .i64 0,.int .i64 0,.int .i64 0,.int .i64 0,.int .i64 0,.int .i64 0,.int .i64 0,.int .i64 0,.int .i64 0,.int .i64 0,.int .i64 0,.int .i64 0],96,none,false⟩
 |169=>some ⟨.ptr 166,1,[.nilp],8,none,false⟩
 |173=>some ⟨.struct [(0,2),(1,2)],2,[.int .i64 0,.int .i64 0],16,none,false⟩
 |174=>some ⟨.struct [(0,2),(1,2)],2,[.int .i64 0,.int .i64 0],16,some .pt,false⟩
 |175=>some ⟨.slice 174,1,[.nils],24,none,false⟩
 |184=>some ⟨.array 0 16,0,[],0,none,false⟩
 |185=>some ⟨.struct [(0,184)],0,[],0,none,false⟩
 |186=>some ⟨.struct [(0,184)],0,[],0,none,false⟩
 |187=>some ⟨.int .u32,1,[.int .u32 0],4,none,false⟩
 |188=>some ⟨.int .u8,1,[.int .u8 0],1,none,false⟩
 |189=>some ⟨.int .u8,1,[.int .u8 0],1,none,false⟩
 |191=>some ⟨.ptr 5,1,[.nilp],8,none,false⟩
 |192=>some ⟨.int .i32,1,[.int .i32 0],4,none,false⟩
 |193=>some ⟨.int .i32,1,[.int .i32 0],4,none,false⟩
 |_=>none
theorem WG:bl Tryz.prog 2 ⟨.int .i64,1,[.int .i64 0],8,some .i64,false⟩:=
 ⟨by kernel_rfl,by kernel_rfl,Tryz.underlying2,⟨.int .i64 0,by kernel_rfl,(by simp only [Array.toList,Value.cells,aa,ai,aE,and_self])⟩,(fun h=>by cases h)⟩
theorem WM:bl Tryz.prog 3 ⟨.int .i64,1,[.int .i64 0],8,some .i64,false⟩:=
 ⟨by kernel_rfl,by kernel_rfl,Tryz.underlying3,⟨.int .i64 0,by kernel_rfl,(by simp only [Array.toList,Value.cells,aa,ai,aE,and_self])⟩,(fun h=>by cases h)⟩
theorem XC:bl Tryz.prog 4 ⟨.bool,1,[.bool false],1,some .bool,false⟩:=
 ⟨by kernel_rfl,by kernel_rfl,Tryz.underlying4,⟨.bool false,by kernel_rfl,(by simp only [Array.toList,Value.cells,aa,ai,aE,and_self])⟩,(fun h=>by cases h)⟩
theorem WE:bl Tryz.prog 5 ⟨.int .u8,1,[.int .u8 0],1,none,false⟩:=
 ⟨by kernel_rfl,by kernel_rfl,Tryz.underlying5,⟨.int .u8 0,by kernel_rfl,(by simp only [Array.toList,Value.cells,aa,ai,aE,and_self])⟩,(fun h=>by cases h)⟩
theorem Xe:bl Tryz.prog 6 ⟨.int .u8,1,[.int .u8 0],1,none,false⟩:=
 ⟨by kernel_rfl,by kernel_rfl,Tryz.underlying6,⟨.int .u8 0,by kernel_rfl,(by simp only [Array.toList,Value.cells,aa,ai,aE,and_self])⟩,(fun h=>by cases h)⟩
theorem X4:bl Tryz.prog 7 ⟨.struct [(0,2),(1,3),(2,4),(3,6)],4,[.int .i64 0,.int .i64 0,.bool false,.int .u8 0],24,none,false⟩:=
 ⟨by kernel_rfl,by kernel_rfl,⟨_,Tryz.underlying7,rfl⟩,⟨.agg #[.int .i64 0,.int .i64 0,.bool false,.int .u8 0],by kernel_rfl,(by simp only [Array.toList,Value.cells,aa,ai,aE,and_self])⟩,(fun h=>by cases h)⟩
theorem UC:bl Tryz.prog 8 ⟨.struct [(0,2),(1,3),(2,4),(3,6)],4,[.int .i64 0,.int .i64 0,.bool false,.int .u8 0],24,none,false⟩:=
 ⟨by kernel_rfl,by kernel_rfl,⟨_,Tryz.underlying8,rfl⟩,⟨.agg #[.int .i64 0,.int .i64 0,.bool false,.int .u8 0],by kernel_rfl,(by simp only [Array.toList,Value.cells,aa,ai,aE,and_self])⟩,(fun h=>by cases h)⟩
theorem Q5:bl Tryz.prog 12 ⟨.int .u64,1,[.int .u64 0],8,none,false⟩:=
 ⟨by kernel_rfl,by kernel_rfl,Tryz.underlying12,⟨.int .u64 0,by kernel_rfl,(by simp only [Array.toList,Value.cells,aa,ai,aE,and_self])⟩,(fun h=>by cases h)⟩
theorem RY:bl Tryz.prog 15 ⟨.ptr 183,1,[.nilp],8,none,false⟩:=
 ⟨by kernel_rfl,by kernel_rfl,Tryz.underlying15,⟨.pointer none,by kernel_rfl,(by simp only [Array.toList,Value.cells,aa,ai,aE,and_self])⟩,(fun h=>by cases h)⟩
theorem Qz:bl Tryz.prog 16 ⟨.ptr 186,1,[.nilp],8,none,false⟩:=
 ⟨by kernel_rfl,by kernel_rfl,Tryz.underlying16,⟨.pointer none,by kernel_rfl,(by simp only [Array.toList,Value.cells,aa,ai,aE,and_self])⟩,(fun h=>by cases h)⟩
theorem Rv:bl Tryz.prog 17 ⟨.ptr 195,1,[.nilp],8,none,false⟩:=
 ⟨by kernel_rfl,by kernel_rfl,Tryz.underlying17,⟨.pointer none,by kernel_rfl,(by simp only [Array.toList,Value.cells,aa,ai,aE,and_self])⟩,(fun h=>by cases h)⟩
theorem Qh:bl Tryz.prog 18 ⟨.struct [(0,17)],1,[.nilp],8,none,false⟩:=
 ⟨by kernel_rfl,by kernel_rfl,⟨_,Tryz.underlying18,rfl⟩,⟨.agg #[.pointer none],by kernel_rfl,(by simp only [Array.toList,Value.cells,aa,ai,aE,and_self])⟩,(fun h=>by cases h)⟩
theorem SC:bl Tryz.prog 19 ⟨.struct [(0,17)],1,[.nilp],8,none,false⟩:=
 ⟨by kernel_rfl,by kernel_rfl,⟨_,Tryz.underlying19,rfl⟩,⟨.agg #[.pointer none],by kernel_rfl,(by simp only [Array.toList,Value.cells,aa,ai,aE,and_self])⟩,(fun h=>by cases h)⟩
theorem RG:bl Tryz.prog 21 ⟨.int .i32,1,[.int .i32 0],4,none,false⟩:=
 ⟨by kernel_rfl,by kernel_rfl,Tryz.underlying21,⟨.int .i32 0,by kernel_rfl,(by simp only [Array.toList,Value.cells,aa,ai,aE,and_self])⟩,(fun h=>by cases h)⟩
theorem SK:bl Tryz.prog 22 ⟨.slice 4,1,[.nils],24,none,false⟩:=
 ⟨by kernel_rfl,by kernel_rfl,Tryz.underlying22,⟨.slice none 0 0,by kernel_rfl,(by simp only [Array.toList,Value.cells,aa,ai,aE,and_self])⟩,(fun h=>by cases h)⟩
theorem RL:bl Tryz.prog 23 ⟨.slice 44,1,[.nils],24,none,false⟩:=
 ⟨by kernel_rfl,by kernel_rfl,Tryz.underlying23,⟨.slice none 0 0,by kernel_rfl,(by simp only [Array.toList,Value.cells,aa,ai,aE,and_self])⟩,(fun h=>by cases h)⟩
theorem SS:bl Tryz.prog 24 ⟨.struct [(0,3),(1,3),(2,3),(3,22),(4,23)],5,[.int .i64 0,.int .i64 0,.int .i64 0,.nils,.nils],72,none,false⟩:=
 ⟨by kernel_rfl,by kernel_rfl,⟨_,Tryz.underlying24,rfl⟩,⟨.agg #[.int .i64 0,.int .i64 0,.int .i64 0,.slice none 0 0,.slice none 0 0],by kernel_rfl,(by simp only [Array.toList,Value.cells,aa,ai,aE,and_self])⟩,(fun h=>by cases h)⟩
theorem SU:bl Tryz.prog 25 ⟨.struct [(0,3),(1,3),(2,3),(3,22),(4,23)],5,[.int .i64 0,.int .i64 0,.int .i64 0,.nils,.nils],72,none,false⟩:=
 ⟨by kernel_rfl,by kernel_rfl,⟨_,Tryz.underlying25,rfl⟩,⟨.agg #[.int .i64 0,.int .i64 0,.int .i64 0,.slice none 0 0,.slice none 0 0],by kernel_rfl,(by simp only [Array.toList,Value.cells,aa,ai,aE,and_self])⟩,(fun h=>by cases h)⟩
theorem Qn:bl Tryz.prog 26 ⟨.slice 46,1,[.nils],24,none,false⟩:=
 ⟨by kernel_rfl,by kernel_rfl,Tryz.underlying26,⟨.slice none 0 0,by kernel_rfl,(by simp only [Array.toList,Value.cells,aa,ai,aE,and_self])⟩,(fun h=>by cases h)⟩
theorem PF:bl Tryz.prog 29 ⟨.ptr 71,1,[.nilp],8,none,false⟩:=
 ⟨by kernel_rfl,by kernel_rfl,Tryz.underlying29,⟨.pointer none,by kernel_rfl,(by simp only [Array.toList,Value.cells,aa,ai,aE,and_self])⟩,(fun h=>by cases h)⟩
theorem QU:bl Tryz.prog 30 ⟨.int .i64,1,[.int .i64 0],8,none,false⟩:=
 ⟨by kernel_rfl,by kernel_rfl,Tryz.underlying30,⟨.int .i64 0,by kernel_rfl,(by simp only [Array.toList,Value.cells,aa,ai,aE,and_self])⟩,(fun h=>by cases h)⟩
theorem S8:bl Tryz.prog 33 ⟨.ptr 53,1,[.nilp],8,none,false⟩:=
 ⟨by kernel_rfl,by kernel_rfl,Tryz.underlying33,⟨.pointer none,by kernel_rfl,(by simp only [Array.toList,Value.cells,aa,ai,aE,and_self])⟩,(fun h=>by cases h)⟩
theorem Rf:bl Tryz.prog 36 ⟨.struct [(0,3),(1,30)],2,[.int .i64 0,.int .i64 0],16,none,false⟩:=
 ⟨by kernel_rfl,by kernel_rfl,⟨_,Tryz.underlying36,rfl⟩,⟨.agg #[.int .i64 0,.int .i64 0],by kernel_rfl,(by simp only [Array.toList,Value.cells,aa,ai,aE,and_self])⟩,(fun h=>by cases h)⟩
theorem QX:bl Tryz.prog 37 ⟨.struct [(0,3),(1,30)],2,[.int .i64 0,.int .i64 0],16,none,true⟩:=
 ⟨by kernel_rfl,by kernel_rfl,⟨_,Tryz.underlying37,rfl⟩,⟨.agg #[.int .i64 0,.int .i64 0],by kernel_rfl,(by simp only [Array.toList,Value.cells,aa,ai,aE,and_self])⟩,(fun _=>⟨by kernel_rfl,Yb⟩)⟩
theorem PX:bl Tryz.prog 39 ⟨.int .u16,1,[.int .u16 0],2,none,false⟩:=
 ⟨by kernel_rfl,by kernel_rfl,Tryz.underlying39,⟨.int .u16 0,by kernel_rfl,(by simp only [Array.toList,Value.cells,aa,ai,aE,and_self])⟩,(fun h=>by cases h)⟩
theorem Sq:bl Tryz.prog 40 ⟨.int .i8,1,[.int .i8 0],1,none,false⟩:=
 ⟨by kernel_rfl,by kernel_rfl,Tryz.underlying40,⟨.int .i8 0,by kernel_rfl,(by simp only [Array.toList,Value.cells,aa,ai,aE,and_self])⟩,(fun h=>by cases h)⟩
theorem RN:bl Tryz.prog 41 ⟨.struct [(0,39),(1,5),(2,40),(3,40),(4,3)],5,[.int .u16 0,.int .u8 0,.int .i8 0,.int .i8 0,.int .i64 0],16,none,false⟩:=
 ⟨by kernel_rfl,by kernel_rfl,⟨_,Tryz.underlying41,rfl⟩,⟨.agg #[.int .u16 0,.int .u8 0,.int .i8 0,.int .i8 0,.int .i64 0],by kernel_rfl,(by simp only [Array.toList,Value.cells,aa,ai,aE,and_self])⟩,(fun h=>by cases h)⟩
theorem Qp:bl Tryz.prog 42 ⟨.struct [(0,39),(1,5),(2,40),(3,40),(4,3)],5,[.int .u16 0,.int .u8 0,.int .i8 0,.int .i8 0,.int .i64 0],16,some .cm,false⟩:=
 ⟨by kernel_rfl,by kernel_rfl,⟨_,Tryz.underlying42,rfl⟩,⟨.agg #[.int .u16 0,.int .u8 0,.int .i8 0,.int .i8 0,.int .i64 0],by kernel_rfl,(by simp only [Array.toList,Value.cells,aa,ai,aE,and_self])⟩,(fun h=>by cases h)⟩
theorem Rx:bl Tryz.prog 43 ⟨.struct [(0,2),(1,2),(2,2)],3,[.int .i64 0,.int .i64 0,.int .i64 0],24,none,false⟩:=
 ⟨by kernel_rfl,by kernel_rfl,⟨_,Tryz.underlying43,rfl⟩,⟨.agg #[.int .i64 0,.int .i64 0,.int .i64 0],by kernel_rfl,(by simp only [Array.toList,Value.cells,aa,ai,aE,and_self])⟩,(fun h=>by cases h)⟩
theorem QH:bl Tryz.prog 44 ⟨.struct [(0,2),(1,2),(2,2)],3,[.int .i64 0,.int .i64 0,.int .i64 0],24,some .vec,true⟩:=
 ⟨by kernel_rfl,by kernel_rfl,⟨_,Tryz.underlying44,rfl⟩,⟨.agg #[.int .i64 0,.int .i64 0,.int .i64 0],by kernel_rfl,(by simp only [Array.toList,Value.cells,aa,ai,aE,and_self])⟩,(fun _=>⟨by kernel_rfl,Y6⟩)⟩
theorem RH:bl Tryz.prog 45 ⟨.struct [(0,3),(1,3),(2,42),(7,3),(8,3),(9,44)],12,[.int .i64 0,.int .i64 0,.int .u16 0,.int .u8 0,.int .i8 0,.int .i8 0,.int .i64 0,.int .i64 0,.int .i64 0,.int .i64 0,.int .i64 0,.int .i64 0],72,none,false⟩:=
 ⟨by kernel_rfl,by kernel_rfl,⟨_,Tryz.underlying45,rfl⟩,⟨.agg #[.int .i64 0,.int .i64 0,.int .u16 0,.int .u8 0,.int .i8 0,.int .i8 0,.int .i64 0,.int .i64 0,.int .i64 0,.int .i64 0,.int .i64 0,.int .i64 0],by kernel_rfl,(by simp only [Array.toList,Value.cells,aa,ai,aE,and_self])⟩,(fun h=>by cases h)⟩
theorem QI:bl Tryz.prog 46 ⟨.struct [(0,3),(1,3),(2,42),(7,3),(8,3),(9,44)],12,[.int .i64 0,.int .i64 0,.int .u16 0,.int .u8 0,.int .i8 0,.int .i8 0,.int .i64 0,.int .i64 0,.int .i64 0,.int .i64 0,.int .i64 0,.int .i64 0],72,some .wop,false⟩:=
 ⟨by kernel_rfl,by kernel_rfl,⟨_,Tryz.underlying46,rfl⟩,⟨.agg #[.int .i64 0,.int .i64 0,.int .u16 0,.int .u8 0,.int .i8 0,.int .i8 0,.int .i64 0,.int .i64 0,.int .i64 0,.int .i64 0,.int .i64 0,.int .i64 0],by kernel_rfl,(by simp only [Array.toList,Value.cells,aa,ai,aE,and_self])⟩,(fun h=>by cases h)⟩
theorem Ql:bl Tryz.prog 49 ⟨.slice 66,1,[.nils],24,none,false⟩:=
 ⟨by kernel_rfl,by kernel_rfl,Tryz.underlying49,⟨.slice none 0 0,by kernel_rfl,(by simp only [Array.toList,Value.cells,aa,ai,aE,and_self])⟩,(fun h=>by cases h)⟩
theorem Px:bl Tryz.prog 50 ⟨.slice 3,1,[.nils],24,none,false⟩:=
 ⟨by kernel_rfl,by kernel_rfl,Tryz.underlying50,⟨.slice none 0 0,by kernel_rfl,(by simp only [Array.toList,Value.cells,aa,ai,aE,and_self])⟩,(fun h=>by cases h)⟩
theorem S1:bl Tryz.prog 51 ⟨.slice 78,1,[.nils],24,none,false⟩:=
 ⟨by kernel_rfl,by kernel_rfl,Tryz.underlying51,⟨.slice none 0 0,by kernel_rfl,(by simp only [Array.toList,Value.cells,aa,ai,aE,and_self])⟩,(fun h=>by cases h)⟩
theorem Ra:bl Tryz.prog 52 ⟨.struct [(0,25),(5,3),(6,49),(7,50),(8,51),(9,3),(10,3)],11,[.int .i64 0,.int .i64 0,.int .i64 0,.nils,.nils,.int .i64 0,.nils,.nils,.nils,.int .i64 0,.int .i64 0],168,none,false⟩:=
 ⟨by kernel_rfl,by kernel_rfl,⟨_,Tryz.underlying52,rfl⟩,⟨.agg #[.int .i64 0,.int .i64 0,.int .i64 0,.slice none 0 0,.slice none 0 0,.int .i64 0,.slice none 0 0,.slice none 0 0,.slice none 0 0,.int .i64 0,.int .i64 0],by kernel_rfl,(by simp only [Array.toList,Value.cells,aa,ai,aE,and_self])⟩,(fun h=>by cases h)⟩
theorem PB:bl Tryz.prog 53 ⟨.struct [(0,25),(5,3),(6,49),(7,50),(8,51),(9,3),(10,3)],11,[.int .i64 0,.int .i64 0,.int .i64 0,.nils,.nils,.int .i64 0,.nils,.nils,.nils,.int .i64 0,.int .i64 0],168,none,false⟩:=
 ⟨by kernel_rfl,by kernel_rfl,⟨_,Tryz.underlying53,rfl⟩,⟨.agg #[.int .i64 0,.int .i64 0,.int .i64 0,.slice none 0 0,.slice none 0 0,.int .i64 0,.slice none 0 0,.slice none 0 0,.slice none 0 0,.int .i64 0,.int .i64 0],by kernel_rfl,(by simp only [Array.toList,Value.cells,aa,ai,aE,and_self])⟩,(fun h=>by cases h)⟩
theorem Po:bl Tryz.prog 64 ⟨.array 2 3,2,[.int .i64 0,.int .i64 0],16,none,true⟩:=
 ⟨by kernel_rfl,by kernel_rfl,Tryz.underlying64,⟨.agg #[.int .i64 0,.int .i64 0],by kernel_rfl,(by simp only [Array.toList,Value.cells,aa,ai,aE,and_self])⟩,(fun _=>⟨by kernel_rfl,Yw⟩)⟩
theorem Rg:bl Tryz.prog 65 ⟨.struct [(0,3),(1,44),(4,44),(7,4),(8,3),(9,3),(10,3),(11,64),(13,3),(14,3)],15,[.int .i64 0,.int .i64 0,.int .i64 0,.int .i64 0,.int .i64 0,.int .i64 0,.int .i64 0,.bool false,.int .i64 0,.int .i64 0,.int .i64 0,.int .i64 0,.int .i64 0,.int .i64 0,.int .i64 0],120,none,false⟩:=
 ⟨by kernel_rfl,by kernel_rfl,⟨_,Tryz.underlying65,rfl⟩,⟨.agg #[.int .i64 0,.int .i64 0,.int .i64 0,.int .i64 0,.int .i64 0,.int .i64 0,.int .i64 0,.bool false,.int .i64 0,.int .i64 0,.int .i64 0,.int .i64 0,.int .i64 0,.int .i64 0,.int .i64 0],by kernel_rfl,(by simp only [Array.toList,Value.cells,aa,ai,aE,and_self])⟩,(fun h=>by cases h)⟩
theorem Rh:bl Tryz.prog 66 ⟨.struct [(0,3),(1,44),(4,44),(7,4),(8,3),(9,3),(10,3),(11,64),(13,3),(14,3)],15,[.int .i64 0,.int .i64 0,.int .i64 0,.int .i64 0,.int .i64 0,.int .i64 0,.int .i64 0,.bool false,.int .i64 0,.int .i64 0,.int .i64 0,.int .i64 0,.int .i64 0,.int .i64 0,.int .i64 0],120,some .pl,true⟩:=
 ⟨by kernel_rfl,by kernel_rfl,⟨_,Tryz.underlying66,rfl⟩,⟨.agg #[.int .i64 0,.int .i64 0,.int .i64 0,.int .i64 0,.int .i64 0,.int .i64 0,.int .i64 0,.bool false,.int .i64 0,.int .i64 0,.int .i64 0,.int .i64 0,.int .i64 0,.int .i64 0,.int .i64 0],by kernel_rfl,(by simp only [Array.toList,Value.cells,aa,ai,aE,and_self])⟩,(fun _=>⟨by kernel_rfl,YB⟩)⟩
theorem Rw:bl Tryz.prog 69 ⟨.slice 74,1,[.nils],24,none,false⟩:=
 ⟨by kernel_rfl,by kernel_rfl,Tryz.underlying69,⟨.slice none 0 0,by kernel_rfl,(by simp only [Array.toList,Value.cells,aa,ai,aE,and_self])⟩,(fun h=>by cases h)⟩
theorem R7:bl Tryz.prog 70 ⟨.struct [(0,25),(5,3),(6,69),(7,51),(8,3),(9,3)],10,[.int .i64 0,.int .i64 0,.int .i64 0,.nils,.nils,.int .i64 0,.nils,.nils,.int .i64 0,.int .i64 0],144,none,false⟩:=
 ⟨by kernel_rfl,by kernel_rfl,⟨_,Tryz.underlying70,rfl⟩,⟨.agg #[.int .i64 0,.int .i64 0,.int .i64 0,.slice none 0 0,.slice none 0 0,.int .i64 0,.slice none 0 0,.slice none 0 0,.int .i64 0,.int .i64 0],by kernel_rfl,(by simp only [Array.toList,Value.cells,aa,ai,aE,and_self])⟩,(fun h=>by cases h)⟩
theorem RP:bl Tryz.prog 71 ⟨.struct [(0,25),(5,3),(6,69),(7,51),(8,3),(9,3)],10,[.int .i64 0,.int .i64 0,.int .i64 0,.nils,.nils,.int .i64 0,.nils,.nils,.int .i64 0,.int .i64 0],144,none,false⟩:=
 ⟨by kernel_rfl,by kernel_rfl,⟨_,Tryz.underlying71,rfl⟩,⟨.agg #[.int .i64 0,.int .i64 0,.int .i64 0,.slice none 0 0,.slice none 0 0,.int .i64 0,.slice none 0 0,.slice none 0 0,.int .i64 0,.int .i64 0],by kernel_rfl,(by simp only [Array.toList,Value.cells,aa,ai,aE,and_self])⟩,(fun h=>by cases h)⟩
theorem Rl:bl Tryz.prog 74 ⟨.ptr 76,1,[.nilp],8,none,false⟩:=
 ⟨by kernel_rfl,by kernel_rfl,Tryz.underlying74,⟨.pointer none,by kernel_rfl,(by simp only [Array.toList,Value.cells,aa,ai,aE,and_self])⟩,(fun h=>by cases h)⟩
theorem Qs:bl Tryz.prog 75 ⟨.struct [(0,66),(15,3)],16,[.int .i64 0,.int .i64 0,.int .i64 0,.int .i64 0,.int .i64 0,.int .i64 0,.int .i64 0,.bool false,.int .i64 0,.int .i64 0,.int .i64 0,.int .i64 0,.int .i64 0,.int .i64 0,.int .i64 0,.int .i64 0],128,none,false⟩:=
 ⟨by kernel_rfl,by kernel_rfl,⟨_,Tryz.underlying75,rfl⟩,⟨.agg #[.int .i64 0,.int .i64 0,.int .i64 0,.int .i64 0,.int .i64 0,.int .i64 0,.int .i64 0,.bool false,.int .i64 0,.int .i64 0,.int .i64 0,.int .i64 0,.int .i64 0,.int .i64 0,.int .i64 0,.int .i64 0],by kernel_rfl,(by simp only [Array.toList,Value.cells,aa,ai,aE,and_self])⟩,(fun h=>by cases h)⟩
theorem RR:bl Tryz.prog 76 ⟨.struct [(0,66),(15,3)],16,[.int .i64 0,.int .i64 0,.int .i64 0,.int .i64 0,.int .i64 0,.int .i64 0,.int .i64 0,.bool false,.int .i64 0,.int .i64 0,.int .i64 0,.int .i64 0,.int .i64 0,.int .i64 0,.int .i64 0,.int .i64 0],128,none,false⟩:=
 ⟨by kernel_rfl,by kernel_rfl,⟨_,Tryz.underlying76,rfl⟩,⟨.agg #[.int .i64 0,.int .i64 0,.int .i64 0,.int .i64 0,.int .i64 0,.int .i64 0,.int .i64 0,.bool false,.int .i64 0,.int .i64 0,.int .i64 0,.int .i64 0,.int .i64 0,.int .i64 0,.int .i64 0,.int .i64 0],by kernel_rfl,(by simp only [Array.toList,Value.cells,aa,ai,aE,and_self])⟩,(fun h=>by cases h)⟩
theorem RA:bl Tryz.prog 77 ⟨.struct [(0,3),(1,3),(2,3),(3,44),(6,44),(9,3),(10,4)],11,[.int .i64 0,.int .i64 0,.int .i64 0,.int .i64 0,.int .i64 0,.int .i64 0,.int .i64 0,.int .i64 0,.int .i64 0,.int .i64 0,.bool false],88,none,false⟩:=
 ⟨by kernel_rfl,by kernel_rfl,⟨_,Tryz.underlying77,rfl⟩,⟨.agg #[.int .i64 0,.int .i64 0,.int .i64 0,.int .i64 0,.int .i64 0,.int .i64 0,.int .i64 0,.int .i64 0,.int .i64 0,.int .i64 0,.bool false],by kernel_rfl,(by simp only [Array.toList,Value.cells,aa,ai,aE,and_self])⟩,(fun h=>by cases h)⟩
theorem RI:bl Tryz.prog 78 ⟨.struct [(0,3),(1,3),(2,3),(3,44),(6,44),(9,3),(10,4)],11,[.int .i64 0,.int .i64 0,.int .i64 0,.int .i64 0,.int .i64 0,.int .i64 0,.int .i64 0,.int .i64 0,.int .i64 0,.int .i64 0,.bool false],88,some .sh,true⟩:=
 ⟨by kernel_rfl,by kernel_rfl,⟨_,Tryz.underlying78,rfl⟩,⟨.agg #[.int .i64 0,.int .i64 0,.int .i64 0,.int .i64 0,.int .i64 0,.int .i64 0,.int .i64 0,.int .i64 0,.int .i64 0,.int .i64 0,.bool false],by kernel_rfl,(by simp only [Array.toList,Value.cells,aa,ai,aE,and_self])⟩,(fun _=>⟨by kernel_rfl,YG⟩)⟩
theorem Ry:bl Tryz.prog 88 ⟨.ptr 78,1,[.nilp],8,none,false⟩:=
 ⟨by kernel_rfl,by kernel_rfl,Tryz.underlying88,⟨.pointer none,by kernel_rfl,(by simp only [Array.toList,Value.cells,aa,ai,aE,and_self])⟩,(fun h=>by cases h)⟩
theorem LS:bl Tryz.prog 103 ⟨.ptr 2,1,[.nilp],8,none,false⟩:=
 ⟨by kernel_rfl,by kernel_rfl,Tryz.underlying103,⟨.pointer none,by kernel_rfl,(by simp only [Array.toList,Value.cells,aa,ai,aE,and_self])⟩,(fun h=>by cases h)⟩
theorem MS:bl Tryz.prog 104 ⟨.array 3 103,3,[.nilp,.nilp,.nilp],24,none,false⟩:=
 ⟨by kernel_rfl,by kernel_rfl,Tryz.underlying104,⟨.agg #[.pointer none,.pointer none,.pointer none],by kernel_rfl,(by simp only [Array.toList,Value.cells,aa,ai,aE,and_self])⟩,(fun h=>by cases h)⟩
theorem Pg:bl Tryz.prog 106 ⟨.ptr 44,1,[.nilp],8,none,false⟩:=
 ⟨by kernel_rfl,by kernel_rfl,Tryz.underlying106,⟨.pointer none,by kernel_rfl,(by simp only [Array.toList,Value.cells,aa,ai,aE,and_self])⟩,(fun h=>by cases h)⟩
theorem MY:bl Tryz.prog 123 ⟨.int .u64,1,[.int .u64 0],8,some .u64,false⟩:=
 ⟨by kernel_rfl,by kernel_rfl,Tryz.underlying123,⟨.int .u64 0,by kernel_rfl,(by simp only [Array.toList,Value.cells,aa,ai,aE,and_self])⟩,(fun h=>by cases h)⟩
theorem OT:bl Tryz.prog 124 ⟨.struct [(0,123),(1,123)],2,[.int .u64 0,.int .u64 0],16,none,false⟩:=
 ⟨by kernel_rfl,by kernel_rfl,⟨_,Tryz.underlying124,rfl⟩,⟨.agg #[.int .u64 0,.int .u64 0],by kernel_rfl,(by simp only [Array.toList,Value.cells,aa,ai,aE,and_self])⟩,(fun h=>by cases h)⟩
theorem NZ:bl Tryz.prog 125 ⟨.struct [(0,123),(1,123)],2,[.int .u64 0,.int .u64 0],16,none,false⟩:=
 ⟨by kernel_rfl,by kernel_rfl,⟨_,Tryz.underlying125,rfl⟩,⟨.agg #[.int .u64 0,.int .u64 0],by kernel_rfl,(by simp only [Array.toList,Value.cells,aa,ai,aE,and_self])⟩,(fun h=>by cases h)⟩
theorem My:bl Tryz.prog 135 ⟨.int .u64,1,[.int .u64 0],8,none,false⟩:=
 ⟨by kernel_rfl,by kernel_rfl,Tryz.underlying135,⟨.int .u64 0,by kernel_rfl,(by simp only [Array.toList,Value.cells,aa,ai,aE,and_self])⟩,(fun h=>by cases h)⟩
theorem O1:bl Tryz.prog 139 ⟨.slice 123,1,[.nils],24,none,false⟩:=
 ⟨by kernel_rfl,by kernel_rfl,Tryz.underlying139,⟨.slice none 0 0,by kernel_rfl,(by simp only [Array.toList,Value.cells,aa,ai,aE,and_self])⟩,(fun h=>by cases h)⟩
theorem L0:bl Tryz.prog 140 ⟨.struct [(0,4),(1,139)],2,[.bool false,.nils],32,none,false⟩:=
 ⟨by kernel_rfl,by kernel_rfl,⟨_,Tryz.underlying140,rfl⟩,⟨.agg #[.bool false,.slice none 0 0],by kernel_rfl,(by simp only [Array.toList,Value.cells,aa,ai,aE,and_self])⟩,(fun h=>by cases h)⟩
theorem LM:bl Tryz.prog 141 ⟨.struct [(0,4),(1,139)],2,[.bool false,.nils],32,none,false⟩:=
 ⟨by kernel_rfl,by kernel_rfl,⟨_,Tryz.underlying141,rfl⟩,⟨.agg #[.bool false,.slice none 0 0],by kernel_rfl,(by simp only [Array.toList,Value.cells,aa,ai,aE,and_self])⟩,(fun h=>by cases h)⟩
theorem NT:bl Tryz.prog 147 ⟨.array 3 4,3,[.bool false,.bool false,.bool false],3,none,false⟩:=
 ⟨by kernel_rfl,by kernel_rfl,Tryz.underlying147,⟨.agg #[.bool false,.bool false,.bool false],by kernel_rfl,(by simp only [Array.toList,Value.cells,aa,ai,aE,and_self])⟩,(fun h=>by cases h)⟩
theorem Ov:bl Tryz.prog 161 ⟨.array 3 2,3,[.int .i64 0,.int .i64 0,.int .i64 0],24,none,false⟩:=
 ⟨by kernel_rfl,by kernel_rfl,Tryz.underlying161,⟨.agg #[.int .i64 0,.int .i64 0,.int .i64 0],by kernel_rfl,(by simp only [Array.toList,Value.cells,aa,ai,aE,and_self])⟩,(fun h=>by cases h)⟩
theorem N2:bl Tryz.prog 165 ⟨.struct [(0,3),(1,3),(2,2),(3,2)],4,[.int .i64 0,.int .i64 0,.int .i64 0,.int .i64 0],32,none,false⟩:=
 ⟨by kernel_rfl,by kernel_rfl,⟨_,Tryz.underlying165,rfl⟩,⟨.agg #[.int .i64 0,.int .i64 0,.int .i64 0,.int .i64 0],by kernel_rfl,(by simp only [Array.toList,Value.cells,aa,ai,aE,and_self])⟩,(fun h=>by cases h)⟩
theorem Kr:bl Tryz.prog 166 ⟨.struct [(0,3),(1,3),(2,2),(3,2)],4,[.int .i64 0,.int .i64 0,.int .i64 0,.int .i64 0],32,none,false⟩:=
 ⟨by kernel_rfl,by kernel_rfl,⟨_,Tryz.underlying166,rfl⟩,⟨.agg #[.int .i64 0,.int .i64 0,.int .i64 0,.int .i64 0],by kernel_rfl,(by simp only [Array.toList,Value.cells,aa,ai,aE,and_self])⟩,(fun h=>by cases h)⟩
theorem K7:bl Tryz.prog 168 ⟨.array 3 166,12,[.int .i64 0,.int .i64 0,.int .i64 0,.int .i64 0,.int .i64 0,.int .i64 0,.int .i64 0,.int .i64 0,.int .i64 0,.int .i64 0,.int .i64 0,.int .i64 0],96,none,false⟩:=
 ⟨by kernel_rfl,by kernel_rfl,Tryz.underlying168,⟨.agg #[.int .i64 0,.int .i64 0,.int .i64 0,.int .i64 0,.int .i64 0,.int .i64 0,.int .i64 0,.int .i64 0,.int .i64 0,.int .i64 0,.int .i64 0,.int .i64 0],by kernel_rfl,(by simp only [Array.toList,Value.cells,aa,ai,aE,and_self])⟩,(fun h=>by cases h)⟩
theorem M8:bl Tryz.prog 169 ⟨.ptr 166,1,[.nilp],8,none,false⟩:=
 ⟨by kernel_rfl,by kernel_rfl,Tryz.underlying169,⟨.pointer none,by kernel_rfl,(by simp only [Array.toList,Value.cells,aa,ai,aE,and_self])⟩,(fun h=>by cases h)⟩
theorem OZ:bl Tryz.prog 173 ⟨.struct [(0,2),(1,2)],2,[.int .i64 0,.int .i64 0],16,none,false⟩:=
 ⟨by kernel_rfl,by kernel_rfl,⟨_,Tryz.underlying173,rfl⟩,⟨.agg #[.int .i64 0,.int .i64 0],by kernel_rfl,(by simp only [Array.toList,Value.cells,aa,ai,aE,and_self])⟩,(fun h=>by cases h)⟩
theorem LC:bl Tryz.prog 174 ⟨.struct [(0,2),(1,2)],2,[.int .i64 0,.int .i64 0],16,some .pt,false⟩:=
 ⟨by kernel_rfl,by kernel_rfl,⟨_,Tryz.underlying174,rfl⟩,⟨.agg #[.int .i64 0,.int .i64 0],by kernel_rfl,(by simp only [Array.toList,Value.cells,aa,ai,aE,and_self])⟩,(fun h=>by cases h)⟩
theorem P3:bl Tryz.prog 175 ⟨.slice 174,1,[.nils],24,none,false⟩:=
 ⟨by kernel_rfl,by kernel_rfl,Tryz.underlying175,⟨.slice none 0 0,by kernel_rfl,(by simp only [Array.toList,Value.cells,aa,ai,aE,and_self])⟩,(fun h=>by cases h)⟩
theorem JZ:bl Tryz.prog 184 ⟨.array 0 16,0,[],0,none,false⟩:=
 ⟨by kernel_rfl,by kernel_rfl,Tryz.underlying184,⟨.agg #[],by kernel_rfl,(by simp only [Array.toList,Value.cells,aa,ai,aE,and_self])⟩,(fun h=>by cases h)⟩
theorem NY:bl Tryz.prog 185 ⟨.struct [(0,184)],0,[],0,none,false⟩:=
 ⟨by kernel_rfl,by kernel_rfl,⟨_,Tryz.underlying185,rfl⟩,⟨.agg #[],by kernel_rfl,(by simp only [Array.toList,Value.cells,aa,ai,aE,and_self])⟩,(fun h=>by cases h)⟩
theorem Lw:bl Tryz.prog 186 ⟨.struct [(0,184)],0,[],0,none,false⟩:=
 ⟨by kernel_rfl,by kernel_rfl,⟨_,Tryz.underlying186,rfl⟩,⟨.agg #[],by kernel_rfl,(by simp only [Array.toList,Value.cells,aa,ai,aE,and_self])⟩,(fun h=>by cases h)⟩
theorem N9:bl Tryz.prog 187 ⟨.int .u32,1,[.int .u32 0],4,none,false⟩:=
 ⟨by kernel_rfl,by kernel_rfl,Tryz.underlying187,⟨.int .u32 0,by kernel_rfl,(by simp only [Array.toList,Value.cells,aa,ai,aE,and_self])⟩,(fun h=>by cases h)⟩
theorem KV:bl Tryz.prog 188 ⟨.int .u8,1,[.int .u8 0],1,none,false⟩:=
 ⟨by kernel_rfl,by kernel_rfl,Tryz.underlying188,⟨.int .u8 0,by kernel_rfl,(by simp only [Array.toList,Value.cells,aa,ai,aE,and_self])⟩,(fun h=>by cases h)⟩
theorem Mi:bl Tryz.prog 189 ⟨.int .u8,1,[.int .u8 0],1,none,false⟩:=
 ⟨by kernel_rfl,by kernel_rfl,Tryz.underlying189,⟨.int .u8 0,by kernel_rfl,(by simp only [Array.toList,Value.cells,aa,ai,aE,and_self])⟩,(fun h=>by cases h)⟩
theorem KG:bl Tryz.prog 191 ⟨.ptr 5,1,[.nilp],8,none,false⟩:=
 ⟨by kernel_rfl,by kernel_rfl,Tryz.underlying191,⟨.pointer none,by kernel_rfl,(by simp only [Array.toList,Value.cells,aa,ai,aE,and_self])⟩,(fun h=>by cases h)⟩
theorem Nc:bl Tryz.prog 192 ⟨.int .i32,1,[.int .i32 0],4,none,false⟩:=
 ⟨by kernel_rfl,by kernel_rfl,Tryz.underlying192,⟨.int .i32 0,by kernel_rfl,(by simp only [Array.toList,Value.cells,aa,ai,aE,and_self])⟩,(fun h=>by cases h)⟩
theorem P6:bl Tryz.prog 193 ⟨.int .i32,1,[.int .i32 0],4,none,false⟩:=
 ⟨by kernel_rfl,by kernel_rfl,Tryz.underlying193,⟨.int .i32 0,by kernel_rfl,(by simp only [Array.toList,Value.cells,aa,ai,aE,and_self])⟩,(fun h=>by cases h)⟩
theorem BW:∀t ti,XZ t=some ti→bl Tryz.prog t ti:=by
 intro t ti h
 unfold XZ at h
 split at h<;>first |(cases h;done)|(simp only [Option.some.injEq] at h;subst h)
 · exact WG
 · exact WM
 · exact XC
 · exact WE
 · exact Xe
 · exact X4
 · exact UC
 · exact Q5
 · exact RY
 · exact Qz
 · exact Rv
 · exact Qh
 · exact SC
 · exact RG
 · exact SK
 · exact RL
 · exact SS
 · exact SU
 · exact Qn
 · exact PF
 · exact QU
 · exact S8
 · exact Rf
 · exact QX
 · exact PX
 · exact Sq
 · exact RN
 · exact Qp
 · exact Rx
 · exact QH
 · exact RH
 · exact QI
 · exact Ql
 · exact Px
 · exact S1
 · exact Ra
 · exact PB
 · exact Po
 · exact Rg
 · exact Rh
 · exact Rw
 · exact R7
 · exact RP
 · exact Rl
 · exact Qs
 · exact RR
 · exact RA
 · exact RI
 · exact Ry
 · exact LS
 · exact MS
 · exact Pg
 · exact MY
 · exact OT
 · exact NZ
 · exact My
 · exact O1
 · exact L0
 · exact LM
 · exact NT
 · exact Ov
 · exact N2
 · exact Kr
 · exact K7
 · exact M8
 · exact OZ
 · exact LC
 · exact P3
 · exact JZ
 · exact NY
 · exact Lw
 · exact N9
 · exact KV
 · exact Mi
 · exact KG
 · exact Nc
 · exact P6
theorem FD:V7 Tryz.prog 25 5:=⟨⟨_,Tryz.underlying25,rfl⟩,by kernel_rfl⟩
end Go.Proofs.YtimkhidniolpeaaGreat
namespace Go.Proofs.YtimkhidniolpeaaGreat
set_option linter.unusedSimpArgs false
set_option linter.unusedVariables false
set_option maxRecDepth 100000
set_option maxHeartbeats 0
open Go.ChangeShapes Go.WideShapes Go.RowKit
def aU (n:Int):Prop:= -9223372036854775808≤n∧n≤9223372036854775807
section
variable {P:Program} {w:World} {r:Reach} {base:Nat}
theorem YQ {n:Int} (h:IntKind.i64.has n):aU n:=by
 unfold aU;simpa [IntKind.has,IntKind.min,IntKind.max,IntKind.signed,IntKind.bits] using h
theorem Oc {t:TypeId} {k:IntKind} {v:Value} (ht:P.underlying t=some (.int k)) (h:Cell.okWide P w r base t v):∃n,v=.int k n∧k.has n:=by
 simp only [Cell.okWide,ht] at h
 cases v<;>simp_all [Cell.ok]
theorem sz {t:TypeId} {v:Value} (ht:P.underlying t=some (.int .i64)) (h:Cell.okWide P w r base t v):∃n,v=.int .i64 n∧aU n:=by
 obtain ⟨n,rfl,hn⟩:=Oc ht h
 exact ⟨n,rfl,YQ hn⟩
theorem L4 {t:TypeId} {d:TypeDesc} {v:Value} (ht:P.underlying t=some d) (hd:(match d with |.struct _|.array _ _=>true |_=>false)=false) (h:Value.okWide P w r base t v):Cell.okWide P w r base t v:=by
 simp only [Value.okWide,ht] at h
 cases d<;>simp_all
theorem vQ {t:TypeId} {n:Nat} {ts:List TypeId} {v:Value} (ht:V7 P t n) (hn:P.cellsOf t=n) (hc:P.cellTypes P.depth t=some ts) (hl:ts.length=n) (h:Value.okWide P w r base t v):
    ∃cs:Array Value,v=.agg cs∧cs.size=n∧∀(i:Nat) (u:TypeId) (x:Value),ts[i]? =some u→cs[i]? =some x→Cell.okWide P w r base u x:=by
 obtain ⟨⟨d,hd,hm⟩,_⟩:=ht
 simp only [Value.okWide,hd] at h
 have h':∃cs,v=.agg cs∧cs.size=P.cellsOf t∧Row.okWide P w r base t cs:=by cases d<;>simp_all
 obtain ⟨cs,rfl,hs,ts',hts,_,hrow⟩:=h'
 rw [hc] at hts
 cases hts
 refine ⟨cs,rfl,hs.trans hn,fun i u x hu hx=>?_⟩
 obtain ⟨u',hu',hok⟩:=hrow i x hx
 have hi:i<ts.length:=by
  cases hlt:decide (i<ts.length) with
  |true=>simpa using hlt
  |false=>simp at hlt;rw [List.getElem?_eq_none hlt] at hu;cases hu
 rw [Nat.mod_eq_of_lt hi,hu] at hu'
 cases hu'
 exact hok
end
section
variable {w:World} {r:Reach} {base:Nat}
def V3.fits (a:V3):Prop:=aU a.x∧aU a.y∧aU a.z
end
theorem Tryz.own:ownKnob Tryz.prog.godebug=none:=by kernel_rfl
theorem Tryz.laidOut:laidOutB Tryz.prog=true:=by kernel_rfl
end Go.Proofs.YtimkhidniolpeaaGreat
