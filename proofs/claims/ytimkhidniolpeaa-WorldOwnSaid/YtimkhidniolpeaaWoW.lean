/- Games: what must be in any case. Two rows of players, of shots, compared: as contracts. Chapter 16's laws: how each begins. -/
import Derived.Test.YtimkhidniolpeaaVmRw
import Derived.Test.YtimkhidniolpeaaVmTr
import Derived.Test.YtimkhidniolpeaaVmHt
import Derived.Test.YtimkhidniolpeaaVmFh
import Derived.Test.YtimkhidniolpeaaWoP
namespace Go.Proofs.Ytimkhidniolpeaa
set_option linter.unusedSimpArgs false
set_option linter.unusedVariables false
set_option maxRecDepth 100000
set_option maxHeartbeats 0
open Go.RowKit

noncomputable def newVC (w d h : Int) (len off : Nat) (xs : List Bool) (ls off2 : Nat) (sp : List V3) : Bool :=
 ((mpOf w d h len fun j => xs.getD (off + j) false).sized && (!((ls : Int) == 0) && !decide ((ls : Int) > 64))) && allFree (mpOf w d h len fun j => xs.getD (off + j) false).freeC (spAt sp off2) ls 0
theorem newVC_eq (w d h : Int) (len off : Nat) (xs : List Bool) (ls off2 : Nat) (sp : List V3) : newVC w d h len off xs ls off2 sp = newV w d h len off xs ls off2 sp := by
 unfold newVC newV Mp.right
 rw [show (mpOf w d h len fun j => xs.getD (off + j) false).free = (mpOf w d h len fun j => xs.getD (off + j) false).freeC from funext fun p => free_eq _ p]
noncomputable def oNewGC (args : List SV) (rows : List Row) : Option Eff := match args with
 | [.agg [.int .i64 w, .int .i64 d, .int .i64 h, .slice id 1 off len _, .slice id2 3 off2 ls _]] => match rows[id]?, rows[id2]? with
  | some (.vec _ .bool xs), some (.vec _ .vec sp) => some { ok := newC w d h len off xs ls off2 sp && newVC w d h len off xs ls off2 sp, val := .tuple [.ptr rows.length 0 0 0, .int .i64 0], rd := [id, id2], nw := [.obj (newG w d h len off xs ls off2 sp)] }
  | _, _ => none
 | _ => none
theorem oNewGC_eq (args : List SV) (rows : List Row) : oNewGC args rows = oNewG args rows := by
 have : (fun (w d h : Int) (len off : Nat) (xs : List Bool) (ls off2 : Nat) (sp : List V3) => newVC w d h len off xs ls off2 sp) = newV := by
  funext w d h len off xs ls off2 sp
  exact newVC_eq ..
 have e : newVC = newV := this
 unfold oNewGC oNewG
 rw [e]
 rfl
theorem oNewGC_ok {args : List SV} {rows : List Row} {e : Eff} (h : oNewGC args rows = some e) (hok : e.ok = true) : FnOkO Try.prog 12 args (rows[·]?) rows.length e := by
 rw [oNewGC_eq] at h
 exact oNewG_ok h hok
noncomputable def orcNewGC : OrcO := ⟨12, oNewGC, fun _ _ _ h hok => oNewGC_ok h hok, bodied Try.func12 (by kernel_rfl)⟩

noncomputable def x16a : Ctx := ctxOfO [26] [] [orcNewGC, orcJoinW, orcFireW, orcTickW, orcPlayersW, orcShotsW, orcNowW]
theorem x16a_ok : COk Try.prog x16a := ctxOfO_ok (by kernel_rfl)
theorem shown16_val : runG x16a (fun _ _ => none) 5000 10 Try.f10 (fun v _ => some (v, [])) [] [] = some (.bool true, []) := by kernel_rfl
theorem shown16_ok : ∃ rows', CallOk Try.prog 10 [] [] (.bool true) rows' := by
 obtain ⟨v, rows', hk, hc⟩ := runG_ok x16a_ok lok_none Try.func10 shown16_val
 simp only [Option.some.injEq, Prod.mk.injEq] at hk
 obtain ⟨rfl, _⟩ := hk
 exact ⟨rows', hc.plain rfl⟩
noncomputable def orcShown16 : Orc := ⟨10, fun args _ => oConst (.bool true) args, fun _ _ _ h _ => shown16_ok.elim fun _ hc => oConst_ok hc rfl h, bodied Try.func10 (by kernel_rfl)⟩

end Go.Proofs.Ytimkhidniolpeaa

namespace Go.Proofs.Ytimkhidniolpeaa
set_option linter.unusedSimpArgs false
set_option linter.unusedVariables false
set_option maxRecDepth 100000
set_option maxHeartbeats 0
open Go.RowKit

noncomputable def xTa0P : Ctx := ctxOf [] []
theorem xTa0P_ok : COk Try.prog xTa0P := ctxOf_ok (by kernel_rfl)
noncomputable def xTa0S : Ctx := ctxOf [] []
theorem xTa0S_ok : COk Try.prog xTa0S := ctxOf_ok (by kernel_rfl)
def valSaP (ka kb : Nat) (i : Int) : List SV := [.slice 0 15 0 ka none, .slice 1 15 0 kb none, .bool false, .int .i64 i]
def rowSaP (xs ys : List Pl) : List Row := [.vec true .pl xs, .vec true .pl ys]
noncomputable def rdSaP : List SV → List Row → Option Res2 := roundS xTa0P (fun _ _ => none) 100 23 [0, 1, 0, 1, 1] (bodyAt Try.f23 [0, 1, 0, 1, 1]) 26 2 [0, 1, 4, 5]

theorem sa_roundP (xs ys : List Pl) (ka kb : Nat) (i : Int) : rdSaP (valSaP ka kb i) (rowSaP xs ys) =
 bif decide (i < (↑ka : Int)) then
 bif decide (0 ≤ i) && decide (i < (↑ka : Int)) then
 bif decide (0 + i.toNat < xs.length) then
 bif decide (0 ≤ i) && decide (i < (↑kb : Int)) then
 bif decide (0 + i.toNat < ys.length) then
 bif
 !((xs.getD (0 + i.toNat) Knd.pl.dflt).id == (ys.getD (0 + i.toNat) Knd.pl.dflt).id &&
 ((xs.getD (0 + i.toNat) Knd.pl.dflt).pos.x == (ys.getD (0 + i.toNat) Knd.pl.dflt).pos.x &&
 ((xs.getD (0 + i.toNat) Knd.pl.dflt).pos.y == (ys.getD (0 + i.toNat) Knd.pl.dflt).pos.y &&
 ((xs.getD (0 + i.toNat) Knd.pl.dflt).pos.z == (ys.getD (0 + i.toNat) Knd.pl.dflt).pos.z &&
 ((xs.getD (0 + i.toNat) Knd.pl.dflt).vel.x == (ys.getD (0 + i.toNat) Knd.pl.dflt).vel.x &&
 ((xs.getD (0 + i.toNat) Knd.pl.dflt).vel.y == (ys.getD (0 + i.toNat) Knd.pl.dflt).vel.y &&
 ((xs.getD (0 + i.toNat) Knd.pl.dflt).vel.z == (ys.getD (0 + i.toNat) Knd.pl.dflt).vel.z &&
 ((xs.getD (0 + i.toNat) Knd.pl.dflt).ground == (ys.getD (0 + i.toNat) Knd.pl.dflt).ground &&
 ((xs.getD (0 + i.toNat) Knd.pl.dflt).health == (ys.getD (0 + i.toNat) Knd.pl.dflt).health &&
 ((xs.getD (0 + i.toNat) Knd.pl.dflt).armour == (ys.getD (0 + i.toNat) Knd.pl.dflt).armour &&
 ((xs.getD (0 + i.toNat) Knd.pl.dflt).score == (ys.getD (0 + i.toNat) Knd.pl.dflt).score &&
 ((xs.getD (0 + i.toNat) Knd.pl.dflt).a0 == (ys.getD (0 + i.toNat) Knd.pl.dflt).a0 &&
 ((xs.getD (0 + i.toNat) Knd.pl.dflt).a1 == (ys.getD (0 + i.toNat) Knd.pl.dflt).a1 &&
 ((xs.getD (0 + i.toNat) Knd.pl.dflt).wait == (ys.getD (0 + i.toNat) Knd.pl.dflt).wait &&
 ((xs.getD (0 + i.toNat) Knd.pl.dflt).dead == (ys.getD (0 + i.toNat) Knd.pl.dflt).dead && true))))))))))))))) then
 some (SV.tuple [SV.nils, SV.tuple [SV.slice 0 15 0 ka none, SV.slice 1 15 0 kb none, SV.bool false, .int .i64 i]], [Row.vec true Knd.pl xs, Row.vec true Knd.pl ys])
 else
 some
 (SV.tuple [SV.nilp, SV.tuple [SV.slice 0 15 0 ka none, SV.slice 1 15 0 kb none, SV.bool false, .int .i64 (IntKind.i64.wrap (i + 1))]],
 [Row.vec true Knd.pl xs, Row.vec true Knd.pl ys])
 else none
 else none
 else none
 else none
 else some (SV.tuple [SV.ptr 0 0 0 0, SV.tuple [SV.slice 0 15 0 ka none, SV.slice 1 15 0 kb none, SV.bool false, .int .i64 i]], [Row.vec true Knd.pl xs, Row.vec true Knd.pl ys]) := by kernel_rfl

def plEq (x y : Pl) : Bool := (x.id == y.id && (x.pos.x == y.pos.x && (x.pos.y == y.pos.y && (x.pos.z == y.pos.z && (x.vel.x == y.vel.x && (x.vel.y == y.vel.y && (x.vel.z == y.vel.z && (x.ground == y.ground && (x.health == y.health && (x.armour == y.armour && (x.score == y.score && (x.a0 == y.a0 && (x.a1 == y.a1 && (x.wait == y.wait && (x.dead == y.dead && true)))))))))))))))
def sameL : List Pl → List Pl → Bool
 | [], [] => true
 | x :: l, y :: m => plEq x y && sameL l m
 | _, _ => false
theorem plEq_refl (x : Pl) : plEq x x = true := by
 unfold plEq
 simp only [beq_self_eq_true, Bool.and_self]
theorem sameL_refl : ∀ l : List Pl, sameL l l = true
 | [] => rfl
 | x :: l => by rw [sameL, plEq_refl, sameL_refl l]; rfl
theorem sameL_len : ∀ {l m : List Pl}, sameL l m = true → l.length = m.length
 | [], [], _ => rfl
 | [], _ :: _, h => by cases h
 | _ :: _, [], h => by cases h
 | x :: l, y :: m, h => by
  rw [sameL, Bool.and_eq_true] at h
  rw [List.length_cons, List.length_cons, sameL_len h.2]
theorem sa_loopP {xs ys : List Pl} (hk : xs.length ≤ 1000) (hy : ys.length = xs.length) : ∀ (n i : Nat), i + n = xs.length → sameL (xs.drop i) (ys.drop i) = true →
    LoopTo rdSaP (valSaP xs.length ys.length i) (rowSaP xs ys) (.exit 0) (valSaP xs.length ys.length xs.length) (rowSaP xs ys)
 | 0, i, h1, h2 => by
  obtain rfl : i = xs.length := by omega
  refine .done ?_ (by simp)
  rw [sa_roundP, decide_eq_false (by omega), cond_false]
  rfl
 | n + 1, i, h1, h2 => by
  have hi : i < xs.length := by omega
  have hj : i < ys.length := by omega
  rw [List.drop_eq_getElem_cons hi, List.drop_eq_getElem_cons hj, sameL, Bool.and_eq_true] at h2
  have hro := sa_roundP xs ys xs.length ys.length i
  have e0 : xs.getD (0 + ((i : Int)).toNat) Knd.pl.dflt = xs[i] := by
   rw [show 0 + ((i : Int)).toNat = i by omega]
   exact getD_any _ hi
  have e1 : ys.getD (0 + ((i : Int)).toNat) Knd.pl.dflt = ys[i] := by
   rw [show 0 + ((i : Int)).toNat = i by omega]
   exact getD_any _ hj
  have e2 := h2.1
  unfold plEq at e2
  rw [e0, e1, e2, decide_eq_true (show (i : Int) < (xs.length : Int) by omega), decide_eq_true (show (i : Int) < (ys.length : Int) by omega), decide_eq_true (show (0 : Int) ≤ (i : Int) by omega), decide_eq_true (show 0 + ((i : Int)).toNat < xs.length by omega), decide_eq_true (show 0 + ((i : Int)).toNat < ys.length by omega), IntWalk.i64_in ((i : Int) + 1) (by omega)] at hro
  simp only [Bool.and_self, Bool.not_true, cond_true, cond_false] at hro
  have ih := sa_loopP hk hy n (i + 1) (by omega) h2.2
  rw [show ((i + 1 : Nat) : Int) = (i : Int) + 1 by omega] at ih
  exact .more hro ih
noncomputable def outSaP (v : List SV) (R : List Row) (k : Ex → List SV → List Row → Option Res2) : Option Res2 := match v, R with
 | [.slice 0 15 0 ka none, .slice 1 15 0 kb none, .bool false, .int .i64 i], [.vec true .pl xs, .vec true .pl ys] =>
     bif decide (i = 0) && ((decide (ka = xs.length) && decide (kb = ys.length)) && (decide (ka ≤ 1000) && sameL xs ys)) then k (.exit 0) (valSaP ka kb ka) (rowSaP xs ys) else none
 | _, _ => none
theorem lpoSaP_ok : LpOk 23 [0, 1, 0, 1, 1] (loopF 26 [0, 1, 4, 5] outSaP) := by
 intro b hat s K r h
 refine loopF_ok (fuel := 100) xTa0P_ok lok_none hat (fun v R k r hr => ?_) h
 have hbody := at_body Try.func23 hat
 subst hbody
 unfold outSaP at hr
 split at hr
 · rename_i ka kb i xs ys
   obtain ⟨hb, hr2⟩ := cond_some hr
   simp only [Bool.and_eq_true, decide_eq_true_eq] at hb
   obtain ⟨rfl, ⟨h1, h2⟩, h3, h4⟩ := hb
   have e1 : ka = List.length (α := Pl) xs := h1
   have e2 : kb = List.length (α := Pl) ys := h2
   subst e1
   subst e2
   exact ⟨_, _, _, hr2, sa_loopP (xs := xs) (ys := ys) h3 (sameL_len h4).symm (List.length (α := Pl) xs) 0 (by omega) h4⟩
 · cases hr
noncomputable def lpoSaP : Lpo := ⟨_, _, _, lpoSaP_ok⟩

theorem same_treeP (xs ys : List Pl) (ka kb : Nat) : runK xTa0P (loopOf [lpoSaP]) 200 23 Try.f23 0 [.slice 0 15 0 ka none, .slice 1 15 0 kb none] [.vec true .pl xs, .vec true .pl ys] =
 bif (↑ka : Int) != (↑kb : Int) then some (SV.bool false, []) else bif decide (ka = xs.length) && decide (kb = ys.length) && (decide (ka ≤ 1000) && sameL xs ys) then some (SV.bool true, []) else none := by kernel_rfl

def oSameP (args : List SV) (rows : List Row) : Option Eff :=
 match args with
 | [.slice ia 15 0 la none, .slice ib 15 0 lb none] => match rows[ia]?, rows[ib]? with
  | some (.vec _ .pl xs), some (.vec _ .pl ys) => some { ok := (decide (la = xs.length) && decide (lb = ys.length)) && (decide (la ≤ 1000) && sameL xs ys), val := .bool true, rd := [ia, ib] }
  | _, _ => none
 | _ => none
theorem same_mainP {ia ib : Nat} {ra rb ok : Bool} {xs ys : List Pl} {rows : List Row} {n : Nat} (h1 : rows[ia]? = some (.vec ra .pl xs)) (h2 : rows[ib]? = some (.vec rb .pl ys)) (hk : xs.length ≤ 1000) (hs : sameL xs ys = true) :
    FnOk Try.prog 23 [.slice ia 15 0 xs.length none, .slice ib 15 0 ys.length none] (rows[·]?) n { ok := ok, val := .bool true, rd := [ia, ib] } := by
 have hl := sameL_len hs
 have hv := same_treeP xs ys xs.length ys.length
 rw [hs, decide_eq_true hk, hl, bne_self_eq_false, decide_eq_true rfl] at hv
 simp only [Bool.and_self, cond_true, cond_false] at hv
 obtain ⟨rows', hc, ht⟩ := runK_ok xTa0P_ok loopOf_ok Try.func23 hv
 rw [hl]
 refine fnOk_reads hc rfl (σ := [ia, ib]) rfl (fun i hi => by simp [SV.idsL, SV.ids] at hi; rcases hi with rfl | rfl <;> simp) (fun i row hr => ?_)
 match i with
 | 0 => simp at hr; subst hr; exact ⟨.pl, xs, ra, rfl, h1⟩
 | 1 => simp at hr; subst hr; exact ⟨.pl, ys, rb, rfl, h2⟩
 | i + 2 => simp at hr
theorem oSameP_ok {args : List SV} {rows : List Row} {n : Nat} {e : Eff} (h : oSameP args rows = some e) (hok : e.ok = true) : FnOk Try.prog 23 args (rows[·]?) n e := by
 unfold oSameP at h
 split at h
 · rename_i ia la ib lb
   split at h
   · rename_i ra xs rb ys hxr hyr
     cases h
     simp only [Bool.and_eq_true, decide_eq_true_eq] at hok
     obtain ⟨⟨h1, h2⟩, h3, h4⟩ := hok
     have e1 : la = List.length (α := Pl) xs := h1
     have e2 : lb = List.length (α := Pl) ys := h2
     subst e1
     subst e2
     exact same_mainP (xs := xs) (ys := ys) hxr hyr h3 h4
   · cases h
 · cases h
noncomputable def orcSameP : Orc := ⟨23, oSameP, fun _ _ _ h hok => oSameP_ok h hok, bodied Try.func23 (by kernel_rfl)⟩

theorem getD_anyS {l : List Sh} (z : Sh) {i : Nat} (h : i < l.length) : l.getD i z = l[i] := by
 simp [List.getD, List.getElem?_eq_getElem h]
def valSaS (ka kb : Nat) (i : Int) : List SV := [.slice 0 11 0 ka none, .slice 1 11 0 kb none, .bool false, .int .i64 i]
def rowSaS (xs ys : List Sh) : List Row := [.vec true .sh xs, .vec true .sh ys]
noncomputable def rdSaS : List SV → List Row → Option Res2 := roundS xTa0S (fun _ _ => none) 100 17 [0, 1, 0, 1, 1] (bodyAt Try.f17 [0, 1, 0, 1, 1]) 26 2 [0, 1, 4, 5]

theorem sa_roundS (xs ys : List Sh) (ka kb : Nat) (i : Int) : rdSaS (valSaS ka kb i) (rowSaS xs ys) =
 bif decide (i < (↑ka : Int)) then
 bif decide (0 ≤ i) && decide (i < (↑ka : Int)) then
 bif decide (0 + i.toNat < xs.length) then
 bif decide (0 ≤ i) && decide (i < (↑kb : Int)) then
 bif decide (0 + i.toNat < ys.length) then
 bif
 !((xs.getD (0 + i.toNat) Knd.sh.dflt).id == (ys.getD (0 + i.toNat) Knd.sh.dflt).id &&
 ((xs.getD (0 + i.toNat) Knd.sh.dflt).owner == (ys.getD (0 + i.toNat) Knd.sh.dflt).owner &&
 ((xs.getD (0 + i.toNat) Knd.sh.dflt).kind == (ys.getD (0 + i.toNat) Knd.sh.dflt).kind &&
 ((xs.getD (0 + i.toNat) Knd.sh.dflt).pos.x == (ys.getD (0 + i.toNat) Knd.sh.dflt).pos.x &&
 ((xs.getD (0 + i.toNat) Knd.sh.dflt).pos.y == (ys.getD (0 + i.toNat) Knd.sh.dflt).pos.y &&
 ((xs.getD (0 + i.toNat) Knd.sh.dflt).pos.z == (ys.getD (0 + i.toNat) Knd.sh.dflt).pos.z &&
 ((xs.getD (0 + i.toNat) Knd.sh.dflt).vel.x == (ys.getD (0 + i.toNat) Knd.sh.dflt).vel.x &&
 ((xs.getD (0 + i.toNat) Knd.sh.dflt).vel.y == (ys.getD (0 + i.toNat) Knd.sh.dflt).vel.y &&
 ((xs.getD (0 + i.toNat) Knd.sh.dflt).vel.z == (ys.getD (0 + i.toNat) Knd.sh.dflt).vel.z &&
 ((xs.getD (0 + i.toNat) Knd.sh.dflt).fuse == (ys.getD (0 + i.toNat) Knd.sh.dflt).fuse &&
 ((xs.getD (0 + i.toNat) Knd.sh.dflt).rest == (ys.getD (0 + i.toNat) Knd.sh.dflt).rest && true))))))))))) then
 some (SV.tuple [SV.nils, SV.tuple [SV.slice 0 11 0 ka none, SV.slice 1 11 0 kb none, SV.bool false, .int .i64 i]], [Row.vec true Knd.sh xs, Row.vec true Knd.sh ys])
 else
 some
 (SV.tuple [SV.nilp, SV.tuple [SV.slice 0 11 0 ka none, SV.slice 1 11 0 kb none, SV.bool false, .int .i64 (IntKind.i64.wrap (i + 1))]],
 [Row.vec true Knd.sh xs, Row.vec true Knd.sh ys])
 else none
 else none
 else none
 else none
 else some (SV.tuple [SV.ptr 0 0 0 0, SV.tuple [SV.slice 0 11 0 ka none, SV.slice 1 11 0 kb none, SV.bool false, .int .i64 i]], [Row.vec true Knd.sh xs, Row.vec true Knd.sh ys]) := by kernel_rfl

def shEq (x y : Sh) : Bool := (x.id == y.id && (x.owner == y.owner && (x.kind == y.kind && (x.pos.x == y.pos.x && (x.pos.y == y.pos.y && (x.pos.z == y.pos.z && (x.vel.x == y.vel.x && (x.vel.y == y.vel.y && (x.vel.z == y.vel.z && (x.fuse == y.fuse && (x.rest == y.rest && true)))))))))))
def sameS : List Sh → List Sh → Bool
 | [], [] => true
 | x :: l, y :: m => shEq x y && sameS l m
 | _, _ => false
theorem shEq_refl (x : Sh) : shEq x x = true := by
 unfold shEq
 simp only [beq_self_eq_true, Bool.and_self]
theorem sameS_refl : ∀ l : List Sh, sameS l l = true
 | [] => rfl
 | x :: l => by rw [sameS, shEq_refl, sameS_refl l]; rfl
theorem sameS_len : ∀ {l m : List Sh}, sameS l m = true → l.length = m.length
 | [], [], _ => rfl
 | [], _ :: _, h => by cases h
 | _ :: _, [], h => by cases h
 | x :: l, y :: m, h => by
  rw [sameS, Bool.and_eq_true] at h
  rw [List.length_cons, List.length_cons, sameS_len h.2]
theorem sa_loopS {xs ys : List Sh} (hk : xs.length ≤ 1000) (hy : ys.length = xs.length) : ∀ (n i : Nat), i + n = xs.length → sameS (xs.drop i) (ys.drop i) = true →
    LoopTo rdSaS (valSaS xs.length ys.length i) (rowSaS xs ys) (.exit 0) (valSaS xs.length ys.length xs.length) (rowSaS xs ys)
 | 0, i, h1, h2 => by
  obtain rfl : i = xs.length := by omega
  refine .done ?_ (by simp)
  rw [sa_roundS, decide_eq_false (by omega), cond_false]
  rfl
 | n + 1, i, h1, h2 => by
  have hi : i < xs.length := by omega
  have hj : i < ys.length := by omega
  rw [List.drop_eq_getElem_cons hi, List.drop_eq_getElem_cons hj, sameS, Bool.and_eq_true] at h2
  have hro := sa_roundS xs ys xs.length ys.length i
  have e0 : xs.getD (0 + ((i : Int)).toNat) Knd.sh.dflt = xs[i] := by
   rw [show 0 + ((i : Int)).toNat = i by omega]
   exact getD_anyS _ hi
  have e1 : ys.getD (0 + ((i : Int)).toNat) Knd.sh.dflt = ys[i] := by
   rw [show 0 + ((i : Int)).toNat = i by omega]
   exact getD_anyS _ hj
  have e2 := h2.1
  unfold shEq at e2
  rw [e0, e1, e2, decide_eq_true (show (i : Int) < (xs.length : Int) by omega), decide_eq_true (show (i : Int) < (ys.length : Int) by omega), decide_eq_true (show (0 : Int) ≤ (i : Int) by omega), decide_eq_true (show 0 + ((i : Int)).toNat < xs.length by omega), decide_eq_true (show 0 + ((i : Int)).toNat < ys.length by omega), IntWalk.i64_in ((i : Int) + 1) (by omega)] at hro
  simp only [Bool.and_self, Bool.not_true, cond_true, cond_false] at hro
  have ih := sa_loopS hk hy n (i + 1) (by omega) h2.2
  rw [show ((i + 1 : Nat) : Int) = (i : Int) + 1 by omega] at ih
  exact .more hro ih
noncomputable def outSaS (v : List SV) (R : List Row) (k : Ex → List SV → List Row → Option Res2) : Option Res2 := match v, R with
 | [.slice 0 11 0 ka none, .slice 1 11 0 kb none, .bool false, .int .i64 i], [.vec true .sh xs, .vec true .sh ys] =>
     bif decide (i = 0) && ((decide (ka = xs.length) && decide (kb = ys.length)) && (decide (ka ≤ 1000) && sameS xs ys)) then k (.exit 0) (valSaS ka kb ka) (rowSaS xs ys) else none
 | _, _ => none
theorem lpoSaS_ok : LpOk 17 [0, 1, 0, 1, 1] (loopF 26 [0, 1, 4, 5] outSaS) := by
 intro b hat s K r h
 refine loopF_ok (fuel := 100) xTa0S_ok lok_none hat (fun v R k r hr => ?_) h
 have hbody := at_body Try.func17 hat
 subst hbody
 unfold outSaS at hr
 split at hr
 · rename_i ka kb i xs ys
   obtain ⟨hb, hr2⟩ := cond_some hr
   simp only [Bool.and_eq_true, decide_eq_true_eq] at hb
   obtain ⟨rfl, ⟨h1, h2⟩, h3, h4⟩ := hb
   have e1 : ka = List.length (α := Sh) xs := h1
   have e2 : kb = List.length (α := Sh) ys := h2
   subst e1
   subst e2
   exact ⟨_, _, _, hr2, sa_loopS (xs := xs) (ys := ys) h3 (sameS_len h4).symm (List.length (α := Sh) xs) 0 (by omega) h4⟩
 · cases hr
noncomputable def lpoSaS : Lpo := ⟨_, _, _, lpoSaS_ok⟩

theorem same_treeS (xs ys : List Sh) (ka kb : Nat) : runK xTa0S (loopOf [lpoSaS]) 200 17 Try.f17 0 [.slice 0 11 0 ka none, .slice 1 11 0 kb none] [.vec true .sh xs, .vec true .sh ys] =
 bif (↑ka : Int) != (↑kb : Int) then some (SV.bool false, []) else bif decide (ka = xs.length) && decide (kb = ys.length) && (decide (ka ≤ 1000) && sameS xs ys) then some (SV.bool true, []) else none := by kernel_rfl

def oSameS (args : List SV) (rows : List Row) : Option Eff :=
 match args with
 | [.slice ia 11 0 la none, .slice ib 11 0 lb none] => match rows[ia]?, rows[ib]? with
  | some (.vec _ .sh xs), some (.vec _ .sh ys) => some { ok := (decide (la = xs.length) && decide (lb = ys.length)) && (decide (la ≤ 1000) && sameS xs ys), val := .bool true, rd := [ia, ib] }
  | _, _ => none
 | _ => none
theorem same_mainS {ia ib : Nat} {ra rb ok : Bool} {xs ys : List Sh} {rows : List Row} {n : Nat} (h1 : rows[ia]? = some (.vec ra .sh xs)) (h2 : rows[ib]? = some (.vec rb .sh ys)) (hk : xs.length ≤ 1000) (hs : sameS xs ys = true) :
    FnOk Try.prog 17 [.slice ia 11 0 xs.length none, .slice ib 11 0 ys.length none] (rows[·]?) n { ok := ok, val := .bool true, rd := [ia, ib] } := by
 have hl := sameS_len hs
 have hv := same_treeS xs ys xs.length ys.length
 rw [hs, decide_eq_true hk, hl, bne_self_eq_false, decide_eq_true rfl] at hv
 simp only [Bool.and_self, cond_true, cond_false] at hv
 obtain ⟨rows', hc, ht⟩ := runK_ok xTa0S_ok loopOf_ok Try.func17 hv
 rw [hl]
 refine fnOk_reads hc rfl (σ := [ia, ib]) rfl (fun i hi => by simp [SV.idsL, SV.ids] at hi; rcases hi with rfl | rfl <;> simp) (fun i row hr => ?_)
 match i with
 | 0 => simp at hr; subst hr; exact ⟨.sh, xs, ra, rfl, h1⟩
 | 1 => simp at hr; subst hr; exact ⟨.sh, ys, rb, rfl, h2⟩
 | i + 2 => simp at hr
theorem oSameS_ok {args : List SV} {rows : List Row} {n : Nat} {e : Eff} (h : oSameS args rows = some e) (hok : e.ok = true) : FnOk Try.prog 17 args (rows[·]?) n e := by
 unfold oSameS at h
 split at h
 · rename_i ia la ib lb
   split at h
   · rename_i ra xs rb ys hxr hyr
     cases h
     simp only [Bool.and_eq_true, decide_eq_true_eq] at hok
     obtain ⟨⟨h1, h2⟩, h3, h4⟩ := hok
     have e1 : la = List.length (α := Sh) xs := h1
     have e2 : lb = List.length (α := Sh) ys := h2
     subst e1
     subst e2
     exact same_mainS (xs := xs) (ys := ys) hxr hyr h3 h4
   · cases h
 · cases h
noncomputable def orcSameS : Orc := ⟨17, oSameS, fun _ _ _ h hok => oSameS_ok h hok, bodied Try.func17 (by kernel_rfl)⟩

end Go.Proofs.Ytimkhidniolpeaa

namespace Go.Proofs.Ytimkhidniolpeaa
set_option linter.unusedSimpArgs false
set_option linter.unusedVariables false
set_option maxRecDepth 100000
set_option maxHeartbeats 0
open Go.RowKit

noncomputable def x16b : Ctx := ctxOfO [11] [orcShown16, orcRight, orcSameP, orcSameS] [orcNewG, orcJoinW, orcDoW, orcFireW, orcTickW, orcLeftW, orcPlayersW, orcShotsW, orcNowW, orcDoes]
theorem x16b_ok : COk Try.prog x16b := ctxOfO_ok (by kernel_rfl)

def smA (w d h : Int) : Bool := bif (bif decide (w ≤ 10) == true then (bif true then decide (d ≤ 10) else false) else false) == true then (bif true then decide (h ≤ 10) else false) else false
def sm1 (w d h : Int) (len ls : Nat) (xs : List Bool) (sp : List V3) : Bool :=
 ((true && ((mapOk w d h len && (decide (0 + len ≤ xs.length) && (decide (0 + ls ≤ sp.length) && (decide (ls ≤ 9223372036854775807) && sp.all fitsB)))) && (true && true))) && true || (smA w d h != true)) && (!!true || smA w d h == true) && true
noncomputable def sm2 (w d h : Int) (len ls : Nat) (xs : List Bool) (sp : List V3) : Bool := !(bif smA w d h == true then (bif true then rightE (newV w d h len 0 xs ls 0 sp) == 0 else false) else false)

section
variable {w d h : Int} {len ls : Nat} {xs : List Bool} {sp : List V3}
structure MapA (w d h : Int) (len ls : Nat) (xs : List Bool) (sp : List V3) : Prop where
 iw : In64 w
 id : In64 d
 ih : In64 h
 il : len ≤ 9223372036854775807
 ix : xs.length = len
 ils : ls ≤ 9223372036854775807
 isp : sp.length = ls
 fit : ∀ p ∈ sp, p.fits
theorem MapA.sm1 (a : MapA w d h len ls xs sp) : sm1 w d h len ls xs sp = true := by
 obtain ⟨c1, _, _⟩ := right_facts a.iw a.id a.ih a.il a.ix a.ils a.isp a.fit
 unfold Go.Proofs.Ytimkhidniolpeaa.sm1
 rw [c1]
 simp
theorem MapA.newC (a : MapA w d h len ls xs sp) : newC w d h len 0 xs ls 0 sp = true := (right_facts a.iw a.id a.ih a.il a.ix a.ils a.isp a.fit).1
theorem sm2_false (hb : sm2 w d h len ls xs sp = false) : newV w d h len 0 xs ls 0 sp = true := by
 unfold sm2 at hb
 cases hv : newV w d h len 0 xs ls 0 sp with
 | true => rfl
 | false =>
  rw [hv] at hb
  cases smA w d h <;> simp [rightE] at hb
theorem MapA.inv (a : MapA w d h len ls xs sp) (hv : newV w d h len 0 xs ls 0 sp = true) : (newG w d h len 0 xs ls 0 sp).Inv 0 := by
 have hc := a.newC
 unfold Go.Proofs.Ytimkhidniolpeaa.newC at hc
 simp only [Bool.and_eq_true, decide_eq_true_eq, List.all_eq_true] at hc
 obtain ⟨h1, h2, h3, h4, h5⟩ := hc
 unfold newV Mp.right at hv
 simp only [Bool.and_eq_true, Bool.not_eq_true', beq_eq_false_iff_ne, decide_eq_false_iff_not] at hv
 obtain ⟨⟨_, k1, k2⟩, _⟩ := hv
 have e1 : ((xs.drop 0).take len).length = len := by rw [List.length_take, List.length_drop]; omega
 have e2 : ((sp.drop 0).take ls).length = ls := by rw [List.length_take, List.length_drop]; omega
 refine ⟨?_, ?_, fun p hp => ?_, by simp [newG], by simp [newG], by simp [newG], by simp [newG], by simp [newG], by simp [newG]⟩
 · show mapOk w d h ((xs.drop 0).take len).length = true
   rw [e1]
   exact h1
 · show 1 ≤ ((sp.drop 0).take ls).length ∧ ((sp.drop 0).take ls).length ≤ 64
   rw [e2]
   omega
 · exact a.fit p (List.mem_of_mem_drop (List.mem_of_mem_take hp))
end

def opN (cs : List WOp) (i : Int) : WOp := cs.getD (0 + i.toNat) Knd.wop.dflt
noncomputable def opsS (cs : List WOp) : Nat → Nat → WS → WS
 | 0, _, s => s
 | k + 1, i, s => opsS cs k (i + 1) (opS s (opN cs i)).1
theorem opsS_inv (cs : List WOp) : ∀ (k i j : Nat) (s : WS), s.Inv j → j + k ≤ 1000 → (opsS cs k i s).Inv (j + k)
 | 0, _, _, _, h, _ => h
 | k + 1, i, j, s, h, hk => by
  have := opsS_inv cs k (i + 1) (j + 1) _ (h.op (by omega) (opN cs i)).2 (by omega)
  rw [opsS, show j + (k + 1) = j + 1 + k by omega]
  exact this

open Classical in
noncomputable def invB (s : WS) : Bool := decide (s.Inv 0)
open Classical in
theorem invB_iff {s : WS} : invB s = true ↔ s.Inv 0 := by unfold invB; exact decide_eq_true_iff

theorem doL_refused {s : WS} {id : Int} {c : Cm} : ∀ {ps : List PL}, (doL s id c ps).1 ≠ 0 → (doL s id c ps).2 = ps
 | [], _ => rfl
 | p :: ps, h => by
  rw [doL] at h ⊢
  cases hid : p.p.id == id with
  | false =>
   rw [hid] at h
   simp only [cond_false] at h ⊢
   rw [doL_refused h]
  | true =>
   rw [hid] at h
   simp only [cond_true] at h ⊢
   cases hb : badC c with
   | true => rfl
   | false =>
    rw [hb] at h
    cases hl : decide (c.ticks > p.left) with
    | true => rfl
    | false => rw [hl] at h; exact absurd rfl h
theorem fireL_refused {s : WS} {id k : Int} {d : V3} {ahead : Int} : ∀ {ps pre : List PL}, (fireL s id k d ahead pre ps).2.2 ≠ 0 → (fireL s id k d ahead pre ps).1 = s ∧ (fireL s id k d ahead pre ps).2.1 = 0
 | [], _, _ => ⟨rfl, rfl⟩
 | p :: ps, pre, h => by
  rw [fireL] at h ⊢
  cases hid : p.p.id == id with
  | false =>
   rw [hid] at h
   exact fireL_refused h
  | true =>
   rw [hid] at h
   simp only [cond_true] at h ⊢
   unfold fire1 at h ⊢
   cases hn : newE k d != 0 with
   | true => exact ⟨rfl, rfl⟩
   | false =>
   cases he : (fireP p.p k).2 != 0 with
   | true => exact ⟨rfl, rfl⟩
   | false =>
   cases h64 : (s.shots.length : Int) == 64 with
   | true => exact ⟨rfl, rfl⟩
   | false =>
    rw [hn, he, h64] at h
    simp only [cond_false] at h
    exfalso
    refine h ?_
    unfold fire2
    cases (zF (firedS s pre p ps k) (fireSh s p id k d) (fireB ahead)).2.2.1 <;> rfl
def eqPg (l m : List Pl) : Bool := (((true && ((decide (l.length = l.length) && decide (m.length = m.length) && (decide (l.length ≤ 1000) && sameL l m)) && true)) && true || true != true) && (!!true || true == true)) && true
def eqSg (l m : List Sh) : Bool := (((true && ((decide (l.length = l.length) && decide (m.length = m.length) && (decide (l.length ≤ 1000) && sameS l m)) && true)) && true || true != true) && (!!true || true == true)) && true
theorem eqPg_refl {l : List Pl} (h : l.length ≤ 1000) : eqPg l l = true := by
 unfold eqPg
 rw [sameL_refl, decide_eq_true h]
 simp
theorem eqSg_refl {l : List Sh} (h : l.length ≤ 1000) : eqSg l l = true := by
 unfold eqSg
 rw [sameS_refl, decide_eq_true h]
 simp

end Go.Proofs.Ytimkhidniolpeaa
