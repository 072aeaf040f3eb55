/- WorldOwn: the law's loops and call. -/
import Derived.Test.YtimkhidniolpeaaWnA
import Derived.Test.YtimkhidniolpeaaWrA
import Derived.Test.YtimkhidniolpeaaVmNq
namespace Go.Proofs.Ytimkhidniolpeaa
set_option linter.unusedSimpArgs false
set_option linter.unusedVariables false
set_option maxRecDepth 100000
set_option maxHeartbeats 0
open Go.RowKit

noncomputable def oPlayersE (args : List SV) (rows : List Row) : Option Eff := match args with
 | [.ptr g 0 0 0] => match rows[g]? with
  | some (.obj s) => some { val := .slice rows.length 15 0 (s.ps.map PL.p).length none, rd := [g], wr := [(g, .obj s)], nw := [.vec s.ps.isEmpty .pl (s.ps.map PL.p)] }
  | _ => none
 | _ => none
theorem oPlayersE_ok {args : List SV} {rows : List Row} {e : Eff} (h : oPlayersE args rows = some e) (hok : e.ok = true) : FnOkO Try.prog 16 args (rows[·]?) rows.length e := by
 unfold oPlayersE at h
 split at h
 · split at h
   · rename_i g _ s hs
     refine oPlayersV_ok (args := [.ptr g 0 0 0]) ?_ hok
     unfold oPlayersV
     simp only [hs]
     cases hp : s.ps with
     | nil => simp only [hp] at h; exact h
     | cons p ps => simp only [hp] at h; exact h
   · cases h
 · cases h
noncomputable def orcPlayersE : OrcO := ⟨16, oPlayersE, fun _ _ _ h hok => oPlayersE_ok h hok, bodied Try.func16 (by kernel_rfl)⟩
noncomputable def oShotsE (args : List SV) (rows : List Row) : Option Eff := match args with
 | [.ptr g 0 0 0] => match rows[g]? with
  | some (.obj s) => some { ok := decide (s.shots.length ≤ 1000), val := .slice rows.length 11 0 s.shots.length none, rd := [g], wr := [(g, .obj s)], nw := [.vec s.shots.isEmpty .sh s.shots] }
  | _ => none
 | _ => none
theorem oShotsE_ok {args : List SV} {rows : List Row} {e : Eff} (h : oShotsE args rows = some e) (hok : e.ok = true) : FnOkO Try.prog 18 args (rows[·]?) rows.length e := by
 unfold oShotsE at h
 split at h
 · split at h
   · rename_i g _ s hs
     cases hp : s.shots.isEmpty with
     | true =>
      refine oShotsW_ok (args := [.ptr g 0 0 0]) ?_ hok
      unfold oShotsW
      simp only [hs]
      rw [hp] at h
      exact h
     | false =>
      rw [hp] at h
      cases h
      rw [decide_eq_true_eq] at hok
      refine fnOkO_own (fuel := 300) (k := .sh) (xs := s.shots) xWo_ok lok_none Try.func18 (ds := []) rfl (fun l ok => ⟨none, ?_⟩) hs
      rw [shots_tree s l ok]
      unfold shotsT
      cases hh : l.hc with
      | none => rw [ok.hn hh] at hp; cases hp
      | some c =>
       simp only
       rw [big_ok hok, cond_true]
       have key : ∀ (ys : List Sh) (n : Nat), ys = s.shots → n = s.shots.length → Ends (endV l s (.slice 0 11 0 n none) [.vec false .sh ys]) (.slice 0 11 0 s.shots.length none) s [.vec false .sh s.shots] := by
        rintro _ _ rfl rfl
        exact endV_ends _ _ ok
       exact key _ _ List.take_length (Nat.zero_add _)
   · cases h
 · cases h
noncomputable def orcShotsE : OrcO := ⟨18, oShotsE, fun _ _ _ h hok => oShotsE_ok h hok, bodied Try.func18 (by kernel_rfl)⟩

noncomputable def x16n : Ctx := ctxOfO [11] [orcShown16, orcRight, orcSameP, orcSameS] [orcNewG, orcMapW, orcPlayersE, orcShotsE, orcDoes]
theorem x16n_ok : COk Try.prog x16n := ctxOfO_ok (by kernel_rfl)

def valN (ll : Nat) (i : Int) : List SV := [.slice 2 12 0 ll none, .ptr 3 0 0 0, .bool false, .bool true, .ptr 4 0 0 0, .ptr 9 0 0 0, .ptr 10 0 0 0, .int .i64 i]
def rowN (w d h : Int) (len ls n1 n2 : Nat) (xs : List Bool) (sp : List V3) (cs : List WOp) (ys : List Bool) (zs : List V3) (s t : WS) : List Row := [.vec true .bool xs, .vec true .vec sp, .vec true .wop cs, .own [.int .i64 w, .int .i64 d, .int .i64 h, .slice 0 1 0 len none, .slice 1 3 0 ls none],
 .own [.int .i64 w, .int .i64 d, .int .i64 h, .slice 6 1 0 n1 none, .slice 8 3 0 n2 none], .gone, .vec false .bool ys, .gone, .vec false .vec zs, .obj s, .obj t]
def valN2 (ll np ns : Nat) (i k : Int) : List SV := [.slice 2 12 0 ll none, .ptr 3 0 0 0, .bool false, .bool true, .ptr 4 0 0 0, .ptr 9 0 0 0, .ptr 10 0 0 0, .int .i64 i, .ptr 13 0 0 0, .slice 14 15 0 np none, .slice 15 11 0 ns none, .int .i64 k]
def rowN2 (w d h : Int) (len ls : Nat) (w2 d2 h2 : Int) (n1 n2 : Nat) (xs : List Bool) (sp : List V3) (cs : List WOp) (ys : List Bool) (zs : List V3) (s t : WS) (tb : List Bool) (tv : List V3) (tw td th : Int) (l1 l2 : Nat) (pe se : Bool) (ps : List Pl) (ts : List Sh) : List Row := [.vec true .bool xs, .vec true .vec sp, .vec true .wop cs, .own [.int .i64 w, .int .i64 d, .int .i64 h, .slice 0 1 0 len none, .slice 1 3 0 ls none],
 .own [.int .i64 w2, .int .i64 d2, .int .i64 h2, .slice 6 1 0 n1 none, .slice 8 3 0 n2 none], .gone, .vec false .bool ys, .gone, .vec false .vec zs, .obj s, .obj t, .vec false .bool tb, .vec false .vec tv, .own [.int .i64 tw, .int .i64 td, .int .i64 th, .slice 11 1 0 l1 none, .slice 12 3 0 l2 none], .vec pe .pl ps, .vec se .sh ts]
noncomputable def rdN2 : List SV → List Row → Option Res2 := roundS x16n (fun _ _ => none) 100 7 [0, 1, 0, 1, 1, 1, 0, 0, 1, 0, 0, 1, 0, 1, 1, 1, 1, 1, 1, 1, 1, 1] (bodyAt Try.f7 [0, 1, 0, 1, 1, 1, 0, 0, 1, 0, 0, 1, 0, 1, 1, 1, 1, 1, 1, 1, 1, 1]) 173 16 [1, 2, 4, 5, 6, 7, 9, 11, 12, 13, 14, 15]
noncomputable def rdN3 : List SV → List Row → Option Res2 := roundS x16n (fun _ _ => none) 100 7 [0, 1, 0, 1, 1, 1, 1, 1, 1, 0, 0, 1, 0, 0, 1, 0, 1, 1, 1, 1, 1, 1, 1, 1, 1] (bodyAt Try.f7 [0, 1, 0, 1, 1, 1, 1, 1, 1, 0, 0, 1, 0, 0, 1, 0, 1, 1, 1, 1, 1, 1, 1, 1, 1]) 173 16 [1, 2, 4, 5, 6, 7, 9, 11, 12, 13, 14, 16]
noncomputable def rdN4 : List SV → List Row → Option Res2 := roundS x16n (fun _ _ => none) 100 7 [0, 1, 0, 1, 1, 1, 1, 1, 1, 1, 0, 0, 1, 0, 0, 1, 0, 1, 1, 1, 1, 1, 1, 1, 1, 1] (bodyAt Try.f7 [0, 1, 0, 1, 1, 1, 1, 1, 1, 1, 0, 0, 1, 0, 0, 1, 0, 1, 1, 1, 1, 1, 1, 1, 1, 1]) 173 16 [1, 2, 4, 5, 6, 7, 9, 11, 12, 13, 14, 17]

theorem getMid {α : Type} (A B : List α) (x d : α) : (A ++ x :: B).getD (0 + ((A.length : Int)).toNat) d = x := by
 rw [show 0 + ((A.length : Int)).toNat = A.length by omega, List.getD_eq_getElem?_getD, List.getElem?_append_right (Nat.le_refl _)]
 simp
theorem setMid {α : Type} (A B : List α) (x y : α) : (A ++ x :: B).set (0 + ((A.length : Int)).toNat) y = A ++ y :: B := by
 rw [show 0 + ((A.length : Int)).toNat = A.length by omega, List.set_append_right _ _ (Nat.le_refl _)]
 simp
def killP (p : Pl) : Pl := { p with health := -7 }
def killS (t : Sh) : Sh := { t with fuse := -7 }
theorem wn_round2 (ll np ns : Nat) (i k : Int) (w d h : Int) (len ls : Nat) (w2 d2 h2 : Int) (n1 n2 : Nat) (xs : List Bool) (sp : List V3) (cs : List WOp) (ys : List Bool) (zs : List V3) (s t : WS) (tb : List Bool) (tv : List V3) (tw td th : Int) (l1 l2 : Nat) (pe se : Bool) (ps : List Pl) (ts : List Sh) : rdN2 (valN2 ll np ns i k) (rowN2 w d h len ls w2 d2 h2 n1 n2 xs sp cs ys zs s t tb tv tw td th l1 l2 pe se ps ts) =
 bif decide (k < (n1 : Int)) then (inL n1 ys.length k (inL n1 ys.length k (some (.tuple [.nilp, .tuple (valN2 ll np ns i (IntKind.i64.wrap (k + 1)))], (rowN2 w d h len ls w2 d2 h2 n1 n2 xs sp cs (ys.set (0 + k.toNat) (!ys.getD (0 + k.toNat) Knd.bool.dflt)) zs s t tb tv tw td th l1 l2 pe se ps ts))))) else some (.tuple [.ptr 2 0 0 0, .tuple (valN2 ll np ns i k)], (rowN2 w d h len ls w2 d2 h2 n1 n2 xs sp cs ys zs s t tb tv tw td th l1 l2 pe se ps ts)) := by kernel_rfl
theorem wn_round3 (ll np ns : Nat) (i k : Int) (w d h : Int) (len ls : Nat) (w2 d2 h2 : Int) (n1 n2 : Nat) (xs : List Bool) (sp : List V3) (cs : List WOp) (ys : List Bool) (zs : List V3) (s t : WS) (tb : List Bool) (tv : List V3) (tw td th : Int) (l1 l2 : Nat) (se : Bool) (ps : List Pl) (ts : List Sh) : rdN3 (valN2 ll np ns i k) (rowN2 w d h len ls w2 d2 h2 n1 n2 xs sp cs ys zs s t tb tv tw td th l1 l2 false se ps ts) =
 bif decide (k < (np : Int)) then (inL np ps.length k (some (.tuple [.nilp, .tuple (valN2 ll np ns i (IntKind.i64.wrap (k + 1)))], (rowN2 w d h len ls w2 d2 h2 n1 n2 xs sp cs ys zs s t tb tv tw td th l1 l2 false se (ps.set (0 + k.toNat) (killP (ps.getD (0 + k.toNat) Knd.pl.dflt))) ts)))) else some (.tuple [.ptr 4 0 0 0, .tuple (valN2 ll np ns i k)], (rowN2 w d h len ls w2 d2 h2 n1 n2 xs sp cs ys zs s t tb tv tw td th l1 l2 false se ps ts)) := by kernel_rfl
theorem wn_round4 (ll np ns : Nat) (i k : Int) (w d h : Int) (len ls : Nat) (w2 d2 h2 : Int) (n1 n2 : Nat) (xs : List Bool) (sp : List V3) (cs : List WOp) (ys : List Bool) (zs : List V3) (s t : WS) (tb : List Bool) (tv : List V3) (tw td th : Int) (l1 l2 : Nat) (pe : Bool) (ps : List Pl) (ts : List Sh) : rdN4 (valN2 ll np ns i k) (rowN2 w d h len ls w2 d2 h2 n1 n2 xs sp cs ys zs s t tb tv tw td th l1 l2 pe false ps ts) =
 bif decide (k < (ns : Int)) then (inL ns ts.length k (some (.tuple [.nilp, .tuple (valN2 ll np ns i (IntKind.i64.wrap (k + 1)))], (rowN2 w d h len ls w2 d2 h2 n1 n2 xs sp cs ys zs s t tb tv tw td th l1 l2 pe false ps (ts.set (0 + k.toNat) (killS (ts.getD (0 + k.toNat) Knd.sh.dflt))))))) else some (.tuple [.ptr 6 0 0 0, .tuple (valN2 ll np ns i k)], (rowN2 w d h len ls w2 d2 h2 n1 n2 xs sp cs ys zs s t tb tv tw td th l1 l2 pe false ps ts)) := by kernel_rfl
theorem wn_none3 (ll ns : Nat) (i : Int) (w d h : Int) (len ls : Nat) (w2 d2 h2 : Int) (n1 n2 : Nat) (xs : List Bool) (sp : List V3) (cs : List WOp) (ys : List Bool) (zs : List V3) (s t : WS) (tb : List Bool) (tv : List V3) (tw td th : Int) (l1 l2 : Nat) (pe se : Bool)  (ts : List Sh) : rdN3 (valN2 ll 0 ns i 0) (rowN2 w d h len ls w2 d2 h2 n1 n2 xs sp cs ys zs s t tb tv tw td th l1 l2 pe se [] ts) = some (.tuple [.ptr 4 0 0 0, .tuple (valN2 ll 0 ns i 0)], (rowN2 w d h len ls w2 d2 h2 n1 n2 xs sp cs ys zs s t tb tv tw td th l1 l2 pe se [] ts)) := by kernel_rfl
theorem wn_none4 (ll np : Nat) (i : Int) (w d h : Int) (len ls : Nat) (w2 d2 h2 : Int) (n1 n2 : Nat) (xs : List Bool) (sp : List V3) (cs : List WOp) (ys : List Bool) (zs : List V3) (s t : WS) (tb : List Bool) (tv : List V3) (tw td th : Int) (l1 l2 : Nat) (pe se : Bool) (ps : List Pl) : rdN4 (valN2 ll np 0 i 0) (rowN2 w d h len ls w2 d2 h2 n1 n2 xs sp cs ys zs s t tb tv tw td th l1 l2 pe se ps []) = some (.tuple [.ptr 6 0 0 0, .tuple (valN2 ll np 0 i 0)], (rowN2 w d h len ls w2 d2 h2 n1 n2 xs sp cs ys zs s t tb tv tw td th l1 l2 pe se ps [])) := by kernel_rfl
section
variable {ll np ns : Nat} {i : Int} {w d h : Int} {len ls : Nat} {w2 d2 h2 : Int} {n1 n2 : Nat} {xs : List Bool} {sp : List V3} {cs : List WOp} {ys : List Bool} {zs : List V3} {s t : WS} {tb : List Bool} {tv : List V3} {tw td th : Int} {l1 l2 : Nat} {pe se : Bool} {ps : List Pl} {ts : List Sh}
theorem wn_loop2 : ∀ (B A : List Bool), (A ++ B).length ≤ 100000 →
    LoopTo rdN2 (valN2 ll np ns i (A.length : Int)) (rowN2 w d h len ls w2 d2 h2 (A ++ B).length n2 xs sp cs (A.map (!·) ++ B) zs s t tb tv tw td th l1 l2 pe se ps ts) (.exit 2) (valN2 ll np ns i ((A ++ B).length : Int)) (rowN2 w d h len ls w2 d2 h2 (A ++ B).length n2 xs sp cs ((A ++ B).map (!·)) zs s t tb tv tw td th l1 l2 pe se ps ts)
 | [], A, _ => by
  rw [List.append_nil, List.append_nil]
  refine .done ?_ (by simp)
  rw [wn_round2, decide_eq_false (show ¬ (A.length : Int) < (A.length : Int) by omega)]
  rfl
 | x :: B, A, hl => by
  have ih := wn_loop2 B (A ++ [x]) (by simpa using hl)
  rw [List.append_assoc, List.singleton_append] at ih
  refine .more ?_ ih
  have hlen : A.length < (A ++ x :: B).length := by simp
  have hl2 : (A.map (!·) ++ x :: B).length = (A ++ x :: B).length := by simp
  have eA : (A.map (!·)).length = A.length := by simp
  have i1 : ∀ K, inL (A ++ x :: B).length (A ++ x :: B).length (A.length : Int) K = K := fun K => inL_true hlen hlen
  have g1 : (A.map (!·) ++ x :: B).getD (0 + ((A.length : Int)).toNat) Knd.bool.dflt = x := by rw [← eA]; exact getMid (α := Bool) _ _ _ _
  have g2 : ∀ y : Bool, (A.map (!·) ++ x :: B).set (0 + ((A.length : Int)).toNat) y = A.map (!·) ++ y :: B := fun y => by rw [← eA]; exact setMid _ _ _ _
  rw [wn_round2, decide_eq_true (show (A.length : Int) < ((A ++ x :: B).length : Int) by omega), hl2, cond_true, i1, i1, g1, g2, IntWalk.i64_in _ (by omega)]
  simp
theorem wn_loop3 : ∀ (B A : List Pl), (A ++ B).length ≤ 1000 →
    LoopTo rdN3 (valN2 ll (A ++ B).length ns i (A.length : Int)) (rowN2 w d h len ls w2 d2 h2 n1 n2 xs sp cs ys zs s t tb tv tw td th l1 l2 false se (A.map killP ++ B) ts) (.exit 4) (valN2 ll (A ++ B).length ns i ((A ++ B).length : Int)) (rowN2 w d h len ls w2 d2 h2 n1 n2 xs sp cs ys zs s t tb tv tw td th l1 l2 false se ((A ++ B).map killP) ts)
 | [], A, _ => by
  rw [List.append_nil, List.append_nil]
  refine .done ?_ (by simp)
  rw [wn_round3, decide_eq_false (show ¬ (A.length : Int) < (A.length : Int) by omega)]
  rfl
 | x :: B, A, hl => by
  have ih := wn_loop3 B (A ++ [x]) (by simpa using hl)
  rw [List.append_assoc, List.singleton_append] at ih
  refine .more ?_ ih
  have hlen : A.length < (A ++ x :: B).length := by simp
  have hl2 : (A.map killP ++ x :: B).length = (A ++ x :: B).length := by simp
  have eA : (A.map killP).length = A.length := by simp
  have i1 : ∀ K, inL (A ++ x :: B).length (A ++ x :: B).length (A.length : Int) K = K := fun K => inL_true hlen hlen
  have g1 : (A.map killP ++ x :: B).getD (0 + ((A.length : Int)).toNat) Knd.pl.dflt = x := by rw [← eA]; exact getMid (α := Pl) _ _ _ _
  have g2 : ∀ y : Pl, (A.map killP ++ x :: B).set (0 + ((A.length : Int)).toNat) y = A.map killP ++ y :: B := fun y => by rw [← eA]; exact setMid _ _ _ _
  rw [wn_round3, decide_eq_true (show (A.length : Int) < ((A ++ x :: B).length : Int) by omega), hl2, cond_true, i1, g1, g2, IntWalk.i64_in _ (by omega)]
  simp
theorem wn_loop4 : ∀ (B A : List Sh), (A ++ B).length ≤ 1000 →
    LoopTo rdN4 (valN2 ll np (A ++ B).length i (A.length : Int)) (rowN2 w d h len ls w2 d2 h2 n1 n2 xs sp cs ys zs s t tb tv tw td th l1 l2 pe false ps (A.map killS ++ B)) (.exit 6) (valN2 ll np (A ++ B).length i ((A ++ B).length : Int)) (rowN2 w d h len ls w2 d2 h2 n1 n2 xs sp cs ys zs s t tb tv tw td th l1 l2 pe false ps ((A ++ B).map killS))
 | [], A, _ => by
  rw [List.append_nil, List.append_nil]
  refine .done ?_ (by simp)
  rw [wn_round4, decide_eq_false (show ¬ (A.length : Int) < (A.length : Int) by omega)]
  rfl
 | x :: B, A, hl => by
  have ih := wn_loop4 B (A ++ [x]) (by simpa using hl)
  rw [List.append_assoc, List.singleton_append] at ih
  refine .more ?_ ih
  have hlen : A.length < (A ++ x :: B).length := by simp
  have hl2 : (A.map killS ++ x :: B).length = (A ++ x :: B).length := by simp
  have eA : (A.map killS).length = A.length := by simp
  have i1 : ∀ K, inL (A ++ x :: B).length (A ++ x :: B).length (A.length : Int) K = K := fun K => inL_true hlen hlen
  have g1 : (A.map killS ++ x :: B).getD (0 + ((A.length : Int)).toNat) Knd.sh.dflt = x := by rw [← eA]; exact getMid (α := Sh) _ _ _ _
  have g2 : ∀ y : Sh, (A.map killS ++ x :: B).set (0 + ((A.length : Int)).toNat) y = A.map killS ++ y :: B := fun y => by rw [← eA]; exact setMid _ _ _ _
  rw [wn_round4, decide_eq_true (show (A.length : Int) < ((A ++ x :: B).length : Int) by omega), hl2, cond_true, i1, g1, g2, IntWalk.i64_in _ (by omega)]
  simp
theorem wn_all2 (hn : n1 = ys.length) (hl : n1 ≤ 100000) : LoopTo rdN2 (valN2 ll np ns i 0) (rowN2 w d h len ls w2 d2 h2 n1 n2 xs sp cs ys zs s t tb tv tw td th l1 l2 pe se ps ts) (.exit 2) (valN2 ll np ns i (n1 : Int)) (rowN2 w d h len ls w2 d2 h2 n1 n2 xs sp cs (ys.map (!·)) zs s t tb tv tw td th l1 l2 pe se ps ts) := by
 subst hn
 exact wn_loop2 ys [] hl
theorem wn_all3 (hn : np = ps.length) (hl : np ≤ 1000) (hp : pe = ps.isEmpty) : LoopTo rdN3 (valN2 ll np ns i 0) (rowN2 w d h len ls w2 d2 h2 n1 n2 xs sp cs ys zs s t tb tv tw td th l1 l2 pe se ps ts) (.exit 4) (valN2 ll np ns i (np : Int)) (rowN2 w d h len ls w2 d2 h2 n1 n2 xs sp cs ys zs s t tb tv tw td th l1 l2 pe se (ps.map killP) ts) := by
 subst hn hp
 cases ps with
 | nil => exact .done (wn_none3 ..) (by simp)
 | cons p ps => exact wn_loop3 (p :: ps) [] hl
theorem wn_all4 (hn : ns = ts.length) (hl : ns ≤ 1000) (hp : se = ts.isEmpty) : LoopTo rdN4 (valN2 ll np ns i 0) (rowN2 w d h len ls w2 d2 h2 n1 n2 xs sp cs ys zs s t tb tv tw td th l1 l2 pe se ps ts) (.exit 6) (valN2 ll np ns i (ns : Int)) (rowN2 w d h len ls w2 d2 h2 n1 n2 xs sp cs ys zs s t tb tv tw td th l1 l2 pe se ps (ts.map killS)) := by
 subst hn hp
 cases ts with
 | nil => exact .done (wn_none4 ..) (by simp)
 | cons p ts => exact wn_loop4 (p :: ts) [] hl
end
noncomputable def outN2 (v : List SV) (R : List Row) (k : Ex → List SV → List Row → Option Res2) : Option Res2 := match v, R with
 | [.slice 2 12 0 ll none, .ptr 3 0 0 0, .bool false, .bool true, .ptr 4 0 0 0, .ptr 9 0 0 0, .ptr 10 0 0 0, .int .i64 i, .ptr 13 0 0 0, .slice 14 15 0 np none, .slice 15 11 0 ns none, .int .i64 j],
  [.vec true .bool xs, .vec true .vec sp, .vec true .wop cs, .own [.int .i64 w, .int .i64 d, .int .i64 h, .slice 0 1 0 len none, .slice 1 3 0 ls none],
   .own [.int .i64 w2, .int .i64 d2, .int .i64 h2, .slice 6 1 0 n1 none, .slice 8 3 0 n2 none], .gone, .vec false .bool ys, .gone, .vec false .vec zs, .obj s, .obj t, .vec false .bool tb, .vec false .vec tv, .own [.int .i64 tw, .int .i64 td, .int .i64 th, .slice 11 1 0 l1 none, .slice 12 3 0 l2 none], .vec pe .pl ps, .vec se .sh ts] =>
   bif decide (j = 0) && (decide (n1 = ys.length) && decide (n1 ≤ 100000)) then k (.exit 2) (valN2 ll np ns i (n1 : Int)) (rowN2 w d h len ls w2 d2 h2 n1 n2 xs sp cs (ys.map (!·)) zs s t tb tv tw td th l1 l2 pe se ps ts) else none
 | _, _ => none
theorem lpoN2_ok : LpOk 7 [0, 1, 0, 1, 1, 1, 0, 0, 1, 0, 0, 1, 0, 1, 1, 1, 1, 1, 1, 1, 1, 1] (loopF 173 [1, 2, 4, 5, 6, 7, 9, 11, 12, 13, 14, 15] outN2) := by
 intro b hat s K r h
 refine loopF_ok (fuel := 100) x16n_ok lok_none hat (fun v R k r hr => ?_) h
 have hbody := at_body Try.func7 hat
 subst hbody
 unfold outN2 at hr
 split at hr
 · obtain ⟨hb, hr2⟩ := cond_some hr
   simp only [Bool.and_eq_true, decide_eq_true_eq, beq_iff_eq] at hb
   obtain ⟨rfl, h1, h2⟩ := hb
   exact ⟨_, _, _, hr2, wn_all2 h1 h2⟩
 · cases hr
noncomputable def lpoN2 : Lpo := ⟨_, _, _, lpoN2_ok⟩
noncomputable def outN3 (v : List SV) (R : List Row) (k : Ex → List SV → List Row → Option Res2) : Option Res2 := match v, R with
 | [.slice 2 12 0 ll none, .ptr 3 0 0 0, .bool false, .bool true, .ptr 4 0 0 0, .ptr 9 0 0 0, .ptr 10 0 0 0, .int .i64 i, .ptr 13 0 0 0, .slice 14 15 0 np none, .slice 15 11 0 ns none, .int .i64 j],
  [.vec true .bool xs, .vec true .vec sp, .vec true .wop cs, .own [.int .i64 w, .int .i64 d, .int .i64 h, .slice 0 1 0 len none, .slice 1 3 0 ls none],
   .own [.int .i64 w2, .int .i64 d2, .int .i64 h2, .slice 6 1 0 n1 none, .slice 8 3 0 n2 none], .gone, .vec false .bool ys, .gone, .vec false .vec zs, .obj s, .obj t, .vec false .bool tb, .vec false .vec tv, .own [.int .i64 tw, .int .i64 td, .int .i64 th, .slice 11 1 0 l1 none, .slice 12 3 0 l2 none], .vec pe .pl ps, .vec se .sh ts] =>
   bif decide (j = 0) && (decide (np = ps.length) && (decide (np ≤ 1000) && (pe == ps.isEmpty))) then k (.exit 4) (valN2 ll np ns i (np : Int)) (rowN2 w d h len ls w2 d2 h2 n1 n2 xs sp cs ys zs s t tb tv tw td th l1 l2 pe se (ps.map killP) ts) else none
 | _, _ => none
theorem lpoN3_ok : LpOk 7 [0, 1, 0, 1, 1, 1, 1, 1, 1, 0, 0, 1, 0, 0, 1, 0, 1, 1, 1, 1, 1, 1, 1, 1, 1] (loopF 173 [1, 2, 4, 5, 6, 7, 9, 11, 12, 13, 14, 16] outN3) := by
 intro b hat s K r h
 refine loopF_ok (fuel := 100) x16n_ok lok_none hat (fun v R k r hr => ?_) h
 have hbody := at_body Try.func7 hat
 subst hbody
 unfold outN3 at hr
 split at hr
 · obtain ⟨hb, hr2⟩ := cond_some hr
   simp only [Bool.and_eq_true, decide_eq_true_eq, beq_iff_eq] at hb
   obtain ⟨rfl, h1, h2, h3⟩ := hb
   exact ⟨_, _, _, hr2, wn_all3 h1 h2 h3⟩
 · cases hr
noncomputable def lpoN3 : Lpo := ⟨_, _, _, lpoN3_ok⟩
noncomputable def outN4 (v : List SV) (R : List Row) (k : Ex → List SV → List Row → Option Res2) : Option Res2 := match v, R with
 | [.slice 2 12 0 ll none, .ptr 3 0 0 0, .bool false, .bool true, .ptr 4 0 0 0, .ptr 9 0 0 0, .ptr 10 0 0 0, .int .i64 i, .ptr 13 0 0 0, .slice 14 15 0 np none, .slice 15 11 0 ns none, .int .i64 j],
  [.vec true .bool xs, .vec true .vec sp, .vec true .wop cs, .own [.int .i64 w, .int .i64 d, .int .i64 h, .slice 0 1 0 len none, .slice 1 3 0 ls none],
   .own [.int .i64 w2, .int .i64 d2, .int .i64 h2, .slice 6 1 0 n1 none, .slice 8 3 0 n2 none], .gone, .vec false .bool ys, .gone, .vec false .vec zs, .obj s, .obj t, .vec false .bool tb, .vec false .vec tv, .own [.int .i64 tw, .int .i64 td, .int .i64 th, .slice 11 1 0 l1 none, .slice 12 3 0 l2 none], .vec pe .pl ps, .vec se .sh ts] =>
   bif decide (j = 0) && (decide (ns = ts.length) && (decide (ns ≤ 1000) && (se == ts.isEmpty))) then k (.exit 6) (valN2 ll np ns i (ns : Int)) (rowN2 w d h len ls w2 d2 h2 n1 n2 xs sp cs ys zs s t tb tv tw td th l1 l2 pe se ps (ts.map killS)) else none
 | _, _ => none
theorem lpoN4_ok : LpOk 7 [0, 1, 0, 1, 1, 1, 1, 1, 1, 1, 0, 0, 1, 0, 0, 1, 0, 1, 1, 1, 1, 1, 1, 1, 1, 1] (loopF 173 [1, 2, 4, 5, 6, 7, 9, 11, 12, 13, 14, 17] outN4) := by
 intro b hat s K r h
 refine loopF_ok (fuel := 100) x16n_ok lok_none hat (fun v R k r hr => ?_) h
 have hbody := at_body Try.func7 hat
 subst hbody
 unfold outN4 at hr
 split at hr
 · obtain ⟨hb, hr2⟩ := cond_some hr
   simp only [Bool.and_eq_true, decide_eq_true_eq, beq_iff_eq] at hb
   obtain ⟨rfl, h1, h2, h3⟩ := hb
   exact ⟨_, _, _, hr2, wn_all4 h1 h2 h3⟩
 · cases hr
noncomputable def lpoN4 : Lpo := ⟨_, _, _, lpoN4_ok⟩
noncomputable def rdN : List SV → List Row → Option Res2 := roundQ x16n (loopOf [lpoN2, lpoN3, lpoN4]) 100 7 [0, 1, 0, 1, 1, 1, 1, 1, 1, 1, 1, 1] (bodyAt Try.f7 [0, 1, 0, 1, 1, 1, 1, 1, 1, 1, 1, 1]) 173 11 [1, 2, 4, 5, 6, 7, 9, 11]

def in0 (n m : Nat) (K : Option Res2) : Option Res2 := bif decide ((0 : Int) ≤ 0) && decide ((0 : Int) < (n : Int)) then (bif decide (0 + Int.toNat 0 < m) then K else none) else none
theorem in0_true {n m : Nat} {K : Option Res2} (h1 : 1 ≤ n) (h2 : 1 ≤ m) : in0 n m K = K := by
 unfold in0
 rw [decide_eq_true (show (0 : Int) < (n : Int) by omega), decide_eq_true (show 0 + Int.toNat 0 < m by simp; omega)]
 rfl
def incX (zs : List V3) : List V3 := zs.set (0 + Int.toNat 0) { zs.getD (0 + Int.toNat 0) Knd.vec.dflt with x := IntKind.i64.wrap ((zs.getD (0 + Int.toNat 0) Knd.vec.dflt).x + 1) }
section
variable (w d h : Int) (len ls n1 n2 ll : Nat) (xs : List Bool) (sp : List V3) (cs : List WOp) (ys : List Bool) (zs : List V3) (s t : WS) (i : Int)
noncomputable def restN (o : WOp) : Option Res2 :=
 bif decide ((0 : Int) = 0) && (decide ((s.ps.map PL.p : List Pl).length = (s.ps.map PL.p : List Pl).length) && (decide ((s.ps.map PL.p : List Pl).length ≤ 1000) && (s.ps.isEmpty == (s.ps.map PL.p : List Pl).isEmpty))) then
 bif decide ((0 : Int) = 0) && (decide (s.shots.length = s.shots.length) && (decide (s.shots.length ≤ 1000) && (s.shots.isEmpty == s.shots.isEmpty))) then
 inL ll cs.length i (bif opOk s o then inL ll cs.length i (bif opOk t o then bif diffB (opS s o) (opS t o) then retR else
  some (.tuple [.nilp, .tuple (valN ll (IntKind.i64.wrap (i + 1)))], rowN w d h len ls n1 n2 xs sp cs (ys.map (!·)) (incX zs) (opS s o).1 (opS t o).1) else none) else none) else none else none
end
theorem wn_round (w d h : Int) (len ls n1 n2 ll : Nat) (xs : List Bool) (sp : List V3) (cs : List WOp) (ys : List Bool) (zs : List V3) (s t : WS) (i : Int) : rdN (valN ll i) (rowN w d h len ls n1 n2 xs sp cs ys zs s t) =
 bif bif decide (i < (ll : Int)) == true then (bif true then decide (i < 40) else false) else false then
 bif decide (s.cells.length ≤ 100000) && decide (s.spawns.length ≤ 1000) then bif decide (s.shots.length ≤ 1000) then
 bif decide ((0 : Int) = 0) && (decide (n1 = ys.length) && decide (n1 ≤ 100000)) then in0 n2 zs.length (in0 n2 zs.length (
  bif (bif decide ((s.cells.length : Int) > 0) == true then (bif true then decide ((s.spawns.length : Int) > 0) else false) else false) then
   in0 s.cells.length s.cells.length (in0 s.cells.length s.cells.length (in0 s.spawns.length s.spawns.length (in0 s.spawns.length s.spawns.length (restN w d h len ls n1 n2 ll xs sp cs ys zs s t i (opN cs i)))))
  else restN w d h len ls n1 n2 ll xs sp cs ys zs s t i (opN cs i))) else none else none else none
 else some (.tuple [.ptr 0 0 0 0, .tuple (valN ll i)], rowN w d h len ls n1 n2 xs sp cs ys zs s t) := by kernel_rfl

end Go.Proofs.Ytimkhidniolpeaa
