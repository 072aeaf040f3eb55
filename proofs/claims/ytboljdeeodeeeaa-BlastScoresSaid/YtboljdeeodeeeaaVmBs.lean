/- BlastScores: its loops. -/
import Derived.Test.YtboljdeeodeeeaaVmBq
import Derived.Test.YtboljdeeodeeeaaVmTa
import Derived.Test.YtboljdeeodeeeaaVmRt
import Derived.Test.YtboljdeeodeeeaaVmG13
namespace Go.Proofs.Ytboljdeeodeeeaa
set_option linter.unusedSimpArgs false
set_option linter.unusedVariables false
set_option maxRecDepth 100000
open Go.RowKit

/-- A player of a number. -/
def Pl.numbered (p : Pl) (n : Int) : Pl := ⟨n, p.pos, p.vel, p.ground, p.health, p.armour, p.score, p.a0, p.a1, p.wait, p.dead⟩
def numL : Int → List Pl → List Pl
  | _, [] => []
  | i, p :: l => p.numbered (i + 1) :: numL (i + 1) l
theorem numL_len : ∀ (l : List Pl) (i : Int), (numL i l).length = l.length
  | [], _ => rfl
  | p :: l, i => by rw [numL, List.length_cons, List.length_cons, numL_len l]
set_option maxRecDepth 100000 in
theorem ba_round (xs : List Bool) (sp : List V3) (ps : List Pl) (w d h : Int) (len ls : Nat) (at' : V3) (zs : List Pl) (owner : Int) (k : Nat) (i : Int) : rdBa (valBa owner k i) (rowBs xs sp ps w d h len ls at' zs) =
  bif decide (i < (k : Int)) then
  bif decide (0 ≤ i) && decide (i < (k : Int)) then
  bif decide (0 + i.toNat < zs.length) then
  some (.tuple [.nilp, .tuple (valBa owner k (IntKind.i64.wrap (i + 1)))], rowBs xs sp ps w d h len ls at' (zs.set (0 + i.toNat) (Pl.numbered (zs.getD (0 + i.toNat) Knd.pl.dflt) (IntKind.i64.wrap (i + 1)))))
  else none
  else none
  else some (.tuple [.ptr 0 0 0 0, .tuple (valBa owner k i)], rowBs xs sp ps w d h len ls at' zs) := by kernel_rfl

section
variable {xs : List Bool} {sp : List V3} {ps : List Pl} {w d h : Int} {len ls : Nat} {a : V3}
theorem ba_loop {owner : Int} : ∀ (n i : Nat) (zs : List Pl), i + n = zs.length → zs.length ≤ 1000 →
    LoopTo rdBa (valBa owner zs.length i) (rowBs xs sp ps w d h len ls a zs) (.exit 0) (valBa owner zs.length zs.length) (rowBs xs sp ps w d h len ls a (zs.take i ++ numL i (zs.drop i)))
  | 0, i, zs, h1, h2 => by
    obtain rfl : i = zs.length := by omega
    refine .done ?_ (by simp)
    rw [ba_round, decide_eq_false (by omega), cond_false, List.drop_length, List.take_length, numL, List.append_nil]
    rfl
  | n + 1, i, zs, h1, h2 => by
    have hi : i < zs.length := by omega
    have hro := ba_round xs sp ps w d h len ls a zs owner zs.length i
    have e0 : zs.getD (0 + ((i : Int)).toNat) Knd.pl.dflt = zs[i] := by
      rw [show 0 + ((i : Int)).toNat = i by omega]
      exact getD_in _ hi
    rw [e0, decide_eq_true (show (i : Int) < (zs.length : Int) by omega), decide_eq_true (show (0 : Int) ≤ (i : Int) by omega), decide_eq_true (show 0 + ((i : Int)).toNat < zs.length by omega), IntWalk.i64_in ((i : Int) + 1) (by omega), show 0 + ((i : Int)).toNat = i by omega] at hro
    simp only [Bool.and_self, cond_true] at hro
    have hl : (zs.set i (Pl.numbered zs[i] ((i : Int) + 1))).length = zs.length := List.length_set ..
    have ih := ba_loop (owner := owner) n (i + 1) (zs.set i (Pl.numbered zs[i] ((i : Int) + 1))) (by omega) (by omega)
    rw [hl, show ((i + 1 : Nat) : Int) = (i : Int) + 1 by omega] at ih
    have e : (zs.set i (Pl.numbered zs[i] ((i : Int) + 1))).take (i + 1) ++ numL ((i : Int) + 1) ((zs.set i (Pl.numbered zs[i] ((i : Int) + 1))).drop (i + 1)) = zs.take i ++ numL i (zs.drop i) := by
      rw [List.drop_eq_getElem_cons hi, numL, List.take_add_one, List.getElem?_set_self hi, List.take_set_of_le (by omega), List.drop_set_of_lt (by omega)]
      simp only [Option.toList_some, List.append_assoc, List.singleton_append, List.cons_append, List.nil_append]
    rw [e] at ih
    exact .more hro ih
theorem ba_loop0 {owner : Int} {zs : List Pl} (h2 : zs.length ≤ 1000) : LoopTo rdBa (valBa owner zs.length 0) (rowBs xs sp ps w d h len ls a zs) (.exit 0) (valBa owner zs.length zs.length) (rowBs xs sp ps w d h len ls a (numL 0 zs)) := by
  have key := ba_loop (xs := xs) (sp := sp) (ps := ps) (w := w) (d := d) (h := h) (len := len) (ls := ls) (a := a) (owner := owner) zs.length 0 zs (by omega) h2
  rw [List.take_zero, List.nil_append, List.drop_zero] at key
  exact key
end
set_option maxHeartbeats 0 in
noncomputable def outBa (v : List SV) (R : List Row) (k : Ex → List SV → List Row → Option Res2) : Option Res2 := match v, R with
  | [.int .i64 owner, .slice 6 15 0 kk none, .ptr 3 0 0 0, .ptr 4 0 0 0, .bool false, .bool true, .int .i64 i], [.vec true .bool xs, .vec true .vec sp, .vec true .pl ps, .own [.int .i64 w, .int .i64 d, .int .i64 h, .slice 0 1 0 len none, .slice 1 3 0 ls none], .own [.int .i64 ax, .int .i64 ay, .int .i64 az], .gone, .vec false .pl zs] =>
      bif decide (i = 0) && (decide (kk = zs.length) && decide (kk ≤ 1000)) then k (.exit 0) (valBa owner kk kk) (rowBs xs sp ps w d h len ls ⟨ax, ay, az⟩ (numL 0 zs)) else none
  | _, _ => none
set_option maxHeartbeats 0 in
theorem lpoBa_ok : LpOk 6 [0, 1, 0, 1, 1, 1, 1] (loopF 206 [2, 3, 4, 5, 8, 9, 11] outBa) := by
  intro b hat s K r h
  refine loopF_ok (fuel := 100) xBs0_ok lok_none hat (fun v R k r hr => ?_) h
  have hbody := at_body Try.func6 hat
  subst hbody
  unfold outBa at hr
  split at hr
  · rename_i owner kk i xs sp ps w d h len ls ax ay az zs
    obtain ⟨hb, hr2⟩ := cond_some hr
    simp only [Bool.and_eq_true, decide_eq_true_eq] at hb
    obtain ⟨rfl, h1, h2⟩ := hb
    have e1 : kk = List.length (α := Pl) zs := h1
    subst e1
    exact ⟨_, _, _, hr2, ba_loop0 (xs := xs) (sp := sp) (ps := ps) (w := w) (d := d) (h := h) (len := len) (ls := ls) (a := ⟨ax, ay, az⟩) (owner := owner) (zs := zs) h2⟩
  · cases hr
noncomputable def lpoBa : Lpo := ⟨_, _, _, lpoBa_ok⟩

/-! The second loop. -/
def goodB (owner i : Int) (z y : Pl) : Bool := (y.id == z.id && (y.pos.x == z.pos.x && (y.pos.y == z.pos.y && y.pos.z == z.pos.z)) && (y.vel.x == z.vel.x && (y.vel.y == z.vel.y && y.vel.z == z.vel.z)) && (y.a0 == z.a0 && y.a1 == z.a1) && y.wait == z.wait) && (IntKind.i64.wrap (i + 1) == owner || y.score == z.score)
def bbS (owner i : Int) (z y : Pl) (s : Int) : Int := bif diedB z y then (bif IntKind.i64.wrap (i + 1) == owner then IntKind.i64.wrap (s - 1) else IntKind.i64.wrap (s + 1)) else s
def bbAll (owner : Int) : Int → List Pl → List Pl → Bool
  | _, [], [] => true
  | i, z :: l, y :: m => goodB owner i z y && bbAll owner (i + 1) l m
  | _, _, _ => false
def bbSum (owner : Int) : Int → List Pl → List Pl → Int → Int
  | i, z :: l, y :: m, s => bbSum owner (i + 1) l m (bbS owner i z y s)
  | _, _, _, s => s
set_option maxHeartbeats 0 in
theorem bb_round1 (xs : List Bool) (sp : List V3) (ps : List Pl) (w d h : Int) (len ls : Nat) (at' : V3) {zs ys : List Pl} (owner s : Int) {i : Nat} (hi : i < zs.length) (hj : i < ys.length) (hk : zs.length ≤ 1000) (hg : goodB owner i zs[i] ys[i] = true) :
    rdBb (valBb owner zs.length ys.length s i) (rowBs xs sp ps w d h len ls at' zs ++ [.vec true .pl ys]) = some (.tuple [.nilp, .tuple (valBb owner zs.length ys.length (bbS owner i zs[i] ys[i] s) ((i : Int) + 1))], rowBs xs sp ps w d h len ls at' zs ++ [.vec true .pl ys]) := by
  have hro := bb_round xs sp ps w d h len ls at' zs ys owner zs.length ys.length s i
  have e0 : zs.getD (0 + ((i : Int)).toNat) Knd.pl.dflt = zs[i] := by
    rw [show 0 + ((i : Int)).toNat = i by omega]
    exact getD_in _ hi
  have e1 : ys.getD (0 + ((i : Int)).toNat) Knd.pl.dflt = ys[i] := by
    rw [show 0 + ((i : Int)).toNat = i by omega]
    exact getD_in _ hj
  rw [e0, e1, decide_eq_true (show (i : Int) < (zs.length : Int) by omega), decide_eq_true (show (i : Int) < (ys.length : Int) by omega), decide_eq_true (show (0 : Int) ≤ (i : Int) by omega), decide_eq_true (show 0 + ((i : Int)).toNat < zs.length by omega), decide_eq_true (show 0 + ((i : Int)).toNat < ys.length by omega), IntWalk.i64_in ((i : Int) + 1) (by omega)] at hro
  rw [hro]
  clear hro e0 e1
  unfold goodB at hg
  unfold bbS diedB
  rw [IntWalk.i64_in ((i : Int) + 1) (by omega)] at hg ⊢
  generalize zs[i] = z at hg ⊢
  generalize ys[i] = y at hg ⊢
  simp only [Bool.and_eq_true, Bool.or_eq_true, beq_iff_eq] at hg
  obtain ⟨⟨⟨⟨⟨g1, g2, g3, g4⟩, g5, g6, g7⟩, g8, g9⟩, g10⟩, g11⟩ := hg
  simp only [g1, g2, g3, g4, g5, g6, g7, g8, g9, g10, bne_self_eq_false, beq_self_eq_true, Bool.and_self, Bool.not_true, cond_true, cond_false, Bool.true_or, Bool.true_and, Bool.and_true]
  have hw : s = s := rfl
  cases ho : ((i : Int) + 1) == owner with
  | true =>
    have hn : (((i : Int) + 1) != owner) = false := by rw [bne, ho]; rfl
    simp only [hn, cond_false]
    cases decide (z.dead ≤ 0) <;> cases decide (y.dead > 0) <;> rfl
  | false =>
    have hn : (((i : Int) + 1) != owner) = true := by rw [bne, ho]; rfl
    have hs : y.score = z.score := by
      rcases g11 with h | h
      · rw [h, beq_self_eq_true] at ho
        cases ho
      · exact h
    simp only [hn, hs, bne_self_eq_false, cond_true, cond_false]
    cases decide (z.dead ≤ 0) <;> cases decide (y.dead > 0) <;> rfl
section
variable {xs : List Bool} {sp : List V3} {ps : List Pl} {w d h : Int} {len ls : Nat} {a : V3}
theorem bb_loop {owner : Int} {zs ys : List Pl} (hk : zs.length ≤ 1000) (hy : ys.length = zs.length) : ∀ (n i : Nat) (s : Int), i + n = zs.length → bbAll owner i (zs.drop i) (ys.drop i) = true →
    LoopTo rdBb (valBb owner zs.length ys.length s i) (rowBs xs sp ps w d h len ls a zs ++ [.vec true .pl ys]) (.exit 2) (valBb owner zs.length ys.length (bbSum owner i (zs.drop i) (ys.drop i) s) zs.length) (rowBs xs sp ps w d h len ls a zs ++ [.vec true .pl ys])
  | 0, i, s, h1, h2 => by
    obtain rfl : i = zs.length := by omega
    refine .done ?_ (by simp)
    rw [bb_round, decide_eq_false (by omega), cond_false, List.drop_length, show ys.drop zs.length = [] by rw [← hy, List.drop_length]]
    rfl
  | n + 1, i, s, h1, h2 => by
    have hi : i < zs.length := by omega
    have hj : i < ys.length := by omega
    rw [List.drop_eq_getElem_cons hi, List.drop_eq_getElem_cons hj, bbAll, Bool.and_eq_true] at h2
    have hro := bb_round1 xs sp ps w d h len ls a owner s hi hj hk h2.1
    have ih := bb_loop hk hy n (i + 1) (bbS owner i zs[i] ys[i] s) (by omega) (by rw [show ((i + 1 : Nat) : Int) = (i : Int) + 1 by omega]; exact h2.2)
    rw [show ((i + 1 : Nat) : Int) = (i : Int) + 1 by omega] at ih
    rw [List.drop_eq_getElem_cons hi, List.drop_eq_getElem_cons hj, bbSum]
    exact .more hro ih
theorem bb_loop0 {owner : Int} {zs ys : List Pl} (hk : zs.length ≤ 1000) (hy : ys.length = zs.length) (hb : bbAll owner 0 zs ys = true) :
    LoopTo rdBb (valBb owner zs.length ys.length 0 0) (rowBs xs sp ps w d h len ls a zs ++ [.vec true .pl ys]) (.exit 2) (valBb owner zs.length ys.length (bbSum owner 0 zs ys 0) zs.length) (rowBs xs sp ps w d h len ls a zs ++ [.vec true .pl ys]) :=
  bb_loop (xs := xs) (sp := sp) (ps := ps) (w := w) (d := d) (h := h) (len := len) (ls := ls) (a := a) hk hy zs.length 0 0 (by omega) hb
end
set_option maxHeartbeats 0 in
noncomputable def outBb (v : List SV) (R : List Row) (k : Ex → List SV → List Row → Option Res2) : Option Res2 := match v, R with
  | [.int .i64 owner, .slice 6 15 0 kk none, .bool false, .bool true, .slice 7 15 0 k2 none, .int .i64 s, .int .i64 i], [.vec true .bool xs, .vec true .vec sp, .vec true .pl ps, .own [.int .i64 w, .int .i64 d, .int .i64 h, .slice 0 1 0 len none, .slice 1 3 0 ls none], .own [.int .i64 ax, .int .i64 ay, .int .i64 az], .gone, .vec false .pl zs, .vec true .pl ys] =>
      bif ((decide (i = 0) && decide (s = 0)) && (decide (kk = zs.length) && decide (k2 = ys.length))) && (decide (k2 = kk) && (decide (kk ≤ 1000) && bbAll owner 0 zs ys)) then k (.exit 2) (valBb owner kk k2 (bbSum owner 0 zs ys 0) kk) (rowBs xs sp ps w d h len ls ⟨ax, ay, az⟩ zs ++ [.vec true .pl ys]) else none
  | _, _ => none
set_option maxHeartbeats 0 in
theorem lpoBb_ok : LpOk 6 [0, 1, 0, 1, 1, 1, 1, 1, 1, 1, 1, 1] (loopF 206 [2, 3, 8, 9, 12, 13, 14] outBb) := by
  intro b hat s K r h
  refine loopF_ok (fuel := 100) xBs0_ok lok_none hat (fun v R k r hr => ?_) h
  have hbody := at_body Try.func6 hat
  subst hbody
  unfold outBb at hr
  split at hr
  · rename_i owner kk k2 s i xs sp ps w d h len ls ax ay az zs ys
    obtain ⟨hb, hr2⟩ := cond_some hr
    simp only [Bool.and_eq_true, decide_eq_true_eq] at hb
    obtain ⟨⟨⟨rfl, rfl⟩, h1, h2⟩, h3, h4, h5⟩ := hb
    have e1 : kk = List.length (α := Pl) zs := h1
    have e2 : k2 = List.length (α := Pl) ys := h2
    subst e1
    subst e2
    exact ⟨_, _, _, hr2, bb_loop0 (xs := xs) (sp := sp) (ps := ps) (w := w) (d := d) (h := h) (len := len) (ls := ls) (a := ⟨ax, ay, az⟩) (owner := owner) (zs := zs) (ys := ys) h4 h3 h5⟩
  · cases hr
noncomputable def lpoBb : Lpo := ⟨_, _, _, lpoBb_ok⟩

noncomputable def xBs : Ctx := ctxOf [11, 10] [orcShown13, orcRight, orcNearB, orcBurst]
theorem xBs_ok : COk Try.prog xBs := ctxOf_ok (by kernel_rfl)

set_option maxRecDepth 100000 in
set_option maxHeartbeats 0 in
theorem scores_tree (w d h : Int) (len ls ll : Nat) (xs : List Bool) (sp : List V3) (ps : List Pl) (a : V3) (owner : Int) : runK xBs (loopOf [lpoTa, lpoBa, lpoBb]) 400 6 Try.f6 0 [mapS w d h (.slice 0 1 0 len none) (.slice 1 3 0 ls none), .agg a.sv, .int .i64 owner, .slice 2 15 0 ll none] [.vec true .bool xs, .vec true .vec sp, .vec true .pl ps] =
  bif decide (0 ≤ min (↑ll : Int) 20) && decide (min (↑ll : Int) 20 ≤ (↑(capOr none ll) : Int)) then
  bif
  decide (0 + (min (↑ll : Int) 20).toNat ≤ ps.length) &&
  ((false || (some 0).isSome) && (decide (0 + (min (↑ll : Int) 20).toNat ≤ 9223372036854775807) && decide ((0 + (min (↑ll : Int) 20).toNat) * 120 ≤ 140737488355328))) then
  bif decide (0 + (min (↑ll : Int) 20).toNat = (List.take 0 [] ++ List.take (min (↑ll : Int) 20).toNat (List.drop 0 ps)).length) && decide (0 + (min (↑ll : Int) 20).toNat ≤ 1000) then
  bif (List.take 0 [] ++ List.take (min (↑ll : Int) 20).toNat (List.drop 0 ps)).all tameB then
  bif
  (mapOk w d h len && (decide (0 + len ≤ xs.length) && (decide (0 + ls ≤ sp.length) && (decide (ls ≤ 9223372036854775807) && sp.all fitsB))) && true && true ||
  (bif (bif decide (w ≤ 10) == true then decide (d ≤ 10) else false) == true then decide (h ≤ 10) else false) != true) &&
  (true || (bif (bif decide (w ≤ 10) == true then decide (d ≤ 10) else false) == true then decide (h ≤ 10) else false) == true) &&
  true then
  bif
  bif
  (bif
  (bif
  (!bif (bif (bif decide (w ≤ 10) == true then decide (d ≤ 10) else false) == true then decide (h ≤ 10) else false) == true then
  rightE ((mpOf w d h len fun j => xs.getD (0 + j) false).right (spAt sp 0) ls) == 0
  else false) ==
  false then
  !a.nearB
  else true) ==
  false then
  false
  else true) ==
  false then
  (↑(0 + (min (↑ll : Int) 20).toNat) : Int) == 0
  else true then
  some (SV.bool true, [])
  else
  bif decide (0 + (min (↑ll : Int) 20).toNat = (List.take 0 [] ++ List.take (min (↑ll : Int) 20).toNat (List.drop 0 ps)).length) && decide (0 + (min (↑ll : Int) 20).toNat ≤ 1000) then
  bif !decide ((↑(0 + (min (↑ll : Int) 20).toNat) : Int) = 0) then
  bif buOk w d h 0 len xs a (numL 0 (List.take 0 [] ++ List.take (min (↑ll : Int) 20).toNat (List.drop 0 ps))) (0 + (min (↑ll : Int) 20).toNat) then
  bif
  (↑(burstL ((mpOf w d h len fun j => xs.getD (0 + j) false).brQ a)
  (IntKind.i64.wrap
  (1 + (IntKind.i64.wrap (↑(BitVec.ofInt IntKind.i64.bits owner &&& BitVec.ofInt IntKind.i64.bits 255).toNat : Int)).tmod (↑(0 + (min (↑ll : Int) 20).toNat) : Int)))
  (numL 0 (List.take 0 [] ++ List.take (min (↑ll : Int) 20).toNat (List.drop 0 ps)))).length :
  Int) !=
  (↑(0 + (min (↑ll : Int) 20).toNat) : Int) then
  some (SV.bool false, [])
  else
  bif
  decide (0 + (min (↑ll : Int) 20).toNat = (numL 0 (List.take 0 [] ++ List.take (min (↑ll : Int) 20).toNat (List.drop 0 ps))).length) &&
  decide
  ((burstL ((mpOf w d h len fun j => xs.getD (0 + j) false).brQ a)
  (IntKind.i64.wrap
  (1 +
  (IntKind.i64.wrap (↑(BitVec.ofInt IntKind.i64.bits owner &&& BitVec.ofInt IntKind.i64.bits 255).toNat : Int)).tmod (↑(0 + (min (↑ll : Int) 20).toNat) : Int)))
  (numL 0 (List.take 0 [] ++ List.take (min (↑ll : Int) 20).toNat (List.drop 0 ps)))).length =
  (burstL ((mpOf w d h len fun j => xs.getD (0 + j) false).brQ a)
  (IntKind.i64.wrap
  (1 +
  (IntKind.i64.wrap (↑(BitVec.ofInt IntKind.i64.bits owner &&& BitVec.ofInt IntKind.i64.bits 255).toNat : Int)).tmod (↑(0 + (min (↑ll : Int) 20).toNat) : Int)))
  (numL 0 (List.take 0 [] ++ List.take (min (↑ll : Int) 20).toNat (List.drop 0 ps)))).length) &&
  (decide
  ((burstL ((mpOf w d h len fun j => xs.getD (0 + j) false).brQ a)
  (IntKind.i64.wrap
  (1 +
  (IntKind.i64.wrap (↑(BitVec.ofInt IntKind.i64.bits owner &&& BitVec.ofInt IntKind.i64.bits 255).toNat : Int)).tmod (↑(0 + (min (↑ll : Int) 20).toNat) : Int)))
  (numL 0 (List.take 0 [] ++ List.take (min (↑ll : Int) 20).toNat (List.drop 0 ps)))).length =
  0 + (min (↑ll : Int) 20).toNat) &&
  (decide (0 + (min (↑ll : Int) 20).toNat ≤ 1000) &&
  bbAll
  (IntKind.i64.wrap
  (1 + (IntKind.i64.wrap (↑(BitVec.ofInt IntKind.i64.bits owner &&& BitVec.ofInt IntKind.i64.bits 255).toNat : Int)).tmod (↑(0 + (min (↑ll : Int) 20).toNat) : Int)))
  0 (numL 0 (List.take 0 [] ++ List.take (min (↑ll : Int) 20).toNat (List.drop 0 ps)))
  (burstL ((mpOf w d h len fun j => xs.getD (0 + j) false).brQ a)
  (IntKind.i64.wrap
  (1 + (IntKind.i64.wrap (↑(BitVec.ofInt IntKind.i64.bits owner &&& BitVec.ofInt IntKind.i64.bits 255).toNat : Int)).tmod (↑(0 + (min (↑ll : Int) 20).toNat) : Int)))
  (numL 0 (List.take 0 [] ++ List.take (min (↑ll : Int) 20).toNat (List.drop 0 ps)))))) then
  bif
  decide
  (0 ≤
  IntKind.i64.wrap
  (IntKind.i64.wrap
  (1 +
  (IntKind.i64.wrap (↑(BitVec.ofInt IntKind.i64.bits owner &&& BitVec.ofInt IntKind.i64.bits 255).toNat : Int)).tmod (↑(0 + (min (↑ll : Int) 20).toNat) : Int)) -
  1)) &&
  decide
  (IntKind.i64.wrap
  (IntKind.i64.wrap
  (1 +
  (IntKind.i64.wrap (↑(BitVec.ofInt IntKind.i64.bits owner &&& BitVec.ofInt IntKind.i64.bits 255).toNat : Int)).tmod (↑(0 + (min (↑ll : Int) 20).toNat) : Int)) -
  1) <
  (↑(burstL ((mpOf w d h len fun j => xs.getD (0 + j) false).brQ a)
  (IntKind.i64.wrap
  (1 +
  (IntKind.i64.wrap (↑(BitVec.ofInt IntKind.i64.bits owner &&& BitVec.ofInt IntKind.i64.bits 255).toNat : Int)).tmod
  (↑(0 + (min (↑ll : Int) 20).toNat) : Int)))
  (numL 0 (List.take 0 [] ++ List.take (min (↑ll : Int) 20).toNat (List.drop 0 ps)))).length :
  Int)) then
  bif
  decide
  (0 +
  (IntKind.i64.wrap
  (IntKind.i64.wrap
  (1 +
  (IntKind.i64.wrap (↑(BitVec.ofInt IntKind.i64.bits owner &&& BitVec.ofInt IntKind.i64.bits 255).toNat : Int)).tmod
  (↑(0 + (min (↑ll : Int) 20).toNat) : Int)) -
  1)).toNat <
  (burstL ((mpOf w d h len fun j => xs.getD (0 + j) false).brQ a)
  (IntKind.i64.wrap
  (1 +
  (IntKind.i64.wrap (↑(BitVec.ofInt IntKind.i64.bits owner &&& BitVec.ofInt IntKind.i64.bits 255).toNat : Int)).tmod (↑(0 + (min (↑ll : Int) 20).toNat) : Int)))
  (numL 0 (List.take 0 [] ++ List.take (min (↑ll : Int) 20).toNat (List.drop 0 ps)))).length) then
  bif
  decide
  (0 ≤
  IntKind.i64.wrap
  (IntKind.i64.wrap
  (1 +
  (IntKind.i64.wrap (↑(BitVec.ofInt IntKind.i64.bits owner &&& BitVec.ofInt IntKind.i64.bits 255).toNat : Int)).tmod
  (↑(0 + (min (↑ll : Int) 20).toNat) : Int)) -
  1)) &&
  decide
  (IntKind.i64.wrap
  (IntKind.i64.wrap
  (1 +
  (IntKind.i64.wrap (↑(BitVec.ofInt IntKind.i64.bits owner &&& BitVec.ofInt IntKind.i64.bits 255).toNat : Int)).tmod
  (↑(0 + (min (↑ll : Int) 20).toNat) : Int)) -
  1) <
  (↑(0 + (min (↑ll : Int) 20).toNat) : Int)) then
  bif
  decide
  (0 +
  (IntKind.i64.wrap
  (IntKind.i64.wrap
  (1 +
  (IntKind.i64.wrap (↑(BitVec.ofInt IntKind.i64.bits owner &&& BitVec.ofInt IntKind.i64.bits 255).toNat : Int)).tmod
  (↑(0 + (min (↑ll : Int) 20).toNat) : Int)) -
  1)).toNat <
  (numL 0 (List.take 0 [] ++ List.take (min (↑ll : Int) 20).toNat (List.drop 0 ps))).length) then
  some
  (SV.bool
  (((burstL ((mpOf w d h len fun j => xs.getD (0 + j) false).brQ a)
  (IntKind.i64.wrap
  (1 +
  (IntKind.i64.wrap (↑(BitVec.ofInt IntKind.i64.bits owner &&& BitVec.ofInt IntKind.i64.bits 255).toNat : Int)).tmod
  (↑(0 + (min (↑ll : Int) 20).toNat) : Int)))
  (numL 0 (List.take 0 [] ++ List.take (min (↑ll : Int) 20).toNat (List.drop 0 ps)))).getD
  (0 +
  (IntKind.i64.wrap
  (IntKind.i64.wrap
  (1 +
  (IntKind.i64.wrap (↑(BitVec.ofInt IntKind.i64.bits owner &&& BitVec.ofInt IntKind.i64.bits 255).toNat : Int)).tmod
  (↑(0 + (min (↑ll : Int) 20).toNat) : Int)) -
  1)).toNat)
  Knd.pl.dflt).score ==
  IntKind.i64.wrap
  (((numL 0 (List.take 0 [] ++ List.take (min (↑ll : Int) 20).toNat (List.drop 0 ps))).getD
  (0 +
  (IntKind.i64.wrap
  (IntKind.i64.wrap
  (1 +
  (IntKind.i64.wrap (↑(BitVec.ofInt IntKind.i64.bits owner &&& BitVec.ofInt IntKind.i64.bits 255).toNat : Int)).tmod
  (↑(0 + (min (↑ll : Int) 20).toNat) : Int)) -
  1)).toNat)
  Knd.pl.dflt).score +
  bbSum
  (IntKind.i64.wrap
  (1 +
  (IntKind.i64.wrap (↑(BitVec.ofInt IntKind.i64.bits owner &&& BitVec.ofInt IntKind.i64.bits 255).toNat : Int)).tmod
  (↑(0 + (min (↑ll : Int) 20).toNat) : Int)))
  0 (numL 0 (List.take 0 [] ++ List.take (min (↑ll : Int) 20).toNat (List.drop 0 ps)))
  (burstL ((mpOf w d h len fun j => xs.getD (0 + j) false).brQ a)
  (IntKind.i64.wrap
  (1 +
  (IntKind.i64.wrap (↑(BitVec.ofInt IntKind.i64.bits owner &&& BitVec.ofInt IntKind.i64.bits 255).toNat : Int)).tmod
  (↑(0 + (min (↑ll : Int) 20).toNat) : Int)))
  (numL 0 (List.take 0 [] ++ List.take (min (↑ll : Int) 20).toNat (List.drop 0 ps))))
  0)),
  [])
  else none
  else none
  else none
  else none
  else none
  else none
  else none
  else none
  else none
  else
  bif
  (mapOk w d h len && (decide (0 + len ≤ xs.length) && (decide (0 + ls ≤ sp.length) && (decide (ls ≤ 9223372036854775807) && sp.all fitsB))) && true && true ||
  (bif (bif decide (w ≤ 10) == true then decide (d ≤ 10) else false) == true then decide (h ≤ 10) else false) != true) &&
  (true || (bif (bif decide (w ≤ 10) == true then decide (d ≤ 10) else false) == true then decide (h ≤ 10) else false) == true) &&
  true then
  bif
  bif
  (bif
  (bif
  (!bif (bif (bif decide (w ≤ 10) == true then decide (d ≤ 10) else false) == true then decide (h ≤ 10) else false) == true then
  rightE ((mpOf w d h len fun j => xs.getD (0 + j) false).right (spAt sp 0) ls) == 0
  else false) ==
  false then
  !a.nearB
  else true) ==
  false then
  true
  else true) ==
  false then
  0 == 0
  else true then
  some (SV.bool true, [])
  else none
  else none
  else none
  else none
  else none := by kernel_rfl

end Go.Proofs.Ytboljdeeodeeeaa
