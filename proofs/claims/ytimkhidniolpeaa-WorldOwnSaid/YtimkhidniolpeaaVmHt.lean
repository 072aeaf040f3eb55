/- blast's Hurt, as a contract. blast's Take, as a contract. blast's Burst, as a contract. -/
import Derived.Test.YtimkhidniolpeaaVmLg
import Derived.Test.YtimkhidniolpeaaVmStp
import Derived.Test.YtimkhidniolpeaaVmOra
import Derived.Test.YtimkhidniolpeaaVmR
import Derived.Test.YtimkhidniolpeaaVmFh
namespace Go.Proofs.Ytimkhidniolpeaa
set_option linter.unusedSimpArgs false
set_option linter.unusedVariables false
set_option maxRecDepth 100000
set_option maxHeartbeats 0
open Go.RowKit

noncomputable def xHt : Ctx := ctxOf [] [orcLong, orcMinus, orcSight]
theorem xHt_ok : COk Try.prog xHt := ctxOf_ok (by kernel_rfl)

theorem hurt_tree (w d h : Int) (len off : Nat) (xs : List Bool) (a : V3) (p : Pl) : runK xHt (fun _ _ => none) 200 76 Try.f76 0 [mapS w d h (.slice 0 1 off len none) .unk, .agg a.sv, .agg p.sv] [.vec true .bool xs] =
 bif fitsB p.pos && fitsB a then
  bif fitsB (p.pos.minus a) then
   bif
       (mapOk w d h len && (fitsB a && (fitsB p.pos && decide (off + len ≤ xs.length))) && true && true ||
             (bif decide (p.dead > 0) == false then decide (IntKind.i64.wrap (196608 - (p.pos.minus a).long) ≤ 0) else true) != false) &&
           (true || (bif decide (p.dead > 0) == false then decide (IntKind.i64.wrap (196608 - (p.pos.minus a).long) ≤ 0) else true) == false) &&
        true then
    bif
        bif (bif decide (p.dead > 0) == false then decide (IntKind.i64.wrap (196608 - (p.pos.minus a).long) ≤ 0) else true) == false then
         !(mpOf w d h len fun j => xs.getD (off + j) false).sight a p.pos
        else true then
     some (.int .i64 0, [])
    else some (.int .i64 (IntKind.i64.wrap ((IntKind.i64.wrap (100 * IntKind.i64.wrap (196608 - (p.pos.minus a).long))).tdiv 196608)), [])
   else none
  else none
 else none := by kernel_rfl

def nearN (a : V3) (p : Pl) : Int := IntKind.i64.wrap (196608 - (p.pos.minus a).long)
noncomputable def Mp.hurt (m : Mp) (a : V3) (p : Pl) : Int := bif (decide (p.dead > 0) || decide (nearN a p ≤ 0)) || !m.sight a p.pos then 0 else IntKind.i64.wrap ((IntKind.i64.wrap (100 * nearN a p)).tdiv 196608)
theorem minus_fits' (a b : V3) : (a.minus b).fits := ⟨cut64_fits _, cut64_fits _, cut64_fits _⟩
theorem hurt_val {w d h : Int} {len off : Nat} {xs : List Bool} {a : V3} {p : Pl} (hm : mapOk w d h len = true) (hl : decide (off + len ≤ xs.length) = true) (ha : a.fits) (hp : p.pos.fits) :
    runK xHt (fun _ _ => none) 200 76 Try.f76 0 [mapS w d h (.slice 0 1 off len none) .unk, .agg a.sv, .agg p.sv] [.vec true .bool xs] = some (.int .i64 ((mpOf w d h len fun j => xs.getD (off + j) false).hurt a p), []) := by
 rw [hurt_tree]
 simp only [hm, hl, fitsB_iff.2 ha, fitsB_iff.2 hp, fitsB_iff.2 (minus_fits' p.pos a), Bool.and_true, Bool.true_or, cond_true, or_form]
 unfold Mp.hurt nearN
 cases decide (p.dead > 0) || decide (IntKind.i64.wrap (196608 - (p.pos.minus a).long) ≤ 0)
 · cases (mpOf w d h len fun j => xs.getD (off + j) false).sight a p.pos <;> rfl
 · rfl
noncomputable def oHurt (args : List SV) (rows : List Row) : Option Eff :=
 match args with
 | [.agg [.int .i64 w, .int .i64 d, .int .i64 h, .slice id st off len _, sp], .agg [.int .i64 x, .int .i64 y, .int .i64 z], .agg [.int .i64 a0, .int .i64 a1, .int .i64 a2, .int .i64 a3, .int .i64 a4, .int .i64 a5, .int .i64 a6, .bool a7, .int .i64 a8, .int .i64 a9, .int .i64 a10, .int .i64 a11, .int .i64 a12, .int .i64 a13, .int .i64 a14]] => match rows[id]? with
  | some (.vec _ .bool xs) => bif Nat.beq st 1 && sp.one then some { ok := mapOk w d h len && (fitsB ⟨x, y, z⟩ && (fitsB ⟨a1, a2, a3⟩ && decide (off + len ≤ xs.length))), val := .int .i64 ((mpOf w d h len fun j => xs.getD (off + j) false).hurt ⟨x, y, z⟩ ⟨a0, ⟨a1, a2, a3⟩, ⟨a4, a5, a6⟩, a7, a8, a9, a10, a11, a12, a13, a14⟩), rd := [id] } else none
  | _ => none
 | _ => none
theorem oHurt_ok {args : List SV} {rows : List Row} {n : Nat} {e : Eff} (h : oHurt args rows = some e) (hok : e.ok = true) : FnOk Try.prog 76 args (rows[·]?) n e := by
 unfold oHurt at h
 split at h
 · rename_i wd dd hd id st off len cap sp x y z a0 a1 a2 a3 a4 a5 a6 a7 a8 a9 a10 a11 a12 a13 a14
   split at h
   · rename_i ro xs hrow
     cases hb : Nat.beq st 1 && sp.one with
     | false => simp [hb] at h
     | true =>
      simp only [hb, cond_true, Option.some.injEq] at h
      subst h
      rw [Bool.and_eq_true] at hb
      have hst := Nat.eq_of_beq_eq_true hb.1
      subst hst
      simp only [Bool.and_eq_true, fitsB_iff] at hok
      obtain ⟨h1, h2, h3, h4⟩ := hok
      obtain ⟨rows', hc, _⟩ := runK_ok xHt_ok lok_none Try.func76 (hurt_val (a := ⟨x, y, z⟩) (p := ⟨a0, ⟨a1, a2, a3⟩, ⟨a4, a5, a6⟩, a7, a8, a9, a10, a11, a12, a13, a14⟩) h1 h4 h2 h3)
      exact fnOk_map hb.2 hc rfl rfl hrow
   · cases h
 · cases h
noncomputable def orcHurt : Orc := ⟨76, oHurt, fun _ _ _ h hok => oHurt_ok h hok, bodied Try.func76 (by kernel_rfl)⟩

end Go.Proofs.Ytimkhidniolpeaa

namespace Go.Proofs.Ytimkhidniolpeaa
set_option linter.unusedSimpArgs false
set_option linter.unusedVariables false
set_option maxRecDepth 100000
set_option maxHeartbeats 0
open Go.RowKit

noncomputable def xTp : Ctx := ctxOf [] []
theorem xTp_ok : COk Try.prog xTp := ctxOf_ok (by kernel_rfl)

theorem take_tree (p : Pl) (n : Int) : runK xTp (fun _ _ => none) 200 75 Try.f75 0 [.agg p.sv, .int .i64 n] [] =
 bif bif decide (p.dead > 0) == false then decide (n < 1) else true then
  some
   (SV.agg
       [.int .i64 p.id, .int .i64 p.pos.x, .int .i64 p.pos.y, .int .i64 p.pos.z, .int .i64 p.vel.x, .int .i64 p.vel.y,
        .int .i64 p.vel.z, SV.bool p.ground, .int .i64 p.health, .int .i64 p.armour, .int .i64 p.score, .int .i64 p.a0, .int .i64 p.a1,
        .int .i64 p.wait, .int .i64 p.dead],
    [])
 else
  bif decide (IntKind.i64.wrap (p.health - IntKind.i64.wrap (n - min (IntKind.i64.wrap (n.tdiv 2)) p.armour)) ≤ 0) then
   some
    (SV.agg
        [.int .i64 p.id, .int .i64 p.pos.x, .int .i64 p.pos.y, .int .i64 p.pos.z, .int .i64 p.vel.x, .int .i64 p.vel.y,
         .int .i64 p.vel.z, SV.bool p.ground, .int .i64 0, .int .i64 (IntKind.i64.wrap (p.armour - min (IntKind.i64.wrap (n.tdiv 2)) p.armour)),
         .int .i64 p.score, .int .i64 p.a0, .int .i64 p.a1, .int .i64 p.wait, .int .i64 30],
     [])
  else
   some
    (SV.agg
        [.int .i64 p.id, .int .i64 p.pos.x, .int .i64 p.pos.y, .int .i64 p.pos.z, .int .i64 p.vel.x, .int .i64 p.vel.y,
         .int .i64 p.vel.z, SV.bool p.ground, .int .i64 (IntKind.i64.wrap (p.health - IntKind.i64.wrap (n - min (IntKind.i64.wrap (n.tdiv 2)) p.armour))),
         .int .i64 (IntKind.i64.wrap (p.armour - min (IntKind.i64.wrap (n.tdiv 2)) p.armour)), .int .i64 p.score, .int .i64 p.a0, .int .i64 p.a1,
         .int .i64 p.wait, .int .i64 p.dead],
     []) := by kernel_rfl

def takeOff (p : Pl) (n : Int) : Int := min (IntKind.i64.wrap (n.tdiv 2)) p.armour
def takeH (p : Pl) (n : Int) : Int := IntKind.i64.wrap (p.health - IntKind.i64.wrap (n - takeOff p n))
def takeP (p : Pl) (n : Int) : Pl := bif decide (p.dead > 0) || decide (n < 1) then p else
 bif decide (takeH p n ≤ 0) then { p with health := 0, armour := IntKind.i64.wrap (p.armour - takeOff p n), dead := 30 } else { p with health := takeH p n, armour := IntKind.i64.wrap (p.armour - takeOff p n) }
theorem take_val (p : Pl) (n : Int) : runK xTp (fun _ _ => none) 200 75 Try.f75 0 [.agg p.sv, .int .i64 n] [] = some (.agg (takeP p n).sv, []) := by
 rw [take_tree]
 simp only [or_form]
 unfold takeP
 rw [show IntKind.i64.wrap (p.health - IntKind.i64.wrap (n - min (IntKind.i64.wrap (n.tdiv 2)) p.armour)) = takeH p n from rfl]
 cases (decide (p.dead > 0) || decide (n < 1))
 · cases decide (takeH p n ≤ 0) <;> rfl
 · rfl
def oTake : List SV → Option Eff
 | [.agg [.int .i64 a0, .int .i64 a1, .int .i64 a2, .int .i64 a3, .int .i64 a4, .int .i64 a5, .int .i64 a6, .bool a7, .int .i64 a8, .int .i64 a9, .int .i64 a10, .int .i64 a11, .int .i64 a12, .int .i64 a13, .int .i64 a14], .int .i64 n] => some { val := .agg (takeP ⟨a0, ⟨a1, a2, a3⟩, ⟨a4, a5, a6⟩, a7, a8, a9, a10, a11, a12, a13, a14⟩ n).sv }
 | _ => none
theorem oTake_ok {m : Nat → Option Row} {n : Nat} {args : List SV} {e : Eff} (h : oTake args = some e) : FnOk Try.prog 75 args m n e := by
 unfold oTake at h
 split at h
 · rename_i a0 a1 a2 a3 a4 a5 a6 a7 a8 a9 a10 a11 a12 a13 a14 nn
   cases h
   obtain ⟨rows', hc, _⟩ := runK_ok xTp_ok lok_none Try.func75 (take_val ⟨a0, ⟨a1, a2, a3⟩, ⟨a4, a5, a6⟩, a7, a8, a9, a10, a11, a12, a13, a14⟩ nn)
   exact fnOk_pure hc rfl rfl
 · cases h
noncomputable def orcTake : Orc := ⟨75, fun args _ => oTake args, fun _ _ _ h _ => oTake_ok h, bodied Try.func75 (by kernel_rfl)⟩

end Go.Proofs.Ytimkhidniolpeaa

namespace Go.Proofs.Ytimkhidniolpeaa
set_option linter.unusedSimpArgs false
set_option linter.unusedVariables false
set_option maxRecDepth 100000
set_option maxHeartbeats 0
open Go.RowKit

noncomputable def xBu : Ctx := ctxOf [] [orcHurt, orcTake]
theorem xBu_ok : COk Try.prog xBu := ctxOf_ok (by kernel_rfl)
def valBu0 (owner s : Int) (ll : Nat) (i : Int) : List SV := [.int .i64 owner, .ptr 2 0 0 0, .ptr 3 0 0 0, .nils, .nils, .int .i64 s, .slice 1 15 0 ll none, .int .i64 (ll : Int), .int .i64 i]
def valBu1 (owner s : Int) (ll k : Nat) (i : Int) : List SV := [.int .i64 owner, .ptr 2 0 0 0, .ptr 3 0 0 0, .nils, .slice 4 15 0 k none, .int .i64 s, .slice 1 15 0 ll none, .int .i64 (ll : Int), .int .i64 i]
def rowBu0 (w d h : Int) (off len : Nat) (xs : List Bool) (at' : V3) (ps : List Pl) : List Row := [.vec true .bool xs, .vec true .pl ps, .own [.int .i64 w, .int .i64 d, .int .i64 h, .slice 0 1 off len none, .unk], .own at'.sv]
def rowBu1 (w d h : Int) (off len : Nat) (xs : List Bool) (at' : V3) (ps ys : List Pl) : List Row := [.vec true .bool xs, .vec true .pl ps, .own [.int .i64 w, .int .i64 d, .int .i64 h, .slice 0 1 off len none, .unk], .own at'.sv, .vec false .pl ys]
noncomputable def rdBu : List SV → List Row → Option Res2 := roundS xBu (fun _ _ => none) 100 57 [0, 1, 0, 1, 1, 1] (bodyAt Try.f57 [0, 1, 0, 1, 1, 1]) 72 4 [2, 4, 5, 8, 9, 10, 15, 16, 17]
noncomputable def Mp.brQ (m : Mp) (a : V3) (p : Pl) : Pl := takeP p (m.hurt a p)
def diedB (p q : Pl) : Bool := decide (q.dead > 0) && decide (p.dead ≤ 0)
def brS (owner : Int) (p q : Pl) (s : Int) : Int := bif diedB p q then (bif p.id == owner then IntKind.i64.wrap (IntKind.i64.wrap (s - 2) + 1) else IntKind.i64.wrap (s + 1)) else s
def growsPl (k : Nat) (ys : List Pl) (q : Pl) : Bool := decide (0 + 1 ≤ [q].length) && ((decide (0 < k) || (none : Option Nat).isSome) && (decide (k ≤ ys.length) && (decide (k + 1 ≤ 9223372036854775807) && decide ((k + 1) * 120 ≤ 140737488355328))))
theorem bu_round0 (w d h : Int) (off len : Nat) (xs : List Bool) (at' : V3) (ps : List Pl) (owner s : Int) (ll : Nat) (i : Int) : rdBu (valBu0 owner s ll i) (rowBu0 w d h off len xs at' ps) =
 bif decide (i < (ll : Int)) then
 bif decide (0 ≤ i) && decide (i < (ll : Int)) then
 bif decide (0 + i.toNat < ps.length) then
 bif mapOk w d h len && (fitsB at' && (fitsB (ps.getD (0 + i.toNat) Knd.pl.dflt).pos && decide (off + len ≤ xs.length))) then
 bif (bif decide (((mpOf w d h len fun j => xs.getD (off + j) false).brQ at' (ps.getD (0 + i.toNat) Knd.pl.dflt)).dead > 0) == true then decide ((ps.getD (0 + i.toNat) Knd.pl.dflt).dead ≤ 0) else false) then
 bif (ps.getD (0 + i.toNat) Knd.pl.dflt).id == owner then some (.tuple [.nilp, .tuple (valBu1 owner (IntKind.i64.wrap (IntKind.i64.wrap (s - 2) + 1)) ll 1 (IntKind.i64.wrap (i + 1)))], rowBu1 w d h off len xs at' ps [(mpOf w d h len fun j => xs.getD (off + j) false).brQ at' (ps.getD (0 + i.toNat) Knd.pl.dflt)])
 else some (.tuple [.nilp, .tuple (valBu1 owner (IntKind.i64.wrap (s + 1)) ll 1 (IntKind.i64.wrap (i + 1)))], rowBu1 w d h off len xs at' ps [(mpOf w d h len fun j => xs.getD (off + j) false).brQ at' (ps.getD (0 + i.toNat) Knd.pl.dflt)])
 else some (.tuple [.nilp, .tuple (valBu1 owner (s) ll 1 (IntKind.i64.wrap (i + 1)))], rowBu1 w d h off len xs at' ps [(mpOf w d h len fun j => xs.getD (off + j) false).brQ at' (ps.getD (0 + i.toNat) Knd.pl.dflt)])
 else none
 else none
 else none
 else some (.tuple [.ptr 0 0 0 0, .tuple (valBu0 owner s ll i)], rowBu0 w d h off len xs at' ps) := by kernel_rfl
theorem bu_round1 (w d h : Int) (off len : Nat) (xs : List Bool) (at' : V3) (ps ys : List Pl) (owner s : Int) (ll k : Nat) (i : Int) : rdBu (valBu1 owner s ll k i) (rowBu1 w d h off len xs at' ps ys) =
 bif decide (i < (ll : Int)) then
 bif decide (0 ≤ i) && decide (i < (ll : Int)) then
 bif decide (0 + i.toNat < ps.length) then
 bif mapOk w d h len && (fitsB at' && (fitsB (ps.getD (0 + i.toNat) Knd.pl.dflt).pos && decide (off + len ≤ xs.length))) then
 bif (bif decide (((mpOf w d h len fun j => xs.getD (off + j) false).brQ at' (ps.getD (0 + i.toNat) Knd.pl.dflt)).dead > 0) == true then decide ((ps.getD (0 + i.toNat) Knd.pl.dflt).dead ≤ 0) else false) then
 bif (ps.getD (0 + i.toNat) Knd.pl.dflt).id == owner then (bif growsPl k ys ((mpOf w d h len fun j => xs.getD (off + j) false).brQ at' (ps.getD (0 + i.toNat) Knd.pl.dflt)) then some (.tuple [.nilp, .tuple (valBu1 owner (IntKind.i64.wrap (IntKind.i64.wrap (s - 2) + 1)) ll (k + 1) (IntKind.i64.wrap (i + 1)))], rowBu1 w d h off len xs at' ps (ys.take k ++ [(mpOf w d h len fun j => xs.getD (off + j) false).brQ at' (ps.getD (0 + i.toNat) Knd.pl.dflt)])) else none)
 else (bif growsPl k ys ((mpOf w d h len fun j => xs.getD (off + j) false).brQ at' (ps.getD (0 + i.toNat) Knd.pl.dflt)) then some (.tuple [.nilp, .tuple (valBu1 owner (IntKind.i64.wrap (s + 1)) ll (k + 1) (IntKind.i64.wrap (i + 1)))], rowBu1 w d h off len xs at' ps (ys.take k ++ [(mpOf w d h len fun j => xs.getD (off + j) false).brQ at' (ps.getD (0 + i.toNat) Knd.pl.dflt)])) else none)
 else (bif growsPl k ys ((mpOf w d h len fun j => xs.getD (off + j) false).brQ at' (ps.getD (0 + i.toNat) Knd.pl.dflt)) then some (.tuple [.nilp, .tuple (valBu1 owner (s) ll (k + 1) (IntKind.i64.wrap (i + 1)))], rowBu1 w d h off len xs at' ps (ys.take k ++ [(mpOf w d h len fun j => xs.getD (off + j) false).brQ at' (ps.getD (0 + i.toNat) Knd.pl.dflt)])) else none)
 else none
 else none
 else none
 else some (.tuple [.ptr 0 0 0 0, .tuple (valBu1 owner s ll k i)], rowBu1 w d h off len xs at' ps ys) := by kernel_rfl

theorem getD_any {l : List Pl} (z : Pl) {i : Nat} (h : i < l.length) : l.getD i z = l[i] := by
 rw [List.getD_eq_getElem?_getD, List.getElem?_eq_getElem h]
 rfl
def brSc (F : Pl → Pl) (owner : Int) : List Pl → Int → Int
 | [], s => s
 | p :: l, s => brSc F owner l (brS owner p (F p) s)
def buOk (w d h : Int) (off len : Nat) (xs : List Bool) (a : V3) (ps : List Pl) (ll : Nat) : Bool := ((mapOk w d h len && fitsB a) && decide (off + len ≤ xs.length)) && (ps.all (fun p => fitsB p.pos) && (decide (ll = ps.length) && decide (ll ≤ 1000)))
section
variable {w d h : Int} {off len : Nat} {xs : List Bool} {a : V3} {ps : List Pl}
theorem bu_loop1 (hm : mapOk w d h len = true) (ha : fitsB a = true) (hl : decide (off + len ≤ xs.length) = true) (hp : ps.all (fun p => fitsB p.pos) = true) (hL : ps.length ≤ 1000) {owner : Int} : ∀ (n i : Nat) (s : Int) (ys : List Pl), i + n = ps.length → ys.length = i → 0 < i →
    LoopTo rdBu (valBu1 owner s ps.length i i) (rowBu1 w d h off len xs a ps ys) (.exit 0) (valBu1 owner (brSc ((mpOf w d h len fun j => xs.getD (off + j) false).brQ a) owner (ps.drop i) s) ps.length ps.length ps.length) (rowBu1 w d h off len xs a ps (ys ++ (ps.drop i).map ((mpOf w d h len fun j => xs.getD (off + j) false).brQ a)))
 | 0, i, s, ys, h1, h2, h3 => by
  obtain rfl : i = ps.length := by omega
  refine .done ?_ (by simp)
  rw [bu_round1, decide_eq_false (by omega), cond_false, List.drop_length]
  simp only [List.map_nil, List.append_nil]
  rfl
 | n + 1, i, s, ys, h1, h2, h3 => by
  have hi : i < ps.length := by omega
  have hro := bu_round1 w d h off len xs a ps ys owner s ps.length i i
  have e0 : ps.getD (0 + ((i : Int)).toNat) Knd.pl.dflt = ps[i] := by
   rw [show 0 + ((i : Int)).toNat = i by omega]
   exact getD_any _ hi
  have ef : fitsB (ps[i]).pos = true := List.all_eq_true.1 hp _ (List.getElem_mem hi)
  have eg : growsPl i ys ((mpOf w d h len fun j => xs.getD (off + j) false).brQ a ps[i]) = true := by
   unfold growsPl
   rw [decide_eq_true (show 0 + 1 ≤ [(mpOf w d h len fun j => xs.getD (off + j) false).brQ a ps[i]].length by simp), decide_eq_true h3, decide_eq_true (show i ≤ ys.length by omega), decide_eq_true (show i + 1 ≤ 9223372036854775807 by omega), decide_eq_true (show (i + 1) * 120 ≤ 140737488355328 by omega)]
   rfl
  rw [e0, decide_eq_true (show (i : Int) < (ps.length : Int) by omega), decide_eq_true (show (0 : Int) ≤ (i : Int) by omega), decide_eq_true (show 0 + ((i : Int)).toNat < ps.length by omega), hm, ha, ef, hl, eg, IntWalk.i64_in ((i : Int) + 1) (by omega), and_form] at hro
  simp only [Bool.and_self, cond_true] at hro
  have et : ys.take i = ys := by rw [← h2]; exact List.take_length
  rw [et] at hro
  have ih := bu_loop1 hm ha hl hp hL (owner := owner) n (i + 1) (brS owner ps[i] ((mpOf w d h len fun j => xs.getD (off + j) false).brQ a ps[i]) s) (ys ++ [(mpOf w d h len fun j => xs.getD (off + j) false).brQ a ps[i]]) (by omega) (by simp [h2]) (by omega)
  rw [List.append_assoc, List.singleton_append] at ih
  rw [List.drop_eq_getElem_cons hi, List.map_cons]
  refine .more ?_ ih
  rw [hro]
  unfold brS diedB
  cases decide (((mpOf w d h len fun j => xs.getD (off + j) false).brQ a ps[i]).dead > 0) && decide ((ps[i]).dead ≤ 0)
  · rfl
  · cases (ps[i]).id == owner <;> rfl
theorem bu_loop0 (hm : mapOk w d h len = true) (ha : fitsB a = true) (hl : decide (off + len ≤ xs.length) = true) (hp : ps.all (fun p => fitsB p.pos) = true) (hL : ps.length ≤ 1000) (h0 : 0 < ps.length) {owner : Int} :
    LoopTo rdBu (valBu0 owner 0 ps.length 0) (rowBu0 w d h off len xs a ps) (.exit 0) (valBu1 owner (brSc ((mpOf w d h len fun j => xs.getD (off + j) false).brQ a) owner ps 0) ps.length ps.length ps.length) (rowBu1 w d h off len xs a ps (ps.map ((mpOf w d h len fun j => xs.getD (off + j) false).brQ a))) := by
 have hro := bu_round0 w d h off len xs a ps owner 0 ps.length 0
 have e0 : ps.getD (0 + (0 : Int).toNat) Knd.pl.dflt = ps[0] := by
  rw [show 0 + (0 : Int).toNat = 0 from rfl]
  exact getD_any _ h0
 have ef : fitsB (ps[0]).pos = true := List.all_eq_true.1 hp _ (List.getElem_mem h0)
 rw [e0, decide_eq_true (show (0 : Int) < (ps.length : Int) by omega), decide_eq_true (show (0 : Int) ≤ 0 by omega), decide_eq_true (show 0 + (0 : Int).toNat < ps.length by have : (0 : Int).toNat = 0 := rfl; omega), hm, ha, ef, hl, and_form] at hro
 simp only [Bool.and_self, cond_true] at hro
 have ih := bu_loop1 hm ha hl hp hL (owner := owner) (ps.length - 1) 1 (brS owner ps[0] ((mpOf w d h len fun j => xs.getD (off + j) false).brQ a ps[0]) 0) [(mpOf w d h len fun j => xs.getD (off + j) false).brQ a ps[0]] (by omega) rfl (by omega)
 have ed : ps = ps[0] :: ps.drop 1 := by
  have := List.drop_eq_getElem_cons h0
  rw [List.drop_zero] at this
  exact this
 have em : ps.map ((mpOf w d h len fun j => xs.getD (off + j) false).brQ a) = [(mpOf w d h len fun j => xs.getD (off + j) false).brQ a ps[0]] ++ (ps.drop 1).map ((mpOf w d h len fun j => xs.getD (off + j) false).brQ a) := by
  rw [List.singleton_append, ← List.map_cons, ← ed]
 have es : brSc ((mpOf w d h len fun j => xs.getD (off + j) false).brQ a) owner ps 0 = brSc ((mpOf w d h len fun j => xs.getD (off + j) false).brQ a) owner (ps.drop 1) (brS owner ps[0] ((mpOf w d h len fun j => xs.getD (off + j) false).brQ a ps[0]) 0) := by
  have : brSc ((mpOf w d h len fun j => xs.getD (off + j) false).brQ a) owner (ps[0] :: ps.drop 1) 0 = brSc ((mpOf w d h len fun j => xs.getD (off + j) false).brQ a) owner (ps.drop 1) (brS owner ps[0] ((mpOf w d h len fun j => xs.getD (off + j) false).brQ a ps[0]) 0) := rfl
  rwa [← ed] at this
 rw [em, es]
 refine .more ?_ ih
 rw [hro]
 unfold brS diedB
 cases decide (((mpOf w d h len fun j => xs.getD (off + j) false).brQ a ps[0]).dead > 0) && decide ((ps[0]).dead ≤ 0)
 · rfl
 · cases (ps[0]).id == owner <;> rfl
end
noncomputable def outBu (v : List SV) (R : List Row) (k : Ex → List SV → List Row → Option Res2) : Option Res2 := match v, R with
 | [.int .i64 owner, .ptr 2 0 0 0, .ptr 3 0 0 0, .nils, .nils, .int .i64 s, .slice 1 15 0 ll none, .int .i64 l2, .int .i64 i], [.vec true .bool xs, .vec true .pl ps, .own [.int .i64 w, .int .i64 d, .int .i64 h, .slice 0 1 off len none, .unk], .own [.int .i64 ax, .int .i64 ay, .int .i64 az]] =>
     bif ((decide (s = 0) && decide (i = 0)) && decide (l2 = (ll : Int))) && buOk w d h off len xs ⟨ax, ay, az⟩ ps ll then
      (bif Nat.beq ll 0 then k (.exit 0) (valBu0 owner 0 ll 0) (rowBu0 w d h off len xs ⟨ax, ay, az⟩ ps)
      else k (.exit 0) (valBu1 owner (brSc ((mpOf w d h len fun j => xs.getD (off + j) false).brQ ⟨ax, ay, az⟩) owner ps 0) ll ll ll) (rowBu1 w d h off len xs ⟨ax, ay, az⟩ ps (ps.map ((mpOf w d h len fun j => xs.getD (off + j) false).brQ ⟨ax, ay, az⟩)))) else none
 | _, _ => none
theorem lpoBu_ok : LpOk 57 [0, 1, 0, 1, 1, 1] (loopF 72 [2, 4, 5, 8, 9, 10, 15, 16, 17] outBu) := by
 intro b hat s K r h
 refine loopF_ok (fuel := 100) xBu_ok lok_none hat (fun v R k r hr => ?_) h
 have hbody := at_body Try.func57 hat
 subst hbody
 unfold outBu at hr
 split at hr
 · rename_i owner s ll l2 i xs ps w d h off len ax ay az
   obtain ⟨hb, hr2⟩ := cond_some hr
   unfold buOk at hb
   simp only [Bool.and_eq_true, decide_eq_true_eq] at hb
   obtain ⟨⟨⟨rfl, rfl⟩, rfl⟩, ⟨⟨h1, h2⟩, h3⟩, h4, h5, h6⟩ := hb
   have e1 : ll = List.length (α := Pl) ps := h5
   subst e1
   cases h0 : Nat.beq (List.length (α := Pl) ps) 0 with
   | true =>
    rw [h0, cond_true] at hr2
    have hz := Nat.eq_of_beq_eq_true h0
    refine ⟨_, _, _, hr2, .done ?_ (by simp)⟩
    have hro := bu_round0 w d h off len xs ⟨ax, ay, az⟩ ps owner 0 (List.length (α := Pl) ps) 0
    rw [decide_eq_false (by omega)] at hro
    exact hro
   | false =>
    rw [h0, cond_false] at hr2
    have hz := Nat.ne_of_beq_eq_false h0
    exact ⟨_, _, _, hr2, bu_loop0 h1 h2 (decide_eq_true h3) h4 h6 (by omega)⟩
 · cases hr
noncomputable def lpoBu : Lpo := ⟨_, _, _, lpoBu_ok⟩

def Pl.scored (p : Pl) (s : Int) : Pl := ⟨p.id, p.pos, p.vel, p.ground, p.health, p.armour, IntKind.i64.wrap (p.score + s), p.a0, p.a1, p.wait, p.dead⟩
def bumpP (owner s : Int) (q : Pl) : Pl := bif q.id == owner then q.scored s else q
def valBv (owner s : Int) (k : Nat) (n i : Int) : List SV := [.int .i64 owner, .nils, .slice 4 15 0 k none, .int .i64 s, .int .i64 n, .int .i64 i]
def valBz (owner s : Int) (n i : Int) : List SV := [.int .i64 owner, .nils, .nils, .int .i64 s, .int .i64 n, .int .i64 i]
noncomputable def rdBv (n0 : Nat) : List SV → List Row → Option Res2 := roundS xBu (fun _ _ => none) 100 57 [0, 1, 0, 1, 1, 1, 1] (bodyAt Try.f57 [0, 1, 0, 1, 1, 1, 1]) 72 n0 [2, 8, 9, 10, 50, 51]
theorem bv_round (w d h : Int) (off len : Nat) (xs : List Bool) (at' : V3) (ps ys : List Pl) (owner s : Int) (k : Nat) (n i : Int) : rdBv 5 (valBv owner s k n i) (rowBu1 w d h off len xs at' ps ys) =
 bif decide (i < n) then
 bif decide (0 ≤ i) && decide (i < (k : Int)) then
 bif decide (0 + i.toNat < ys.length) then
 bif (ys.getD (0 + i.toNat) Knd.pl.dflt).id == owner then
 bif decide (0 ≤ i) && decide (i < (k : Int)) then
 bif decide (0 + i.toNat < ys.length) then
 bif decide (0 ≤ i) && decide (i < (k : Int)) then
 bif decide (0 + i.toNat < ys.length) then
 some (.tuple [.nilp, .tuple (valBv owner s k n (IntKind.i64.wrap (i + 1)))], rowBu1 w d h off len xs at' ps (ys.set (0 + i.toNat) (Pl.scored (ys.getD (0 + i.toNat) Knd.pl.dflt) s)))
 else none
 else none
 else none
 else none
 else some (.tuple [.nilp, .tuple (valBv owner s k n (IntKind.i64.wrap (i + 1)))], rowBu1 w d h off len xs at' ps ys)
 else none
 else none
 else some (.tuple [.ptr 5 0 0 0, .tuple (valBv owner s k n i)], rowBu1 w d h off len xs at' ps ys) := by kernel_rfl
theorem bz_round (w d h : Int) (off len : Nat) (xs : List Bool) (at' : V3) (ps : List Pl) (owner s : Int) : rdBv 4 (valBz owner s 0 0) (rowBu0 w d h off len xs at' ps) = some (.tuple [.ptr 5 0 0 0, .tuple (valBz owner s 0 0)], rowBu0 w d h off len xs at' ps) := by kernel_rfl
section
variable {w d h : Int} {off len : Nat} {xs : List Bool} {a : V3} {ps : List Pl}
theorem bv_loop {owner s : Int} : ∀ (n i : Nat) (ys : List Pl), i + n = ys.length → ys.length ≤ 1000 →
    LoopTo (rdBv 5) (valBv owner s ys.length ys.length i) (rowBu1 w d h off len xs a ps ys) (.exit 5) (valBv owner s ys.length ys.length ys.length) (rowBu1 w d h off len xs a ps (ys.take i ++ (ys.drop i).map (bumpP owner s)))
 | 0, i, ys, h1, h2 => by
  obtain rfl : i = ys.length := by omega
  refine .done ?_ (by simp)
  rw [bv_round, decide_eq_false (by omega), cond_false, List.drop_length, List.take_length]
  simp only [List.map_nil, List.append_nil]
  rfl
 | n + 1, i, ys, h1, h2 => by
  have hi : i < ys.length := by omega
  have hro := bv_round w d h off len xs a ps ys owner s ys.length ys.length i
  have e0 : ys.getD (0 + ((i : Int)).toNat) Knd.pl.dflt = ys[i] := by
   rw [show 0 + ((i : Int)).toNat = i by omega]
   exact getD_any _ hi
  rw [e0, decide_eq_true (show (i : Int) < (ys.length : Int) by omega), decide_eq_true (show (0 : Int) ≤ (i : Int) by omega), decide_eq_true (show 0 + ((i : Int)).toNat < ys.length by omega), IntWalk.i64_in ((i : Int) + 1) (by omega), show 0 + ((i : Int)).toNat = i by omega] at hro
  simp only [Bool.and_self, cond_true] at hro
  cases hc : (ys[i]).id == owner with
  | false =>
   rw [hc, cond_false] at hro
   have ih := bv_loop (owner := owner) (s := s) n (i + 1) ys (by omega) h2
   have e : ys.take (i + 1) ++ (ys.drop (i + 1)).map (bumpP owner s) = ys.take i ++ (ys.drop i).map (bumpP owner s) := by
    rw [List.drop_eq_getElem_cons hi, List.map_cons, List.take_add_one, List.getElem?_eq_getElem hi, show bumpP owner s ys[i] = ys[i] by unfold bumpP; rw [hc]; rfl]
    simp only [Option.toList_some, List.append_assoc, List.singleton_append, List.cons_append, List.nil_append]
   rw [e] at ih
   exact .more hro ih
  | true =>
   rw [hc, cond_true] at hro
   have hl : (ys.set i (Pl.scored ys[i] s)).length = ys.length := List.length_set ..
   have ih := bv_loop (owner := owner) (s := s) n (i + 1) (ys.set i (Pl.scored ys[i] s)) (by omega) (by omega)
   rw [hl] at ih
   have e : (ys.set i (Pl.scored ys[i] s)).take (i + 1) ++ ((ys.set i (Pl.scored ys[i] s)).drop (i + 1)).map (bumpP owner s) = ys.take i ++ (ys.drop i).map (bumpP owner s) := by
    rw [List.drop_eq_getElem_cons hi, List.map_cons, List.take_add_one, List.getElem?_set_self hi, List.take_set_of_le (by omega), List.drop_set_of_lt (by omega), show bumpP owner s ys[i] = Pl.scored ys[i] s by unfold bumpP; rw [hc]; rfl]
    simp only [Option.toList_some, List.append_assoc, List.singleton_append, List.cons_append, List.nil_append]
   rw [e] at ih
   exact .more hro ih
theorem bv_loop0 {owner s : Int} {ys : List Pl} (h2 : ys.length ≤ 1000) :
    LoopTo (rdBv 5) (valBv owner s ys.length ys.length 0) (rowBu1 w d h off len xs a ps ys) (.exit 5) (valBv owner s ys.length ys.length ys.length) (rowBu1 w d h off len xs a ps (ys.map (bumpP owner s))) := by
 have key := bv_loop (w := w) (d := d) (h := h) (off := off) (len := len) (xs := xs) (a := a) (ps := ps) (owner := owner) (s := s) ys.length 0 ys (by omega) h2
 rw [List.take_zero, List.nil_append, List.drop_zero] at key
 exact key
end

noncomputable def outBv (v : List SV) (R : List Row) (k : Ex → List SV → List Row → Option Res2) : Option Res2 := match v, R with
 | [.int .i64 owner, .nils, .slice 4 15 0 kk none, .int .i64 s, .int .i64 n, .int .i64 i], [.vec true .bool xs, .vec true .pl ps, .own [.int .i64 w, .int .i64 d, .int .i64 h, .slice 0 1 off len none, .unk], .own [.int .i64 ax, .int .i64 ay, .int .i64 az], .vec false .pl ys] =>
     bif (decide (i = 0) && decide (n = (kk : Int))) && (decide (kk = ys.length) && decide (kk ≤ 1000)) then
      k (.exit 5) (valBv owner s kk kk kk) (rowBu1 w d h off len xs ⟨ax, ay, az⟩ ps (ys.map (bumpP owner s))) else none
 | [.int .i64 owner, .nils, .nils, .int .i64 s, .int .i64 n, .int .i64 i], [.vec true .bool xs, .vec true .pl ps, .own [.int .i64 w, .int .i64 d, .int .i64 h, .slice 0 1 off len none, .unk], .own [.int .i64 ax, .int .i64 ay, .int .i64 az]] =>
     bif decide (i = 0) && decide (n = 0) then k (.exit 5) (valBz owner s 0 0) (rowBu0 w d h off len xs ⟨ax, ay, az⟩ ps) else none
 | _, _ => none
theorem lpoBv_ok : LpOk 57 [0, 1, 0, 1, 1, 1, 1] (loopF 72 [2, 8, 9, 10, 50, 51] outBv) := by
 intro b hat s K r h
 refine loopF_ok (fuel := 100) xBu_ok lok_none hat (fun v R k r hr => ?_) h
 have hbody := at_body Try.func57 hat
 subst hbody
 unfold outBv at hr
 split at hr
 · rename_i owner kk s n i xs ps w d h off len ax ay az ys
   obtain ⟨hb, hr2⟩ := cond_some hr
   simp only [Bool.and_eq_true, decide_eq_true_eq] at hb
   obtain ⟨⟨rfl, rfl⟩, h1, h2⟩ := hb
   have e1 : kk = List.length (α := Pl) ys := h1
   subst e1
   exact ⟨_, _, _, hr2, bv_loop0 (w := w) (d := d) (h := h) (off := off) (len := len) (xs := xs) (a := ⟨ax, ay, az⟩) (ps := ps) (owner := owner) (s := s) (ys := ys) h2⟩
 · rename_i owner s n i xs ps w d h off len ax ay az
   obtain ⟨hb, hr2⟩ := cond_some hr
   simp only [Bool.and_eq_true, decide_eq_true_eq] at hb
   obtain ⟨rfl, rfl⟩ := hb
   exact ⟨_, _, _, hr2, .done (bz_round w d h off len xs ⟨ax, ay, az⟩ ps owner s) (by simp)⟩
 · cases hr
noncomputable def lpoBv : Lpo := ⟨_, _, _, lpoBv_ok⟩

def burstL (F : Pl → Pl) (owner : Int) (ps : List Pl) : List Pl := (ps.map F).map (bumpP owner (brSc F owner ps 0))
theorem burst_tree (w d h : Int) (off len : Nat) (xs : List Bool) (a : V3) (ps : List Pl) (owner : Int) (ll : Nat) : runK xBu (loopOf [lpoBu, lpoBv]) 300 57 Try.f57 9 [mapS w d h (.slice 0 1 off len none) .unk, .agg a.sv, .int .i64 owner, .slice 1 15 0 ll none] [.vec true .bool xs, .vec true .pl ps] =
 bif decide ((ll : Int) = (ll : Int)) && buOk w d h off len xs a ps ll then
 bif Nat.beq ll 0 then some (.nils, rowBu0 w d h off len xs a ps)
 else bif decide ((ll : Int) = (ll : Int)) && (decide (ll = (ps.map ((mpOf w d h len fun j => xs.getD (off + j) false).brQ a)).length) && decide (ll ≤ 1000)) then some (.slice 4 15 0 ll none, rowBu1 w d h off len xs a ps (burstL ((mpOf w d h len fun j => xs.getD (off + j) false).brQ a) owner ps)) else none
 else none := by kernel_rfl
theorem burst_len (F : Pl → Pl) (owner : Int) (ps : List Pl) : (burstL F owner ps).length = ps.length := by
 unfold burstL
 rw [List.length_map, List.length_map]
theorem burst_nil (F : Pl → Pl) (owner : Int) : burstL F owner [] = [] := rfl
theorem rel_map {ρ : Rho} {w d h : Int} {id off len : Nat} {cap : Option Nat} {sp : SV} {u : Value} (hsp : sp.one = true) (h1 : Rel ρ (.agg [.int .i64 w, .int .i64 d, .int .i64 h, .slice id 1 off len cap, sp]) u) : Rel ρ (mapS w d h (.slice id 1 off len none) .unk) u := by
 unfold mapS
 simp only [Rel] at h1 ⊢
 obtain ⟨vs, hu, hr⟩ := h1
 refine ⟨vs, hu, ?_⟩
 simp only [RelL, Rel] at hr ⊢
 obtain ⟨a1, l1, rfl, h1, a2, l2, rfl, h2, a3, l3, rfl, h3, a4, l4, rfl, h4, a5, l5, rfl, h5, rfl⟩ := hr
 refine ⟨_, _, rfl, h1, _, _, rfl, h2, _, _, rfl, h3, _, _, rfl, ?_, _, _, rfl, one_unk h5 hsp, rfl⟩
 rcases h4 with ⟨p, o, c, hp, hs, hcap, ho, hlc, hsz⟩ | ⟨h6, _, h7⟩
 · refine .inl ⟨p, o, c, hp, hs, by simp, ?_, hlc, hsz⟩
   rcases ho with ho | ⟨ho, _⟩
   · exact .inl ho
   · exact .inr ⟨ho, trivial⟩
 · exact .inr ⟨h6, trivial, h7⟩
noncomputable def oBurst (args : List SV) (rows : List Row) : Option Eff :=
 match args with
 | [.agg [.int .i64 w, .int .i64 d, .int .i64 h, .slice id st off len cap, sp], .agg [.int .i64 x, .int .i64 y, .int .i64 z], .int .i64 owner, .slice ip 15 0 ll cp] => match rows[id]?, rows[ip]? with
  | some (.vec _ .bool xs), some (.vec _ .pl ps) => bif Nat.beq st 1 && sp.one then some { ok := buOk w d h off len xs ⟨x, y, z⟩ ps ll, val := .slice rows.length 15 0 (burstL ((mpOf w d h len fun j => xs.getD (off + j) false).brQ ⟨x, y, z⟩) owner ps).length none, rd := [id, ip], nw := [.vec true .pl (burstL ((mpOf w d h len fun j => xs.getD (off + j) false).brQ ⟨x, y, z⟩) owner ps)] } else none
  | _, _ => none
 | _ => none
theorem bu_get {rows' : List Row} {w d h : Int} {off len : Nat} {xs : List Bool} {a : V3} {ps ys : List Pl} (ht : rows'.take 9 = rowBu1 w d h off len xs a ps ys) : rows'[4]? = some (.vec false .pl ys) := by
 have : (rows'.take 9)[4]? = some (.vec false .pl ys) := by rw [ht]; rfl
 rw [List.getElem?_take] at this
 exact this
theorem burst_main {w d h : Int} {off len : Nat} {xs : List Bool} {a : V3} {ps : List Pl} {owner : Int} {rows : List Row} {id ip : Nat} {ra rb ok : Bool} (h1 : rows[id]? = some (.vec ra .bool xs)) (h2 : rows[ip]? = some (.vec rb .pl ps)) (hok : buOk w d h off len xs a ps ps.length = true) :
    FnOk Try.prog 57 [mapS w d h (.slice id 1 off len none) .unk, .agg a.sv, .int .i64 owner, .slice ip 15 0 ps.length none] (rows[·]?) rows.length { ok := ok, val := .slice rows.length 15 0 (burstL ((mpOf w d h len fun j => xs.getD (off + j) false).brQ a) owner ps).length none, rd := [id, ip], nw := [.vec true .pl (burstL ((mpOf w d h len fun j => xs.getD (off + j) false).brQ a) owner ps)] } := by
 have hv := burst_tree w d h off len xs a ps owner ps.length
 rw [hok, decide_eq_true rfl, Bool.true_and, cond_true] at hv
 have hm : ∀ (i : Nat) (row : Row), ([.vec true .bool xs, .vec true .pl ps] : List Row)[i]? = some row → ∃ (k : Knd) (zs : List k.T) (ro : Bool), row = .vec true k zs ∧ (rows[·]?) (atR [id, ip] rows.length i) = some (.vec ro k zs) := by
  intro i row hr
  match i with
  | 0 => simp at hr; subst hr; exact ⟨.bool, xs, ra, rfl, h1⟩
  | 1 => simp at hr; subst hr; exact ⟨.pl, ps, rb, rfl, h2⟩
  | i + 2 => simp at hr
 have ha : ∀ i ∈ SV.idsL [mapS w d h (.slice 0 1 off len none) .unk, .agg a.sv, .int .i64 owner, .slice 1 15 0 ps.length none], i < ([.vec true .bool xs, .vec true .pl ps] : List Row).length := by
  intro i hi
  simp [mapS, SV.idsL, SV.ids, V3.sv] at hi
  simp
  omega
 cases h0 : Nat.beq ps.length 0 with
 | true =>
  rw [h0, cond_true] at hv
  have hz := Nat.eq_of_beq_eq_true h0
  obtain ⟨rows', hc, ht⟩ := runK_ok xBu_ok loopOf_ok Try.func57 hv
  have hb : burstL ((mpOf w d h len fun j => xs.getD (off + j) false).brQ a) owner ps = [] := by
   rw [List.length_eq_zero_iff.1 hz]
   rfl
  exact fnOk_freshK (k := .pl) hc (σ := [id, ip]) rfl ha hm (.inl ⟨rfl, hb⟩)
 | false =>
  have hL : ps.length ≤ 1000 := by
   unfold buOk at hok
   simp only [Bool.and_eq_true, decide_eq_true_eq] at hok
   exact hok.2.2.2
  rw [h0, cond_false, List.length_map, decide_eq_true rfl, decide_eq_true hL] at hv
  simp only [Bool.and_self, cond_true] at hv
  obtain ⟨rows', hc, ht⟩ := runK_ok xBu_ok loopOf_ok Try.func57 hv
  exact fnOk_freshK (k := .pl) (ds := burstL ((mpOf w d h len fun j => xs.getD (off + j) false).brQ a) owner ps) hc (σ := [id, ip]) rfl ha hm (.inr ⟨4, none, false, burstL ((mpOf w d h len fun j => xs.getD (off + j) false).brQ a) owner ps, congrArg (fun q => SV.slice 4 15 0 q none) (burst_len _ _ _).symm, by simp, bu_get ht, fun i hi => rfl⟩)
theorem oBurst_ok {args : List SV} {rows : List Row} {e : Eff} (h : oBurst args rows = some e) (hok : e.ok = true) : FnOk Try.prog 57 args (rows[·]?) rows.length e := by
 unfold oBurst at h
 split at h
 · rename_i w d hh id st off len cap sp x y z owner ip ll cp
   split at h
   · rename_i ra xs rb ps h1 h2
     obtain ⟨hb, h⟩ := cond_some h
     cases h
     rw [Bool.and_eq_true] at hb
     have hst := Nat.eq_of_beq_eq_true hb.1
     subst hst
     have hok : buOk w d hh off len xs ⟨x, y, z⟩ ps ll = true := hok
     have e1 : ll = List.length (α := Pl) ps := by
      have := hok
      unfold buOk at this
      simp only [Bool.and_eq_true, decide_eq_true_eq] at this
      exact this.2.2.1
     subst e1
     refine fnOk_weaken (args := [mapS w d hh (.slice id 1 off len none) .unk, .agg [.int .i64 x, .int .i64 y, .int .i64 z], .int .i64 owner, .slice ip 15 0 (List.length (α := Pl) ps) none]) (burst_main (a := ⟨x, y, z⟩) (xs := xs) (ps := ps) h1 h2 hok) fun ρ vs hr => ?_
     rw [RelL] at hr ⊢
     obtain ⟨u, us, rfl, k1, k2⟩ := hr
     refine ⟨u, us, rfl, rel_map hb.2 k1, ?_⟩
     rw [RelL] at k2 ⊢
     obtain ⟨u, us, rfl, k1, k2⟩ := k2
     refine ⟨u, us, rfl, k1, ?_⟩
     rw [RelL] at k2 ⊢
     obtain ⟨u, us, rfl, k1, k2⟩ := k2
     refine ⟨u, us, rfl, k1, ?_⟩
     rw [RelL] at k2 ⊢
     obtain ⟨u, us, rfl, k1, k2⟩ := k2
     exact ⟨u, us, rfl, rel_nocap k1, k2⟩
   · cases h
 · cases h
noncomputable def orcBurst : Orc := ⟨57, oBurst, fun _ _ _ h hok => oBurst_ok h hok, bodied Try.func57 (by kernel_rfl)⟩

end Go.Proofs.Ytimkhidniolpeaa
