/- The small machine: contracts of fix, put for lists of contracts; laws for trees. Package grid by the small machine: sized, Solid, At, Clear as contracts. The small machine: contracts of fix and grid. arms: as contracts. -/
import Derived.Test.YtimkhidniolpeaaFx
namespace Go.Proofs.Ytimkhidniolpeaa
set_option linter.unusedSimpArgs false
set_option linter.unusedVariables false
set_option maxRecDepth 100000
set_option maxHeartbeats 0
open Go.RowKit

noncomputable def orcPlus : Orc := ⟨46, fun args _ => oPlus args, fun _ _ _ h hok => oPlus_ok h hok, bodied Try.func46 (by kernel_rfl)⟩

noncomputable def orcMinus : Orc := ⟨45, fun args _ => oMinus args, fun _ _ _ h hok => oMinus_ok h hok, bodied Try.func45 (by kernel_rfl)⟩

theorem bif_law {α : Type} {c : Bool} {x y r : α} (h1 : c = true → x = r) (h2 : c = false → y = r) : (bif c then x else y) = r := by cases c; exact h2 rfl; exact h1 rfl
theorem bif_true {α : Type} {c : Bool} {x y r : α} (hc : c = true) (h : x = r) : (bif c then x else y) = r := by subst hc; exact h
theorem bif_false {α : Type} {c : Bool} {x y r : α} (hc : c = false) (h : y = r) : (bif c then x else y) = r := by subst hc; exact h
theorem or_form (c d : Bool) : (bif c == false then d else true) = (c || d) := by cases c <;> rfl
theorem and_form (c d : Bool) : (bif c == true then d else false) = (c && d) := by cases c <;> rfl
theorem i64_div {a : Int} (h : In64 a) : in64B (a.fdiv (2 ^ min (Int.toNat 16) IntKind.i64.bits)) = true := by
 have p16 : (2 ^ min (Int.toNat 16) IntKind.i64.bits : Int) = 65536 := by decide
 rw [p16, Int.fdiv_eq_ediv_of_nonneg a (by omega), in64B_iff]
 unfold In64 at h ⊢
 omega
theorem div16 (a : Int) : a.fdiv (2 ^ min (Int.toNat 16) IntKind.i64.bits) = a / 65536 := by
 have p16 : (2 ^ min (Int.toNat 16) IntKind.i64.bits : Int) = 65536 := by decide
 rw [p16, Int.fdiv_eq_ediv_of_nonneg a (by omega)]
theorem i64_div' {a : Int} (h : In64 a) : in64B (a / 65536) = true := by
 rw [in64B_iff]
 unfold In64 at h ⊢
 omega

end Go.Proofs.Ytimkhidniolpeaa

namespace Go.Proofs.Ytimkhidniolpeaa
set_option linter.unusedSimpArgs false
set_option linter.unusedVariables false
set_option maxRecDepth 100000
set_option maxHeartbeats 0
open Go.RowKit

structure Mp where
 w : Int
 d : Int
 h : Int
 ptr : Option Addr
 len : Nat
 cap : Nat
 sp : Value
 s : Nat → Bool
def sideB (n : Int) : Bool := decide (1 ≤ n) && decide (n ≤ 32)
def inB (n side : Int) : Bool := decide (0 ≤ n) && decide (n < side)
def Mp.sized (m : Mp) : Bool := sideB m.w && sideB m.d && sideB m.h && ((m.len : Int) == m.w * m.d * m.h)
def Mp.idx (m : Mp) (x y z : Int) : Nat := ((z * m.d + y) * m.w + x).toNat
def Mp.solid (m : Mp) (x y z : Int) : Bool := !m.sized || !inB x m.w || !inB y m.d || !inB z m.h || m.s (m.idx x y z)
theorem Mp.idx_lt {m : Mp} {x y z : Int} (hs : m.sized = true) (hx : inB x m.w = true) (hy : inB y m.d = true) (hz : inB z m.h = true) :
    0 ≤ z * m.d ∧ z * m.d ≤ 1024 ∧ 0 ≤ (z * m.d + y) * m.w ∧ (z * m.d + y) * m.w ≤ 65536 ∧ (z * m.d + y) * m.w + x = ((m.idx x y z : Nat) : Int) ∧ m.idx x y z < m.len := by
 unfold Mp.sized sideB at hs
 unfold inB at hx hy hz
 simp only [Bool.and_eq_true, decide_eq_true_eq, beq_iff_eq] at hs hx hy hz
 obtain ⟨⟨⟨hw, hd⟩, hh⟩, hl⟩ := hs
 have a1 : 0 ≤ z * m.d := Int.mul_nonneg hz.1 (by omega)
 have a2 : z * m.d ≤ (m.h - 1) * m.d := Int.mul_le_mul_of_nonneg_right (by omega) (by omega)
 have a3 : (m.h - 1) * m.d ≤ 31 * 32 := Int.mul_le_mul (by omega) (by omega) (by omega) (by omega)
 have b0 : z * m.d + y ≤ m.h * m.d - 1 := by
  have : (m.h - 1) * m.d = m.h * m.d - m.d := by rw [Int.sub_mul, Int.one_mul]
  omega
 have b1 : 0 ≤ (z * m.d + y) * m.w := Int.mul_nonneg (by omega) (by omega)
 have b2 : (z * m.d + y) * m.w ≤ (m.h * m.d - 1) * m.w := Int.mul_le_mul_of_nonneg_right b0 (by omega)
 have b3 : (z * m.d + y) * m.w ≤ 1023 * 32 := Int.mul_le_mul (by omega) (by omega) (by omega) (by omega)
 have c : (m.h * m.d - 1) * m.w = m.w * m.d * m.h - m.w := by
  rw [Int.sub_mul, Int.one_mul, Int.mul_comm m.h, Int.mul_comm (m.d * m.h), ← Int.mul_assoc]
 unfold Mp.idx
 refine ⟨a1, by omega, b1, by omega, by omega, by omega⟩
def Mp.boxFree (m : Mp) (x0 x1 y0 y1 z0 z1 : Int) : Prop := ∀ i j k, x0 ≤ i → i ≤ x1 → y0 ≤ j → j ≤ y1 → z0 ≤ k → k ≤ z1 → m.solid i j k = false

def Mp.Clear (m : Mp) (lo hi : V3) : Prop := hi.x ≤ lo.x ∨ hi.y ≤ lo.y ∨ hi.z ≤ lo.z ∨ m.boxFree (lo.x / 65536) ((hi.x - 1) / 65536) (lo.y / 65536) ((hi.y - 1) / 65536) (lo.z / 65536) ((hi.z - 1) / 65536)

open Classical in
noncomputable def Mp.clear (m : Mp) (lo hi : V3) : Bool := decide (m.Clear lo hi)

open Classical in
theorem Mp.clear_true {m : Mp} {lo hi : V3} (h : m.Clear lo hi) : m.clear lo hi = true := by unfold Mp.clear; exact decide_eq_true h
open Classical in
theorem Mp.clear_false {m : Mp} {lo hi : V3} (h : ¬ m.Clear lo hi) : m.clear lo hi = false := by unfold Mp.clear; exact decide_eq_false h
open Classical in
theorem Mp.clear_iff {m : Mp} {lo hi : V3} : m.clear lo hi = true ↔ m.Clear lo hi := by unfold Mp.clear; exact decide_eq_true_iff

theorem Mp.solid_in {m : Mp} {x y z : Int} (h : m.solid x y z = false) : (0 ≤ x ∧ x < 32) ∧ (0 ≤ y ∧ y < 32) ∧ (0 ≤ z ∧ z < 32) := by
 unfold Mp.solid at h
 simp only [Bool.or_eq_false_iff, Bool.not_eq_false'] at h
 obtain ⟨⟨⟨⟨h0, h1⟩, h2⟩, h3⟩, _⟩ := h
 unfold Mp.sized sideB at h0
 unfold inB at h1 h2 h3
 simp only [Bool.and_eq_true, decide_eq_true_eq, beq_iff_eq] at h0 h1 h2 h3
 omega
theorem prod_in {a b A B : Int} (ha : 1 ≤ a ∧ a ≤ A) (hb : 1 ≤ b ∧ b ≤ B) : 1 ≤ a * b ∧ a * b ≤ A * B := by
 have h1 := Int.mul_le_mul_of_nonneg_left hb.1 (show 0 ≤ a by omega)
 have h2 := Int.mul_le_mul ha.2 hb.2 (by omega) (by omega)
 rw [Int.mul_one] at h1
 exact ⟨by omega, h2⟩
theorem sized_iff {m : Mp} : m.sized = true ↔ ((1 ≤ m.w ∧ m.w ≤ 32) ∧ (1 ≤ m.d ∧ m.d ≤ 32) ∧ (1 ≤ m.h ∧ m.h ≤ 32)) ∧ (m.len : Int) = m.w * m.d * m.h := by
 unfold Mp.sized sideB
 simp only [Bool.and_eq_true, decide_eq_true_eq, beq_iff_eq]
 constructor
 · rintro ⟨⟨⟨h1, h2⟩, h3⟩, h4⟩; exact ⟨⟨by omega, by omega, by omega⟩, h4⟩
 · rintro ⟨⟨h1, h2, h3⟩, h4⟩; exact ⟨⟨⟨by omega, by omega⟩, by omega⟩, h4⟩
def mpOf (w d h : Int) (len : Nat) (s : Nat → Bool) : Mp := ⟨w, d, h, none, len, 0, undef, s⟩
def mapOk (w d h : Int) (len : Nat) : Bool := in64B w && (in64B d && (in64B h && decide (len ≤ 9223372036854775807)))
theorem solid_same (m : Mp) (x y z : Int) : m.solid x y z = (mpOf m.w m.d m.h m.len m.s).solid x y z := rfl
theorem clear_same (m : Mp) (a b : V3) : m.clear a b = (mpOf m.w m.d m.h m.len m.s).clear a b := rfl
def boxV : V3 := ⟨26214, 26214, 58982⟩
theorem boxV_fits : boxV.fits := ⟨by show In64 26214; unfold In64; omega, by show In64 26214; unfold In64; omega, by show In64 58982; unfold In64; omega⟩
theorem plus_fits (a b : V3) : (a.plus b).fits := ⟨cut64_fits _, cut64_fits _, cut64_fits _⟩
theorem minus_fits (a b : V3) : (a.minus b).fits := ⟨cut64_fits _, cut64_fits _, cut64_fits _⟩
noncomputable def Mp.free (m : Mp) (p : V3) : Bool := m.clear (p.minus boxV) (p.plus boxV)
theorem free_same (m : Mp) (p : V3) : m.free p = (mpOf m.w m.d m.h m.len m.s).free p := rfl

def anyB (p : Int → Bool) : Nat → Int → Bool
 | 0, _ => false
 | k + 1, i => bif p i then true else anyB p k (i + 1)
def posB (p : Int → Bool) : Nat → Int → Int
 | 0, i => i
 | k + 1, i => bif p i then i else posB p k (i + 1)
theorem anyB_iff {p : Int → Bool} : ∀ {k : Nat} {i : Int}, anyB p k i = true ↔ ∃ j, i ≤ j ∧ j < i + k ∧ p j = true
 | 0, i => by
  simp only [anyB]
  constructor
  · intro h; cases h
  · rintro ⟨j, h1, h2, _⟩; omega
 | k + 1, i => by
  unfold anyB
  cases hp : p i with
  | true => simp only [cond_true, true_iff]; exact ⟨i, by omega, by omega, hp⟩
  | false =>
   simp only [cond_false]
   rw [anyB_iff]
   constructor
   · rintro ⟨j, h1, h2, h3⟩; exact ⟨j, by omega, by omega, h3⟩
   · rintro ⟨j, h1, h2, h3⟩
     have : j ≠ i := fun h => by rw [h, hp] at h3; cases h3
     exact ⟨j, by omega, by omega, h3⟩
theorem loop_any {rd : List SV → List Row → Option Res2} {val valR : Int → List SV} {R : List Row} {p : Int → Bool} {W : Int} {ex : Nat} {i0 : Int}
    (hr : ∀ i : Int, i0 ≤ i → i < W → rd (val i) R = bif p i then some (.tuple [.nils, .tuple (valR i)], R) else some (.tuple [.nilp, .tuple (val (i + 1))], R))
    (he : rd (val W) R = some (.tuple [.ptr ex 0 0 0, .tuple (val W)], R)) : ∀ (k : Nat) (i : Int), i0 ≤ i → i + k = W →
    (anyB p k i = true → LoopTo rd (val i) R .ret (valR (posB p k i)) R) ∧ (anyB p k i = false → LoopTo rd (val i) R (.exit ex) (val W) R)
 | 0, i, h0, hk => by
  obtain rfl : i = W := by omega
  exact ⟨fun h => (by cases h), fun _ => .done he (by simp)⟩
 | k + 1, i, h0, hk => by
  have hro := hr i h0 (by omega)
  unfold anyB posB
  cases hp : p i with
  | true =>
   rw [hp, cond_true] at hro
   simp only [cond_true]
   exact ⟨fun _ => .done hro (by simp), fun h => (by cases h)⟩
  | false =>
   rw [hp, cond_false] at hro
   simp only [cond_false]
   have ih := loop_any hr he k (i + 1) (by omega) (by omega)
   exact ⟨fun h => .more hro (ih.1 h), fun h => .more hro (ih.2 h)⟩

noncomputable def xGd0 : Ctx := ctxOf [] []
theorem xGd0_ok : COk Try.prog xGd0 := ctxOf_ok (by kernel_rfl)

theorem side_tree (n : Int) : runK xGd0 (fun _ _ => none) 200 66 Try.f66 0 [.int .i64 n] [] =
 some (SV.bool (bif decide (n ≥ 1) == true then decide (n ≤ 32) else false), []) := by kernel_rfl

theorem in_tree0 (n s : Int) : runK xGd0 (fun _ _ => none) 200 79 Try.f79 0 [.int .i64 n, .int .i64 s] [] =
 some (SV.bool (bif decide (n ≥ 0) == true then decide (n < s) else false), []) := by kernel_rfl

def oSide : List SV → Option Eff
 | [.int .i64 n] => some { val := .bool (sideB n) }
 | _ => none
theorem oSide_ok {m : Nat → Option Row} {n : Nat} {args : List SV} {e : Eff} (h : oSide args = some e) : FnOk Try.prog 66 args m n e := by
 unfold oSide at h
 split at h
 · rename_i k
   cases h
   have hv := side_tree k
   rw [and_form] at hv
   obtain ⟨rows', hc, _⟩ := runK_ok xGd0_ok lok_none Try.func66 hv
   exact fnOk_pure hc rfl rfl
 · cases h
noncomputable def orcSide : Orc := ⟨66, fun args _ => oSide args, fun _ _ _ h _ => oSide_ok h, bodied Try.func66 (by kernel_rfl)⟩
def oInG : List SV → Option Eff
 | [.int .i64 n, .int .i64 s] => some { val := .bool (inB n s) }
 | _ => none
theorem oInG_ok {m : Nat → Option Row} {n : Nat} {args : List SV} {e : Eff} (h : oInG args = some e) : FnOk Try.prog 79 args m n e := by
 unfold oInG at h
 split at h
 · rename_i k s
   cases h
   have hv := in_tree0 k s
   rw [and_form] at hv
   obtain ⟨rows', hc, _⟩ := runK_ok xGd0_ok lok_none Try.func79 hv
   exact fnOk_pure hc rfl rfl
 · cases h
noncomputable def orcInG : Orc := ⟨79, fun args _ => oInG args, fun _ _ _ h _ => oInG_ok h, bodied Try.func79 (by kernel_rfl)⟩
noncomputable def xGd1 : Ctx := ctxOf [] [orcSide]
theorem xGd1_ok : COk Try.prog xGd1 := ctxOf_ok (by kernel_rfl)

theorem sized_tree (w d h : Int) (len off : Nat) (xs : List Bool) : runK xGd1 (fun _ _ => none) 200 47 Try.f47 0 [mapS w d h (.slice 0 1 off len none) .unk] [.vec true .bool xs] =
 some (SV.bool (bif (bif (bif sideB w == true then sideB d else false) == true then sideB h else false) == true then (↑len : Int) == IntKind.i64.wrap (IntKind.i64.wrap (w * d) * h) else false), []) := by kernel_rfl

theorem sized_form {w d h : Int} {len : Nat} {s : Nat → Bool} : (((sideB w && sideB d) && sideB h) && ((len : Int) == IntKind.i64.wrap (IntKind.i64.wrap (w * d) * h))) = (mpOf w d h len s).sized := by
 unfold Mp.sized
 show _ = (((sideB w && sideB d) && sideB h) && ((len : Int) == w * d * h))
 cases hc : (sideB w && sideB d) && sideB h with
 | false => rfl
 | true =>
  unfold sideB at hc
  simp only [Bool.and_eq_true, decide_eq_true_eq] at hc
  obtain ⟨⟨h1, h2⟩, h3⟩ := hc
  obtain ⟨p1, p2⟩ := prod_in h1 h2
  obtain ⟨q1, q2⟩ := prod_in (a := w * d) (b := h) ⟨p1, p2⟩ h3
  rw [IntWalk.i64_in (w * d) (by omega), IntWalk.i64_in (w * d * h) (by omega)]

theorem sized_val {w d h : Int} {len off : Nat} {xs : List Bool} : runK xGd1 (fun _ _ => none) 200 47 Try.f47 0 [mapS w d h (.slice 0 1 off len none) .unk] [.vec true .bool xs] = some (.bool (mpOf w d h len fun j => xs.getD (off + j) false).sized, []) := by
 rw [sized_tree]
 simp only [and_form]
 rw [sized_form]

theorem fnOk_grid {X : Ctx} {L : Nat → List Nat → Option LoopF} {k f : Nat} {fn : Func} {w d hh : Int} {id st off len : Nat} {cap : Option Nat} {sp : SV} {rest : List SV} {rows : List Row} {n : Nat} {ro ok : Bool} {xs : List Bool} {v : SV} (hX : COk Try.prog X) (hL : LOk Try.prog L) (hf : Try.prog.funcs[f]? = some fn)
    (hb : (Nat.beq st 1 && sp.one) = true) (hrow : rows[id]? = some (.vec ro .bool xs)) (hr : SV.idsL rest = []) (hv : v.ids = [])
    (h : runK X L k f fn 0 (mapS w d hh (.slice 0 1 off len none) .unk :: rest) [.vec true .bool xs] = some (v, [])) :
    FnOk Try.prog f (.agg [.int .i64 w, .int .i64 d, .int .i64 hh, .slice id st off len cap, sp] :: rest) (rows[·]?) n { ok := ok, val := v, rd := [id] } := by
 rw [Bool.and_eq_true] at hb
 have hst := Nat.eq_of_beq_eq_true hb.1
 subst hst
 obtain ⟨rows', hc, _⟩ := runK_ok hX hL hf h
 exact fnOk_map hb.2 hc hr hv hrow

noncomputable def oSized (args : List SV) (rows : List Row) : Option Eff :=
 match args with
 | [.agg [.int .i64 w, .int .i64 d, .int .i64 h, .slice id st off len _, sp]] => match rows[id]? with
  | some (.vec _ .bool xs) => bif Nat.beq st 1 && sp.one then some { ok := mapOk w d h len && decide (off + len ≤ xs.length), val := .bool (mpOf w d h len fun j => xs.getD (off + j) false).sized, rd := [id] } else none
  | _ => none
 | _ => none
theorem oSized_ok {args : List SV} {rows : List Row} {n : Nat} {e : Eff} (h : oSized args rows = some e) (hok : e.ok = true) : FnOk Try.prog 47 args (rows[·]?) n e := by
 unfold oSized at h
 split at h
 · rename_i wd dd hd id st off len cap sp
   split at h
   · rename_i ro xs hrow
     obtain ⟨hb, h⟩ := cond_some h
     cases h
     exact fnOk_grid xGd1_ok lok_none Try.func47 hb hrow rfl rfl sized_val
   · cases h
 · cases h
noncomputable def orcSized : Orc := ⟨47, oSized, fun _ _ _ h hok => oSized_ok h hok, bodied Try.func47 (by kernel_rfl)⟩

noncomputable def xGd2 : Ctx := ctxOf [] [orcSized, orcInG]
theorem xGd2_ok : COk Try.prog xGd2 := ctxOf_ok (by kernel_rfl)

theorem solid_tree (w d h : Int) (len off : Nat) (xs : List Bool) (x y z : Int) : runK xGd2 (fun _ _ => none) 200 62 Try.f62 0 [mapS w d h (.slice 0 1 off len none) .unk, .int .i64 x, .int .i64 y, .int .i64 z] [.vec true .bool xs] =
 bif mapOk w d h len && decide (off + len ≤ xs.length) then
 bif
 (decide (0 ≤ IntKind.i64.wrap (IntKind.i64.wrap (IntKind.i64.wrap (IntKind.i64.wrap (z * d) + y) * w) + x)) &&
 decide (IntKind.i64.wrap (IntKind.i64.wrap (IntKind.i64.wrap (IntKind.i64.wrap (z * d) + y) * w) + x) < (↑len : Int)) &&
 (decide (off + (IntKind.i64.wrap (IntKind.i64.wrap (IntKind.i64.wrap (IntKind.i64.wrap (z * d) + y) * w) + x)).toNat < xs.length) && true) &&
 true ||
 (bif (bif (bif (!(mpOf w d h len fun j => xs.getD (off + j) false).sized) == false then !inB x w else true) == false then !inB y d else true) == false then !inB z h else true) != false) &&
 (true ||
 (bif (bif (bif (!(mpOf w d h len fun j => xs.getD (off + j) false).sized) == false then !inB x w else true) == false then !inB y d else true) == false then !inB z h else true) == false) &&
 true then
 some
 (SV.bool
 (bif
 (bif (bif (bif (!(mpOf w d h len fun j => xs.getD (off + j) false).sized) == false then !inB x w else true) == false then !inB y d else true) == false then !inB z h else true) ==
 false then
 xs.getD (off + (IntKind.i64.wrap (IntKind.i64.wrap (IntKind.i64.wrap (IntKind.i64.wrap (z * d) + y) * w) + x)).toNat) Knd.bool.dflt
 else true),
 [])
 else none
 else none := by kernel_rfl

theorem at_tree0 (a : V3) : runK xGd0 (fun _ _ => none) 200 61 Try.f61 0 [.agg a.sv] [] =
 some
 (SV.tuple
 [.int .i64 (a.x.fdiv (2 ^ min (Int.toNat 16) IntKind.i64.bits)), .int .i64 (a.y.fdiv (2 ^ min (Int.toNat 16) IntKind.i64.bits)),
 .int .i64 (a.z.fdiv (2 ^ min (Int.toNat 16) IntKind.i64.bits))],
 []) := by kernel_rfl

theorem solid_val {w d h : Int} {len off : Nat} {xs : List Bool} {x y z : Int} (hm : mapOk w d h len = true) (hl : off + len ≤ xs.length) : runK xGd2 (fun _ _ => none) 200 62 Try.f62 0 [mapS w d h (.slice 0 1 off len none) .unk, .int .i64 x, .int .i64 y, .int .i64 z] [.vec true .bool xs] = some (.bool ((mpOf w d h len fun j => xs.getD (off + j) false).solid x y z), []) := by
 rw [solid_tree, hm, decide_eq_true hl]
 simp only [or_form, Bool.and_self, cond_true, Bool.true_or, Bool.and_true]
 have hi := @Mp.idx_lt (mpOf w d h len fun j => xs.getD (off + j) false) x y z
 rw [show (mpOf w d h len fun j => xs.getD (off + j) false).solid x y z = ((((!(mpOf w d h len fun j => xs.getD (off + j) false).sized || !inB x w) || !inB y d) || !inB z h) || xs.getD (off + (mpOf w d h len fun j => xs.getD (off + j) false).idx x y z) false) from rfl]
 rw [show (mpOf w d h len fun j => xs.getD (off + j) false).w = w from rfl, show (mpOf w d h len fun j => xs.getD (off + j) false).d = d from rfl, show (mpOf w d h len fun j => xs.getD (off + j) false).h = h from rfl, show (mpOf w d h len fun j => xs.getD (off + j) false).len = len from rfl] at hi
 generalize (mpOf w d h len fun j => xs.getD (off + j) false).sized = S at hi ⊢
 generalize (mpOf w d h len fun j => xs.getD (off + j) false).idx x y z = I at hi ⊢
 cases hB : ((!S || !inB x w) || !inB y d) || !inB z h with
 | true => simp
 | false =>
  simp only [Bool.or_eq_false_iff, Bool.not_eq_false'] at hB
  obtain ⟨⟨⟨h1, h2⟩, h3⟩, h4⟩ := hB
  obtain ⟨i1, i2, i3, i4, i5, i6⟩ := hi h1 h2 h3 h4
  have hy : 0 ≤ y ∧ y < d := by
   unfold inB at h3
   simp only [Bool.and_eq_true, decide_eq_true_eq] at h3
   exact h3
  have hd : d ≤ 9223372036854775807 := by
   unfold mapOk at hm
   simp only [Bool.and_eq_true, in64B_iff] at hm
   exact hm.2.1.2
  have hl2 : len ≤ 9223372036854775807 := by
   unfold mapOk at hm
   simp only [Bool.and_eq_true, decide_eq_true_eq] at hm
   exact hm.2.2.2
  have hz : -9223372036854775808 ≤ z * d + y ∧ z * d + y ≤ 9223372036854775807 := by
   by_cases hw : z * d + y ≤ 9223372036854775807
   · omega
   · exfalso
     have hw1 : 1 ≤ w := by
      unfold inB at h2
      simp only [Bool.and_eq_true, decide_eq_true_eq] at h2
      omega
     have := Int.mul_le_mul_of_nonneg_left hw1 (show 0 ≤ z * d + y by omega)
     rw [Int.mul_one] at this
     omega
  rw [IntWalk.i64_in (z * d) (by omega), IntWalk.i64_in (z * d + y) (by omega), IntWalk.i64_in ((z * d + y) * w) (by omega), i5, IntWalk.i64_in (I : Int) (by omega), show ((I : Int)).toNat = I by omega, decide_eq_true (show (0 : Int) ≤ (I : Int) by omega), decide_eq_true (show (I : Int) < (len : Int) by omega), decide_eq_true (show off + I < xs.length by omega)]
  rfl
noncomputable def oSolid (args : List SV) (rows : List Row) : Option Eff :=
 match args with
 | [.agg [.int .i64 w, .int .i64 d, .int .i64 h, .slice id st off len _, sp], .int .i64 x, .int .i64 y, .int .i64 z] => match rows[id]? with
  | some (.vec _ .bool xs) => bif Nat.beq st 1 && sp.one then some { ok := mapOk w d h len && (in64B x && (in64B y && (in64B z && decide (off + len ≤ xs.length)))), val := .bool ((mpOf w d h len fun j => xs.getD (off + j) false).solid x y z), rd := [id] } else none
  | _ => none
 | _ => none
theorem oSolid_ok {args : List SV} {rows : List Row} {n : Nat} {e : Eff} (h : oSolid args rows = some e) (hok : e.ok = true) : FnOk Try.prog 62 args (rows[·]?) n e := by
 unfold oSolid at h
 split at h
 · rename_i wd dd hd id st off len cap sp x y z
   split at h
   · rename_i ro xs hrow
     obtain ⟨hb, h⟩ := cond_some h
     cases h
     simp only [Bool.and_eq_true, decide_eq_true_eq] at hok
     exact fnOk_grid xGd2_ok lok_none Try.func62 hb hrow rfl rfl (solid_val hok.1 hok.2.2.2.2)
   · cases h
 · cases h
noncomputable def orcSolid : Orc := ⟨62, oSolid, fun _ _ _ h hok => oSolid_ok h hok, bodied Try.func62 (by kernel_rfl)⟩
def oAtG : List SV → Option Eff
 | [.agg [.int .i64 x, .int .i64 y, .int .i64 z]] => some { ok := fitsB ⟨x, y, z⟩, val := .tuple [.int .i64 (x / 65536), .int .i64 (y / 65536), .int .i64 (z / 65536)] }
 | _ => none
theorem oAtG_ok {m : Nat → Option Row} {n : Nat} {args : List SV} {e : Eff} (h : oAtG args = some e) : FnOk Try.prog 61 args m n e := by
 unfold oAtG at h
 split at h
 · rename_i x y z
   cases h
   have hv := at_tree0 ⟨x, y, z⟩
   rw [div16, div16, div16] at hv
   obtain ⟨rows', hc, _⟩ := runK_ok xGd0_ok lok_none Try.func61 hv
   exact fnOk_pure hc rfl rfl
 · cases h
noncomputable def orcAtG : Orc := ⟨61, fun args _ => oAtG args, fun _ _ _ h _ => oAtG_ok h, bodied Try.func61 (by kernel_rfl)⟩

noncomputable def xGd3 : Ctx := ctxOf [] [orcSolid, orcAtG]
theorem xGd3_ok : COk Try.prog xGd3 := ctxOf_ok (by kernel_rfl)
def rowGd (w d h : Int) (off len : Nat) (xs : List Bool) (lo hi : V3) : List Row := [.vec true .bool xs, .own [.int .i64 w, .int .i64 d, .int .i64 h, .slice 0 1 off len none, .unk], .own lo.sv, .own hi.sv]
def valGz (x0 y0 x1 y1 z1 : Int) (z : Int) : List SV := [.ptr 1 0 0 0, .bool false, .int .i64 x0, .int .i64 y0, .int .i64 x1, .int .i64 y1, .int .i64 z1, .int .i64 z]
def valGy (x0 y0 x1 y1 z1 z : Int) (j : Int) : List SV := [.ptr 1 0 0 0, .bool false, .int .i64 x0, .int .i64 y0, .int .i64 x1, .int .i64 y1, .int .i64 z1, .int .i64 z, .int .i64 j]
def valGx (x0 y0 x1 y1 z1 z j : Int) (i : Int) : List SV := [.ptr 1 0 0 0, .bool false, .int .i64 x0, .int .i64 y0, .int .i64 x1, .int .i64 y1, .int .i64 z1, .int .i64 z, .int .i64 j, .int .i64 i]
noncomputable def rdGx : List SV → List Row → Option Res2 := roundS xGd3 (fun _ _ => none) 100 44 [0, 1, 0, 0, 1, 0, 0, 1, 0, 0, 1, 0, 0, 0, 1, 1, 1, 1, 1] (bodyAt Try.f44 [0, 1, 0, 0, 1, 0, 0, 1, 0, 0, 1, 0, 0, 0, 1, 1, 1, 1, 1]) 89 4 [3, 6, 7, 8, 10, 11, 12, 9, 13, 14]

theorem gx_round (w d h : Int) (off len : Nat) (xs : List Bool) (lo hi : V3) (x0 y0 x1 y1 z1 z j i : Int) : rdGx (valGx x0 y0 x1 y1 z1 z j i) (rowGd w d h off len xs lo hi) =
 bif decide (i ≤ x1) then
 bif mapOk w d h len && (in64B i && (in64B j && (in64B z && decide (off + len ≤ xs.length)))) then
 bif (mpOf w d h len fun j => xs.getD (off + j) false).solid i j z then
 some
 (SV.tuple
 [SV.nils,
 SV.tuple
 [SV.ptr 1 0 0 0, SV.bool false, .int .i64 x0, .int .i64 y0, .int .i64 x1, .int .i64 y1, .int .i64 z1, .int .i64 z,
 .int .i64 j, .int .i64 i]],
 [Row.vec true Knd.bool xs, Row.own [.int .i64 w, .int .i64 d, .int .i64 h, SV.slice 0 1 off len none, SV.unk],
 Row.own [.int .i64 lo.x, .int .i64 lo.y, .int .i64 lo.z], Row.own [.int .i64 hi.x, .int .i64 hi.y, .int .i64 hi.z]])
 else
 some
 (SV.tuple
 [SV.nilp,
 SV.tuple
 [SV.ptr 1 0 0 0, SV.bool false, .int .i64 x0, .int .i64 y0, .int .i64 x1, .int .i64 y1, .int .i64 z1, .int .i64 z,
 .int .i64 j, .int .i64 (IntKind.i64.wrap (i + 1))]],
 [Row.vec true Knd.bool xs, Row.own [.int .i64 w, .int .i64 d, .int .i64 h, SV.slice 0 1 off len none, SV.unk],
 Row.own [.int .i64 lo.x, .int .i64 lo.y, .int .i64 lo.z], Row.own [.int .i64 hi.x, .int .i64 hi.y, .int .i64 hi.z]])
 else none
 else
 some
 (SV.tuple
 [SV.ptr 4 0 0 0,
 SV.tuple
 [SV.ptr 1 0 0 0, SV.bool false, .int .i64 x0, .int .i64 y0, .int .i64 x1, .int .i64 y1, .int .i64 z1, .int .i64 z,
 .int .i64 j, .int .i64 i]],
 [Row.vec true Knd.bool xs, Row.own [.int .i64 w, .int .i64 d, .int .i64 h, SV.slice 0 1 off len none, SV.unk],
 Row.own [.int .i64 lo.x, .int .i64 lo.y, .int .i64 lo.z], Row.own [.int .i64 hi.x, .int .i64 hi.y, .int .i64 hi.z]]) := by kernel_rfl

def rgB (a b : Int) : Bool := decide (0 ≤ a) && (decide (a ≤ b) && decide (b ≤ 31))
theorem rgB_iff {a b : Int} : rgB a b = true ↔ 0 ≤ a ∧ a ≤ b ∧ b ≤ 31 := by
 unfold rgB
 simp only [Bool.and_eq_true, decide_eq_true_eq]
theorem in64_rg {a b i : Int} (h : rgB a b = true) (h1 : a ≤ i) (h2 : i ≤ b) : in64B i = true := by
 obtain ⟨k1, k2, k3⟩ := rgB_iff.1 h
 rw [in64B_iff]
 unfold In64
 omega
def gdOk (w d h : Int) (off len : Nat) (xs : List Bool) : Bool := mapOk w d h len && decide (off + len ≤ xs.length)
theorem gdOk_ok {w d hh : Int} {off len : Nat} {xs : List Bool} (h : gdOk w d hh off len xs = true) {i j z : Int} (h1 : in64B i = true) (h2 : in64B j = true) (h3 : in64B z = true) : (mapOk w d hh len && (in64B i && (in64B j && (in64B z && decide (off + len ≤ xs.length))))) = true := by
 unfold gdOk at h
 rw [Bool.and_eq_true] at h
 rw [h.1, h.2, h1, h2, h3]
 rfl
def Mp.solX (m : Mp) (x0 x1 z j : Int) : Bool := anyB (fun i => m.solid i j z) (x1 + 1 - x0).toNat x0
def Mp.solY (m : Mp) (x0 x1 y0 y1 z : Int) : Bool := anyB (m.solX x0 x1 z) (y1 + 1 - y0).toNat y0
def Mp.solZ (m : Mp) (x0 x1 y0 y1 z0 z1 : Int) : Bool := anyB (m.solY x0 x1 y0 y1) (z1 + 1 - z0).toNat z0
theorem solZ_iff {m : Mp} {x0 x1 y0 y1 z0 z1 : Int} : m.solZ x0 x1 y0 y1 z0 z1 = false ↔ m.boxFree x0 x1 y0 y1 z0 z1 := by
 rw [← Bool.not_eq_true]
 unfold Mp.solZ Mp.solY Mp.solX Mp.boxFree
 simp only [anyB_iff]
 constructor
 · intro h i j k h1 h2 h3 h4 h5 h6
   rw [← Bool.not_eq_true]
   exact fun hs => h ⟨k, h5, by omega, j, h3, by omega, i, h1, by omega, hs⟩
 · rintro h ⟨k, h5, h6, j, h3, h4, i, h1, h2, hs⟩
   rw [h i j k h1 (by omega) h3 (by omega) h5 (by omega)] at hs
   cases hs

section
variable {w d h : Int} {off len : Nat} {xs : List Bool} {lo hi : V3}
theorem gx_loop (hc : gdOk w d h off len xs = true) {x0 y0 x1 y1 z1 z j : Int} (hx : rgB x0 x1 = true) (hj : rgB j j = true) (hz : rgB z z = true) :
    ((mpOf w d h len fun j => xs.getD (off + j) false).solX x0 x1 z j = true → LoopTo rdGx (valGx x0 y0 x1 y1 z1 z j x0) (rowGd w d h off len xs lo hi) .ret (valGx x0 y0 x1 y1 z1 z j (posB (fun i => (mpOf w d h len fun j => xs.getD (off + j) false).solid i j z) (x1 + 1 - x0).toNat x0)) (rowGd w d h off len xs lo hi)) ∧
    ((mpOf w d h len fun j => xs.getD (off + j) false).solX x0 x1 z j = false → LoopTo rdGx (valGx x0 y0 x1 y1 z1 z j x0) (rowGd w d h off len xs lo hi) (.exit 4) (valGx x0 y0 x1 y1 z1 z j (x1 + 1)) (rowGd w d h off len xs lo hi)) := by
 obtain ⟨k1, k2, k3⟩ := rgB_iff.1 hx
 have key := loop_any (rd := rdGx) (val := valGx x0 y0 x1 y1 z1 z j) (valR := valGx x0 y0 x1 y1 z1 z j) (R := rowGd w d h off len xs lo hi) (p := fun i => (mpOf w d h len fun j => xs.getD (off + j) false).solid i j z) (W := x1 + 1) (ex := 4) (i0 := x0) (fun i i0 i1 => ?_) ?_ (x1 + 1 - x0).toNat x0 (by omega) (by omega)
 · exact key
 · rw [gx_round, decide_eq_true (show i ≤ x1 by omega), gdOk_ok hc (in64_rg hx i0 (by omega)) (in64_rg hj (Int.le_refl _) (Int.le_refl _)) (in64_rg hz (Int.le_refl _) (Int.le_refl _)), IntWalk.i64_in (i + 1) (by omega)]
   rfl
 · rw [gx_round, decide_eq_false (by omega)]
   rfl
end

noncomputable def outGx (v : List SV) (R : List Row) (k : Ex → List SV → List Row → Option Res2) : Option Res2 := match v, R with
 | [.ptr 1 0 0 0, .bool b, .int .i64 x0, .int .i64 y0, .int .i64 x1, .int .i64 y1, .int .i64 z1, .int .i64 z, .int .i64 j, .int .i64 i], [.vec true .bool xs, .own [.int .i64 w, .int .i64 d, .int .i64 h, .slice 0 1 off len none, .unk], .own [.int .i64 lx, .int .i64 ly, .int .i64 lz], .own [.int .i64 hx, .int .i64 hy, .int .i64 hz]] =>
     bif ((!b && decide (i = x0)) && (rgB x0 x1 && (rgB j j && rgB z z))) && gdOk w d h off len xs then
      (bif (mpOf w d h len fun j => xs.getD (off + j) false).solX x0 x1 z j then k .ret (valGx x0 y0 x1 y1 z1 z j (posB (fun i => (mpOf w d h len fun j => xs.getD (off + j) false).solid i j z) (x1 + 1 - x0).toNat x0)) (rowGd w d h off len xs ⟨lx, ly, lz⟩ ⟨hx, hy, hz⟩)
      else k (.exit 4) (valGx x0 y0 x1 y1 z1 z j (x1 + 1)) (rowGd w d h off len xs ⟨lx, ly, lz⟩ ⟨hx, hy, hz⟩)) else none
 | _, _ => none
theorem lpoGx_ok : LpOk 44 [0, 1, 0, 0, 1, 0, 0, 1, 0, 0, 1, 0, 0, 0, 1, 1, 1, 1, 1] (loopF 89 [3, 6, 7, 8, 10, 11, 12, 9, 13, 14] outGx) := by
 intro b hat s K r h
 refine loopF_ok (fuel := 100) xGd3_ok lok_none hat (fun v R k r hr => ?_) h
 have hbody := at_body Try.func44 hat
 subst hbody
 unfold outGx at hr
 split at hr
 · rename_i bb x0 y0 x1 y1 z1 z j i xs w d h off len lx ly lz hx hy hz
   obtain ⟨hb, hr2⟩ := cond_some hr
   simp only [Bool.and_eq_true, decide_eq_true_eq, Bool.not_eq_true'] at hb
   obtain ⟨⟨⟨rfl, rfl⟩, h1, h2, h3⟩, h4⟩ := hb
   obtain ⟨k1, k2⟩ := gx_loop (y0 := y0) (y1 := y1) (z1 := z1) (lo := ⟨lx, ly, lz⟩) (hi := ⟨hx, hy, hz⟩) h4 h1 h2 h3
   cases hq : (mpOf w d h len fun j => xs.getD (off + j) false).solX i x1 z j with
   | true => rw [hq, cond_true] at hr2; exact ⟨_, _, _, hr2, k1 hq⟩
   | false => rw [hq, cond_false] at hr2; exact ⟨_, _, _, hr2, k2 hq⟩
 · cases hr
noncomputable def lpoGx : Lpo := ⟨_, _, _, lpoGx_ok⟩

noncomputable def rdGy : List SV → List Row → Option Res2 := roundS xGd3 (loopOf [lpoGx]) 100 44 [0, 1, 0, 0, 1, 0, 0, 0, 1, 1, 1, 1, 1] (bodyAt Try.f44 [0, 1, 0, 0, 1, 0, 0, 0, 1, 1, 1, 1, 1]) 89 4 [3, 6, 7, 8, 10, 11, 12, 9, 13]

theorem gy_round (w d h : Int) (off len : Nat) (xs : List Bool) (lo hi : V3) (x0 y0 x1 y1 z1 z j : Int) : rdGy (valGy x0 y0 x1 y1 z1 z j) (rowGd w d h off len xs lo hi) =
 bif decide (j ≤ y1) then
 bif decide (x0 = x0) && (rgB x0 x1 && (rgB j j && rgB z z)) && gdOk w d h off len xs then
 bif (mpOf w d h len fun j => xs.getD (off + j) false).solX x0 x1 z j then
 some
 (SV.tuple
 [SV.nils,
 SV.tuple
 [SV.ptr 1 0 0 0, SV.bool false, .int .i64 x0, .int .i64 y0, .int .i64 x1, .int .i64 y1, .int .i64 z1, .int .i64 z,
 .int .i64 j]],
 [Row.vec true Knd.bool xs, Row.own [.int .i64 w, .int .i64 d, .int .i64 h, SV.slice 0 1 off len none, SV.unk],
 Row.own [.int .i64 lo.x, .int .i64 lo.y, .int .i64 lo.z], Row.own [.int .i64 hi.x, .int .i64 hi.y, .int .i64 hi.z]])
 else
 some
 (SV.tuple
 [SV.nilp,
 SV.tuple
 [SV.ptr 1 0 0 0, SV.bool false, .int .i64 x0, .int .i64 y0, .int .i64 x1, .int .i64 y1, .int .i64 z1, .int .i64 z,
 .int .i64 (IntKind.i64.wrap (j + 1))]],
 [Row.vec true Knd.bool xs, Row.own [.int .i64 w, .int .i64 d, .int .i64 h, SV.slice 0 1 off len none, SV.unk],
 Row.own [.int .i64 lo.x, .int .i64 lo.y, .int .i64 lo.z], Row.own [.int .i64 hi.x, .int .i64 hi.y, .int .i64 hi.z]])
 else none
 else
 some
 (SV.tuple
 [SV.ptr 2 0 0 0,
 SV.tuple
 [SV.ptr 1 0 0 0, SV.bool false, .int .i64 x0, .int .i64 y0, .int .i64 x1, .int .i64 y1, .int .i64 z1, .int .i64 z,
 .int .i64 j]],
 [Row.vec true Knd.bool xs, Row.own [.int .i64 w, .int .i64 d, .int .i64 h, SV.slice 0 1 off len none, SV.unk],
 Row.own [.int .i64 lo.x, .int .i64 lo.y, .int .i64 lo.z], Row.own [.int .i64 hi.x, .int .i64 hi.y, .int .i64 hi.z]]) := by kernel_rfl

section
variable {w d h : Int} {off len : Nat} {xs : List Bool} {lo hi : V3}
theorem rg_one {a b i : Int} (h : rgB a b = true) (h1 : a ≤ i) (h2 : i ≤ b) : rgB i i = true := by
 obtain ⟨k1, k2, k3⟩ := rgB_iff.1 h
 rw [rgB_iff]
 omega
theorem gy_loop (hc : gdOk w d h off len xs = true) {x0 y0 x1 y1 z1 z : Int} (hx : rgB x0 x1 = true) (hy : rgB y0 y1 = true) (hz : rgB z z = true) :
    ((mpOf w d h len fun j => xs.getD (off + j) false).solY x0 x1 y0 y1 z = true → LoopTo rdGy (valGy x0 y0 x1 y1 z1 z y0) (rowGd w d h off len xs lo hi) .ret (valGy x0 y0 x1 y1 z1 z (posB ((mpOf w d h len fun j => xs.getD (off + j) false).solX x0 x1 z) (y1 + 1 - y0).toNat y0)) (rowGd w d h off len xs lo hi)) ∧
    ((mpOf w d h len fun j => xs.getD (off + j) false).solY x0 x1 y0 y1 z = false → LoopTo rdGy (valGy x0 y0 x1 y1 z1 z y0) (rowGd w d h off len xs lo hi) (.exit 2) (valGy x0 y0 x1 y1 z1 z (y1 + 1)) (rowGd w d h off len xs lo hi)) := by
 obtain ⟨k1, k2, k3⟩ := rgB_iff.1 hy
 have key := loop_any (rd := rdGy) (val := valGy x0 y0 x1 y1 z1 z) (valR := valGy x0 y0 x1 y1 z1 z) (R := rowGd w d h off len xs lo hi) (p := (mpOf w d h len fun j => xs.getD (off + j) false).solX x0 x1 z) (W := y1 + 1) (ex := 2) (i0 := y0) (fun j i0 i1 => ?_) ?_ (y1 + 1 - y0).toNat y0 (by omega) (by omega)
 · exact key
 · rw [gy_round, decide_eq_true (show j ≤ y1 by omega), hc, hx, hz, rg_one hy i0 (by omega), IntWalk.i64_in (j + 1) (by omega)]
   simp only [decide_true, Bool.and_self, cond_true]
   rfl
 · rw [gy_round, decide_eq_false (by omega)]
   rfl
end

noncomputable def outGy (v : List SV) (R : List Row) (k : Ex → List SV → List Row → Option Res2) : Option Res2 := match v, R with
 | [.ptr 1 0 0 0, .bool b, .int .i64 x0, .int .i64 y0, .int .i64 x1, .int .i64 y1, .int .i64 z1, .int .i64 z, .int .i64 j], [.vec true .bool xs, .own [.int .i64 w, .int .i64 d, .int .i64 h, .slice 0 1 off len none, .unk], .own [.int .i64 lx, .int .i64 ly, .int .i64 lz], .own [.int .i64 hx, .int .i64 hy, .int .i64 hz]] =>
     bif ((!b && decide (j = y0)) && (rgB x0 x1 && (rgB y0 y1 && rgB z z))) && gdOk w d h off len xs then
      (bif (mpOf w d h len fun j => xs.getD (off + j) false).solY x0 x1 y0 y1 z then k .ret (valGy x0 y0 x1 y1 z1 z (posB ((mpOf w d h len fun j => xs.getD (off + j) false).solX x0 x1 z) (y1 + 1 - y0).toNat y0)) (rowGd w d h off len xs ⟨lx, ly, lz⟩ ⟨hx, hy, hz⟩)
      else k (.exit 2) (valGy x0 y0 x1 y1 z1 z (y1 + 1)) (rowGd w d h off len xs ⟨lx, ly, lz⟩ ⟨hx, hy, hz⟩)) else none
 | _, _ => none
theorem lpoGy_ok : LpOk 44 [0, 1, 0, 0, 1, 0, 0, 0, 1, 1, 1, 1, 1] (loopF 89 [3, 6, 7, 8, 10, 11, 12, 9, 13] outGy) := by
 intro b hat s K r h
 refine loopF_ok (fuel := 100) xGd3_ok (loopOf_ok (l := [lpoGx])) hat (fun v R k r hr => ?_) h
 have hbody := at_body Try.func44 hat
 subst hbody
 unfold outGy at hr
 split at hr
 · rename_i bb x0 y0 x1 y1 z1 z j xs w d h off len lx ly lz hx hy hz
   obtain ⟨hb, hr2⟩ := cond_some hr
   simp only [Bool.and_eq_true, decide_eq_true_eq, Bool.not_eq_true'] at hb
   obtain ⟨⟨⟨rfl, rfl⟩, h1, h2, h3⟩, h4⟩ := hb
   obtain ⟨k1, k2⟩ := gy_loop (z1 := z1) (lo := ⟨lx, ly, lz⟩) (hi := ⟨hx, hy, hz⟩) h4 h1 h2 h3
   cases hq : (mpOf w d h len fun j => xs.getD (off + j) false).solY x0 x1 j y1 z with
   | true => rw [hq, cond_true] at hr2; exact ⟨_, _, _, hr2, k1 hq⟩
   | false => rw [hq, cond_false] at hr2; exact ⟨_, _, _, hr2, k2 hq⟩
 · cases hr
noncomputable def lpoGy : Lpo := ⟨_, _, _, lpoGy_ok⟩

noncomputable def rdGz : List SV → List Row → Option Res2 := roundS xGd3 (loopOf [lpoGy]) 100 44 [0, 0, 1, 1, 1, 1, 1] (bodyAt Try.f44 [0, 0, 1, 1, 1, 1, 1]) 89 4 [3, 6, 7, 8, 10, 11, 12, 9]

theorem gz_round (w d h : Int) (off len : Nat) (xs : List Bool) (lo hi : V3) (x0 y0 x1 y1 z1 z : Int) : rdGz (valGz x0 y0 x1 y1 z1 z) (rowGd w d h off len xs lo hi) =
 bif decide (z ≤ z1) then
 bif decide (y0 = y0) && (rgB x0 x1 && (rgB y0 y1 && rgB z z)) && gdOk w d h off len xs then
 bif (mpOf w d h len fun j => xs.getD (off + j) false).solY x0 x1 y0 y1 z then
 some
 (SV.tuple
 [SV.nils,
 SV.tuple [SV.ptr 1 0 0 0, SV.bool false, .int .i64 x0, .int .i64 y0, .int .i64 x1, .int .i64 y1, .int .i64 z1, .int .i64 z]],
 [Row.vec true Knd.bool xs, Row.own [.int .i64 w, .int .i64 d, .int .i64 h, SV.slice 0 1 off len none, SV.unk],
 Row.own [.int .i64 lo.x, .int .i64 lo.y, .int .i64 lo.z], Row.own [.int .i64 hi.x, .int .i64 hi.y, .int .i64 hi.z]])
 else
 some
 (SV.tuple
 [SV.nilp,
 SV.tuple
 [SV.ptr 1 0 0 0, SV.bool false, .int .i64 x0, .int .i64 y0, .int .i64 x1, .int .i64 y1, .int .i64 z1,
 .int .i64 (IntKind.i64.wrap (z + 1))]],
 [Row.vec true Knd.bool xs, Row.own [.int .i64 w, .int .i64 d, .int .i64 h, SV.slice 0 1 off len none, SV.unk],
 Row.own [.int .i64 lo.x, .int .i64 lo.y, .int .i64 lo.z], Row.own [.int .i64 hi.x, .int .i64 hi.y, .int .i64 hi.z]])
 else none
 else
 some
 (SV.tuple
 [SV.ptr 0 0 0 0,
 SV.tuple [SV.ptr 1 0 0 0, SV.bool false, .int .i64 x0, .int .i64 y0, .int .i64 x1, .int .i64 y1, .int .i64 z1, .int .i64 z]],
 [Row.vec true Knd.bool xs, Row.own [.int .i64 w, .int .i64 d, .int .i64 h, SV.slice 0 1 off len none, SV.unk],
 Row.own [.int .i64 lo.x, .int .i64 lo.y, .int .i64 lo.z], Row.own [.int .i64 hi.x, .int .i64 hi.y, .int .i64 hi.z]]) := by kernel_rfl

section
variable {w d h : Int} {off len : Nat} {xs : List Bool} {lo hi : V3}
theorem gz_loop (hc : gdOk w d h off len xs = true) {x0 y0 x1 y1 z0 z1 : Int} (hx : rgB x0 x1 = true) (hy : rgB y0 y1 = true) (hz : rgB z0 z1 = true) :
    ((mpOf w d h len fun j => xs.getD (off + j) false).solZ x0 x1 y0 y1 z0 z1 = true → LoopTo rdGz (valGz x0 y0 x1 y1 z1 z0) (rowGd w d h off len xs lo hi) .ret (valGz x0 y0 x1 y1 z1 (posB ((mpOf w d h len fun j => xs.getD (off + j) false).solY x0 x1 y0 y1) (z1 + 1 - z0).toNat z0)) (rowGd w d h off len xs lo hi)) ∧
    ((mpOf w d h len fun j => xs.getD (off + j) false).solZ x0 x1 y0 y1 z0 z1 = false → LoopTo rdGz (valGz x0 y0 x1 y1 z1 z0) (rowGd w d h off len xs lo hi) (.exit 0) (valGz x0 y0 x1 y1 z1 (z1 + 1)) (rowGd w d h off len xs lo hi)) := by
 obtain ⟨k1, k2, k3⟩ := rgB_iff.1 hz
 have key := loop_any (rd := rdGz) (val := valGz x0 y0 x1 y1 z1) (valR := valGz x0 y0 x1 y1 z1) (R := rowGd w d h off len xs lo hi) (p := (mpOf w d h len fun j => xs.getD (off + j) false).solY x0 x1 y0 y1) (W := z1 + 1) (ex := 0) (i0 := z0) (fun z i0 i1 => ?_) ?_ (z1 + 1 - z0).toNat z0 (by omega) (by omega)
 · exact key
 · rw [gz_round, decide_eq_true (show z ≤ z1 by omega), hc, hx, hy, rg_one hz i0 (by omega), IntWalk.i64_in (z + 1) (by omega)]
   simp only [decide_true, Bool.and_self, cond_true]
   rfl
 · rw [gz_round, decide_eq_false (by omega)]
   rfl
end

noncomputable def outGz (v : List SV) (R : List Row) (k : Ex → List SV → List Row → Option Res2) : Option Res2 := match v, R with
 | [.ptr 1 0 0 0, .bool b, .int .i64 x0, .int .i64 y0, .int .i64 x1, .int .i64 y1, .int .i64 z1, .int .i64 z], [.vec true .bool xs, .own [.int .i64 w, .int .i64 d, .int .i64 h, .slice 0 1 off len none, .unk], .own [.int .i64 lx, .int .i64 ly, .int .i64 lz], .own [.int .i64 hx, .int .i64 hy, .int .i64 hz]] =>
     bif (!b && (rgB x0 x1 && (rgB y0 y1 && rgB z z1))) && gdOk w d h off len xs then
      (bif (mpOf w d h len fun j => xs.getD (off + j) false).solZ x0 x1 y0 y1 z z1 then k .ret (valGz x0 y0 x1 y1 z1 (posB ((mpOf w d h len fun j => xs.getD (off + j) false).solY x0 x1 y0 y1) (z1 + 1 - z).toNat z)) (rowGd w d h off len xs ⟨lx, ly, lz⟩ ⟨hx, hy, hz⟩)
      else k (.exit 0) (valGz x0 y0 x1 y1 z1 (z1 + 1)) (rowGd w d h off len xs ⟨lx, ly, lz⟩ ⟨hx, hy, hz⟩)) else none
 | _, _ => none
theorem lpoGz_ok : LpOk 44 [0, 0, 1, 1, 1, 1, 1] (loopF 89 [3, 6, 7, 8, 10, 11, 12, 9] outGz) := by
 intro b hat s K r h
 refine loopF_ok (fuel := 100) xGd3_ok (loopOf_ok (l := [lpoGy])) hat (fun v R k r hr => ?_) h
 have hbody := at_body Try.func44 hat
 subst hbody
 unfold outGz at hr
 split at hr
 · rename_i bb x0 y0 x1 y1 z1 z xs w d h off len lx ly lz hx hy hz
   obtain ⟨hb, hr2⟩ := cond_some hr
   simp only [Bool.and_eq_true, decide_eq_true_eq, Bool.not_eq_true'] at hb
   obtain ⟨⟨rfl, h1, h2, h3⟩, h4⟩ := hb
   obtain ⟨k1, k2⟩ := gz_loop (lo := ⟨lx, ly, lz⟩) (hi := ⟨hx, hy, hz⟩) h4 h1 h2 h3
   cases hq : (mpOf w d h len fun j => xs.getD (off + j) false).solZ x0 x1 y0 y1 z z1 with
   | true => rw [hq, cond_true] at hr2; exact ⟨_, _, _, hr2, k1 hq⟩
   | false => rw [hq, cond_false] at hr2; exact ⟨_, _, _, hr2, k2 hq⟩
 · cases hr
noncomputable def lpoGz : Lpo := ⟨_, _, _, lpoGz_ok⟩

theorem clear_tree (w d h : Int) (len off : Nat) (xs : List Bool) (lo hi : V3) : runK xGd3 (loopOf [lpoGz]) 300 44 Try.f44 0 [mapS w d h (.slice 0 1 off len none) .unk, .agg lo.sv, .agg hi.sv] [.vec true .bool xs] =
 bif bif (bif decide (lo.x ≥ hi.x) == false then decide (lo.y ≥ hi.y) else true) == false then decide (lo.z ≥ hi.z) else true then some (SV.bool true, [])
 else
 bif fitsB lo then
 bif fitsB (V3.mk (IntKind.i64.wrap (hi.x - 1)) (IntKind.i64.wrap (hi.y - 1)) (IntKind.i64.wrap (hi.z - 1))) then
 bif mapOk w d h len && (in64B (lo.x / 65536) && (in64B (lo.y / 65536) && (in64B (lo.z / 65536) && decide (off + len ≤ xs.length)))) then
 bif
 (mapOk w d h len &&
 (in64B (IntKind.i64.wrap (hi.x - 1) / 65536) &&
 (in64B (IntKind.i64.wrap (hi.y - 1) / 65536) && (in64B (IntKind.i64.wrap (hi.z - 1) / 65536) && decide (off + len ≤ xs.length)))) &&
 true &&
 true ||
 (mpOf w d h len fun j => xs.getD (off + j) false).solid (lo.x / 65536) (lo.y / 65536) (lo.z / 65536) != false) &&
 (true || (mpOf w d h len fun j => xs.getD (off + j) false).solid (lo.x / 65536) (lo.y / 65536) (lo.z / 65536) == false) &&
 true then
 bif
 bif (mpOf w d h len fun j => xs.getD (off + j) false).solid (lo.x / 65536) (lo.y / 65536) (lo.z / 65536) == false then
 (mpOf w d h len fun j => xs.getD (off + j) false).solid (IntKind.i64.wrap (hi.x - 1) / 65536) (IntKind.i64.wrap (hi.y - 1) / 65536) (IntKind.i64.wrap (hi.z - 1) / 65536)
 else true then
 some (SV.bool false, [])
 else
 bif
 rgB (lo.x / 65536) (IntKind.i64.wrap (hi.x - 1) / 65536) && (rgB (lo.y / 65536) (IntKind.i64.wrap (hi.y - 1) / 65536) && rgB (lo.z / 65536) (IntKind.i64.wrap (hi.z - 1) / 65536)) &&
 gdOk w d h off len xs then
 bif
 (mpOf w d h len fun j => xs.getD (off + j) false).solZ (lo.x / 65536) (IntKind.i64.wrap (hi.x - 1) / 65536) (lo.y / 65536) (IntKind.i64.wrap (hi.y - 1) / 65536) (lo.z / 65536)
 (IntKind.i64.wrap (hi.z - 1) / 65536) then
 some (SV.bool false, [])
 else some (SV.bool true, [])
 else none
 else none
 else none
 else none
 else none := by kernel_rfl

theorem clear_val {w d h : Int} {len off : Nat} {xs : List Bool} {lo hi : V3} (hm : mapOk w d h len = true) (f1 : lo.fits) (f2 : hi.fits) (hl : off + len ≤ xs.length) : runK xGd3 (loopOf [lpoGz]) 300 44 Try.f44 0 [mapS w d h (.slice 0 1 off len none) .unk, .agg lo.sv, .agg hi.sv] [.vec true .bool xs] = some (.bool ((mpOf w d h len fun j => xs.getD (off + j) false).clear lo hi), []) := by
 rw [clear_tree]
 simp only [or_form]
 refine bif_law (fun h0 => ?_) (fun h0 => ?_)
 · rw [Mp.clear_true]
   simp only [Bool.or_eq_true, decide_eq_true_eq] at h0
   rcases h0 with (h0 | h0) | h0
   · exact .inl (by omega)
   · exact .inr (.inl (by omega))
   · exact .inr (.inr (.inl (by omega)))
 · simp only [Bool.or_eq_false_iff, decide_eq_false_iff_not] at h0
   obtain ⟨⟨l1, l2⟩, l3⟩ := h0
   have a1 := f1.1; have a2 := f1.2.1; have a3 := f1.2.2
   have b1 := f2.1; have b2 := f2.2.1; have b3 := f2.2.2
   have g1 : In64 (hi.x - 1) := by unfold In64 at *; omega
   have g2 : In64 (hi.y - 1) := by unfold In64 at *; omega
   have g3 : In64 (hi.z - 1) := by unfold In64 at *; omega
   rw [IntWalk.i64_in (hi.x - 1) g1, IntWalk.i64_in (hi.y - 1) g2, IntWalk.i64_in (hi.z - 1) g3]
   rw [fitsB_iff.2 f1, fitsB_iff.2 (show (V3.mk (hi.x - 1) (hi.y - 1) (hi.z - 1)).fits from ⟨g1, g2, g3⟩), hm, i64_div' a1, i64_div' a2, i64_div' a3, i64_div' g1, i64_div' g2, i64_div' g3, decide_eq_true hl]
   simp only [Bool.and_self, Bool.and_true, Bool.true_or, cond_true]
   cases s1 : (mpOf w d h len fun j => xs.getD (off + j) false).solid (lo.x / 65536) (lo.y / 65536) (lo.z / 65536) with
   | true =>
    rw [Mp.clear_false]
    · rfl
    · rintro (k | k | k | k)
      · omega
      · omega
      · omega
      · rw [k _ _ _ (Int.le_refl _) (by omega) (Int.le_refl _) (by omega) (Int.le_refl _) (by omega)] at s1
        cases s1
   | false =>
    cases s2 : (mpOf w d h len fun j => xs.getD (off + j) false).solid ((hi.x - 1) / 65536) ((hi.y - 1) / 65536) ((hi.z - 1) / 65536) with
    | true =>
     rw [Mp.clear_false]
     · rfl
     · rintro (k | k | k | k)
       · omega
       · omega
       · omega
       · rw [k _ _ _ (by omega) (Int.le_refl _) (by omega) (Int.le_refl _) (by omega) (Int.le_refl _)] at s2
         cases s2
    | false =>
     obtain ⟨c1, c2, c3⟩ := Mp.solid_in s1
     obtain ⟨d1, d2, d3⟩ := Mp.solid_in s2
     rw [rgB_iff.2 ⟨c1.1, show lo.x / 65536 ≤ (hi.x - 1) / 65536 by omega, by omega⟩, rgB_iff.2 ⟨c2.1, show lo.y / 65536 ≤ (hi.y - 1) / 65536 by omega, by omega⟩, rgB_iff.2 ⟨c3.1, show lo.z / 65536 ≤ (hi.z - 1) / 65536 by omega, by omega⟩]
     rw [show gdOk w d h off len xs = true by unfold gdOk; rw [hm, decide_eq_true hl]; rfl]
     simp only [Bool.or_self, Bool.and_self, cond_true, cond_false]
     cases hs : (mpOf w d h len fun j => xs.getD (off + j) false).solZ (lo.x / 65536) ((hi.x - 1) / 65536) (lo.y / 65536) ((hi.y - 1) / 65536) (lo.z / 65536) ((hi.z - 1) / 65536) with
     | false => rw [Mp.clear_true (.inr (.inr (.inr (solZ_iff.1 hs))))]; rfl
     | true =>
      rw [Mp.clear_false]
      · rfl
      · rintro (k | k | k | k)
        · omega
        · omega
        · omega
        · rw [solZ_iff.2 k] at hs
          cases hs
noncomputable def oClear (args : List SV) (rows : List Row) : Option Eff :=
 match args with
 | [.agg [.int .i64 w, .int .i64 d, .int .i64 h, .slice id st off len _, sp], .agg [.int .i64 x, .int .i64 y, .int .i64 z], .agg [.int .i64 p, .int .i64 q, .int .i64 r]] => match rows[id]? with
  | some (.vec _ .bool xs) => bif Nat.beq st 1 && sp.one then some { ok := mapOk w d h len && (fitsB ⟨x, y, z⟩ && (fitsB ⟨p, q, r⟩ && decide (off + len ≤ xs.length))), val := .bool ((mpOf w d h len fun j => xs.getD (off + j) false).clear ⟨x, y, z⟩ ⟨p, q, r⟩), rd := [id] } else none
  | _ => none
 | _ => none
theorem oClear_ok {args : List SV} {rows : List Row} {n : Nat} {e : Eff} (h : oClear args rows = some e) (hok : e.ok = true) : FnOk Try.prog 44 args (rows[·]?) n e := by
 unfold oClear at h
 split at h
 · rename_i wd dd hd id st off len cap sp x y z p q r
   split at h
   · rename_i ro xs hrow
     obtain ⟨hb, h⟩ := cond_some h
     cases h
     simp only [Bool.and_eq_true, decide_eq_true_eq, fitsB_iff] at hok
     exact fnOk_grid xGd3_ok loopOf_ok Try.func44 hb hrow rfl rfl (clear_val (lo := ⟨x, y, z⟩) (hi := ⟨p, q, r⟩) hok.1 hok.2.1 hok.2.2.1 hok.2.2.2)
   · cases h
 · cases h
noncomputable def orcClear : Orc := ⟨44, oClear, fun _ _ _ h hok => oClear_ok h hok, bodied Try.func44 (by kernel_rfl)⟩

end Go.Proofs.Ytimkhidniolpeaa

namespace Go.Proofs.Ytimkhidniolpeaa
set_option linter.unusedSimpArgs false
set_option linter.unusedVariables false
set_option maxRecDepth 100000
set_option maxHeartbeats 0
end Go.Proofs.Ytimkhidniolpeaa

namespace Go.Proofs.Ytimkhidniolpeaa
set_option linter.unusedSimpArgs false
set_option linter.unusedVariables false
set_option maxRecDepth 100000
set_option maxHeartbeats 0
open Go.RowKit

noncomputable def xAr : Ctx := ctxOf [29] []
theorem xAr_ok : COk Try.prog xAr := ctxOf_ok (by kernel_rfl)

def spawnP (id : Int) (a : V3) : Pl := ⟨id, a, ⟨0, 0, 0⟩, false, 100, 0, 0, 10, 5, 0, 0⟩
def fireG (a : Int) (q p : Pl) : Pl × Int := bif decide (p.dead > 0) then (p, 10) else bif decide (p.wait > 0) then (p, 8) else bif decide (a ≤ 0) then (p, 9) else (q, 0)
def fireP (p : Pl) (k : Int) : Pl × Int := bif k == 0 then fireG p.a0 { p with a0 := IntKind.i64.wrap (p.a0 - 1), wait := 10 } p else fireG p.a1 { p with a1 := IntKind.i64.wrap (p.a1 - 1), wait := 10 } p
def atickP (p : Pl) : Pl := { p with wait := IntKind.i64.wrap (p.wait - min (max p.wait 0) 1), dead := IntKind.i64.wrap (p.dead - min (max p.dead 0) 1) }
def backP (p : Pl) (a : V3) : Pl := ⟨p.id, a, ⟨0, 0, 0⟩, false, 100, 0, p.score, 10, 5, 0, 0⟩

theorem spawn_val (id : Int) (p : V3) : runK xAr (fun _ _ => none) 200 29 Try.f29 0 [.int .i64 id, .agg p.sv] [] = some (.agg (spawnP id p).sv, []) := by kernel_rfl
def fireT (p : Pl) (e : Int) : Option Res2 := some (.tuple [.agg p.sv, .int .i64 e], [])
theorem fire0_tree (p : Pl) : runK xAr (fun _ _ => none) 200 33 Try.f33 0 [.agg p.sv, .int .i64 0] [] =
    bif decide (p.dead > 0) then fireT p 10 else bif decide (p.wait > 0) then fireT p 8 else bif decide (p.a0 ≤ 0) then fireT p 9 else fireT { p with a0 := IntKind.i64.wrap (p.a0 - 1), wait := 10 } 0 := by kernel_rfl
theorem fire1_tree (p : Pl) : runK xAr (fun _ _ => none) 200 33 Try.f33 0 [.agg p.sv, .int .i64 1] [] =
    bif decide (p.dead > 0) then fireT p 10 else bif decide (p.wait > 0) then fireT p 8 else bif decide (p.a1 ≤ 0) then fireT p 9 else fireT { p with a1 := IntKind.i64.wrap (p.a1 - 1), wait := 10 } 0 := by kernel_rfl
theorem fire_val (p : Pl) (k : Int) (hk : k = 0 ∨ k = 1) : runK xAr (fun _ _ => none) 200 33 Try.f33 0 [.agg p.sv, .int .i64 k] [] = some (.tuple [.agg (fireP p k).1.sv, .int .i64 (fireP p k).2], []) := by
 rcases hk with rfl | rfl
 · rw [fire0_tree]
   unfold fireP fireG fireT
   cases decide (p.dead > 0) <;> cases decide (p.wait > 0) <;> cases decide (p.a0 ≤ 0) <;> rfl
 · rw [fire1_tree]
   unfold fireP fireG fireT
   cases decide (p.dead > 0) <;> cases decide (p.wait > 0) <;> cases decide (p.a1 ≤ 0) <;> rfl
theorem atick_val (p : Pl) : runK xAr (fun _ _ => none) 200 35 Try.f35 0 [.agg p.sv] [] = some (.tuple [.agg (atickP p).sv, .bool (p.dead == 1)], []) := by kernel_rfl
theorem back_val (p : Pl) (a : V3) : runK xAr (fun _ _ => none) 200 36 Try.f36 0 [.agg p.sv, .agg a.sv] [] = some (.agg (backP p a).sv, []) := by kernel_rfl

theorem dPl_sv {l : List SV} {p : Pl} (h : dPl l = some p) : l = p.sv := (Knd.enc_dec (k := .pl) h).symm
theorem dVec_sv {l : List SV} {p : V3} (h : dVec l = some p) : l = p.sv := (Knd.enc_dec (k := .vec) h).symm
theorem dSh_sv {l : List SV} {p : Sh} (h : dSh l = some p) : l = p.sv := (Knd.enc_dec (k := .sh) h).symm
theorem pl_ids (p : Pl) : SV.idsL p.sv = [] := rfl

def oSpawn : List SV → Option Eff
 | [.int .i64 id, .agg cs] => match dVec cs with
  | some a => some { val := .agg (spawnP id a).sv }
  | none => none
 | _ => none
theorem oSpawn_ok {m : Nat → Option Row} {n : Nat} {args : List SV} {e : Eff} (h : oSpawn args = some e) : FnOk Try.prog 29 args m n e := by
 unfold oSpawn at h
 split at h
 · split at h
   · rename_i a ha
     cases h
     rw [dVec_sv ha]
     obtain ⟨rows', hc, _⟩ := runK_ok xAr_ok lok_none Try.func29 (spawn_val _ a)
     exact fnOk_pure hc rfl rfl
   · cases h
 · cases h
noncomputable def orcSpawn : Orc := ⟨29, fun args _ => oSpawn args, fun _ _ _ h _ => oSpawn_ok h, bodied Try.func29 (by kernel_rfl)⟩

def oFire : List SV → Option Eff
 | [.agg cs, .int .i64 k] => match dPl cs with
  | some p => some { ok := k == 0 || k == 1, val := .tuple [.agg (fireP p k).1.sv, .int .i64 (fireP p k).2] }
  | none => none
 | _ => none
theorem oFire_ok {m : Nat → Option Row} {n : Nat} {args : List SV} {e : Eff} (h : oFire args = some e) (hok : e.ok = true) : FnOk Try.prog 33 args m n e := by
 unfold oFire at h
 split at h
 · split at h
   · rename_i p hp
     cases h
     rw [dPl_sv hp]
     simp only [Bool.or_eq_true, beq_iff_eq] at hok
     obtain ⟨rows', hc, _⟩ := runK_ok xAr_ok lok_none Try.func33 (fire_val p _ hok)
     exact fnOk_pure hc rfl rfl
   · cases h
 · cases h
noncomputable def orcFire : Orc := ⟨33, fun args _ => oFire args, fun _ _ _ h hok => oFire_ok h hok, bodied Try.func33 (by kernel_rfl)⟩

def oAtick : List SV → Option Eff
 | [.agg cs] => match dPl cs with
  | some p => some { val := .tuple [.agg (atickP p).sv, .bool (p.dead == 1)] }
  | none => none
 | _ => none
theorem oAtick_ok {m : Nat → Option Row} {n : Nat} {args : List SV} {e : Eff} (h : oAtick args = some e) : FnOk Try.prog 35 args m n e := by
 unfold oAtick at h
 split at h
 · split at h
   · rename_i p hp
     cases h
     rw [dPl_sv hp]
     obtain ⟨rows', hc, _⟩ := runK_ok xAr_ok lok_none Try.func35 (atick_val p)
     exact fnOk_pure hc rfl rfl
   · cases h
 · cases h
noncomputable def orcAtick : Orc := ⟨35, fun args _ => oAtick args, fun _ _ _ h _ => oAtick_ok h, bodied Try.func35 (by kernel_rfl)⟩

def oBack : List SV → Option Eff
 | [.agg cs, .agg ds] => match dPl cs, dVec ds with
  | some p, some a => some { val := .agg (backP p a).sv }
  | _, _ => none
 | _ => none
theorem oBack_ok {m : Nat → Option Row} {n : Nat} {args : List SV} {e : Eff} (h : oBack args = some e) : FnOk Try.prog 36 args m n e := by
 unfold oBack at h
 split at h
 · split at h
   · rename_i p a hp ha
     cases h
     rw [dPl_sv hp, dVec_sv ha]
     obtain ⟨rows', hc, _⟩ := runK_ok xAr_ok lok_none Try.func36 (back_val p a)
     exact fnOk_pure hc rfl rfl
   · cases h
 · cases h
noncomputable def orcBack : Orc := ⟨36, fun args _ => oBack args, fun _ _ _ h _ => oBack_ok h, bodied Try.func36 (by kernel_rfl)⟩

end Go.Proofs.Ytimkhidniolpeaa
