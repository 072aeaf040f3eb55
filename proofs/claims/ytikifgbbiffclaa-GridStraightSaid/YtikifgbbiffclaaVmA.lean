/- A small machine of one's own: values whose blocks have numbers of one's own, rows, and how they stand to the model's values and memory. Of whatever program. -/
import Derived.Test.YtikifgbbiffclaaOwn
namespace Go.Proofs.Ytikifgbbiffclaa
set_option linter.unusedSimpArgs false
set_option linter.unusedVariables false
open Go.RowKit

/-! Values. -/
inductive SV where
  | top
  | unk
  | int (k : IntKind) (n : Int)
  | bool (b : Bool)
  | ptr (id st i j : Nat)
  | nilp
  | slice (id st off len : Nat) (cap : Option Nat)
  | nils
  | agg (xs : List SV)
  | tuple (xs : List SV)
  | fn (f : Nat) (caps : List SV)

/-- Where a block lies: its number, where its elements begin, whether it is one's own, and how many cells it has. -/
structure Plc where
  b : Nat
  base : Nat
  mine : Bool
  size : Nat

abbrev Rho := Nat → Option Plc

mutual
def Rel (ρ : Rho) : SV → Value → Prop
  | .top, _ => True
  | .unk, v => v.oneCell' = true ∧ v.cells = #[v]
  | .int k n, v => v = .int k n
  | .bool b, v => v = .bool b
  | .ptr id st i j, v => ∃ p, ρ id = some p ∧ v = .pointer (some ⟨p.b, p.base + i * st + j, none⟩)
  | .nilp, v => v = .pointer none
  | .slice id st off len cap, v => (∃ p o c, ρ id = some p ∧ v = .slice (some ⟨p.b, o, none⟩) len c ∧ (∀ c', cap = some c' → c = c') ∧ (o = p.base + off * st ∨ (len = 0 ∧ cap = none)) ∧ len ≤ c ∧ (p.mine = true → o + c * st ≤ p.size)) ∨ (len = 0 ∧ cap = none ∧ ∃ a c, v = .slice a 0 c)
  | .nils, v => v = .slice none 0 0
  | .agg xs, v => ∃ vs : List Value, v = .agg vs.toArray ∧ RelL ρ xs vs
  | .tuple xs, v => ∃ vs : List Value, v = .tuple vs.toArray ∧ RelL ρ xs vs
  | .fn f caps, v => ∃ vs : List Value, v = .func (.func f) #[] vs.toArray ∧ RelL ρ caps vs
def RelL (ρ : Rho) : List SV → List Value → Prop
  | [], vs => vs = []
  | x :: xs, vs => ∃ v vs', vs = v :: vs' ∧ Rel ρ x v ∧ RelL ρ xs vs'
end

def Rho.le (ρ ρ' : Rho) : Prop := ∀ i p, ρ i = some p → ρ' i = some p
theorem Rho.le.refl (ρ : Rho) : ρ.le ρ := fun _ _ h => h
theorem Rho.le.trans {a b c : Rho} (h : a.le b) (k : b.le c) : a.le c := fun i p hp => k i p (h i p hp)

mutual
theorem Rel.mono {ρ ρ' : Rho} (h : ρ.le ρ') : ∀ (s : SV) (v : Value), Rel ρ s v → Rel ρ' s v
  | .top, _, _ => by simp [Rel]
  | .unk, _, r => by simpa only [Rel] using r
  | .int .., _, r => by simpa [Rel] using r
  | .bool _, _, r => by simpa [Rel] using r
  | .nilp, _, r => by simpa [Rel] using r
  | .nils, _, r => by simpa [Rel] using r
  | .ptr .., _, r => by
    simp only [Rel] at r ⊢
    obtain ⟨p, hp, hv⟩ := r
    exact ⟨p, h _ _ hp, hv⟩
  | .slice .., _, r => by
    simp only [Rel] at r ⊢
    rcases r with ⟨p, o, c, hp, hv⟩ | r
    · exact .inl ⟨p, o, c, h _ _ hp, hv⟩
    · exact .inr r
  | .agg xs, _, r => by
    simp only [Rel] at r ⊢
    obtain ⟨vs, hv, hr⟩ := r
    exact ⟨vs, hv, RelL.mono h xs vs hr⟩
  | .tuple xs, _, r => by
    simp only [Rel] at r ⊢
    obtain ⟨vs, hv, hr⟩ := r
    exact ⟨vs, hv, RelL.mono h xs vs hr⟩
  | .fn _ xs, _, r => by
    simp only [Rel] at r ⊢
    obtain ⟨vs, hv, hr⟩ := r
    exact ⟨vs, hv, RelL.mono h xs vs hr⟩
theorem RelL.mono {ρ ρ' : Rho} (h : ρ.le ρ') : ∀ (s : List SV) (v : List Value), RelL ρ s v → RelL ρ' s v
  | [], _, r => by simpa [RelL] using r
  | x :: xs, _, r => by
    simp only [RelL] at r ⊢
    obtain ⟨v, vs, hv, h1, h2⟩ := r
    exact ⟨v, vs, hv, Rel.mono h x v h1, RelL.mono h xs vs h2⟩
end

theorem relL_nil {ρ : Rho} {vs : List Value} : RelL ρ [] vs ↔ vs = [] := by simp [RelL]
theorem relL_cons {ρ : Rho} {x : SV} {xs : List SV} {v : Value} {vs : List Value} : RelL ρ (x :: xs) (v :: vs) ↔ Rel ρ x v ∧ RelL ρ xs vs := by
  simp only [RelL]
  constructor
  · rintro ⟨v', vs', h, h1, h2⟩
    cases h
    exact ⟨h1, h2⟩
  · rintro ⟨h1, h2⟩
    exact ⟨v, vs, rfl, h1, h2⟩
theorem RelL.length {ρ : Rho} : ∀ {xs : List SV} {vs : List Value}, RelL ρ xs vs → xs.length = vs.length
  | [], vs, h => by simp [RelL] at h; simp [h]
  | x :: xs, [], h => by simp [RelL] at h
  | x :: xs, v :: vs, h => by
    rw [relL_cons] at h
    simp [RelL.length h.2]
theorem RelL.get {ρ : Rho} : ∀ {xs : List SV} {vs : List Value}, RelL ρ xs vs → ∀ {i : Nat} {x : SV}, xs[i]? = some x → ∃ v, vs[i]? = some v ∧ Rel ρ x v
  | [], vs, h, i, x, hi => by simp at hi
  | y :: xs, [], h, i, x, hi => by simp [RelL] at h
  | y :: xs, v :: vs, h, 0, x, hi => by
    rw [relL_cons] at h
    simp at hi
    exact ⟨v, by simp, hi ▸ h.1⟩
  | y :: xs, v :: vs, h, i + 1, x, hi => by
    rw [relL_cons] at h
    simpa using h.2.get (i := i) (x := x) (by simpa using hi)
theorem RelL.set {ρ : Rho} {y : SV} {u : Value} (hy : Rel ρ y u) : ∀ {xs : List SV} {vs : List Value}, RelL ρ xs vs → ∀ (i : Nat), RelL ρ (xs.set i y) (vs.set i u)
  | [], vs, h, i => by simp [RelL] at h; simp [h, RelL]
  | x :: xs, [], h, i => by simp [RelL] at h
  | x :: xs, v :: vs, h, 0 => by
    rw [relL_cons] at h
    simp only [List.set_cons_zero, relL_cons]
    exact ⟨hy, h.2⟩
  | x :: xs, v :: vs, h, i + 1 => by
    rw [relL_cons] at h
    simp only [List.set_cons_succ, relL_cons]
    exact ⟨h.1, h.2.set hy i⟩
theorem RelL.append {ρ : Rho} : ∀ {xs : List SV} {vs : List Value}, RelL ρ xs vs → ∀ {ys : List SV} {us : List Value}, RelL ρ ys us → RelL ρ (xs ++ ys) (vs ++ us)
  | [], vs, h, ys, us, k => by simp [RelL] at h; simpa [h] using k
  | x :: xs, [], h, ys, us, k => by simp [RelL] at h
  | x :: xs, v :: vs, h, ys, us, k => by
    rw [relL_cons] at h
    simp only [List.cons_append, relL_cons]
    exact ⟨h.1, h.2.append k⟩
theorem RelL.drop {ρ : Rho} : ∀ {xs : List SV} {vs : List Value}, RelL ρ xs vs → ∀ (n : Nat), RelL ρ (xs.drop n) (vs.drop n)
  | xs, vs, h, 0 => by simpa using h
  | [], vs, h, n + 1 => by simp [RelL] at h; simp [h, RelL]
  | x :: xs, [], h, n + 1 => by simp [RelL] at h
  | x :: xs, v :: vs, h, n + 1 => by
    rw [relL_cons] at h
    simpa using h.2.drop n
theorem RelL.take {ρ : Rho} : ∀ {xs : List SV} {vs : List Value}, RelL ρ xs vs → ∀ (n : Nat), RelL ρ (xs.take n) (vs.take n)
  | xs, vs, h, 0 => by simp [RelL]
  | [], vs, h, n + 1 => by simp [RelL] at h; simp [h, RelL]
  | x :: xs, [], h, n + 1 => by simp [RelL] at h
  | x :: xs, v :: vs, h, n + 1 => by
    rw [relL_cons] at h
    simp only [List.take_succ_cons, relL_cons]
    exact ⟨h.1, h.2.take n⟩
theorem RelL.tops {ρ : Rho} : ∀ (vs : List Value), RelL ρ (List.replicate vs.length .top) vs
  | [] => by simp [RelL]
  | v :: vs => by
    simp only [List.length_cons, List.replicate_succ, relL_cons]
    exact ⟨by simp [Rel], RelL.tops vs⟩

/-- The numbers of blocks that a value names. -/
def SV.ids1 : SV → List Nat
  | .ptr id _ _ _ => [id]
  | .slice id _ _ _ _ => [id]
  | _ => []
mutual
def SV.ids : SV → List Nat
  | .ptr id _ _ _ => [id]
  | .slice id _ _ _ _ => [id]
  | .agg xs => SV.idsL xs
  | .tuple xs => SV.idsL xs
  | .fn _ xs => SV.idsL xs
  | _ => []
def SV.idsL : List SV → List Nat
  | [] => []
  | x :: xs => x.ids ++ SV.idsL xs
end

mutual
/-- Only the named blocks matter. -/
theorem Rel.only {ρ ρ' : Rho} : ∀ (s : SV) (v : Value), (∀ i ∈ s.ids, ∀ p, ρ i = some p → ρ' i = some p) → Rel ρ s v → Rel ρ' s v
  | .top, _, _, _ => by simp [Rel]
  | .unk, _, _, r => by simpa only [Rel] using r
  | .int .., _, _, r => by simpa [Rel] using r
  | .bool _, _, _, r => by simpa [Rel] using r
  | .nilp, _, _, r => by simpa [Rel] using r
  | .nils, _, _, r => by simpa [Rel] using r
  | .ptr id _ _ _, _, h, r => by
    simp only [Rel] at r ⊢
    obtain ⟨p, hp, hv⟩ := r
    exact ⟨p, h id (by simp [SV.ids]) _ hp, hv⟩
  | .slice id _ _ _ _, _, h, r => by
    simp only [Rel] at r ⊢
    rcases r with ⟨p, o, c, hp, hv⟩ | r
    · exact .inl ⟨p, o, c, h id (by simp [SV.ids]) _ hp, hv⟩
    · exact .inr r
  | .agg xs, _, h, r => by
    simp only [Rel] at r ⊢
    obtain ⟨vs, hv, hr⟩ := r
    exact ⟨vs, hv, RelL.only xs vs (fun i hi => h i (by simpa [SV.ids] using hi)) hr⟩
  | .tuple xs, _, h, r => by
    simp only [Rel] at r ⊢
    obtain ⟨vs, hv, hr⟩ := r
    exact ⟨vs, hv, RelL.only xs vs (fun i hi => h i (by simpa [SV.ids] using hi)) hr⟩
  | .fn _ xs, _, h, r => by
    simp only [Rel] at r ⊢
    obtain ⟨vs, hv, hr⟩ := r
    exact ⟨vs, hv, RelL.only xs vs (fun i hi => h i (by simpa [SV.ids] using hi)) hr⟩
theorem RelL.only {ρ ρ' : Rho} : ∀ (s : List SV) (v : List Value), (∀ i ∈ SV.idsL s, ∀ p, ρ i = some p → ρ' i = some p) → RelL ρ s v → RelL ρ' s v
  | [], _, _, r => by simpa [RelL] using r
  | x :: xs, _, h, r => by
    simp only [RelL] at r ⊢
    obtain ⟨v, vs, hv, h1, h2⟩ := r
    exact ⟨v, vs, hv, Rel.only x v (fun i hi => h i (by simp [SV.idsL, hi])) h1, RelL.only xs vs (fun i hi => h i (by simp [SV.idsL, hi])) h2⟩
end

theorem SV.mem_idsL {i : Nat} : ∀ {xs : List SV}, i ∈ SV.idsL xs ↔ ∃ x ∈ xs, i ∈ x.ids
  | [] => by simp [SV.idsL]
  | x :: xs => by simp [SV.idsL, SV.mem_idsL (xs := xs)]

/-! Data: elements of slices. -/
structure Sh where
  id : Int
  owner : Int
  kind : Int
  pos : V3
  vel : V3
  fuse : Int
  rest : Bool
  deriving DecidableEq

structure Pt where
  p : Int
  q : Int
  deriving DecidableEq

structure Cm where
  seq : Int
  buttons : Int
  dx : Int
  dy : Int
  ticks : Int
  deriving DecidableEq

structure WOp where
  kind : Int
  player : Int
  cmd : Cm
  shot : Int
  ahead : Int
  dir : V3
  deriving DecidableEq

inductive Knd where
  | bool | i64 | u64 | vec | pl | pt | sh | cm | wop
  deriving DecidableEq

def V3.sv (a : V3) : List SV := [.int .i64 a.x, .int .i64 a.y, .int .i64 a.z]
def Pl.sv (p : Pl) : List SV := [.int .i64 p.id, .int .i64 p.pos.x, .int .i64 p.pos.y, .int .i64 p.pos.z, .int .i64 p.vel.x, .int .i64 p.vel.y, .int .i64 p.vel.z, .bool p.ground, .int .i64 p.health, .int .i64 p.armour, .int .i64 p.score, .int .i64 p.a0, .int .i64 p.a1, .int .i64 p.wait, .int .i64 p.dead]
def Sh.sv (s : Sh) : List SV := [.int .i64 s.id, .int .i64 s.owner, .int .i64 s.kind, .int .i64 s.pos.x, .int .i64 s.pos.y, .int .i64 s.pos.z, .int .i64 s.vel.x, .int .i64 s.vel.y, .int .i64 s.vel.z, .int .i64 s.fuse, .bool s.rest]
def Pt.sv (s : Pt) : List SV := [.int .i64 s.p, .int .i64 s.q]
def Cm.sv (s : Cm) : List SV := [.int .u16 s.seq, .int .u8 s.buttons, .int .i8 s.dx, .int .i8 s.dy, .int .i64 s.ticks]
def WOp.sv (s : WOp) : List SV := [.int .i64 s.kind, .int .i64 s.player, .int .u16 s.cmd.seq, .int .u8 s.cmd.buttons, .int .i8 s.cmd.dx, .int .i8 s.cmd.dy, .int .i64 s.cmd.ticks, .int .i64 s.shot, .int .i64 s.ahead, .int .i64 s.dir.x, .int .i64 s.dir.y, .int .i64 s.dir.z]

def Knd.T : Knd → Type
  | .bool => Bool
  | .i64 => Int
  | .u64 => Int
  | .vec => V3
  | .pl => Pl
  | .pt => Pt
  | .sh => Sh
  | .cm => Cm
  | .wop => WOp

def Knd.st : Knd → Nat
  | .bool => 1
  | .i64 => 1
  | .u64 => 1
  | .vec => 3
  | .pl => 15
  | .pt => 2
  | .sh => 11
  | .cm => 5
  | .wop => 12

def Knd.enc : (k : Knd) → k.T → List SV
  | .bool, b => [.bool b]
  | .i64, n => [.int .i64 n]
  | .u64, n => [.int .u64 n]
  | .vec, a => V3.sv a
  | .pl, p => Pl.sv p
  | .pt, p => Pt.sv p
  | .sh, p => Sh.sv p
  | .cm, p => Cm.sv p
  | .wop, p => WOp.sv p

def Knd.dflt : (k : Knd) → k.T
  | .bool => false
  | .i64 => (0 : Int)
  | .u64 => (0 : Int)
  | .vec => ⟨0, 0, 0⟩
  | .pl => ⟨0, ⟨0, 0, 0⟩, ⟨0, 0, 0⟩, false, 0, 0, 0, 0, 0, 0, 0⟩
  | .pt => ⟨0, 0⟩
  | .sh => ⟨0, 0, 0, ⟨0, 0, 0⟩, ⟨0, 0, 0⟩, 0, false⟩
  | .cm => ⟨0, 0, 0, 0, 0⟩
  | .wop => ⟨0, 0, ⟨0, 0, 0, 0, 0⟩, 0, 0, ⟨0, 0, 0⟩⟩

def dBool : List SV → Option Bool
  | [.bool b] => some b
  | _ => none
def dInt (k : IntKind) : List SV → Option Int
  | [.int k' n] => bif decide (k' = k) then some n else none
  | _ => none
def dVec : List SV → Option V3
  | [.int .i64 x, .int .i64 y, .int .i64 z] => some ⟨x, y, z⟩
  | _ => none
def dPt : List SV → Option Pt
  | [.int .i64 x, .int .i64 y] => some ⟨x, y⟩
  | _ => none
def i64s : List SV → Option (List Int)
  | [] => some []
  | .int .i64 n :: xs => match i64s xs with | some l => some (n :: l) | none => none
  | _ => none
def dPl : List SV → Option Pl
  | a0 :: a1 :: a2 :: a3 :: a4 :: a5 :: a6 :: .bool g :: rest => match i64s [a0, a1, a2, a3, a4, a5, a6], i64s rest with
    | some [id, px, py, pz, vx, vy, vz], some [h, ar, sc, m0, m1, wt, dd] => some ⟨id, ⟨px, py, pz⟩, ⟨vx, vy, vz⟩, g, h, ar, sc, m0, m1, wt, dd⟩
    | _, _ => none
  | _ => none
def dSh : List SV → Option Sh
  | [a0, a1, a2, a3, a4, a5, a6, a7, a8, a9, .bool g] => match i64s [a0, a1, a2, a3, a4, a5, a6, a7, a8, a9] with
    | some [id, ow, kd, px, py, pz, vx, vy, vz, fu] => some ⟨id, ow, kd, ⟨px, py, pz⟩, ⟨vx, vy, vz⟩, fu, g⟩
    | _ => none
  | _ => none
def Knd.dec : (k : Knd) → List SV → Option k.T
  | .bool, l => dBool l
  | .i64, l => dInt .i64 l
  | .u64, l => dInt .u64 l
  | .vec, l => dVec l
  | .pl, l => dPl l
  | .pt, l => dPt l
  | .sh, l => dSh l
  | .cm, _ => none
  | .wop, _ => none

theorem i64s_spec : ∀ {xs : List SV} {l : List Int}, i64s xs = some l → xs = l.map (.int .i64 ·)
  | [], l, h => by simp [i64s] at h; simp [← h]
  | .int .i64 n :: xs, l, h => by
    simp only [i64s] at h
    split at h
    · rename_i l' hl
      cases h
      simp [i64s_spec hl]
    · cases h
  | .int .i8 _ :: _, _, h => by simp [i64s] at h
  | .int .i16 _ :: _, _, h => by simp [i64s] at h
  | .int .i32 _ :: _, _, h => by simp [i64s] at h
  | .int .u8 _ :: _, _, h => by simp [i64s] at h
  | .int .u16 _ :: _, _, h => by simp [i64s] at h
  | .int .u32 _ :: _, _, h => by simp [i64s] at h
  | .int .u64 _ :: _, _, h => by simp [i64s] at h
  | .top :: _, _, h => by simp [i64s] at h
  | .unk :: _, _, h => by simp [i64s] at h
  | .bool _ :: _, _, h => by simp [i64s] at h
  | .ptr .. :: _, _, h => by simp [i64s] at h
  | .nilp :: _, _, h => by simp [i64s] at h
  | .slice .. :: _, _, h => by simp [i64s] at h
  | .nils :: _, _, h => by simp [i64s] at h
  | .agg _ :: _, _, h => by simp [i64s] at h
  | .tuple _ :: _, _, h => by simp [i64s] at h
  | .fn .. :: _, _, h => by simp [i64s] at h

theorem Knd.enc_dec {k : Knd} {l : List SV} {x : k.T} (h : k.dec l = some x) : k.enc x = l := by
  cases k with
  | bool => simp only [Knd.dec] at h; unfold dBool at h; split at h <;> first | (cases h; rfl) | cases h
  | i64 =>
    simp only [Knd.dec] at h; unfold dInt at h; split at h
    · rename_i k' n
      by_cases hk : k' = .i64
      · subst hk; simp at h; cases h; rfl
      · simp [hk] at h
    · cases h
  | u64 =>
    simp only [Knd.dec] at h; unfold dInt at h; split at h
    · rename_i k' n
      by_cases hk : k' = .u64
      · subst hk; simp at h; cases h; rfl
      · simp [hk] at h
    · cases h
  | vec => simp only [Knd.dec] at h; unfold dVec at h; split at h <;> first | (cases h; rfl) | cases h
  | pt => simp only [Knd.dec] at h; unfold dPt at h; split at h <;> first | (cases h; rfl) | cases h
  | pl =>
    simp only [Knd.dec] at h; unfold dPl at h; split at h
    · split at h
      · rename_i h1 h2
        cases h
        have e1 := i64s_spec h1
        have e2 := i64s_spec h2
        simp at e1
        obtain ⟨rfl, rfl, rfl, rfl, rfl, rfl, rfl⟩ := e1
        subst e2
        rfl
      · cases h
    · cases h
  | sh =>
    simp only [Knd.dec] at h; unfold dSh at h; split at h
    · split at h
      · rename_i h1
        cases h
        have e1 := i64s_spec h1
        simp at e1
        obtain ⟨rfl, rfl, rfl, rfl, rfl, rfl, rfl, rfl, rfl, rfl⟩ := e1
        rfl
      · cases h
    · cases h
  | cm => simp [Knd.dec] at h
  | wop => simp [Knd.dec] at h

theorem Knd.enc_len (k : Knd) (x : k.T) : (k.enc x).length = k.st := by cases k <;> rfl

/-- The value of a datum. -/
def dval : SV → Value
  | .int k n => .int k n
  | .bool b => .bool b
  | _ => undef

def SV.isDat : SV → Bool
  | .int .. => true
  | .bool _ => true
  | _ => false

theorem Knd.enc_dat (k : Knd) (x : k.T) : ∀ s ∈ k.enc x, s.isDat = true := by
  cases k <;> simp [Knd.enc, V3.sv, Pl.sv, Pt.sv, Sh.sv, Cm.sv, WOp.sv, SV.isDat]

theorem rel_dat {ρ : Rho} {s : SV} {v : Value} (hs : s.isDat = true) : Rel ρ s v ↔ v = dval s := by
  cases s <;> simp_all [SV.isDat, Rel, dval]

theorem dat_ids {s : SV} (hs : s.isDat = true) : s.ids = [] := by cases s <;> simp_all [SV.isDat, SV.ids]

/-! Rows. -/
inductive Row where
  | own (cells : List SV)
  | vec (ro : Bool) (k : Knd) (xs : List k.T)
  | gone

def Row.live : Row → Bool
  | .gone => false
  | .own _ => true
  | .vec ro _ xs => !(ro && xs.isEmpty)

def Row.idsR : Row → List Nat
  | .own cs => SV.idsL cs
  | _ => []

/-- The row with this number lies in this world. -/
def RowAt (ρ : Rho) (id : Nat) : Row → World → Prop
  | .gone, _ => True
  | .own cells, w => ∃ (p : Plc) (vs : List Value) (ty : TypeId), ρ id = some p ∧ p.base = 0 ∧ p.mine = true ∧ w.heap[p.b]? = some (.cells vs.toArray ty (0, 0)) ∧ RelL ρ cells vs
  | .vec ro k xs, w => (ro = true ∧ xs = []) ∨ ∃ p : Plc, ρ id = some p ∧ (ro = true → p.mine = false) ∧ (ro = false → p.mine = true ∧ p.base = 0 ∧ ∃ (vs : List Value) (ty : TypeId), w.heap[p.b]? = some (.cells vs.toArray ty (0, 0)) ∧ xs.length * k.st ≤ vs.length ∧ vs.length = p.size) ∧
      ∀ (i : Nat) (x : k.T), xs[i]? = some x → ∀ (j : Nat) (s : SV), (k.enc x)[j]? = some s → w.cell? ⟨p.b, p.base + i * k.st + j, none⟩ = some (dval s)

def Good (ρ : Rho) (w : World) : Prop := ∀ i p, ρ i = some p → p.b < w.heap.size

/-- Nothing has changed but these blocks, and what is new. -/
structure Frm (may : Nat → Prop) (w w' : World) : Prop where
  os : w'.os = w.os
  tape : w'.tape = w.tape
  output : w'.output = w.output
  size : w.heap.size ≤ w'.heap.size
  block : ∀ b, b < w.heap.size → ¬ may b → w'.heap[b]? = w.heap[b]?

theorem Frm.refl (may : Nat → Prop) (w : World) : Frm may w w := ⟨rfl, rfl, rfl, Nat.le_refl _, fun _ _ _ => rfl⟩
theorem Frm.trans {may may' : Nat → Prop} {a b c : World} (h : Frm may a b) (k : Frm may' b c) (hm : ∀ x, x < a.heap.size → may' x → may x) : Frm may a c :=
  ⟨k.os.trans h.os, k.tape.trans h.tape, k.output.trans h.output, Nat.le_trans h.size k.size, fun x hx hn =>
    (k.block x (Nat.lt_of_lt_of_le hx h.size) (fun hk => hn (hm x hx hk))).trans (h.block x hx hn)⟩
theorem Frm.weaken {may may' : Nat → Prop} {a b : World} (h : Frm may a b) (hm : ∀ x, x < a.heap.size → may x → may' x) : Frm may' a b :=
  ⟨h.os, h.tape, h.output, h.size, fun x hx hn => h.block x hx (fun hk => hn (hm x hx hk))⟩

/-- A row that is not touched stays. -/
theorem RowAt.keep {ρ ρ' : Rho} {id : Nat} {row : Row} {w w' : World} (h : RowAt ρ id row w) (hle : ρ.le ρ') (hb : ∀ p, ρ id = some p → w'.heap[p.b]? = w.heap[p.b]?) : RowAt ρ' id row w' := by
  cases row with
  | gone => trivial
  | own cells =>
    obtain ⟨p, vs, ty, hp, h0, hm, hg, hr⟩ := h
    exact ⟨p, vs, ty, hle _ _ hp, h0, hm, (hb p hp).trans hg, RelL.mono hle _ _ hr⟩
  | vec ro k xs =>
    rcases h with h | ⟨p, hp, hro', hown, hcells⟩
    · exact .inl h
    refine .inr ⟨p, hle _ _ hp, hro', fun hro => ?_, fun i x hx j s hs => ?_⟩
    · obtain ⟨h1, h2, vs, ty, hg, hl⟩ := hown hro
      exact ⟨h1, h2, vs, ty, (hb p hp).trans hg, hl⟩
    · rw [← hcells i x hx j s hs]
      exact World.cell?_of_block (w := w) (hb p hp)

theorem RowAt.only {ρ ρ' : Rho} {id : Nat} {row : Row} {w : World} (h : RowAt ρ id row w) (h0 : ∀ p, ρ id = some p → ρ' id = some p) (hr : ∀ i ∈ row.idsR, ∀ p, ρ i = some p → ρ' i = some p) : RowAt ρ' id row w := by
  cases row with
  | gone => trivial
  | own cells =>
    obtain ⟨p, vs, ty, hp, hb, hm, hg, hc⟩ := h
    exact ⟨p, vs, ty, h0 _ hp, hb, hm, hg, RelL.only _ _ hr hc⟩
  | vec ro k xs =>
    rcases h with h | ⟨p, hp, hro', hown, hcells⟩
    · exact .inl h
    exact .inr ⟨p, h0 _ hp, hro', hown, hcells⟩

end Go.Proofs.Ytikifgbbiffclaa
