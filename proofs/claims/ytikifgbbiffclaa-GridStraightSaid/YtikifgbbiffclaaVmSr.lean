/- GridStraight: the law's call. -/
import Derived.Test.YtikifgbbiffclaaVmX9
namespace Go.Proofs.Ytikifgbbiffclaa
set_option linter.unusedSimpArgs false
set_option linter.unusedVariables false
open Go.RowKit

def rowSr (w d h : Int) (len : Nat) (xs : List Bool) (ls : Nat) (sp : List V3) (a b : V3) : List Row := [.vec true .bool xs, .vec true .vec sp, .own [.int .i64 w, .int .i64 d, .int .i64 h, .slice 0 1 0 len none, .slice 1 3 0 ls none], .own a.sv, .own b.sv]
def valS1 (x y z p q r : Int) (f : Bool) (k : Int) : List SV := [.ptr 2 0 0 0, .ptr 3 0 0 0, .bool true, .ptr 4 0 0 0, .int .i64 x, .int .i64 y, .int .i64 z, .int .i64 p, .int .i64 q, .int .i64 r, .bool f, .int .i64 k]
def valS2 (x y z p q r : Int) (f : Bool) (k j : Int) : List SV := [.ptr 2 0 0 0, .ptr 3 0 0 0, .bool true, .ptr 4 0 0 0, .int .i64 x, .int .i64 y, .int .i64 z, .int .i64 p, .int .i64 q, .int .i64 r, .bool f, .int .i64 k, .int .i64 j]
def valS3 (x y z p q r : Int) (f : Bool) (k j i : Int) : List SV := [.ptr 2 0 0 0, .ptr 3 0 0 0, .bool true, .ptr 4 0 0 0, .int .i64 x, .int .i64 y, .int .i64 z, .int .i64 p, .int .i64 q, .int .i64 r, .bool f, .int .i64 k, .int .i64 j, .int .i64 i]
noncomputable def rdS3 : List SV → List Row → Option Res2 := roundS x9 (fun _ _ => none) 100 9 [0, 1, 0, 0, 1, 0, 0, 1, 0, 0, 1, 0, 0, 1, 0, 1, 1, 1, 1, 1, 1, 1, 1, 1, 1] (bodyAt Try.f9 [0, 1, 0, 0, 1, 0, 0, 1, 0, 0, 1, 0, 0, 1, 0, 1, 1, 1, 1, 1, 1, 1, 1, 1, 1]) 128 5 [4, 5, 9, 10, 11, 12, 13, 14, 15, 16, 17, 18, 19, 20]

set_option maxRecDepth 100000 in
set_option maxHeartbeats 0 in
theorem s3_round (w d h : Int) (len : Nat) (xs : List Bool) (ls : Nat) (sp : List V3) (a b : V3) (x y z p q r : Int) (f : Bool) (k j i : Int) : rdS3 (valS3 x y z p q r f k j i) (rowSr w d h len xs ls sp a b) =
  bif decide (i ≤ max x p) then
    bif (mapOk w d h len && (in64B i && (in64B j && (in64B k && decide (0 + len ≤ xs.length)))) && true && true || f != true) && (true || f == true) && true then
      some
        (SV.tuple
            [SV.nilp,
              SV.tuple
                [SV.ptr 2 0 0 0, SV.ptr 3 0 0 0, SV.bool true, SV.ptr 4 0 0 0, SV.int IntKind.i64 x, SV.int IntKind.i64 y, SV.int IntKind.i64 z, SV.int IntKind.i64 p, SV.int IntKind.i64 q,
                  SV.int IntKind.i64 r, SV.bool (bif f == true then !(mpOf w d h len fun j => xs.getD (0 + j) false).solid i j k else false), SV.int IntKind.i64 k, SV.int IntKind.i64 j,
                  SV.int IntKind.i64 (IntKind.i64.wrap (i + 1))]],
          [Row.vec true Knd.bool xs, Row.vec true Knd.vec sp, Row.own [SV.int IntKind.i64 w, SV.int IntKind.i64 d, SV.int IntKind.i64 h, SV.slice 0 1 0 len none, SV.slice 1 3 0 ls none],
            Row.own [SV.int IntKind.i64 a.x, SV.int IntKind.i64 a.y, SV.int IntKind.i64 a.z], Row.own [SV.int IntKind.i64 b.x, SV.int IntKind.i64 b.y, SV.int IntKind.i64 b.z]])
    else none
  else
    some
      (SV.tuple
          [SV.ptr 5 0 0 0,
            SV.tuple
              [SV.ptr 2 0 0 0, SV.ptr 3 0 0 0, SV.bool true, SV.ptr 4 0 0 0, SV.int IntKind.i64 x, SV.int IntKind.i64 y, SV.int IntKind.i64 z, SV.int IntKind.i64 p, SV.int IntKind.i64 q,
                SV.int IntKind.i64 r, SV.bool f, SV.int IntKind.i64 k, SV.int IntKind.i64 j, SV.int IntKind.i64 i]],
        [Row.vec true Knd.bool xs, Row.vec true Knd.vec sp, Row.own [SV.int IntKind.i64 w, SV.int IntKind.i64 d, SV.int IntKind.i64 h, SV.slice 0 1 0 len none, SV.slice 1 3 0 ls none],
          Row.own [SV.int IntKind.i64 a.x, SV.int IntKind.i64 a.y, SV.int IntKind.i64 a.z], Row.own [SV.int IntKind.i64 b.x, SV.int IntKind.i64 b.y, SV.int IntKind.i64 b.z]]) := by kernel_rfl

/-- All numbers from i on, n of them. -/
def allN (p : Int → Bool) : Nat → Int → Bool
  | 0, _ => true
  | n + 1, i => p i && allN p n (i + 1)
theorem allN_iff {p : Int → Bool} : ∀ {n : Nat} {a : Int}, allN p n a = true ↔ ∀ i, a ≤ i → i < a + n → p i = true
  | 0, a => by simp [allN]; intro i h1 h2; omega
  | n + 1, a => by
    rw [allN, Bool.and_eq_true, allN_iff]
    constructor
    · rintro ⟨h1, h2⟩ i h3 h4
      by_cases hi : i = a
      · subst hi; exact h1
      · exact h2 i (by omega) (by omega)
    · intro h
      exact ⟨h a (by omega) (by omega), fun i h3 h4 => h i (by omega) (by omega)⟩
def allB (x p : Int) (f : Int → Bool) : Bool := allN f (max x p + 1 - min x p).toNat (min x p)
theorem allB_iff {x p : Int} {f : Int → Bool} : allB x p f = true ↔ ∀ i, min x p ≤ i → i ≤ max x p → f i = true := by
  unfold allB
  rw [allN_iff]
  constructor
  · intro h i h1 h2; exact h i h1 (by omega)
  · intro h i h1 h2; exact h i h1 (by omega)
def tinyB (a : Int) : Bool := decide (-1073741824 ≤ a) && decide (a ≤ 1073741824)
theorem tiny_iff {a : Int} : tinyB a = true ↔ -1073741824 ≤ a ∧ a ≤ 1073741824 := by unfold tinyB; simp
theorem tiny64 {a : Int} (h : -1073741825 ≤ a ∧ a ≤ 1073741825) : in64B a = true := by rw [in64B_iff]; unfold In64; omega
def tiny6 (x y z p q r : Int) : Bool := tinyB x && (tinyB y && (tinyB z && (tinyB p && (tinyB q && tinyB r))))

section
variable {w d h : Int} {len : Nat} {xs : List Bool} {ls : Nat} {sp : List V3} {a b : V3} {x y z p q r : Int}
theorem s3_loop (hm : mapOk w d h len = true) (hl : decide (0 + len ≤ xs.length) = true) {k j : Int} (hx : -1073741824 ≤ max x p ∧ max x p ≤ 1073741824) (hj : -1073741825 ≤ j ∧ j ≤ 1073741825) (hk : -1073741825 ≤ k ∧ k ≤ 1073741825) : ∀ (n : Nat) (i : Int) (f : Bool), -1073741824 ≤ i → i + n = max x p + 1 →
    LoopTo rdS3 (valS3 x y z p q r f k j i) (rowSr w d h len xs ls sp a b) (.exit 5) (valS3 x y z p q r (f && allN (fun i => !(mpOf w d h len fun j => xs.getD (0 + j) false).solid i j k) n i) k j (max x p + 1)) (rowSr w d h len xs ls sp a b)
  | 0, i, f, h1, h2 => by
    refine .done ?_ (by simp)
    rw [s3_round, decide_eq_false (by omega), cond_false]
    unfold allN
    rw [Bool.and_true, show max x p + 1 = i by omega]
    rfl
  | n + 1, i, f, h1, h2 => by
    have hr := s3_round w d h len xs ls sp a b x y z p q r f k j i
    rw [decide_eq_true (by omega), cond_true, hm, hl, tiny64 (a := i) (by omega), tiny64 hj, tiny64 hk, IntWalk.i64_in (i + 1) (by omega)] at hr
    simp only [Bool.and_true, Bool.true_or, cond_true, and_form] at hr
    have ih := s3_loop hm hl hx hj hk n (i + 1) (f && !(mpOf w d h len fun j => xs.getD (0 + j) false).solid i j k) (by omega) (by omega)
    unfold allN
    rw [← Bool.and_assoc]
    exact .more hr ih

end
set_option maxHeartbeats 0 in
noncomputable def outS3 (v : List SV) (R : List Row) (K : Ex → List SV → List Row → Option Res2) : Option Res2 := match v, R with
  | [.ptr 2 0 0 0, .ptr 3 0 0 0, .bool true, .ptr 4 0 0 0, .int .i64 x, .int .i64 y, .int .i64 z, .int .i64 p, .int .i64 q, .int .i64 r, .bool f, .int .i64 k, .int .i64 j, .int .i64 i],
    [.vec true .bool xs, .vec true .vec sp, .own [.int .i64 w, .int .i64 d, .int .i64 h, .slice 0 1 off len none, .slice 1 3 0 ls none], .own [.int .i64 a0, .int .i64 a1, .int .i64 a2], .own [.int .i64 b0, .int .i64 b1, .int .i64 b2]] =>
      bif (decide (off = 0) && (decide (i = min x p) && (tiny6 x y z p q r && (tinyB j && tinyB k)))) && (mapOk w d h len && decide (0 + len ≤ xs.length)) then
        K (.exit 5) (valS3 x y z p q r (f && allB x p fun i => !(mpOf w d h len fun j => xs.getD (0 + j) false).solid i j k) k j (max x p + 1)) (rowSr w d h len xs ls sp ⟨a0, a1, a2⟩ ⟨b0, b1, b2⟩) else none
  | _, _ => none
set_option maxHeartbeats 0 in
theorem lpoS3_ok : LpOk 9 [0, 1, 0, 0, 1, 0, 0, 1, 0, 0, 1, 0, 0, 1, 0, 1, 1, 1, 1, 1, 1, 1, 1, 1, 1] (loopF 128 [4, 5, 9, 10, 11, 12, 13, 14, 15, 16, 17, 18, 19, 20] outS3) := by
  intro b hat s K r h
  refine loopF_ok (fuel := 100) x9_ok lok_none hat (fun v R k r hr => ?_) h
  have hbody := at_body Try.func9 hat
  subst hbody
  unfold outS3 at hr
  split at hr
  · rename_i x y z p q r f k j i xs sp w d h off len ls a0 a1 a2 b0 b1 b2
    obtain ⟨hb, hr2⟩ := cond_some hr
    simp only [Bool.and_eq_true, decide_eq_true_eq, tiny6, tiny_iff] at hb
    obtain ⟨⟨h1, h2, ⟨x1, x2, x3, x4, x5, x6⟩, h3, h4⟩, k1, k2⟩ := hb
    subst h1 h2
    refine ⟨_, _, _, hr2, ?_⟩
    exact s3_loop (a := ⟨a0, a1, a2⟩) (b := ⟨b0, b1, b2⟩) k1 (decide_eq_true k2) (by omega) (by omega) (by omega) (max x p + 1 - min x p).toNat (min x p) f (by omega) (by omega)
  · cases hr
noncomputable def lpoS3 : Lpo := ⟨_, _, _, lpoS3_ok⟩

noncomputable def rdS2 : List SV → List Row → Option Res2 := roundS x9 (loopOf [lpoS3]) 100 9 [0, 1, 0, 0, 1, 0, 0, 1, 0, 1, 1, 1, 1, 1, 1, 1, 1, 1, 1] (bodyAt Try.f9 [0, 1, 0, 0, 1, 0, 0, 1, 0, 1, 1, 1, 1, 1, 1, 1, 1, 1, 1]) 128 5 [4, 5, 9, 10, 11, 12, 13, 14, 15, 16, 17, 18, 19]

set_option maxRecDepth 100000 in
set_option maxHeartbeats 0 in
theorem s2_round (w d h : Int) (len : Nat) (xs : List Bool) (ls : Nat) (sp : List V3) (a b : V3) (x y z p q r : Int) (f : Bool) (k j : Int) : rdS2 (valS2 x y z p q r f k j) (rowSr w d h len xs ls sp a b) =
  bif decide (j ≤ max y q) then
    bif decide (min x p = min x p) && (tiny6 x y z p q r && (tinyB j && tinyB k)) && (mapOk w d h len && decide (0 + len ≤ xs.length)) then
      some
        (SV.tuple
            [SV.nilp,
              SV.tuple
                [SV.ptr 2 0 0 0, SV.ptr 3 0 0 0, SV.bool true, SV.ptr 4 0 0 0, SV.int IntKind.i64 x, SV.int IntKind.i64 y, SV.int IntKind.i64 z, SV.int IntKind.i64 p, SV.int IntKind.i64 q,
                  SV.int IntKind.i64 r, SV.bool (f && allB x p fun i => !(mpOf w d h len fun j => xs.getD (0 + j) false).solid i j k), SV.int IntKind.i64 k,
                  SV.int IntKind.i64 (IntKind.i64.wrap (j + 1))]],
          [Row.vec true Knd.bool xs, Row.vec true Knd.vec sp, Row.own [SV.int IntKind.i64 w, SV.int IntKind.i64 d, SV.int IntKind.i64 h, SV.slice 0 1 0 len none, SV.slice 1 3 0 ls none],
            Row.own [SV.int IntKind.i64 a.x, SV.int IntKind.i64 a.y, SV.int IntKind.i64 a.z], Row.own [SV.int IntKind.i64 b.x, SV.int IntKind.i64 b.y, SV.int IntKind.i64 b.z]])
    else none
  else
    some
      (SV.tuple
          [SV.ptr 3 0 0 0,
            SV.tuple
              [SV.ptr 2 0 0 0, SV.ptr 3 0 0 0, SV.bool true, SV.ptr 4 0 0 0, SV.int IntKind.i64 x, SV.int IntKind.i64 y, SV.int IntKind.i64 z, SV.int IntKind.i64 p, SV.int IntKind.i64 q,
                SV.int IntKind.i64 r, SV.bool f, SV.int IntKind.i64 k, SV.int IntKind.i64 j]],
        [Row.vec true Knd.bool xs, Row.vec true Knd.vec sp, Row.own [SV.int IntKind.i64 w, SV.int IntKind.i64 d, SV.int IntKind.i64 h, SV.slice 0 1 0 len none, SV.slice 1 3 0 ls none],
          Row.own [SV.int IntKind.i64 a.x, SV.int IntKind.i64 a.y, SV.int IntKind.i64 a.z], Row.own [SV.int IntKind.i64 b.x, SV.int IntKind.i64 b.y, SV.int IntKind.i64 b.z]]) := by kernel_rfl

section
variable {w d h : Int} {len : Nat} {xs : List Bool} {ls : Nat} {sp : List V3} {a b : V3} {x y z p q r : Int}
theorem s2_loop (hm : mapOk w d h len = true) (hl : decide (0 + len ≤ xs.length) = true) (ht : tiny6 x y z p q r = true) {k : Int} (hk : tinyB k = true) : ∀ (n : Nat) (j : Int) (f : Bool), -1073741824 ≤ j → j + n = max y q + 1 →
    LoopTo rdS2 (valS2 x y z p q r f k j) (rowSr w d h len xs ls sp a b) (.exit 3) (valS2 x y z p q r (f && allN (fun j => allB x p fun i => !(mpOf w d h len fun j => xs.getD (0 + j) false).solid i j k) n j) k (max y q + 1)) (rowSr w d h len xs ls sp a b)
  | 0, j, f, h1, h2 => by
    refine .done ?_ (by simp)
    rw [s2_round, decide_eq_false (by omega), cond_false]
    unfold allN
    rw [Bool.and_true, show max y q + 1 = j by omega]
    rfl
  | n + 1, j, f, h1, h2 => by
    have hr := s2_round w d h len xs ls sp a b x y z p q r f k j
    have ht' := ht
    simp only [tiny6, Bool.and_eq_true, tiny_iff] at ht'
    obtain ⟨x1, x2, x3, x4, x5, x6⟩ := ht'
    have hj : tinyB j = true := tiny_iff.2 (by omega)
    rw [decide_eq_true (by omega), cond_true, hm, hl, ht, hj, hk, decide_eq_true (Eq.refl (min x p)), IntWalk.i64_in (j + 1) (by omega)] at hr
    simp only [Bool.and_true, cond_true] at hr
    have ih := s2_loop hm hl ht hk n (j + 1) (f && allB x p fun i => !(mpOf w d h len fun j => xs.getD (0 + j) false).solid i j k) (by omega) (by omega)
    unfold allN
    rw [← Bool.and_assoc]
    exact .more hr ih
end
set_option maxHeartbeats 0 in
noncomputable def outS2 (v : List SV) (R : List Row) (K : Ex → List SV → List Row → Option Res2) : Option Res2 := match v, R with
  | [.ptr 2 0 0 0, .ptr 3 0 0 0, .bool true, .ptr 4 0 0 0, .int .i64 x, .int .i64 y, .int .i64 z, .int .i64 p, .int .i64 q, .int .i64 r, .bool f, .int .i64 k, .int .i64 j],
    [.vec true .bool xs, .vec true .vec sp, .own [.int .i64 w, .int .i64 d, .int .i64 h, .slice 0 1 off len none, .slice 1 3 0 ls none], .own [.int .i64 a0, .int .i64 a1, .int .i64 a2], .own [.int .i64 b0, .int .i64 b1, .int .i64 b2]] =>
      bif (decide (off = 0) && (decide (j = min y q) && (tiny6 x y z p q r && tinyB k))) && (mapOk w d h len && decide (0 + len ≤ xs.length)) then
        K (.exit 3) (valS2 x y z p q r (f && allB y q fun j => allB x p fun i => !(mpOf w d h len fun j => xs.getD (0 + j) false).solid i j k) k (max y q + 1)) (rowSr w d h len xs ls sp ⟨a0, a1, a2⟩ ⟨b0, b1, b2⟩) else none
  | _, _ => none
set_option maxHeartbeats 0 in
theorem lpoS2_ok : LpOk 9 [0, 1, 0, 0, 1, 0, 0, 1, 0, 1, 1, 1, 1, 1, 1, 1, 1, 1, 1] (loopF 128 [4, 5, 9, 10, 11, 12, 13, 14, 15, 16, 17, 18, 19] outS2) := by
  intro b hat s K r h
  refine loopF_ok (fuel := 100) x9_ok loopOf_ok hat (L := loopOf [lpoS3]) (fun v R k r hr => ?_) h
  have hbody := at_body Try.func9 hat
  subst hbody
  unfold outS2 at hr
  split at hr
  · rename_i x y z p q r f k j xs sp w d h off len ls a0 a1 a2 b0 b1 b2
    obtain ⟨hb, hr2⟩ := cond_some hr
    simp only [Bool.and_eq_true, decide_eq_true_eq] at hb
    obtain ⟨⟨h1, h2, ht, h4⟩, k1, k2⟩ := hb
    subst h1 h2
    have ht' := ht
    simp only [tiny6, Bool.and_eq_true, tiny_iff] at ht'
    obtain ⟨x1, x2, x3, x4, x5, x6⟩ := ht'
    refine ⟨_, _, _, hr2, ?_⟩
    exact s2_loop (a := ⟨a0, a1, a2⟩) (b := ⟨b0, b1, b2⟩) k1 (decide_eq_true k2) ht h4 (max y q + 1 - min y q).toNat (min y q) f (by omega) (by omega)
  · cases hr
noncomputable def lpoS2 : Lpo := ⟨_, _, _, lpoS2_ok⟩

noncomputable def rdS1 : List SV → List Row → Option Res2 := roundS x9 (loopOf [lpoS2]) 100 9 [0, 1, 0, 1, 1, 1, 1, 1, 1, 1, 1, 1, 1] (bodyAt Try.f9 [0, 1, 0, 1, 1, 1, 1, 1, 1, 1, 1, 1, 1]) 128 5 [4, 5, 9, 10, 11, 12, 13, 14, 15, 16, 17, 18]

set_option maxRecDepth 100000 in
set_option maxHeartbeats 0 in
theorem s1_round (w d h : Int) (len : Nat) (xs : List Bool) (ls : Nat) (sp : List V3) (a b : V3) (x y z p q r : Int) (f : Bool) (k : Int) : rdS1 (valS1 x y z p q r f k) (rowSr w d h len xs ls sp a b) =
  bif decide (k ≤ max z r) then
    bif decide (min y q = min y q) && (tiny6 x y z p q r && tinyB k) && (mapOk w d h len && decide (0 + len ≤ xs.length)) then
      some
        (SV.tuple
            [SV.nilp,
              SV.tuple
                [SV.ptr 2 0 0 0, SV.ptr 3 0 0 0, SV.bool true, SV.ptr 4 0 0 0, SV.int IntKind.i64 x, SV.int IntKind.i64 y, SV.int IntKind.i64 z, SV.int IntKind.i64 p, SV.int IntKind.i64 q,
                  SV.int IntKind.i64 r, SV.bool (f && allB y q fun j => allB x p fun i => !(mpOf w d h len fun j => xs.getD (0 + j) false).solid i j k), SV.int IntKind.i64 (IntKind.i64.wrap (k + 1))]],
          [Row.vec true Knd.bool xs, Row.vec true Knd.vec sp, Row.own [SV.int IntKind.i64 w, SV.int IntKind.i64 d, SV.int IntKind.i64 h, SV.slice 0 1 0 len none, SV.slice 1 3 0 ls none],
            Row.own [SV.int IntKind.i64 a.x, SV.int IntKind.i64 a.y, SV.int IntKind.i64 a.z], Row.own [SV.int IntKind.i64 b.x, SV.int IntKind.i64 b.y, SV.int IntKind.i64 b.z]])
    else none
  else
    some
      (SV.tuple
          [SV.ptr 1 0 0 0,
            SV.tuple
              [SV.ptr 2 0 0 0, SV.ptr 3 0 0 0, SV.bool true, SV.ptr 4 0 0 0, SV.int IntKind.i64 x, SV.int IntKind.i64 y, SV.int IntKind.i64 z, SV.int IntKind.i64 p, SV.int IntKind.i64 q,
                SV.int IntKind.i64 r, SV.bool f, SV.int IntKind.i64 k]],
        [Row.vec true Knd.bool xs, Row.vec true Knd.vec sp, Row.own [SV.int IntKind.i64 w, SV.int IntKind.i64 d, SV.int IntKind.i64 h, SV.slice 0 1 0 len none, SV.slice 1 3 0 ls none],
          Row.own [SV.int IntKind.i64 a.x, SV.int IntKind.i64 a.y, SV.int IntKind.i64 a.z], Row.own [SV.int IntKind.i64 b.x, SV.int IntKind.i64 b.y, SV.int IntKind.i64 b.z]]) := by kernel_rfl

section
variable {w d h : Int} {len : Nat} {xs : List Bool} {ls : Nat} {sp : List V3} {a b : V3} {x y z p q r : Int}
theorem s1_loop (hm : mapOk w d h len = true) (hl : decide (0 + len ≤ xs.length) = true) (ht : tiny6 x y z p q r = true) : ∀ (n : Nat) (k : Int) (f : Bool), -1073741824 ≤ k → k + n = max z r + 1 →
    LoopTo rdS1 (valS1 x y z p q r f k) (rowSr w d h len xs ls sp a b) (.exit 1) (valS1 x y z p q r (f && allN (fun k => allB y q fun j => allB x p fun i => !(mpOf w d h len fun j => xs.getD (0 + j) false).solid i j k) n k) (max z r + 1)) (rowSr w d h len xs ls sp a b)
  | 0, k, f, h1, h2 => by
    refine .done ?_ (by simp)
    rw [s1_round, decide_eq_false (by omega), cond_false]
    unfold allN
    rw [Bool.and_true, show max z r + 1 = k by omega]
    rfl
  | n + 1, k, f, h1, h2 => by
    have hr := s1_round w d h len xs ls sp a b x y z p q r f k
    have ht' := ht
    simp only [tiny6, Bool.and_eq_true, tiny_iff] at ht'
    obtain ⟨x1, x2, x3, x4, x5, x6⟩ := ht'
    have hk : tinyB k = true := tiny_iff.2 (by omega)
    rw [decide_eq_true (by omega), cond_true, hm, hl, ht, hk, decide_eq_true (Eq.refl (min y q)), IntWalk.i64_in (k + 1) (by omega)] at hr
    simp only [Bool.and_true, cond_true] at hr
    have ih := s1_loop hm hl ht n (k + 1) (f && allB y q fun j => allB x p fun i => !(mpOf w d h len fun j => xs.getD (0 + j) false).solid i j k) (by omega) (by omega)
    unfold allN
    rw [← Bool.and_assoc]
    exact .more hr ih
end
set_option maxHeartbeats 0 in
noncomputable def outS1 (v : List SV) (R : List Row) (K : Ex → List SV → List Row → Option Res2) : Option Res2 := match v, R with
  | [.ptr 2 0 0 0, .ptr 3 0 0 0, .bool true, .ptr 4 0 0 0, .int .i64 x, .int .i64 y, .int .i64 z, .int .i64 p, .int .i64 q, .int .i64 r, .bool f, .int .i64 k],
    [.vec true .bool xs, .vec true .vec sp, .own [.int .i64 w, .int .i64 d, .int .i64 h, .slice 0 1 off len none, .slice 1 3 0 ls none], .own [.int .i64 a0, .int .i64 a1, .int .i64 a2], .own [.int .i64 b0, .int .i64 b1, .int .i64 b2]] =>
      bif (decide (off = 0) && (decide (k = min z r) && tiny6 x y z p q r)) && (mapOk w d h len && decide (0 + len ≤ xs.length)) then
        K (.exit 1) (valS1 x y z p q r (f && allB z r fun k => allB y q fun j => allB x p fun i => !(mpOf w d h len fun j => xs.getD (0 + j) false).solid i j k) (max z r + 1)) (rowSr w d h len xs ls sp ⟨a0, a1, a2⟩ ⟨b0, b1, b2⟩) else none
  | _, _ => none
set_option maxHeartbeats 0 in
theorem lpoS1_ok : LpOk 9 [0, 1, 0, 1, 1, 1, 1, 1, 1, 1, 1, 1, 1] (loopF 128 [4, 5, 9, 10, 11, 12, 13, 14, 15, 16, 17, 18] outS1) := by
  intro b hat s K r h
  refine loopF_ok (fuel := 100) x9_ok loopOf_ok hat (L := loopOf [lpoS2]) (fun v R k r hr => ?_) h
  have hbody := at_body Try.func9 hat
  subst hbody
  unfold outS1 at hr
  split at hr
  · rename_i x y z p q r f k xs sp w d h off len ls a0 a1 a2 b0 b1 b2
    obtain ⟨hb, hr2⟩ := cond_some hr
    simp only [Bool.and_eq_true, decide_eq_true_eq] at hb
    obtain ⟨⟨h1, h2, ht⟩, k1, k2⟩ := hb
    subst h1 h2
    have ht' := ht
    simp only [tiny6, Bool.and_eq_true, tiny_iff] at ht'
    obtain ⟨x1, x2, x3, x4, x5, x6⟩ := ht'
    refine ⟨_, _, _, hr2, ?_⟩
    exact s1_loop (a := ⟨a0, a1, a2⟩) (b := ⟨b0, b1, b2⟩) k1 (decide_eq_true k2) ht (max z r + 1 - min z r).toNat (min z r) f (by omega) (by omega)
  · cases hr
noncomputable def lpoS1 : Lpo := ⟨_, _, _, lpoS1_ok⟩

set_option maxRecDepth 100000 in
set_option maxHeartbeats 0 in
theorem straight_tree (w d h : Int) (len ls : Nat) (xs : List Bool) (sp : List V3) (a : V3) (b ax : Int) : runK x9 (loopOf [lpoS1]) 300 9 Try.f9 0 [mapS w d h (.slice 0 1 0 len none) (.slice 1 3 0 ls none), .agg a.sv, .int .i64 b, .int .i64 ax] [.vec true .bool xs, .vec true .vec sp] =
  bif decide (0 ≤ min (↑len : Int) 32768) && decide (min (↑len : Int) 32768 ≤ (↑(capOr none len) : Int)) then
    bif decide (0 ≤ min (↑ls : Int) 70) && decide (min (↑ls : Int) 70 ≤ (↑(capOr none ls) : Int)) then
      bif bif decide (max (max a.x a.y) a.z > 1099511627776) == false then decide (min (min a.x a.y) a.z < -1099511627776) else true then some (SV.bool true, [])
      else
        bif (IntKind.i64.wrap (↑(BitVec.ofInt IntKind.i64.bits ax &&& BitVec.ofInt IntKind.i64.bits 255).toNat : Int)).tmod 3 == 0 then
          bif
              decide
                    (min (a.z.fdiv (2 ^ min (Int.toNat 16) IntKind.i64.bits)) (a.z.fdiv (2 ^ min (Int.toNat 16) IntKind.i64.bits)) =
                      min (a.z.fdiv (2 ^ min (Int.toNat 16) IntKind.i64.bits)) (a.z.fdiv (2 ^ min (Int.toNat 16) IntKind.i64.bits))) &&
                  tiny6 (a.x.fdiv (2 ^ min (Int.toNat 16) IntKind.i64.bits)) (a.y.fdiv (2 ^ min (Int.toNat 16) IntKind.i64.bits)) (a.z.fdiv (2 ^ min (Int.toNat 16) IntKind.i64.bits))
                    ((IntKind.i64.wrap (a.x + b.tmod 4194304)).fdiv (2 ^ min (Int.toNat 16) IntKind.i64.bits)) (a.y.fdiv (2 ^ min (Int.toNat 16) IntKind.i64.bits))
                    (a.z.fdiv (2 ^ min (Int.toNat 16) IntKind.i64.bits)) &&
                (mapOk w d h (min (↑len : Int) 32768).toNat && decide (0 + (min (↑len : Int) 32768).toNat ≤ xs.length)) then
            bif
                (mapOk w d h (min (↑len : Int) 32768).toNat &&
                            (fitsB a && (fitsB (V3.mk (IntKind.i64.wrap (a.x + b.tmod 4194304)) a.y a.z) && decide (0 + (min (↑len : Int) 32768).toNat ≤ xs.length))) &&
                          true &&
                        true ||
                      true != true) &&
                    (true || true == true) &&
                  true then
              some
                (SV.bool
                    (bif true == true then
                      (mpOf w d h (min (↑len : Int) 32768).toNat fun j => xs.getD (0 + j) false).sight a (V3.mk (IntKind.i64.wrap (a.x + b.tmod 4194304)) a.y a.z) ==
                        allB (a.z.fdiv (2 ^ min (Int.toNat 16) IntKind.i64.bits)) (a.z.fdiv (2 ^ min (Int.toNat 16) IntKind.i64.bits)) fun k =>
                          allB (a.y.fdiv (2 ^ min (Int.toNat 16) IntKind.i64.bits)) (a.y.fdiv (2 ^ min (Int.toNat 16) IntKind.i64.bits)) fun j =>
                            allB (a.x.fdiv (2 ^ min (Int.toNat 16) IntKind.i64.bits)) ((IntKind.i64.wrap (a.x + b.tmod 4194304)).fdiv (2 ^ min (Int.toNat 16) IntKind.i64.bits)) fun i =>
                              !(mpOf w d h (min (↑len : Int) 32768).toNat fun j => xs.getD (0 + j) false).solid i j k
                    else false),
                  [])
            else none
          else none
        else
          bif (IntKind.i64.wrap (↑(BitVec.ofInt IntKind.i64.bits ax &&& BitVec.ofInt IntKind.i64.bits 255).toNat : Int)).tmod 3 == 1 then
            bif
                decide
                      (min (a.z.fdiv (2 ^ min (Int.toNat 16) IntKind.i64.bits)) (a.z.fdiv (2 ^ min (Int.toNat 16) IntKind.i64.bits)) =
                        min (a.z.fdiv (2 ^ min (Int.toNat 16) IntKind.i64.bits)) (a.z.fdiv (2 ^ min (Int.toNat 16) IntKind.i64.bits))) &&
                    tiny6 (a.x.fdiv (2 ^ min (Int.toNat 16) IntKind.i64.bits)) (a.y.fdiv (2 ^ min (Int.toNat 16) IntKind.i64.bits)) (a.z.fdiv (2 ^ min (Int.toNat 16) IntKind.i64.bits))
                      (a.x.fdiv (2 ^ min (Int.toNat 16) IntKind.i64.bits)) ((IntKind.i64.wrap (a.y + b.tmod 4194304)).fdiv (2 ^ min (Int.toNat 16) IntKind.i64.bits))
                      (a.z.fdiv (2 ^ min (Int.toNat 16) IntKind.i64.bits)) &&
                  (mapOk w d h (min (↑len : Int) 32768).toNat && decide (0 + (min (↑len : Int) 32768).toNat ≤ xs.length)) then
              bif
                  (mapOk w d h (min (↑len : Int) 32768).toNat &&
                              (fitsB a && (fitsB (V3.mk a.x (IntKind.i64.wrap (a.y + b.tmod 4194304)) a.z) && decide (0 + (min (↑len : Int) 32768).toNat ≤ xs.length))) &&
                            true &&
                          true ||
                        true != true) &&
                      (true || true == true) &&
                    true then
                some
                  (SV.bool
                      (bif true == true then
                        (mpOf w d h (min (↑len : Int) 32768).toNat fun j => xs.getD (0 + j) false).sight a (V3.mk a.x (IntKind.i64.wrap (a.y + b.tmod 4194304)) a.z) ==
                          allB (a.z.fdiv (2 ^ min (Int.toNat 16) IntKind.i64.bits)) (a.z.fdiv (2 ^ min (Int.toNat 16) IntKind.i64.bits)) fun k =>
                            allB (a.y.fdiv (2 ^ min (Int.toNat 16) IntKind.i64.bits)) ((IntKind.i64.wrap (a.y + b.tmod 4194304)).fdiv (2 ^ min (Int.toNat 16) IntKind.i64.bits)) fun j =>
                              allB (a.x.fdiv (2 ^ min (Int.toNat 16) IntKind.i64.bits)) (a.x.fdiv (2 ^ min (Int.toNat 16) IntKind.i64.bits)) fun i =>
                                !(mpOf w d h (min (↑len : Int) 32768).toNat fun j => xs.getD (0 + j) false).solid i j k
                      else false),
                    [])
              else none
            else none
          else
            bif
                decide
                      (min (a.z.fdiv (2 ^ min (Int.toNat 16) IntKind.i64.bits)) ((IntKind.i64.wrap (a.z + b.tmod 4194304)).fdiv (2 ^ min (Int.toNat 16) IntKind.i64.bits)) =
                        min (a.z.fdiv (2 ^ min (Int.toNat 16) IntKind.i64.bits)) ((IntKind.i64.wrap (a.z + b.tmod 4194304)).fdiv (2 ^ min (Int.toNat 16) IntKind.i64.bits))) &&
                    tiny6 (a.x.fdiv (2 ^ min (Int.toNat 16) IntKind.i64.bits)) (a.y.fdiv (2 ^ min (Int.toNat 16) IntKind.i64.bits)) (a.z.fdiv (2 ^ min (Int.toNat 16) IntKind.i64.bits))
                      (a.x.fdiv (2 ^ min (Int.toNat 16) IntKind.i64.bits)) (a.y.fdiv (2 ^ min (Int.toNat 16) IntKind.i64.bits))
                      ((IntKind.i64.wrap (a.z + b.tmod 4194304)).fdiv (2 ^ min (Int.toNat 16) IntKind.i64.bits)) &&
                  (mapOk w d h (min (↑len : Int) 32768).toNat && decide (0 + (min (↑len : Int) 32768).toNat ≤ xs.length)) then
              bif
                  (mapOk w d h (min (↑len : Int) 32768).toNat &&
                              (fitsB a && (fitsB (V3.mk a.x a.y (IntKind.i64.wrap (a.z + b.tmod 4194304))) && decide (0 + (min (↑len : Int) 32768).toNat ≤ xs.length))) &&
                            true &&
                          true ||
                        true != true) &&
                      (true || true == true) &&
                    true then
                some
                  (SV.bool
                      (bif true == true then
                        (mpOf w d h (min (↑len : Int) 32768).toNat fun j => xs.getD (0 + j) false).sight a (V3.mk a.x a.y (IntKind.i64.wrap (a.z + b.tmod 4194304))) ==
                          allB (a.z.fdiv (2 ^ min (Int.toNat 16) IntKind.i64.bits)) ((IntKind.i64.wrap (a.z + b.tmod 4194304)).fdiv (2 ^ min (Int.toNat 16) IntKind.i64.bits)) fun k =>
                            allB (a.y.fdiv (2 ^ min (Int.toNat 16) IntKind.i64.bits)) (a.y.fdiv (2 ^ min (Int.toNat 16) IntKind.i64.bits)) fun j =>
                              allB (a.x.fdiv (2 ^ min (Int.toNat 16) IntKind.i64.bits)) (a.x.fdiv (2 ^ min (Int.toNat 16) IntKind.i64.bits)) fun i =>
                                !(mpOf w d h (min (↑len : Int) 32768).toNat fun j => xs.getD (0 + j) false).solid i j k
                      else false),
                    [])
              else none
            else none
    else none
  else none := by kernel_rfl

theorem allB_self {x : Int} {f : Int → Bool} : allB x x f = f x := by
  rw [Bool.eq_iff_iff, allB_iff]
  constructor
  · exact fun h => h x (by omega) (by omega)
  · intro h i h1 h2
    obtain rfl : i = x := by omega
    exact h
theorem straight_x {m : Mp} (hm : Inside m.solid) (a : V3) (b : Int) : m.sight a ⟨b, a.y, a.z⟩ = allB (a.x / 65536) (b / 65536) fun i => !m.solid i (a.y / 65536) (a.z / 65536) := by
  rw [Bool.eq_iff_iff, allB_iff]
  have h := sight_along_x (a := a) (b := ⟨b, a.y, a.z⟩) hm rfl rfl
  simp only [Bool.not_eq_true']
  exact h
theorem straight_y {m : Mp} (hm : Inside m.solid) (a : V3) (b : Int) : m.sight a ⟨a.x, b, a.z⟩ = allB (a.y / 65536) (b / 65536) fun j => !m.solid (a.x / 65536) j (a.z / 65536) := by
  rw [Bool.eq_iff_iff, allB_iff]
  have h := sight_along_y (a := a) (b := ⟨a.x, b, a.z⟩) hm rfl rfl
  simp only [Bool.not_eq_true']
  exact h
theorem straight_z {m : Mp} (hm : Inside m.solid) (a : V3) (b : Int) : m.sight a ⟨a.x, a.y, b⟩ = allB (a.z / 65536) (b / 65536) fun k => !m.solid (a.x / 65536) (a.y / 65536) k := by
  rw [Bool.eq_iff_iff, allB_iff]
  have h := sight_along_z (a := a) (b := ⟨a.x, a.y, b⟩) hm rfl rfl
  simp only [Bool.not_eq_true']
  exact h

set_option maxHeartbeats 0 in
theorem straight_law {w d h : Int} {len ls : Nat} {xs : List Bool} {sp : List V3} {a : V3} {b ax : Int} (hw : In64 w) (hd : In64 d) (hh : In64 h) (hl : len ≤ 9223372036854775807) (hx : xs.length = len) (ha : a.fits) :
    runK x9 (loopOf [lpoS1]) 300 9 Try.f9 0 [mapS w d h (.slice 0 1 0 len none) (.slice 1 3 0 ls none), .agg a.sv, .int .i64 b, .int .i64 ax] [.vec true .bool xs, .vec true .vec sp] = some (.bool true, []) := by
  rw [straight_tree]
  obtain ⟨c1, c2, L, hL, c3, c4⟩ := small_facts (ls := ls) hw hd hh hl hx
  rw [hL]
  have hS := mp_inside (w := w) (d := d) (h := h) (len := L) (s := fun j => xs.getD (0 + j) false)
  generalize (mpOf w d h L fun j => xs.getD (0 + j) false) = M at *
  rw [c1, c2]
  simp only [cond_true, or_form]
  refine bif_law (fun _ => rfl) (fun hc => ?_)
  simp only [Bool.or_eq_false_iff, decide_eq_false_iff_not] at hc
  have t1 := Int.lt_tmod_of_pos b (show (0 : Int) < 4194304 by omega)
  have t2 := Int.tmod_lt_of_pos b (show (0 : Int) < 4194304 by omega)
  generalize b.tmod 4194304 = bt at t1 t2 ⊢
  rw [IntWalk.i64_in (a.x + bt) (by omega), IntWalk.i64_in (a.y + bt) (by omega), IntWalk.i64_in (a.z + bt) (by omega)]
  have fit : ∀ x y z : Int, -1099520000000 ≤ x ∧ x ≤ 1099520000000 → -1099520000000 ≤ y ∧ y ≤ 1099520000000 → -1099520000000 ≤ z ∧ z ≤ 1099520000000 → fitsB ⟨x, y, z⟩ = true := fun x y z h1 h2 h3 => fitsB_iff.2 (by
    refine ⟨?_, ?_, ?_⟩ <;> (unfold In64; simp only; omega))
  have tn : ∀ x : Int, -1099520000000 ≤ x ∧ x ≤ 1099520000000 → tinyB (x / 65536) = true := fun x h => tiny_iff.2 (by omega)
  simp only [div16, c3, c4, fitsB_iff.2 ha, tiny6, tn a.x (by omega), tn a.y (by omega), tn a.z (by omega), tn (a.x + bt) (by omega), tn (a.y + bt) (by omega), tn (a.z + bt) (by omega), fit (a.x + bt) a.y a.z (by omega) (by omega) (by omega), fit a.x (a.y + bt) a.z (by omega) (by omega) (by omega), fit a.x a.y (a.z + bt) (by omega) (by omega) (by omega),
    straight_x hS, straight_y hS, straight_z hS, allB_self, decide_true, Bool.and_true, Bool.true_or, cond_true, and_form, Bool.true_and, beq_self_eq_true]
  refine bif_law (fun _ => rfl) (fun _ => ?_)
  refine bif_law (fun _ => rfl) (fun _ => rfl)

end Go.Proofs.Ytikifgbbiffclaa
