/- shot's Advance, as a contract. -/
import Derived.Test.YthgafhegdngomaaVmSs
namespace Go.Proofs.Ythgafhegdngomaa
set_option linter.unusedSimpArgs false
set_option linter.unusedVariables false
open Go.RowKit

noncomputable def xAd : Ctx := ctxOf [] [orcStep]
theorem xAd_ok : COk Try.prog xAd := ctxOf_ok (by kernel_rfl)
def valAd (n c : Int) (b : Bool) (mx i : Int) : List SV := [.int .i64 n, .ptr 1 0 0 0, .ptr 2 0 0 0, .ptr 3 0 0 0, .int .i64 c, .bool b, .int .i64 mx, .int .i64 i]
def rowAd (w d h : Int) (len off : Nat) (xs : List Bool) (s r : Sh) : List Row := [.vec true .bool xs, .own [.int .i64 w, .int .i64 d, .int .i64 h, .slice 0 1 off len none, .unk], .own s.sv, .own r.sv]
noncomputable def rdAd : List SV → List Row → Option Res2 := roundS xAd (fun _ _ => none) 100 16 [0, 1, 0, 1] (bodyAt Try.f16 [0, 1, 0, 1]) 30 4 [2, 3, 4, 6, 7, 8, 12, 13]

set_option maxRecDepth 100000 in
set_option maxHeartbeats 0 in
theorem ad_round (w d h : Int) (len off : Nat) (xs : List Bool) (s r : Sh) (n mx i : Int) : rdAd (valAd n 0 false mx i) (rowAd w d h len off xs s r) =
  bif decide (i < mx) then
    bif mapOk w d h len && (fitsB s.pos && decide (off + len ≤ xs.length)) then
      bif (stepS (mpOf w d h len fun j => xs.getD (off + j) false).at s).snd then
        some
          (SV.tuple
              [SV.nils,
                SV.tuple
                  [SV.int IntKind.i64 n, SV.ptr 1 0 0 0, SV.ptr 2 0 0 0, SV.ptr 3 0 0 0, SV.int IntKind.i64 (IntKind.i64.wrap (i + 1)), SV.bool true, SV.int IntKind.i64 mx, SV.int IntKind.i64 i]],
            [Row.vec true Knd.bool xs, Row.own [SV.int IntKind.i64 w, SV.int IntKind.i64 d, SV.int IntKind.i64 h, SV.slice 0 1 off len none, SV.unk],
              Row.own
                [SV.int IntKind.i64 (stepS (mpOf w d h len fun j => xs.getD (off + j) false).at s).fst.id, SV.int IntKind.i64 (stepS (mpOf w d h len fun j => xs.getD (off + j) false).at s).fst.owner,
                  SV.int IntKind.i64 (stepS (mpOf w d h len fun j => xs.getD (off + j) false).at s).fst.kind, SV.int IntKind.i64 (stepS (mpOf w d h len fun j => xs.getD (off + j) false).at s).fst.pos.x,
                  SV.int IntKind.i64 (stepS (mpOf w d h len fun j => xs.getD (off + j) false).at s).fst.pos.y,
                  SV.int IntKind.i64 (stepS (mpOf w d h len fun j => xs.getD (off + j) false).at s).fst.pos.z,
                  SV.int IntKind.i64 (stepS (mpOf w d h len fun j => xs.getD (off + j) false).at s).fst.vel.x,
                  SV.int IntKind.i64 (stepS (mpOf w d h len fun j => xs.getD (off + j) false).at s).fst.vel.y,
                  SV.int IntKind.i64 (stepS (mpOf w d h len fun j => xs.getD (off + j) false).at s).fst.vel.z, SV.int IntKind.i64 (stepS (mpOf w d h len fun j => xs.getD (off + j) false).at s).fst.fuse,
                  SV.bool (stepS (mpOf w d h len fun j => xs.getD (off + j) false).at s).fst.rest],
              Row.own
                [SV.int IntKind.i64 (stepS (mpOf w d h len fun j => xs.getD (off + j) false).at s).fst.id, SV.int IntKind.i64 (stepS (mpOf w d h len fun j => xs.getD (off + j) false).at s).fst.owner,
                  SV.int IntKind.i64 (stepS (mpOf w d h len fun j => xs.getD (off + j) false).at s).fst.kind, SV.int IntKind.i64 (stepS (mpOf w d h len fun j => xs.getD (off + j) false).at s).fst.pos.x,
                  SV.int IntKind.i64 (stepS (mpOf w d h len fun j => xs.getD (off + j) false).at s).fst.pos.y,
                  SV.int IntKind.i64 (stepS (mpOf w d h len fun j => xs.getD (off + j) false).at s).fst.pos.z,
                  SV.int IntKind.i64 (stepS (mpOf w d h len fun j => xs.getD (off + j) false).at s).fst.vel.x,
                  SV.int IntKind.i64 (stepS (mpOf w d h len fun j => xs.getD (off + j) false).at s).fst.vel.y,
                  SV.int IntKind.i64 (stepS (mpOf w d h len fun j => xs.getD (off + j) false).at s).fst.vel.z, SV.int IntKind.i64 (stepS (mpOf w d h len fun j => xs.getD (off + j) false).at s).fst.fuse,
                  SV.bool (stepS (mpOf w d h len fun j => xs.getD (off + j) false).at s).fst.rest]])
      else
        some
          (SV.tuple
              [SV.nilp,
                SV.tuple
                  [SV.int IntKind.i64 n, SV.ptr 1 0 0 0, SV.ptr 2 0 0 0, SV.ptr 3 0 0 0, SV.int IntKind.i64 0, SV.bool false, SV.int IntKind.i64 mx, SV.int IntKind.i64 (IntKind.i64.wrap (i + 1))]],
            [Row.vec true Knd.bool xs, Row.own [SV.int IntKind.i64 w, SV.int IntKind.i64 d, SV.int IntKind.i64 h, SV.slice 0 1 off len none, SV.unk],
              Row.own
                [SV.int IntKind.i64 (stepS (mpOf w d h len fun j => xs.getD (off + j) false).at s).fst.id, SV.int IntKind.i64 (stepS (mpOf w d h len fun j => xs.getD (off + j) false).at s).fst.owner,
                  SV.int IntKind.i64 (stepS (mpOf w d h len fun j => xs.getD (off + j) false).at s).fst.kind, SV.int IntKind.i64 (stepS (mpOf w d h len fun j => xs.getD (off + j) false).at s).fst.pos.x,
                  SV.int IntKind.i64 (stepS (mpOf w d h len fun j => xs.getD (off + j) false).at s).fst.pos.y,
                  SV.int IntKind.i64 (stepS (mpOf w d h len fun j => xs.getD (off + j) false).at s).fst.pos.z,
                  SV.int IntKind.i64 (stepS (mpOf w d h len fun j => xs.getD (off + j) false).at s).fst.vel.x,
                  SV.int IntKind.i64 (stepS (mpOf w d h len fun j => xs.getD (off + j) false).at s).fst.vel.y,
                  SV.int IntKind.i64 (stepS (mpOf w d h len fun j => xs.getD (off + j) false).at s).fst.vel.z, SV.int IntKind.i64 (stepS (mpOf w d h len fun j => xs.getD (off + j) false).at s).fst.fuse,
                  SV.bool (stepS (mpOf w d h len fun j => xs.getD (off + j) false).at s).fst.rest],
              Row.own
                [SV.int IntKind.i64 r.id, SV.int IntKind.i64 r.owner, SV.int IntKind.i64 r.kind, SV.int IntKind.i64 r.pos.x, SV.int IntKind.i64 r.pos.y, SV.int IntKind.i64 r.pos.z,
                  SV.int IntKind.i64 r.vel.x, SV.int IntKind.i64 r.vel.y, SV.int IntKind.i64 r.vel.z, SV.int IntKind.i64 r.fuse, SV.bool r.rest]])
    else none
  else
    some
      (SV.tuple [SV.ptr 0 0 0 0, SV.tuple [SV.int IntKind.i64 n, SV.ptr 1 0 0 0, SV.ptr 2 0 0 0, SV.ptr 3 0 0 0, SV.int IntKind.i64 0, SV.bool false, SV.int IntKind.i64 mx, SV.int IntKind.i64 i]],
        [Row.vec true Knd.bool xs, Row.own [SV.int IntKind.i64 w, SV.int IntKind.i64 d, SV.int IntKind.i64 h, SV.slice 0 1 off len none, SV.unk],
          Row.own
            [SV.int IntKind.i64 s.id, SV.int IntKind.i64 s.owner, SV.int IntKind.i64 s.kind, SV.int IntKind.i64 s.pos.x, SV.int IntKind.i64 s.pos.y, SV.int IntKind.i64 s.pos.z,
              SV.int IntKind.i64 s.vel.x, SV.int IntKind.i64 s.vel.y, SV.int IntKind.i64 s.vel.z, SV.int IntKind.i64 s.fuse, SV.bool s.rest],
          Row.own
            [SV.int IntKind.i64 r.id, SV.int IntKind.i64 r.owner, SV.int IntKind.i64 r.kind, SV.int IntKind.i64 r.pos.x, SV.int IntKind.i64 r.pos.y, SV.int IntKind.i64 r.pos.z,
              SV.int IntKind.i64 r.vel.x, SV.int IntKind.i64 r.vel.y, SV.int IntKind.i64 r.vel.z, SV.int IntKind.i64 r.fuse, SV.bool r.rest]]) := by kernel_rfl

/-- Step by step: where a shot is, how many steps were behind it at the last one, and whether it has burst. -/
def advS (F : V3 → Bool) : Nat → Int → Sh → Sh × Int × Bool
  | 0, i, s => (s, i, false)
  | k + 1, i, s => bif (stepS F s).2 then ((stepS F s).1, i, true) else advS F k (i + 1) (stepS F s).1
theorem advS_lt {F : V3 → Bool} : ∀ (k : Nat) (i : Int) (s : Sh), (advS F k i s).2.2 = true → i ≤ (advS F k i s).2.1 ∧ (advS F k i s).2.1 < i + k
  | 0, i, s, h => by simp [advS] at h
  | k + 1, i, s, h => by
    unfold advS at h ⊢
    cases hb : (stepS F s).2 with
    | true => simp only [cond_true]; omega
    | false =>
      simp only [hb, cond_false] at h ⊢
      have := advS_lt k _ _ h
      omega
theorem advS_end {F : V3 → Bool} : ∀ (k : Nat) (i : Int) (s : Sh), (advS F k i s).2.2 = false → (advS F k i s).2.1 = i + k
  | 0, i, s, h => by simp [advS]
  | k + 1, i, s, h => by
    unfold advS at h ⊢
    cases hb : (stepS F s).2 with
    | true => simp [hb] at h
    | false =>
      simp only [hb, cond_false] at h ⊢
      have := advS_end k _ _ h
      omega
theorem advS_shift {F : V3 → Bool} (c : Int) : ∀ (k : Nat) (i : Int) (s : Sh), advS F k (i + c) s = ((advS F k i s).1, (advS F k i s).2.1 + c, (advS F k i s).2.2)
  | 0, i, s => rfl
  | k + 1, i, s => by
    unfold advS
    cases hb : (stepS F s).2 with
    | true => rfl
    | false =>
      simp only [cond_false]
      rw [show i + c + 1 = i + 1 + c by omega, advS_shift c k]
theorem advS_parts {F : V3 → Bool} (b : Nat) : ∀ (a : Nat) (i : Int) (s : Sh), advS F (a + b) i s = bif (advS F a i s).2.2 then advS F a i s else advS F b (i + a) (advS F a i s).1
  | 0, i, s => by simp [advS]
  | a + 1, i, s => by
    have e1 : advS F (a + b + 1) i s = bif (stepS F s).2 then ((stepS F s).1, i, true) else advS F (a + b) (i + 1) (stepS F s).1 := rfl
    have e2 : advS F (a + 1) i s = bif (stepS F s).2 then ((stepS F s).1, i, true) else advS F a (i + 1) (stepS F s).1 := rfl
    rw [show a + 1 + b = a + b + 1 by omega, e1, e2]
    cases hb : (stepS F s).2 with
    | true => rfl
    | false =>
      simp only [cond_false]
      rw [advS_parts b a]
      rw [show i + 1 + (a : Int) = i + ((a + 1 : Nat) : Int) by omega]

section
variable {w d h : Int} {len off : Nat} {xs : List Bool}
theorem ad_loop (hm : mapOk w d h len = true) (hl : decide (off + len ≤ xs.length) = true) {n mx : Int} {r : Sh} : ∀ (k : Nat) (i : Int) (s : Sh), s.pos.fits → i + k = mx → 0 ≤ i → mx ≤ 9223372036854775807 →
    ((advS (mpOf w d h len fun j => xs.getD (off + j) false).at k i s).2.2 = true → LoopTo rdAd (valAd n 0 false mx i) (rowAd w d h len off xs s r) .ret (valAd n (((advS (mpOf w d h len fun j => xs.getD (off + j) false).at k i s).2.1) + 1) true mx (advS (mpOf w d h len fun j => xs.getD (off + j) false).at k i s).2.1) (rowAd w d h len off xs (advS (mpOf w d h len fun j => xs.getD (off + j) false).at k i s).1 (advS (mpOf w d h len fun j => xs.getD (off + j) false).at k i s).1)) ∧
    ((advS (mpOf w d h len fun j => xs.getD (off + j) false).at k i s).2.2 = false → LoopTo rdAd (valAd n 0 false mx i) (rowAd w d h len off xs s r) (.exit 0) (valAd n 0 false mx mx) (rowAd w d h len off xs (advS (mpOf w d h len fun j => xs.getD (off + j) false).at k i s).1 r))
  | 0, i, s, hp, h1, h2, h3 => by
    obtain rfl : i = mx := by omega
    refine ⟨fun h => by simp [advS] at h, fun _ => .done ?_ (by simp)⟩
    rw [ad_round]
    rw [decide_eq_false (by omega), cond_false]
    rfl
  | k + 1, i, s, hp, h1, h2, h3 => by
    have hr := ad_round w d h len off xs s r n mx i
    rw [decide_eq_true (by omega), cond_true, hm, hl, fitsB_iff.2 hp, IntWalk.i64_in (i + 1) (by omega)] at hr
    simp only [Bool.and_true, cond_true] at hr
    unfold advS
    cases hb : (stepS (mpOf w d h len fun j => xs.getD (off + j) false).at s).2 with
    | true =>
      rw [hb, cond_true] at hr
      simp only [cond_true]
      exact ⟨fun _ => .done hr (by simp), fun h => by simp at h⟩
    | false =>
      rw [hb, cond_false] at hr
      simp only [cond_false]
      have ih := ad_loop hm hl (n := n) (mx := mx) (r := r) k (i + 1) (stepS (mpOf w d h len fun j => xs.getD (off + j) false).at s).1 (stepS_fits hp) (by omega) (by omega) h3
      exact ⟨fun h => .more hr (ih.1 h), fun h => .more hr (ih.2 h)⟩
end

/-- A shot's steps, as many as are told. -/
def advR (F : V3 → Bool) (s : Sh) (n : Int) : Sh × Int × Bool := bif (advS F (max n 0).toNat 0 s).2.2 then ((advS F (max n 0).toNat 0 s).1, (advS F (max n 0).toNat 0 s).2.1 + 1, true) else ((advS F (max n 0).toNat 0 s).1, max n 0, false)

theorem advS_fits {F : V3 → Bool} : ∀ (k : Nat) (i : Int) (s : Sh), s.pos.fits → (advS F k i s).1.pos.fits
  | 0, i, s, h => h
  | k + 1, i, s, h => by
    unfold advS
    cases (stepS F s).2 with
    | true => exact stepS_fits h
    | false => exact advS_fits k _ _ (stepS_fits h)
theorem advR_fits {F : V3 → Bool} {s : Sh} {n : Int} (h : s.pos.fits) : (advR F s n).1.pos.fits := by
  unfold advR
  cases (advS F (max n 0).toNat 0 s).2.2 <;> exact advS_fits _ _ _ h
theorem advR_none {F : V3 → Bool} {s : Sh} {n : Int} (h : n ≤ 0) : advR F s n = (s, 0, false) := by
  unfold advR
  rw [show max n 0 = 0 by omega]
  rfl
theorem advR_bound {F : V3 → Bool} {s : Sh} {n : Int} (h : 0 ≤ n) : 0 ≤ (advR F s n).2.1 ∧ (advR F s n).2.1 ≤ n := by
  unfold advR
  cases hb : (advS F (max n 0).toNat 0 s).2.2 with
  | true =>
    have := advS_lt _ _ _ hb
    simp only [cond_true]
    omega
  | false => simp only [cond_false]; omega
theorem advR_burst {F : V3 → Bool} {s : Sh} {a b : Int} (ha : 0 ≤ a) (hb : 0 ≤ b) (h : (advR F s a).2.2 = true) : advR F s (a + b) = advR F s a := by
  unfold advR at h ⊢
  rw [show (max (a + b) 0).toNat = (max a 0).toNat + (max b 0).toNat by omega, advS_parts]
  cases hq : (advS F (max a 0).toNat 0 s).2.2 with
  | true => simp only [cond_true, hq]
  | false => rw [hq] at h; simp at h
theorem advR_more {F : V3 → Bool} {s : Sh} {a b : Int} (ha : 0 ≤ a) (hb : 0 ≤ b) (h : (advR F s a).2.2 = false) : (advR F s a).2.1 = a ∧ advR F s (a + b) = ((advR F (advR F s a).1 b).1, a + (advR F (advR F s a).1 b).2.1, (advR F (advR F s a).1 b).2.2) := by
  have h1 : (advS F (max a 0).toNat 0 s).2.2 = false := by
    unfold advR at h
    cases hq : (advS F (max a 0).toNat 0 s).2.2 with
    | true => rw [hq] at h; simp at h
    | false => rfl
  have e1 : advR F s a = ((advS F (max a 0).toNat 0 s).1, max a 0, false) := by unfold advR; rw [h1]; rfl
  refine ⟨by rw [e1]; simp only; omega, ?_⟩
  rw [e1]
  simp only
  unfold advR
  rw [show (max (a + b) 0).toNat = (max a 0).toNat + (max b 0).toNat by omega, advS_parts, h1, cond_false, advS_shift]
  cases (advS F (max b 0).toNat 0 (advS F (max a 0).toNat 0 s).1).2.2 with
  | true =>
    simp only [cond_true, Prod.mk.injEq, and_true, true_and]
    omega
  | false =>
    simp only [cond_false, Prod.mk.injEq, and_true, true_and]
    omega

def zSh : Sh := ⟨0, 0, 0, ⟨0, 0, 0⟩, ⟨0, 0, 0⟩, 0, false⟩
set_option maxHeartbeats 0 in
noncomputable def outAd (v : List SV) (R : List Row) (k : Ex → List SV → List Row → Option Res2) : Option Res2 := match v, R with
  | [.int .i64 n, .ptr 1 0 0 0, .ptr 2 0 0 0, .ptr 3 0 0 0, .int .i64 c, .bool false, .int .i64 mx, .int .i64 i],
    [.vec true .bool xs, .own [.int .i64 w, .int .i64 d, .int .i64 h, .slice 0 1 off len none, .unk], .own [.int .i64 a0, .int .i64 a1, .int .i64 a2, .int .i64 a3, .int .i64 a4, .int .i64 a5, .int .i64 a6, .int .i64 a7, .int .i64 a8, .int .i64 a9, .bool b], .own [.int .i64 b0, .int .i64 b1, .int .i64 b2, .int .i64 b3, .int .i64 b4, .int .i64 b5, .int .i64 b6, .int .i64 b7, .int .i64 b8, .int .i64 b9, .bool g]] =>
      bif (decide (c = 0) && (decide (i = 0) && (decide (0 ≤ mx) && decide (mx ≤ 9223372036854775807)))) && (mapOk w d h len && (decide (off + len ≤ xs.length) && fitsB ⟨a3, a4, a5⟩)) then
        (bif (advS (mpOf w d h len fun j => xs.getD (off + j) false).at mx.toNat 0 ⟨a0, a1, a2, ⟨a3, a4, a5⟩, ⟨a6, a7, a8⟩, a9, b⟩).2.2 then
          k .ret (valAd n ((advS (mpOf w d h len fun j => xs.getD (off + j) false).at mx.toNat 0 ⟨a0, a1, a2, ⟨a3, a4, a5⟩, ⟨a6, a7, a8⟩, a9, b⟩).2.1 + 1) true mx (advS (mpOf w d h len fun j => xs.getD (off + j) false).at mx.toNat 0 ⟨a0, a1, a2, ⟨a3, a4, a5⟩, ⟨a6, a7, a8⟩, a9, b⟩).2.1)
            (rowAd w d h len off xs (advS (mpOf w d h len fun j => xs.getD (off + j) false).at mx.toNat 0 ⟨a0, a1, a2, ⟨a3, a4, a5⟩, ⟨a6, a7, a8⟩, a9, b⟩).1 (advS (mpOf w d h len fun j => xs.getD (off + j) false).at mx.toNat 0 ⟨a0, a1, a2, ⟨a3, a4, a5⟩, ⟨a6, a7, a8⟩, a9, b⟩).1)
        else k (.exit 0) (valAd n 0 false mx mx) (rowAd w d h len off xs (advS (mpOf w d h len fun j => xs.getD (off + j) false).at mx.toNat 0 ⟨a0, a1, a2, ⟨a3, a4, a5⟩, ⟨a6, a7, a8⟩, a9, b⟩).1 ⟨b0, b1, b2, ⟨b3, b4, b5⟩, ⟨b6, b7, b8⟩, b9, g⟩)) else none
  | _, _ => none
set_option maxHeartbeats 0 in
theorem lpoAd_ok : LpOk 16 [0, 1, 0, 1] (loopF 30 [2, 3, 4, 6, 7, 8, 12, 13] outAd) := by
  intro b hat s K r h
  refine loopF_ok (fuel := 100) xAd_ok lok_none hat (fun v R k r hr => ?_) h
  have hbody := at_body Try.func16 hat
  subst hbody
  unfold outAd at hr
  split at hr
  · rename_i n c mx i xs w d h off len a0 a1 a2 a3 a4 a5 a6 a7 a8 a9 b b0 b1 b2 b3 b4 b5 b6 b7 b8 b9 g
    obtain ⟨hb, hr2⟩ := cond_some hr
    simp only [Bool.and_eq_true, decide_eq_true_eq, fitsB_iff] at hb
    obtain ⟨⟨h1, h2, h3, h4⟩, h5, h6, h7⟩ := hb
    subst h1 h2
    have hl := ad_loop (n := n) (mx := mx) (r := ⟨b0, b1, b2, ⟨b3, b4, b5⟩, ⟨b6, b7, b8⟩, b9, g⟩) h5 (decide_eq_true h6) mx.toNat 0 ⟨a0, a1, a2, ⟨a3, a4, a5⟩, ⟨a6, a7, a8⟩, a9, b⟩ h7 (by omega) (by omega) h4
    cases hq : (advS (mpOf w d h len fun j => xs.getD (off + j) false).at mx.toNat 0 ⟨a0, a1, a2, ⟨a3, a4, a5⟩, ⟨a6, a7, a8⟩, a9, b⟩).2.2 with
    | true =>
      rw [hq, cond_true] at hr2
      exact ⟨_, _, _, hr2, hl.1 hq⟩
    | false =>
      rw [hq, cond_false] at hr2
      exact ⟨_, _, _, hr2, hl.2 hq⟩
  · cases hr
noncomputable def lpoAd : Lpo := ⟨_, _, _, lpoAd_ok⟩

set_option maxRecDepth 100000 in
set_option maxHeartbeats 0 in
theorem adv_tree (w d h : Int) (len off : Nat) (xs : List Bool) (s : Sh) (n : Int) : runK xAd (loopOf [lpoAd]) 300 16 Try.f16 0 [mapS w d h (.slice 0 1 off len none) .unk, .agg s.sv, .int .i64 n] [.vec true .bool xs] =
  bif decide (0 ≤ max n 0) && decide (max n 0 ≤ 9223372036854775807) && (mapOk w d h len && (decide (off + len ≤ xs.length) && fitsB s.pos)) then
    bif (advS (mpOf w d h len fun j => xs.getD (off + j) false).at (max n 0).toNat 0 s).snd.snd then
      some
        (SV.tuple
            [SV.agg
                [SV.int IntKind.i64 (advS (mpOf w d h len fun j => xs.getD (off + j) false).at (max n 0).toNat 0 s).fst.id,
                  SV.int IntKind.i64 (advS (mpOf w d h len fun j => xs.getD (off + j) false).at (max n 0).toNat 0 s).fst.owner,
                  SV.int IntKind.i64 (advS (mpOf w d h len fun j => xs.getD (off + j) false).at (max n 0).toNat 0 s).fst.kind,
                  SV.int IntKind.i64 (advS (mpOf w d h len fun j => xs.getD (off + j) false).at (max n 0).toNat 0 s).fst.pos.x,
                  SV.int IntKind.i64 (advS (mpOf w d h len fun j => xs.getD (off + j) false).at (max n 0).toNat 0 s).fst.pos.y,
                  SV.int IntKind.i64 (advS (mpOf w d h len fun j => xs.getD (off + j) false).at (max n 0).toNat 0 s).fst.pos.z,
                  SV.int IntKind.i64 (advS (mpOf w d h len fun j => xs.getD (off + j) false).at (max n 0).toNat 0 s).fst.vel.x,
                  SV.int IntKind.i64 (advS (mpOf w d h len fun j => xs.getD (off + j) false).at (max n 0).toNat 0 s).fst.vel.y,
                  SV.int IntKind.i64 (advS (mpOf w d h len fun j => xs.getD (off + j) false).at (max n 0).toNat 0 s).fst.vel.z,
                  SV.int IntKind.i64 (advS (mpOf w d h len fun j => xs.getD (off + j) false).at (max n 0).toNat 0 s).fst.fuse,
                  SV.bool (advS (mpOf w d h len fun j => xs.getD (off + j) false).at (max n 0).toNat 0 s).fst.rest],
              SV.int IntKind.i64 ((advS (mpOf w d h len fun j => xs.getD (off + j) false).at (max n 0).toNat 0 s).snd.fst + 1), SV.bool true],
          [])
    else
      some
        (SV.tuple
            [SV.agg
                [SV.int IntKind.i64 (advS (mpOf w d h len fun j => xs.getD (off + j) false).at (max n 0).toNat 0 s).fst.id,
                  SV.int IntKind.i64 (advS (mpOf w d h len fun j => xs.getD (off + j) false).at (max n 0).toNat 0 s).fst.owner,
                  SV.int IntKind.i64 (advS (mpOf w d h len fun j => xs.getD (off + j) false).at (max n 0).toNat 0 s).fst.kind,
                  SV.int IntKind.i64 (advS (mpOf w d h len fun j => xs.getD (off + j) false).at (max n 0).toNat 0 s).fst.pos.x,
                  SV.int IntKind.i64 (advS (mpOf w d h len fun j => xs.getD (off + j) false).at (max n 0).toNat 0 s).fst.pos.y,
                  SV.int IntKind.i64 (advS (mpOf w d h len fun j => xs.getD (off + j) false).at (max n 0).toNat 0 s).fst.pos.z,
                  SV.int IntKind.i64 (advS (mpOf w d h len fun j => xs.getD (off + j) false).at (max n 0).toNat 0 s).fst.vel.x,
                  SV.int IntKind.i64 (advS (mpOf w d h len fun j => xs.getD (off + j) false).at (max n 0).toNat 0 s).fst.vel.y,
                  SV.int IntKind.i64 (advS (mpOf w d h len fun j => xs.getD (off + j) false).at (max n 0).toNat 0 s).fst.vel.z,
                  SV.int IntKind.i64 (advS (mpOf w d h len fun j => xs.getD (off + j) false).at (max n 0).toNat 0 s).fst.fuse,
                  SV.bool (advS (mpOf w d h len fun j => xs.getD (off + j) false).at (max n 0).toNat 0 s).fst.rest],
              SV.int IntKind.i64 (max n 0), SV.bool false],
          [])
  else none := by kernel_rfl

theorem adv_val {w d h : Int} {len off : Nat} {xs : List Bool} {s : Sh} {n : Int} (hm : mapOk w d h len = true) (hl : decide (off + len ≤ xs.length) = true) (hp : s.pos.fits) (hn : In64 n) :
    runK xAd (loopOf [lpoAd]) 300 16 Try.f16 0 [mapS w d h (.slice 0 1 off len none) .unk, .agg s.sv, .int .i64 n] [.vec true .bool xs] =
      some (.tuple [.agg (advR (mpOf w d h len fun j => xs.getD (off + j) false).at s n).1.sv, .int .i64 (advR (mpOf w d h len fun j => xs.getD (off + j) false).at s n).2.1, .bool (advR (mpOf w d h len fun j => xs.getD (off + j) false).at s n).2.2], []) := by
  rw [adv_tree]
  unfold In64 at hn
  rw [decide_eq_true (show 0 ≤ max n 0 by omega), decide_eq_true (show max n 0 ≤ 9223372036854775807 by omega), hm, hl, fitsB_iff.2 hp]
  simp only [Bool.and_true, cond_true]
  unfold advR
  cases (advS (mpOf w d h len fun j => xs.getD (off + j) false).at (max n 0).toNat 0 s).2.2 <;> rfl

noncomputable def oAdv (args : List SV) (rows : List Row) : Option Eff :=
  match args with
  | [.agg [.int .i64 w, .int .i64 d, .int .i64 h, .slice id st off len _, sp], .agg [.int .i64 a0, .int .i64 a1, .int .i64 a2, .int .i64 a3, .int .i64 a4, .int .i64 a5, .int .i64 a6, .int .i64 a7, .int .i64 a8, .int .i64 a9, .bool b], .int .i64 n] => match rows[id]? with
    | some (.vec _ .bool xs) => bif Nat.beq st 1 && sp.one then some { ok := (mapOk w d h len && in64B n) && (fitsB ⟨a3, a4, a5⟩ && decide (off + len ≤ xs.length)), val := .tuple [.agg (advR (mpOf w d h len fun j => xs.getD (off + j) false).at ⟨a0, a1, a2, ⟨a3, a4, a5⟩, ⟨a6, a7, a8⟩, a9, b⟩ n).1.sv, .int .i64 (advR (mpOf w d h len fun j => xs.getD (off + j) false).at ⟨a0, a1, a2, ⟨a3, a4, a5⟩, ⟨a6, a7, a8⟩, a9, b⟩ n).2.1, .bool (advR (mpOf w d h len fun j => xs.getD (off + j) false).at ⟨a0, a1, a2, ⟨a3, a4, a5⟩, ⟨a6, a7, a8⟩, a9, b⟩ n).2.2], rd := [id] } else none
    | _ => none
  | _ => none
set_option maxHeartbeats 0 in
theorem oAdv_ok {args : List SV} {rows : List Row} {n : Nat} {e : Eff} (h : oAdv args rows = some e) (hok : e.ok = true) : FnOk Try.prog 16 args (rows[·]?) n e := by
  unfold oAdv at h
  split at h
  · rename_i wd dd hd id st off len cap sp a0 a1 a2 a3 a4 a5 a6 a7 a8 a9 b nn
    split at h
    · rename_i ro xs hrow
      cases hb : Nat.beq st 1 && sp.one with
      | false => simp [hb] at h
      | true =>
        simp only [hb, cond_true, Option.some.injEq] at h
        subst h
        rw [Bool.and_eq_true] at hb
        have hst := Nat.eq_of_beq_eq_true hb.1
        subst hst
        simp only [Bool.and_eq_true, fitsB_iff, in64B_iff] at hok
        obtain ⟨⟨h1, h4⟩, h2, h3⟩ := hok
        obtain ⟨rows', hc, _⟩ := runK_ok xAd_ok loopOf_ok Try.func16 (adv_val (s := ⟨a0, a1, a2, ⟨a3, a4, a5⟩, ⟨a6, a7, a8⟩, a9, b⟩) h1 h3 h2 h4)
        exact fnOk_map hb.2 hc rfl rfl hrow
    · cases h
  · cases h
noncomputable def orcAdv : Orc := ⟨16, oAdv, fun _ _ _ h hok => oAdv_ok h hok, bodied Try.func16 (by kernel_rfl)⟩

end Go.Proofs.Ythgafhegdngomaa
