/- ShotFree: the law's call. -/
import Derived.Test.YthgafhegdngomaaVmAd
import Derived.Test.YthgafhegdngomaaVmRt
import Derived.Test.YthgafhegdngomaaVmNw
import Derived.Test.YthgafhegdngomaaVmG12
import Derived.Test.YthgafhegdngomaaOpen3
namespace Go.Proofs.Ythgafhegdngomaa
set_option linter.unusedSimpArgs false
set_option linter.unusedVariables false
open Go.RowKit

set_option maxRecDepth 100000 in
set_option maxHeartbeats 0 in
theorem lsolid_tree (w d h : Int) (len off : Nat) (xs : List Bool) (p : V3) : runK xSv (fun _ _ => none) 200 13 Try.f13 0 [mapS w d h (.slice 0 1 off len none) .unk, .agg p.sv] [.vec true .bool xs] =
  bif
      mapOk w d h len &&
        (in64B (p.x.fdiv (2 ^ min (Int.toNat 16) IntKind.i64.bits)) &&
          (in64B (p.y.fdiv (2 ^ min (Int.toNat 16) IntKind.i64.bits)) && (in64B (p.z.fdiv (2 ^ min (Int.toNat 16) IntKind.i64.bits)) && decide (off + len ≤ xs.length)))) then
    some
      (SV.bool
          ((mpOf w d h len fun j => xs.getD (off + j) false).solid (p.x.fdiv (2 ^ min (Int.toNat 16) IntKind.i64.bits)) (p.y.fdiv (2 ^ min (Int.toNat 16) IntKind.i64.bits))
            (p.z.fdiv (2 ^ min (Int.toNat 16) IntKind.i64.bits))),
        [])
  else none := by kernel_rfl

theorem lsolid_val {w d h : Int} {len off : Nat} {xs : List Bool} {p : V3} (hm : mapOk w d h len = true) (hl : decide (off + len ≤ xs.length) = true) (hp : p.fits) :
    runK xSv (fun _ _ => none) 200 13 Try.f13 0 [mapS w d h (.slice 0 1 off len none) .unk, .agg p.sv] [.vec true .bool xs] = some (.bool ((mpOf w d h len fun j => xs.getD (off + j) false).at p), []) := by
  rw [lsolid_tree]
  simp only [div16, hm, hl, i64_div' hp.1, i64_div' hp.2.1, i64_div' hp.2.2, Bool.and_true, cond_true]
  rfl
noncomputable def oLsolid (args : List SV) (rows : List Row) : Option Eff :=
  match args with
  | [.agg [.int .i64 w, .int .i64 d, .int .i64 h, .slice id st off len _, sp], .agg [.int .i64 x, .int .i64 y, .int .i64 z]] => match rows[id]? with
    | some (.vec _ .bool xs) => bif Nat.beq st 1 && sp.one then some { ok := mapOk w d h len && (fitsB ⟨x, y, z⟩ && decide (off + len ≤ xs.length)), val := .bool ((mpOf w d h len fun j => xs.getD (off + j) false).at ⟨x, y, z⟩), rd := [id] } else none
    | _ => none
  | _ => none
theorem oLsolid_ok {args : List SV} {rows : List Row} {n : Nat} {e : Eff} (h : oLsolid args rows = some e) (hok : e.ok = true) : FnOk Try.prog 13 args (rows[·]?) n e := by
  unfold oLsolid at h
  split at h
  · rename_i wd dd hd id st off len cap sp x y z
    split at h
    · rename_i ro xs hrow
      cases hb : Nat.beq st 1 && sp.one with
      | false => simp [hb] at h
      | true =>
        simp only [hb, cond_true, Option.some.injEq] at h
        subst h
        rw [Bool.and_eq_true] at hb
        have hst := Nat.eq_of_beq_eq_true hb.1
        subst hst
        simp only [Bool.and_eq_true, fitsB_iff] at hok
        obtain ⟨h1, h2, h3⟩ := hok
        obtain ⟨rows', hc, _⟩ := runK_ok xSv_ok lok_none Try.func13 (lsolid_val (p := ⟨x, y, z⟩) h1 h3 h2)
        exact fnOk_map hb.2 hc rfl rfl hrow
    · cases h
  · cases h
noncomputable def orcLsolid : Orc := ⟨13, oLsolid, fun _ _ _ h hok => oLsolid_ok h hok, bodied Try.func13 (by kernel_rfl)⟩


noncomputable def x12d : Ctx := ctxOf [11, 12] [orcShown12, orcRight, orcStep, orcNew, orcLsolid]
theorem x12d_ok : COk Try.prog x12d := ctxOf_ok (by kernel_rfl)

def valFe (k : Int) (b : Bool) (f i : Int) : List SV := [.int .i64 k, .ptr 2 0 0 0, .bool b, .bool true, .ptr 5 0 0 0, .int .i64 f, .int .i64 i]
def rowFe (w d h : Int) (len : Nat) (xs : List Bool) (ls : Nat) (sp : List V3) (p dir : V3) (s : Sh) : List Row := [.vec true .bool xs, .vec true .vec sp, .own [.int .i64 w, .int .i64 d, .int .i64 h, .slice 0 1 0 len none, .slice 1 3 0 ls none], .own p.sv, .own dir.sv, .own s.sv]
noncomputable def rdFe : List SV → List Row → Option Res2 := roundS x12d (fun _ _ => none) 100 5 [0, 1, 0, 1, 1, 1, 1, 1, 1] (bodyAt Try.f5 [0, 1, 0, 1, 1, 1, 1, 1, 1]) 109 6 [1, 4, 8, 9, 10, 12, 13]

set_option maxRecDepth 100000 in
set_option maxHeartbeats 0 in
theorem fe_round (w d h : Int) (len : Nat) (xs : List Bool) (ls : Nat) (sp : List V3) (p dir : V3) (s : Sh) (k f i : Int) : rdFe (valFe k false f i) (rowFe w d h len xs ls sp p dir s) =
  bif decide (i ≤ f) then
    bif mapOk w d h len && (fitsB s.pos && decide (0 + len ≤ xs.length)) then
      bif mapOk w d h len && (fitsB (stepS (mpOf w d h len fun j => xs.getD (0 + j) false).at s).fst.pos && decide (0 + len ≤ xs.length)) then
        bif
            bif
                (bif
                      (bif
                            (bif
                                  (bif (mpOf w d h len fun j => xs.getD (0 + j) false).at (stepS (mpOf w d h len fun j => xs.getD (0 + j) false).at s).fst.pos == false then
                                      (stepS (mpOf w d h len fun j => xs.getD (0 + j) false).at s).fst.fuse != IntKind.i64.wrap (s.fuse - 1)
                                    else true) ==
                                    false then
                                (stepS (mpOf w d h len fun j => xs.getD (0 + j) false).at s).fst.id != 1
                              else true) ==
                              false then
                          (stepS (mpOf w d h len fun j => xs.getD (0 + j) false).at s).fst.owner != 1
                        else true) ==
                        false then
                    (stepS (mpOf w d h len fun j => xs.getD (0 + j) false).at s).fst.kind != k
                  else true) ==
                  false then
              bif (k == 0) == true then
                !((stepS (mpOf w d h len fun j => xs.getD (0 + j) false).at s).fst.vel.x == s.vel.x &&
                    ((stepS (mpOf w d h len fun j => xs.getD (0 + j) false).at s).fst.vel.y == s.vel.y && ((stepS (mpOf w d h len fun j => xs.getD (0 + j) false).at s).fst.vel.z == s.vel.z && true)))
              else false
            else true then
          some
            (SV.tuple [SV.nils, SV.tuple [SV.int IntKind.i64 k, SV.ptr 2 0 0 0, SV.bool false, SV.bool true, SV.ptr 5 0 0 0, SV.int IntKind.i64 f, SV.int IntKind.i64 i]],
              [Row.vec true Knd.bool xs, Row.vec true Knd.vec sp, Row.own [SV.int IntKind.i64 w, SV.int IntKind.i64 d, SV.int IntKind.i64 h, SV.slice 0 1 0 len none, SV.slice 1 3 0 ls none],
                Row.own [SV.int IntKind.i64 p.x, SV.int IntKind.i64 p.y, SV.int IntKind.i64 p.z], Row.own [SV.int IntKind.i64 dir.x, SV.int IntKind.i64 dir.y, SV.int IntKind.i64 dir.z],
                Row.own
                  [SV.int IntKind.i64 s.id, SV.int IntKind.i64 s.owner, SV.int IntKind.i64 s.kind, SV.int IntKind.i64 s.pos.x, SV.int IntKind.i64 s.pos.y, SV.int IntKind.i64 s.pos.z,
                    SV.int IntKind.i64 s.vel.x, SV.int IntKind.i64 s.vel.y, SV.int IntKind.i64 s.vel.z, SV.int IntKind.i64 s.fuse, SV.bool s.rest]])
        else
          bif (stepS (mpOf w d h len fun j => xs.getD (0 + j) false).at s).snd then
            some
              (SV.tuple [SV.nils, SV.tuple [SV.int IntKind.i64 k, SV.ptr 2 0 0 0, SV.bool true, SV.bool true, SV.ptr 5 0 0 0, SV.int IntKind.i64 f, SV.int IntKind.i64 i]],
                [Row.vec true Knd.bool xs, Row.vec true Knd.vec sp, Row.own [SV.int IntKind.i64 w, SV.int IntKind.i64 d, SV.int IntKind.i64 h, SV.slice 0 1 0 len none, SV.slice 1 3 0 ls none],
                  Row.own [SV.int IntKind.i64 p.x, SV.int IntKind.i64 p.y, SV.int IntKind.i64 p.z], Row.own [SV.int IntKind.i64 dir.x, SV.int IntKind.i64 dir.y, SV.int IntKind.i64 dir.z],
                  Row.own
                    [SV.int IntKind.i64 s.id, SV.int IntKind.i64 s.owner, SV.int IntKind.i64 s.kind, SV.int IntKind.i64 s.pos.x, SV.int IntKind.i64 s.pos.y, SV.int IntKind.i64 s.pos.z,
                      SV.int IntKind.i64 s.vel.x, SV.int IntKind.i64 s.vel.y, SV.int IntKind.i64 s.vel.z, SV.int IntKind.i64 s.fuse, SV.bool s.rest]])
          else
            some
              (SV.tuple [SV.nilp, SV.tuple [SV.int IntKind.i64 k, SV.ptr 2 0 0 0, SV.bool false, SV.bool true, SV.ptr 5 0 0 0, SV.int IntKind.i64 f, SV.int IntKind.i64 (IntKind.i64.wrap (i + 1))]],
                [Row.vec true Knd.bool xs, Row.vec true Knd.vec sp, Row.own [SV.int IntKind.i64 w, SV.int IntKind.i64 d, SV.int IntKind.i64 h, SV.slice 0 1 0 len none, SV.slice 1 3 0 ls none],
                  Row.own [SV.int IntKind.i64 p.x, SV.int IntKind.i64 p.y, SV.int IntKind.i64 p.z], Row.own [SV.int IntKind.i64 dir.x, SV.int IntKind.i64 dir.y, SV.int IntKind.i64 dir.z],
                  Row.own
                    [SV.int IntKind.i64 (stepS (mpOf w d h len fun j => xs.getD (0 + j) false).at s).fst.id, SV.int IntKind.i64 (stepS (mpOf w d h len fun j => xs.getD (0 + j) false).at s).fst.owner,
                      SV.int IntKind.i64 (stepS (mpOf w d h len fun j => xs.getD (0 + j) false).at s).fst.kind, SV.int IntKind.i64 (stepS (mpOf w d h len fun j => xs.getD (0 + j) false).at s).fst.pos.x,
                      SV.int IntKind.i64 (stepS (mpOf w d h len fun j => xs.getD (0 + j) false).at s).fst.pos.y,
                      SV.int IntKind.i64 (stepS (mpOf w d h len fun j => xs.getD (0 + j) false).at s).fst.pos.z,
                      SV.int IntKind.i64 (stepS (mpOf w d h len fun j => xs.getD (0 + j) false).at s).fst.vel.x,
                      SV.int IntKind.i64 (stepS (mpOf w d h len fun j => xs.getD (0 + j) false).at s).fst.vel.y,
                      SV.int IntKind.i64 (stepS (mpOf w d h len fun j => xs.getD (0 + j) false).at s).fst.vel.z, SV.int IntKind.i64 (stepS (mpOf w d h len fun j => xs.getD (0 + j) false).at s).fst.fuse,
                      SV.bool (stepS (mpOf w d h len fun j => xs.getD (0 + j) false).at s).fst.rest]])
      else none
    else none
  else
    some
      (SV.tuple [SV.ptr 0 0 0 0, SV.tuple [SV.int IntKind.i64 k, SV.ptr 2 0 0 0, SV.bool false, SV.bool true, SV.ptr 5 0 0 0, SV.int IntKind.i64 f, SV.int IntKind.i64 i]],
        [Row.vec true Knd.bool xs, Row.vec true Knd.vec sp, Row.own [SV.int IntKind.i64 w, SV.int IntKind.i64 d, SV.int IntKind.i64 h, SV.slice 0 1 0 len none, SV.slice 1 3 0 ls none],
          Row.own [SV.int IntKind.i64 p.x, SV.int IntKind.i64 p.y, SV.int IntKind.i64 p.z], Row.own [SV.int IntKind.i64 dir.x, SV.int IntKind.i64 dir.y, SV.int IntKind.i64 dir.z],
          Row.own
            [SV.int IntKind.i64 s.id, SV.int IntKind.i64 s.owner, SV.int IntKind.i64 s.kind, SV.int IntKind.i64 s.pos.x, SV.int IntKind.i64 s.pos.y, SV.int IntKind.i64 s.pos.z,
              SV.int IntKind.i64 s.vel.x, SV.int IntKind.i64 s.vel.y, SV.int IntKind.i64 s.vel.z, SV.int IntKind.i64 s.fuse, SV.bool s.rest]]) := by kernel_rfl

theorem stepS_keeps {F : V3 → Bool} {s : Sh} (h : F s.pos = false) : F (stepS F s).1.pos = false ∧ (stepS F s).1.fuse = IntKind.i64.wrap (s.fuse - 1) ∧ (stepS F s).1.id = s.id ∧ (stepS F s).1.owner = s.owner ∧ (stepS F s).1.kind = s.kind ∧ (s.kind = 0 → (stepS F s).1.vel = s.vel) := by
  have f1 : F (bp1 F s.pos s.vel) = false := by unfold bp1; cases hq : F (bq1 s.pos s.vel); exact hq; exact h
  have f2 : F (bp2 F s.pos s.vel) = false := by unfold bp2; cases hq : F (bq2 (bp1 F s.pos s.vel) s.vel); exact hq; exact f1
  have f3 : F (bp3 F s.pos s.vel) = false := by unfold bp3; cases hq : F (bq3 (bp2 F s.pos s.vel) s.vel); exact hq; exact f2
  unfold stepS
  cases decide (IntKind.i64.wrap (s.fuse - 1) ≤ 0)
  · cases s.rest
    · cases hk : s.kind == 0
      · have hk0 : s.kind ≠ 0 := by simpa using hk
        cases bdown F s.pos s.vel && slowV (bvel F s.pos s.vel)
        · exact ⟨f3, rfl, rfl, rfl, rfl, fun h => absurd h hk0⟩
        · exact ⟨f3, rfl, rfl, rfl, rfl, fun h => absurd h hk0⟩
      · simp only [cond_false, cond_true]
        cases hq : F (flyTo s)
        · exact ⟨hq, rfl, rfl, rfl, rfl, fun _ => rfl⟩
        · exact ⟨h, rfl, rfl, rfl, rfl, fun _ => rfl⟩
    · exact ⟨h, rfl, rfl, rfl, rfl, fun _ => rfl⟩
  · exact ⟨h, rfl, rfl, rfl, rfl, fun _ => rfl⟩
theorem stepS_last {F : V3 → Bool} {s : Sh} (h : s.fuse = 1) : (stepS F s).2 = true := by
  unfold stepS
  rw [h, decide_eq_true (by decide)]
  rfl

/-- Where a shot is when it bursts, and in which step. -/
def endS' (F : V3 → Bool) : Nat → Int → Sh → Sh × Int
  | 0, i, s => (s, i)
  | n + 1, i, s => bif (stepS F s).2 then (s, i) else endS' F n (i + 1) (stepS F s).1

section
variable {w d h : Int} {len : Nat} {xs : List Bool} {ls : Nat} {sp : List V3} {p dir : V3} {k f : Int}
theorem fe_loop (hm : mapOk w d h len = true) (hl : decide (0 + len ≤ xs.length) = true) (hf0 : f ≤ 1000) : ∀ (n : Nat) (i : Int) (s : Sh), s.pos.fits → (mpOf w d h len fun j => xs.getD (0 + j) false).at s.pos = false → s.id = 1 → s.owner = 1 → s.kind = k → s.fuse = n → 1 ≤ n → 1 ≤ i → i + n = f + 1 →
    LoopTo rdFe (valFe k false f i) (rowFe w d h len xs ls sp p dir s) .ret (valFe k true f (endS' (mpOf w d h len fun j => xs.getD (0 + j) false).at n i s).2) (rowFe w d h len xs ls sp p dir (endS' (mpOf w d h len fun j => xs.getD (0 + j) false).at n i s).1)
  | 0, _, _, _, _, _, _, _, _, h1, _, _ => by omega
  | n + 1, i, s, hp, hF, h1, h2, h3, h4, h5, h6, h7 => by
    have hr := fe_round w d h len xs ls sp p dir s k f i
    obtain ⟨q1, q2, q3, q4, q5, q6⟩ := stepS_keeps hF
    have qf := stepS_fits (F := (mpOf w d h len fun j => xs.getD (0 + j) false).at) hp
    have ql := fun h0 => stepS_last (F := (mpOf w d h len fun j => xs.getD (0 + j) false).at) (s := s) h0
    rw [decide_eq_true (by omega), cond_true, hm, hl, fitsB_iff.2 hp, fitsB_iff.2 qf] at hr
    have hvel : (bif (k == 0) == true then !((stepS (mpOf w d h len fun j => xs.getD (0 + j) false).at s).1.vel.x == s.vel.x && ((stepS (mpOf w d h len fun j => xs.getD (0 + j) false).at s).1.vel.y == s.vel.y && ((stepS (mpOf w d h len fun j => xs.getD (0 + j) false).at s).1.vel.z == s.vel.z && true))) else false) = false := by
      cases hk : k == 0 with
      | false => rfl
      | true =>
        rw [q6 (by rw [h3]; simpa using hk)]
        simp
    have e1 := q3.trans h1
    have e2 := q4.trans h2
    have e3 := q5.trans h3
    rw [hvel, q1, q2, e1, e2, e3, bne_self_eq_false, bne_self_eq_false, bne_self_eq_false] at hr
    simp only [Bool.and_true, cond_true, beq_self_eq_true, cond_false] at hr
    unfold endS'
    cases hb : (stepS (mpOf w d h len fun j => xs.getD (0 + j) false).at s).2 with
    | true =>
      rw [hb, cond_true] at hr
      simp only [cond_true]
      exact .done hr (by simp)
    | false =>
      have hn : n ≠ 0 := by
        intro h0
        subst h0
        have := ql h4
        rw [hb] at this
        cases this
      rw [hb, cond_false, IntWalk.i64_in (i + 1) (by omega)] at hr
      simp only [cond_false]
      have ih := fe_loop hm hl hf0 n (i + 1) (stepS (mpOf w d h len fun j => xs.getD (0 + j) false).at s).1 qf q1 e1 e2 e3 (by rw [q2, h4, IntWalk.i64_in _ (by omega)]; omega) (by omega) (by omega) (by omega)
      refine .more (Eq.trans hr ?_) ih
      unfold rowFe Sh.sv
      rw [e1, e2, e3, q2]
      rfl
end

set_option maxHeartbeats 0 in
noncomputable def outFe (v : List SV) (R : List Row) (k : Ex → List SV → List Row → Option Res2) : Option Res2 := match v, R with
  | [.int .i64 kd, .ptr 2 0 0 0, .bool false, .bool true, .ptr 5 0 0 0, .int .i64 f, .int .i64 i],
    [.vec true .bool xs, .vec true .vec sp, .own [.int .i64 w, .int .i64 d, .int .i64 h, .slice 0 1 off len none, .slice 1 3 0 ls none], .own [.int .i64 px, .int .i64 py, .int .i64 pz], .own [.int .i64 dx, .int .i64 dy, .int .i64 dz], .own [.int .i64 a0, .int .i64 a1, .int .i64 a2, .int .i64 a3, .int .i64 a4, .int .i64 a5, .int .i64 a6, .int .i64 a7, .int .i64 a8, .int .i64 a9, .bool b]] =>
      bif (decide (off = 0) && (decide (i = 1) && (decide (a0 = 1) && (decide (a1 = 1) && (decide (a2 = kd) && (decide (a9 = f) && (decide (1 ≤ f) && decide (f ≤ 1000)))))))) && (mapOk w d h len && (decide (0 + len ≤ xs.length) && (fitsB ⟨a3, a4, a5⟩ && !(mpOf w d h len fun j => xs.getD (0 + j) false).at ⟨a3, a4, a5⟩))) then
        k .ret (valFe kd true f (endS' (mpOf w d h len fun j => xs.getD (0 + j) false).at f.toNat 1 ⟨1, 1, kd, ⟨a3, a4, a5⟩, ⟨a6, a7, a8⟩, f, b⟩).2) (rowFe w d h len xs ls sp ⟨px, py, pz⟩ ⟨dx, dy, dz⟩ (endS' (mpOf w d h len fun j => xs.getD (0 + j) false).at f.toNat 1 ⟨1, 1, kd, ⟨a3, a4, a5⟩, ⟨a6, a7, a8⟩, f, b⟩).1) else none
  | _, _ => none
set_option maxHeartbeats 0 in
theorem lpoFe_ok : LpOk 5 [0, 1, 0, 1, 1, 1, 1, 1, 1] (loopF 109 [1, 4, 8, 9, 10, 12, 13] outFe) := by
  intro b hat s K r h
  refine loopF_ok (fuel := 100) x12d_ok lok_none hat (fun v R k r hr => ?_) h
  have hbody := at_body Try.func5 hat
  subst hbody
  unfold outFe at hr
  split at hr
  · rename_i kd f i xs sp w d h off len ls px py pz dx dy dz a0 a1 a2 a3 a4 a5 a6 a7 a8 a9 b
    obtain ⟨hb, hr2⟩ := cond_some hr
    simp only [Bool.and_eq_true, decide_eq_true_eq, fitsB_iff, Bool.not_eq_true'] at hb
    obtain ⟨⟨h1, h2, h3, h4, h5, h6, h7, h8⟩, k1, k2, k3, k4⟩ := hb
    subst h1 h2 h3 h4 h5 h6
    have hl := fe_loop (p := ⟨px, py, pz⟩) (dir := ⟨dx, dy, dz⟩) (k := a2) (f := a9) (ls := ls) (sp := sp) k1 (decide_eq_true k2) h8 a9.toNat 1 ⟨1, 1, a2, ⟨a3, a4, a5⟩, ⟨a6, a7, a8⟩, a9, b⟩ k3 k4 rfl rfl rfl (by simp only; omega) (by omega) (by omega) (by omega)
    exact ⟨_, _, _, hr2, hl⟩
  · cases hr
noncomputable def lpoFe : Lpo := ⟨_, _, _, lpoFe_ok⟩

set_option maxRecDepth 100000 in
set_option maxHeartbeats 0 in
theorem shotfree_tree (w d h : Int) (len ls : Nat) (xs : List Bool) (sp : List V3) (k : Int) (p dir : V3) : runK x12d (loopOf [lpoFe]) 300 5 Try.f5 0 [mapS w d h (.slice 0 1 0 len none) (.slice 1 3 0 ls none), .int .i64 k, .agg p.sv, .agg dir.sv] [.vec true .bool xs, .vec true .vec sp] =
  bif
      (mapOk w d h len && (decide (0 + len ≤ xs.length) && (decide (0 + ls ≤ sp.length) && (decide (ls ≤ 9223372036854775807) && sp.all fitsB))) && true && true ||
            (bif (bif decide (w ≤ 10) == true then decide (d ≤ 10) else false) == true then decide (h ≤ 10) else false) != true) &&
          (true || (bif (bif decide (w ≤ 10) == true then decide (d ≤ 10) else false) == true then decide (h ≤ 10) else false) == true) &&
        true then
    bif
        !bif (bif (bif decide (w ≤ 10) == true then decide (d ≤ 10) else false) == true then decide (h ≤ 10) else false) == true then
            rightE ((mpOf w d h len fun j => xs.getD (0 + j) false).right (spAt sp 0) ls) == 0
          else false then
      bif (mapOk w d h len && (fitsB p && decide (0 + len ≤ xs.length)) && true && true || true != false) && (true || true == false) && true then some (SV.bool true, []) else none
    else
      bif bif false == false then !bif decide (p.x ≤ 6553600) == true then decide (p.x ≥ IntKind.i64.wrap (0 - 6553600)) else false else true then
        bif (mapOk w d h len && (fitsB p && decide (0 + len ≤ xs.length)) && true && true || true != false) && (true || true == false) && true then some (SV.bool true, []) else none
      else
        bif bif false == false then !bif decide (p.y ≤ 6553600) == true then decide (p.y ≥ IntKind.i64.wrap (0 - 6553600)) else false else true then
          bif (mapOk w d h len && (fitsB p && decide (0 + len ≤ xs.length)) && true && true || true != false) && (true || true == false) && true then some (SV.bool true, []) else none
        else
          bif
              (mapOk w d h len && (fitsB p && decide (0 + len ≤ xs.length)) && true && true ||
                    (bif false == false then !bif decide (p.z ≤ 6553600) == true then decide (p.z ≥ IntKind.i64.wrap (0 - 6553600)) else false else true) != false) &&
                  (true || (bif false == false then !bif decide (p.z ≤ 6553600) == true then decide (p.z ≥ IntKind.i64.wrap (0 - 6553600)) else false else true) == false) &&
                true then
            bif
                bif (bif false == false then !bif decide (p.z ≤ 6553600) == true then decide (p.z ≥ IntKind.i64.wrap (0 - 6553600)) else false else true) == false then
                  (mpOf w d h len fun j => xs.getD (0 + j) false).at p
                else true then
              some (SV.bool true, [])
            else
              bif newE k dir != 0 then some (SV.bool true, [])
              else
                bif
                    decide ((newS 1 1 k p dir).id = 1) &&
                        (decide ((newS 1 1 k p dir).owner = 1) &&
                          (decide ((newS 1 1 k p dir).kind = k) &&
                            (decide ((newS 1 1 k p dir).fuse = (newS 1 1 k p dir).fuse) && (decide (1 ≤ (newS 1 1 k p dir).fuse) && decide ((newS 1 1 k p dir).fuse ≤ 1000))))) &&
                      (mapOk w d h len && (decide (0 + len ≤ xs.length) && (fitsB (newS 1 1 k p dir).pos && !(mpOf w d h len fun j => xs.getD (0 + j) false).at (newS 1 1 k p dir).pos))) then
                  some (SV.bool true, [])
                else none
          else none
  else none := by kernel_rfl

set_option maxHeartbeats 0 in
theorem shotfree_law {w d h : Int} {len ls : Nat} {xs : List Bool} {sp : List V3} {k : Int} {p dir : V3} (hw : In64 w) (hd : In64 d) (hh : In64 h) (hl : len ≤ 9223372036854775807) (hx : xs.length = len) (hs : ls ≤ 9223372036854775807) (hy : sp.length = ls) (hf : ∀ p ∈ sp, p.fits) (hp : p.fits) :
    runK x12d (loopOf [lpoFe]) 300 5 Try.f5 0 [mapS w d h (.slice 0 1 0 len none) (.slice 1 3 0 ls none), .int .i64 k, .agg p.sv, .agg dir.sv] [.vec true .bool xs, .vec true .vec sp] = some (.bool true, []) := by
  rw [shotfree_tree]
  obtain ⟨c1, c2, c3⟩ := right_facts hw hd hh hl hx hs hy hf
  have fp := fitsB_iff.2 hp
  rw [c1]
  generalize (mpOf w d h len fun j => xs.getD (0 + j) false).right (spAt sp 0) ls = R
  generalize (mpOf w d h len fun j => xs.getD (0 + j) false).at = F
  simp only [c2, c3, fp, Bool.and_true, Bool.true_or, Bool.true_and, cond_true]
  refine bif_law (fun _ => rfl) (fun _ => ?_)
  refine bif_law (fun _ => rfl) (fun _ => ?_)
  refine bif_law (fun _ => rfl) (fun _ => ?_)
  refine bif_law (fun _ => rfl) (fun hF => ?_)
  have hF : F p = false := by
    revert hF
    generalize (bif false == false then !bif decide (p.z ≤ 6553600) == true then decide (p.z ≥ IntKind.i64.wrap (0 - 6553600)) else false else true) = c
    cases c
    · exact fun h => h
    · exact fun h => by simp at h
  cases hb : newBad k dir with
  | true =>
    have e1 : newE k dir = 1 := by unfold newE; rw [hb]; rfl
    rw [e1]
    rfl
  | false =>
    have e1 : newE k dir = 0 := by unfold newE; rw [hb]; rfl
    have e2 : newS 1 1 k p dir = ⟨1, 1, k, p, velN (spN k) dir, fuN k, false⟩ := by unfold newS; rw [hb]; rfl
    have e3 : 1 ≤ fuN k ∧ fuN k ≤ 1000 := by unfold fuN; cases k == 0 <;> decide
    rw [e1, e2]
    simp only [fp, hF, decide_eq_true e3.1, decide_eq_true e3.2]
    simp

end Go.Proofs.Ythgafhegdngomaa
