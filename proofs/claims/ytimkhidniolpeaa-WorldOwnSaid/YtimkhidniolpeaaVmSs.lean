/- shot's Step, as a contract. -/
import Derived.Test.YtimkhidniolpeaaVmOra
import Derived.Test.YtimkhidniolpeaaVmR
namespace Go.Proofs.Ytimkhidniolpeaa
set_option linter.unusedSimpArgs false
set_option linter.unusedVariables false
set_option maxRecDepth 100000
set_option maxHeartbeats 0
open Go.RowKit

theorem in64_wrap (x : Int) : in64B (IntKind.i64.wrap x) = true := by
 rw [in64B_iff, IntKind.wrap_i64]
 unfold In64
 omega
theorem cond_split {α β : Type} {c : Bool} {f : α → β} {x y : α} {x' y' : β} (h1 : x' = f x) (h2 : y' = f y) : (bif c then x' else y') = f (bif c then x else y) := by cases c; exact h2; exact h1
noncomputable def xSlow : Ctx := ctxOf [51] []
theorem xSlow_ok : COk Try.prog xSlow := ctxOf_ok (by kernel_rfl)

theorem slow_tree (v : V3) : runK xSlow (fun _ _ => none) 200 86 Try.f86 0 [.agg v.sv] [] =
 bif bif decide (v.x ≥ 2048) == false then decide (v.x ≤ -2048) else true then some (SV.bool false, [])
 else
  bif bif decide (v.y ≥ 2048) == false then decide (v.y ≤ -2048) else true then some (SV.bool false, [])
  else bif bif decide (v.z ≥ 2048) == false then decide (v.z ≤ -2048) else true then some (SV.bool false, []) else some (SV.bool true, []) := by kernel_rfl

def slowN (n : Int) : Bool := decide (n < 2048) && decide (n > -2048)
def slowV (v : V3) : Bool := slowN v.x && (slowN v.y && slowN v.z)

noncomputable def xSv : Ctx := ctxOf [61] [orcSolid]
theorem xSv_ok : COk Try.prog xSv := ctxOf_ok (by kernel_rfl)

theorem ssolid_tree (w d h : Int) (len off : Nat) (xs : List Bool) (p : V3) : runK xSv (fun _ _ => none) 200 85 Try.f85 0 [mapS w d h (.slice 0 1 off len none) .unk, .agg p.sv] [.vec true .bool xs] =
 bif
     mapOk w d h len &&
      (in64B (p.x.fdiv (2 ^ min (Int.toNat 16) IntKind.i64.bits)) &&
       (in64B (p.y.fdiv (2 ^ min (Int.toNat 16) IntKind.i64.bits)) && (in64B (p.z.fdiv (2 ^ min (Int.toNat 16) IntKind.i64.bits)) && decide (off + len ≤ xs.length)))) then
  some
   (SV.bool
       ((mpOf w d h len fun j => xs.getD (off + j) false).solid (p.x.fdiv (2 ^ min (Int.toNat 16) IntKind.i64.bits)) (p.y.fdiv (2 ^ min (Int.toNat 16) IntKind.i64.bits))
        (p.z.fdiv (2 ^ min (Int.toNat 16) IntKind.i64.bits))),
    [])
 else none := by kernel_rfl

theorem slow_val (v : V3) : runK xSlow (fun _ _ => none) 200 86 Try.f86 0 [.agg v.sv] [] = some (.bool (slowV v), []) := by
 rw [slow_tree]
 have e : ∀ n : Int, (decide (n ≥ 2048) || decide (n ≤ -2048)) = !slowN n := by
  intro n
  rw [Bool.eq_iff_iff]
  unfold slowN
  simp only [Bool.or_eq_true, decide_eq_true_eq, Bool.not_eq_true', Bool.and_eq_false_iff, decide_eq_false_iff_not]
  omega
 simp only [or_form, e]
 unfold slowV
 cases slowN v.x <;> cases slowN v.y <;> cases slowN v.z <;> rfl
def oSlow : List SV → Option Eff
 | [.agg [.int .i64 x, .int .i64 y, .int .i64 z]] => some { val := .bool (slowV ⟨x, y, z⟩) }
 | _ => none
theorem oSlow_ok {m : Nat → Option Row} {n : Nat} {args : List SV} {e : Eff} (h : oSlow args = some e) : FnOk Try.prog 86 args m n e := by
 unfold oSlow at h
 split at h
 · rename_i x y z
   cases h
   obtain ⟨rows', hc, _⟩ := runK_ok xSlow_ok lok_none Try.func86 (slow_val ⟨x, y, z⟩)
   exact fnOk_pure hc rfl rfl
 · cases h
noncomputable def orcSlow : Orc := ⟨86, fun args _ => oSlow args, fun _ _ _ h _ => oSlow_ok h, bodied Try.func86 (by kernel_rfl)⟩

def Mp.at (m : Mp) (v : V3) : Bool := m.solid (v.x / 65536) (v.y / 65536) (v.z / 65536)
theorem ssolid_val {w d h : Int} {len off : Nat} {xs : List Bool} {p : V3} (hm : mapOk w d h len = true) (hl : decide (off + len ≤ xs.length) = true) (hp : p.fits) :
    runK xSv (fun _ _ => none) 200 85 Try.f85 0 [mapS w d h (.slice 0 1 off len none) .unk, .agg p.sv] [.vec true .bool xs] = some (.bool ((mpOf w d h len fun j => xs.getD (off + j) false).at p), []) := by
 rw [ssolid_tree]
 simp only [div16, hm, hl, i64_div' hp.1, i64_div' hp.2.1, i64_div' hp.2.2, Bool.and_true, cond_true]
 rfl
noncomputable def oSsolid (args : List SV) (rows : List Row) : Option Eff :=
 match args with
 | [.agg [.int .i64 w, .int .i64 d, .int .i64 h, .slice id st off len _, sp], .agg [.int .i64 x, .int .i64 y, .int .i64 z]] => match rows[id]? with
  | some (.vec _ .bool xs) => bif Nat.beq st 1 && sp.one then some { ok := mapOk w d h len && (fitsB ⟨x, y, z⟩ && decide (off + len ≤ xs.length)), val := .bool ((mpOf w d h len fun j => xs.getD (off + j) false).at ⟨x, y, z⟩), rd := [id] } else none
  | _ => none
 | _ => none
theorem oSsolid_ok {args : List SV} {rows : List Row} {n : Nat} {e : Eff} (h : oSsolid args rows = some e) (hok : e.ok = true) : FnOk Try.prog 85 args (rows[·]?) n e := by
 unfold oSsolid at h
 split at h
 · rename_i wd dd hd id st off len cap sp x y z
   split at h
   · rename_i ro xs hrow
     cases hb : Nat.beq st 1 && sp.one with
     | false => simp [hb] at h
     | true =>
      simp only [hb, cond_true, Option.some.injEq] at h
      subst h
      rw [Bool.and_eq_true] at hb
      have hst := Nat.eq_of_beq_eq_true hb.1
      subst hst
      simp only [Bool.and_eq_true, fitsB_iff] at hok
      obtain ⟨h1, h2, h3⟩ := hok
      obtain ⟨rows', hc, _⟩ := runK_ok xSv_ok lok_none Try.func85 (ssolid_val (p := ⟨x, y, z⟩) h1 h3 h2)
      exact fnOk_map hb.2 hc rfl rfl hrow
   · cases h
 · cases h
noncomputable def orcSsolid : Orc := ⟨85, oSsolid, fun _ _ _ h hok => oSsolid_ok h hok, bodied Try.func85 (by kernel_rfl)⟩

noncomputable def xSs : Ctx := ctxOf [51, 71, 72] [orcSlow, orcSsolid]
theorem xSs_ok : COk Try.prog xSs := ctxOf_ok (by kernel_rfl)

theorem step_tree (w d h : Int) (len off : Nat) (xs : List Bool) (s : Sh) : runK xSs (fun _ _ => none) 300 53 Try.f53 0 [mapS w d h (.slice 0 1 off len none) .unk, .agg s.sv] [.vec true .bool xs] =
 bif decide (IntKind.i64.wrap (s.fuse - 1) ≤ 0) then
  some
   (SV.tuple
       [SV.agg
           [.int .i64 s.id, .int .i64 s.owner, .int .i64 s.kind, .int .i64 s.pos.x, .int .i64 s.pos.y, .int .i64 s.pos.z,
            .int .i64 s.vel.x, .int .i64 s.vel.y, .int .i64 s.vel.z, .int .i64 (IntKind.i64.wrap (s.fuse - 1)), SV.bool s.rest],
        SV.bool true],
    [])
 else
  bif s.rest then
   some
    (SV.tuple
        [SV.agg
            [.int .i64 s.id, .int .i64 s.owner, .int .i64 s.kind, .int .i64 s.pos.x, .int .i64 s.pos.y, .int .i64 s.pos.z,
             .int .i64 s.vel.x, .int .i64 s.vel.y, .int .i64 s.vel.z, .int .i64 (IntKind.i64.wrap (s.fuse - 1)), SV.bool s.rest],
         SV.bool false],
     [])
  else
   bif s.kind == 0 then
    bif mapOk w d h len && (fitsB (V3.mk (IntKind.i64.wrap (s.pos.x + s.vel.x)) (IntKind.i64.wrap (s.pos.y + s.vel.y)) (IntKind.i64.wrap (s.pos.z + s.vel.z))) && decide (off + len ≤ xs.length)) then
     bif (mpOf w d h len fun j => xs.getD (off + j) false).at (V3.mk (IntKind.i64.wrap (s.pos.x + s.vel.x)) (IntKind.i64.wrap (s.pos.y + s.vel.y)) (IntKind.i64.wrap (s.pos.z + s.vel.z))) then
      some
       (SV.tuple
           [SV.agg
               [.int .i64 s.id, .int .i64 s.owner, .int .i64 s.kind, .int .i64 s.pos.x, .int .i64 s.pos.y, .int .i64 s.pos.z,
                .int .i64 s.vel.x, .int .i64 s.vel.y, .int .i64 s.vel.z, .int .i64 (IntKind.i64.wrap (s.fuse - 1)), SV.bool s.rest],
            SV.bool true],
        [])
     else
      some
       (SV.tuple
           [SV.agg
               [.int .i64 s.id, .int .i64 s.owner, .int .i64 s.kind, .int .i64 (IntKind.i64.wrap (s.pos.x + s.vel.x)),
                .int .i64 (IntKind.i64.wrap (s.pos.y + s.vel.y)), .int .i64 (IntKind.i64.wrap (s.pos.z + s.vel.z)), .int .i64 s.vel.x, .int .i64 s.vel.y,
                .int .i64 s.vel.z, .int .i64 (IntKind.i64.wrap (s.fuse - 1)), SV.bool s.rest],
            SV.bool false],
        [])
    else none
   else
    bif mapOk w d h len && (fitsB (V3.mk (IntKind.i64.wrap (s.pos.x + min (max s.vel.x (-32768)) 32768)) s.pos.y s.pos.z) && decide (off + len ≤ xs.length)) then
     bif !(mpOf w d h len fun j => xs.getD (off + j) false).at (V3.mk (IntKind.i64.wrap (s.pos.x + min (max s.vel.x (-32768)) 32768)) s.pos.y s.pos.z) then
      bif
          mapOk w d h len &&
           (fitsB (V3.mk (IntKind.i64.wrap (s.pos.x + min (max s.vel.x (-32768)) 32768)) (IntKind.i64.wrap (s.pos.y + min (max s.vel.y (-32768)) 32768)) s.pos.z) &&
            decide (off + len ≤ xs.length)) then
       bif
           !(mpOf w d h len fun j => xs.getD (off + j) false).at
               (V3.mk (IntKind.i64.wrap (s.pos.x + min (max s.vel.x (-32768)) 32768)) (IntKind.i64.wrap (s.pos.y + min (max s.vel.y (-32768)) 32768)) s.pos.z) then
        bif
            mapOk w d h len &&
             (fitsB
                 (V3.mk (IntKind.i64.wrap (s.pos.x + min (max s.vel.x (-32768)) 32768)) (IntKind.i64.wrap (s.pos.y + min (max s.vel.y (-32768)) 32768))
                  (IntKind.i64.wrap (s.pos.z + min (max (IntKind.i64.wrap (s.vel.z - 1024)) (-32768)) 32768))) &&
              decide (off + len ≤ xs.length)) then
         bif
             !(mpOf w d h len fun j => xs.getD (off + j) false).at
                 (V3.mk (IntKind.i64.wrap (s.pos.x + min (max s.vel.x (-32768)) 32768)) (IntKind.i64.wrap (s.pos.y + min (max s.vel.y (-32768)) 32768))
                  (IntKind.i64.wrap (s.pos.z + min (max (IntKind.i64.wrap (s.vel.z - 1024)) (-32768)) 32768))) then
          some
           (SV.tuple
               [SV.agg
                   [.int .i64 s.id, .int .i64 s.owner, .int .i64 s.kind, .int .i64 (IntKind.i64.wrap (s.pos.x + min (max s.vel.x (-32768)) 32768)),
                    .int .i64 (IntKind.i64.wrap (s.pos.y + min (max s.vel.y (-32768)) 32768)),
                    .int .i64 (IntKind.i64.wrap (s.pos.z + min (max (IntKind.i64.wrap (s.vel.z - 1024)) (-32768)) 32768)), .int .i64 (min (max s.vel.x (-32768)) 32768),
                    .int .i64 (min (max s.vel.y (-32768)) 32768), .int .i64 (min (max (IntKind.i64.wrap (s.vel.z - 1024)) (-32768)) 32768),
                    .int .i64 (IntKind.i64.wrap (s.fuse - 1)), SV.bool s.rest],
                SV.bool false],
            [])
         else
          bif
              bif (bif (IntKind.i64.wrap (IntKind.i64.wrap (0 + 1) + 1) == 2) == true then decide (min (max (IntKind.i64.wrap (s.vel.z - 1024)) (-32768)) 32768 < 0) else false) == true then
               slowV
                (V3.mk (min (max s.vel.x (-32768)) 32768) (min (max s.vel.y (-32768)) 32768)
                 (IntKind.i64.wrap ((IntKind.i64.wrap (0 - min (max (IntKind.i64.wrap (s.vel.z - 1024)) (-32768)) 32768)).tdiv 2)))
              else false then
           some
            (SV.tuple
                [SV.agg
                    [.int .i64 s.id, .int .i64 s.owner, .int .i64 s.kind, .int .i64 (IntKind.i64.wrap (s.pos.x + min (max s.vel.x (-32768)) 32768)),
                     .int .i64 (IntKind.i64.wrap (s.pos.y + min (max s.vel.y (-32768)) 32768)), .int .i64 s.pos.z, .int .i64 0, .int .i64 0,
                     .int .i64 0, .int .i64 (IntKind.i64.wrap (s.fuse - 1)), SV.bool true],
                 SV.bool false],
             [])
          else
           some
            (SV.tuple
                [SV.agg
                    [.int .i64 s.id, .int .i64 s.owner, .int .i64 s.kind, .int .i64 (IntKind.i64.wrap (s.pos.x + min (max s.vel.x (-32768)) 32768)),
                     .int .i64 (IntKind.i64.wrap (s.pos.y + min (max s.vel.y (-32768)) 32768)), .int .i64 s.pos.z, .int .i64 (min (max s.vel.x (-32768)) 32768),
                     .int .i64 (min (max s.vel.y (-32768)) 32768),
                     .int .i64 (IntKind.i64.wrap ((IntKind.i64.wrap (0 - min (max (IntKind.i64.wrap (s.vel.z - 1024)) (-32768)) 32768)).tdiv 2)),
                     .int .i64 (IntKind.i64.wrap (s.fuse - 1)), SV.bool s.rest],
                 SV.bool false],
             [])
        else none
       else
        bif
            mapOk w d h len &&
             (fitsB
                 (V3.mk (IntKind.i64.wrap (s.pos.x + min (max s.vel.x (-32768)) 32768)) s.pos.y (IntKind.i64.wrap (s.pos.z + min (max (IntKind.i64.wrap (s.vel.z - 1024)) (-32768)) 32768))) &&
              decide (off + len ≤ xs.length)) then
         bif
             !(mpOf w d h len fun j => xs.getD (off + j) false).at
                 (V3.mk (IntKind.i64.wrap (s.pos.x + min (max s.vel.x (-32768)) 32768)) s.pos.y (IntKind.i64.wrap (s.pos.z + min (max (IntKind.i64.wrap (s.vel.z - 1024)) (-32768)) 32768))) then
          some
           (SV.tuple
               [SV.agg
                   [.int .i64 s.id, .int .i64 s.owner, .int .i64 s.kind, .int .i64 (IntKind.i64.wrap (s.pos.x + min (max s.vel.x (-32768)) 32768)),
                    .int .i64 s.pos.y, .int .i64 (IntKind.i64.wrap (s.pos.z + min (max (IntKind.i64.wrap (s.vel.z - 1024)) (-32768)) 32768)),
                    .int .i64 (min (max s.vel.x (-32768)) 32768), .int .i64 (IntKind.i64.wrap ((IntKind.i64.wrap (0 - min (max s.vel.y (-32768)) 32768)).tdiv 2)),
                    .int .i64 (min (max (IntKind.i64.wrap (s.vel.z - 1024)) (-32768)) 32768), .int .i64 (IntKind.i64.wrap (s.fuse - 1)), SV.bool s.rest],
                SV.bool false],
            [])
         else
          bif
              bif (bif (IntKind.i64.wrap (IntKind.i64.wrap (0 + 1) + 1) == 2) == true then decide (min (max (IntKind.i64.wrap (s.vel.z - 1024)) (-32768)) 32768 < 0) else false) == true then
               slowV
                (V3.mk (min (max s.vel.x (-32768)) 32768) (IntKind.i64.wrap ((IntKind.i64.wrap (0 - min (max s.vel.y (-32768)) 32768)).tdiv 2))
                 (IntKind.i64.wrap ((IntKind.i64.wrap (0 - min (max (IntKind.i64.wrap (s.vel.z - 1024)) (-32768)) 32768)).tdiv 2)))
              else false then
           some
            (SV.tuple
                [SV.agg
                    [.int .i64 s.id, .int .i64 s.owner, .int .i64 s.kind, .int .i64 (IntKind.i64.wrap (s.pos.x + min (max s.vel.x (-32768)) 32768)),
                     .int .i64 s.pos.y, .int .i64 s.pos.z, .int .i64 0, .int .i64 0, .int .i64 0,
                     .int .i64 (IntKind.i64.wrap (s.fuse - 1)), SV.bool true],
                 SV.bool false],
             [])
          else
           some
            (SV.tuple
                [SV.agg
                    [.int .i64 s.id, .int .i64 s.owner, .int .i64 s.kind, .int .i64 (IntKind.i64.wrap (s.pos.x + min (max s.vel.x (-32768)) 32768)),
                     .int .i64 s.pos.y, .int .i64 s.pos.z, .int .i64 (min (max s.vel.x (-32768)) 32768),
                     .int .i64 (IntKind.i64.wrap ((IntKind.i64.wrap (0 - min (max s.vel.y (-32768)) 32768)).tdiv 2)),
                     .int .i64 (IntKind.i64.wrap ((IntKind.i64.wrap (0 - min (max (IntKind.i64.wrap (s.vel.z - 1024)) (-32768)) 32768)).tdiv 2)),
                     .int .i64 (IntKind.i64.wrap (s.fuse - 1)), SV.bool s.rest],
                 SV.bool false],
             [])
        else none
      else none
     else
      bif mapOk w d h len && (fitsB (V3.mk s.pos.x (IntKind.i64.wrap (s.pos.y + min (max s.vel.y (-32768)) 32768)) s.pos.z) && decide (off + len ≤ xs.length)) then
       bif !(mpOf w d h len fun j => xs.getD (off + j) false).at (V3.mk s.pos.x (IntKind.i64.wrap (s.pos.y + min (max s.vel.y (-32768)) 32768)) s.pos.z) then
        bif
            mapOk w d h len &&
             (fitsB
                 (V3.mk s.pos.x (IntKind.i64.wrap (s.pos.y + min (max s.vel.y (-32768)) 32768)) (IntKind.i64.wrap (s.pos.z + min (max (IntKind.i64.wrap (s.vel.z - 1024)) (-32768)) 32768))) &&
              decide (off + len ≤ xs.length)) then
         bif
             !(mpOf w d h len fun j => xs.getD (off + j) false).at
                 (V3.mk s.pos.x (IntKind.i64.wrap (s.pos.y + min (max s.vel.y (-32768)) 32768)) (IntKind.i64.wrap (s.pos.z + min (max (IntKind.i64.wrap (s.vel.z - 1024)) (-32768)) 32768))) then
          some
           (SV.tuple
               [SV.agg
                   [.int .i64 s.id, .int .i64 s.owner, .int .i64 s.kind, .int .i64 s.pos.x,
                    .int .i64 (IntKind.i64.wrap (s.pos.y + min (max s.vel.y (-32768)) 32768)),
                    .int .i64 (IntKind.i64.wrap (s.pos.z + min (max (IntKind.i64.wrap (s.vel.z - 1024)) (-32768)) 32768)),
                    .int .i64 (IntKind.i64.wrap ((IntKind.i64.wrap (0 - min (max s.vel.x (-32768)) 32768)).tdiv 2)), .int .i64 (min (max s.vel.y (-32768)) 32768),
                    .int .i64 (min (max (IntKind.i64.wrap (s.vel.z - 1024)) (-32768)) 32768), .int .i64 (IntKind.i64.wrap (s.fuse - 1)), SV.bool s.rest],
                SV.bool false],
            [])
         else
          bif
              bif (bif (IntKind.i64.wrap (IntKind.i64.wrap (0 + 1) + 1) == 2) == true then decide (min (max (IntKind.i64.wrap (s.vel.z - 1024)) (-32768)) 32768 < 0) else false) == true then
               slowV
                (V3.mk (IntKind.i64.wrap ((IntKind.i64.wrap (0 - min (max s.vel.x (-32768)) 32768)).tdiv 2)) (min (max s.vel.y (-32768)) 32768)
                 (IntKind.i64.wrap ((IntKind.i64.wrap (0 - min (max (IntKind.i64.wrap (s.vel.z - 1024)) (-32768)) 32768)).tdiv 2)))
              else false then
           some
            (SV.tuple
                [SV.agg
                    [.int .i64 s.id, .int .i64 s.owner, .int .i64 s.kind, .int .i64 s.pos.x,
                     .int .i64 (IntKind.i64.wrap (s.pos.y + min (max s.vel.y (-32768)) 32768)), .int .i64 s.pos.z, .int .i64 0, .int .i64 0,
                     .int .i64 0, .int .i64 (IntKind.i64.wrap (s.fuse - 1)), SV.bool true],
                 SV.bool false],
             [])
          else
           some
            (SV.tuple
                [SV.agg
                    [.int .i64 s.id, .int .i64 s.owner, .int .i64 s.kind, .int .i64 s.pos.x,
                     .int .i64 (IntKind.i64.wrap (s.pos.y + min (max s.vel.y (-32768)) 32768)), .int .i64 s.pos.z,
                     .int .i64 (IntKind.i64.wrap ((IntKind.i64.wrap (0 - min (max s.vel.x (-32768)) 32768)).tdiv 2)), .int .i64 (min (max s.vel.y (-32768)) 32768),
                     .int .i64 (IntKind.i64.wrap ((IntKind.i64.wrap (0 - min (max (IntKind.i64.wrap (s.vel.z - 1024)) (-32768)) 32768)).tdiv 2)),
                     .int .i64 (IntKind.i64.wrap (s.fuse - 1)), SV.bool s.rest],
                 SV.bool false],
             [])
        else none
       else
        bif mapOk w d h len && (fitsB (V3.mk s.pos.x s.pos.y (IntKind.i64.wrap (s.pos.z + min (max (IntKind.i64.wrap (s.vel.z - 1024)) (-32768)) 32768))) && decide (off + len ≤ xs.length)) then
         bif !(mpOf w d h len fun j => xs.getD (off + j) false).at (V3.mk s.pos.x s.pos.y (IntKind.i64.wrap (s.pos.z + min (max (IntKind.i64.wrap (s.vel.z - 1024)) (-32768)) 32768))) then
          some
           (SV.tuple
               [SV.agg
                   [.int .i64 s.id, .int .i64 s.owner, .int .i64 s.kind, .int .i64 s.pos.x, .int .i64 s.pos.y,
                    .int .i64 (IntKind.i64.wrap (s.pos.z + min (max (IntKind.i64.wrap (s.vel.z - 1024)) (-32768)) 32768)),
                    .int .i64 (IntKind.i64.wrap ((IntKind.i64.wrap (0 - min (max s.vel.x (-32768)) 32768)).tdiv 2)),
                    .int .i64 (IntKind.i64.wrap ((IntKind.i64.wrap (0 - min (max s.vel.y (-32768)) 32768)).tdiv 2)),
                    .int .i64 (min (max (IntKind.i64.wrap (s.vel.z - 1024)) (-32768)) 32768), .int .i64 (IntKind.i64.wrap (s.fuse - 1)), SV.bool s.rest],
                SV.bool false],
            [])
         else
          bif
              bif (bif (IntKind.i64.wrap (IntKind.i64.wrap (0 + 1) + 1) == 2) == true then decide (min (max (IntKind.i64.wrap (s.vel.z - 1024)) (-32768)) 32768 < 0) else false) == true then
               slowV
                (V3.mk (IntKind.i64.wrap ((IntKind.i64.wrap (0 - min (max s.vel.x (-32768)) 32768)).tdiv 2))
                 (IntKind.i64.wrap ((IntKind.i64.wrap (0 - min (max s.vel.y (-32768)) 32768)).tdiv 2))
                 (IntKind.i64.wrap ((IntKind.i64.wrap (0 - min (max (IntKind.i64.wrap (s.vel.z - 1024)) (-32768)) 32768)).tdiv 2)))
              else false then
           some
            (SV.tuple
                [SV.agg
                    [.int .i64 s.id, .int .i64 s.owner, .int .i64 s.kind, .int .i64 s.pos.x, .int .i64 s.pos.y, .int .i64 s.pos.z,
                     .int .i64 0, .int .i64 0, .int .i64 0, .int .i64 (IntKind.i64.wrap (s.fuse - 1)), SV.bool true],
                 SV.bool false],
             [])
          else
           some
            (SV.tuple
                [SV.agg
                    [.int .i64 s.id, .int .i64 s.owner, .int .i64 s.kind, .int .i64 s.pos.x, .int .i64 s.pos.y, .int .i64 s.pos.z,
                     .int .i64 (IntKind.i64.wrap ((IntKind.i64.wrap (0 - min (max s.vel.x (-32768)) 32768)).tdiv 2)),
                     .int .i64 (IntKind.i64.wrap ((IntKind.i64.wrap (0 - min (max s.vel.y (-32768)) 32768)).tdiv 2)),
                     .int .i64 (IntKind.i64.wrap ((IntKind.i64.wrap (0 - min (max (IntKind.i64.wrap (s.vel.z - 1024)) (-32768)) 32768)).tdiv 2)),
                     .int .i64 (IntKind.i64.wrap (s.fuse - 1)), SV.bool s.rest],
                 SV.bool false],
             [])
        else none
      else none
    else none := by kernel_rfl

def bn (n : Int) : Int := IntKind.i64.wrap ((IntKind.i64.wrap (0 - n)).tdiv 2)
def cutS (n : Int) : Int := min (max n (-32768)) 32768
def flyTo (s : Sh) : V3 := ⟨IntKind.i64.wrap (s.pos.x + s.vel.x), IntKind.i64.wrap (s.pos.y + s.vel.y), IntKind.i64.wrap (s.pos.z + s.vel.z)⟩
def fallZ (v : V3) : Int := cutS (IntKind.i64.wrap (v.z - 1024))
def bq1 (p v : V3) : V3 := ⟨IntKind.i64.wrap (p.x + cutS v.x), p.y, p.z⟩
def bq2 (p v : V3) : V3 := ⟨p.x, IntKind.i64.wrap (p.y + cutS v.y), p.z⟩
def bq3 (p v : V3) : V3 := ⟨p.x, p.y, IntKind.i64.wrap (p.z + fallZ v)⟩
def bp1 (F : V3 → Bool) (p v : V3) : V3 := bif F (bq1 p v) then p else bq1 p v
def bp2 (F : V3 → Bool) (p v : V3) : V3 := bif F (bq2 (bp1 F p v) v) then bp1 F p v else bq2 (bp1 F p v) v
def bp3 (F : V3 → Bool) (p v : V3) : V3 := bif F (bq3 (bp2 F p v) v) then bp2 F p v else bq3 (bp2 F p v) v
def bvel (F : V3 → Bool) (p v : V3) : V3 := ⟨bif F (bq1 p v) then bn (cutS v.x) else cutS v.x, bif F (bq2 (bp1 F p v) v) then bn (cutS v.y) else cutS v.y, bif F (bq3 (bp2 F p v) v) then bn (fallZ v) else fallZ v⟩
def bdown (F : V3 → Bool) (p v : V3) : Bool := F (bq3 (bp2 F p v) v) && decide (fallZ v < 0)
def lessF (s : Sh) : Sh := { s with fuse := IntKind.i64.wrap (s.fuse - 1) }
def stepS (F : V3 → Bool) (s : Sh) : Sh × Bool :=
 bif decide (IntKind.i64.wrap (s.fuse - 1) ≤ 0) then (lessF s, true) else
 bif s.rest then (lessF s, false) else
 bif s.kind == 0 then (bif F (flyTo s) then (lessF s, true) else ({ lessF s with pos := flyTo s }, false)) else
 bif bdown F s.pos s.vel && slowV (bvel F s.pos s.vel) then ({ lessF s with pos := bp3 F s.pos s.vel, vel := ⟨0, 0, 0⟩, rest := true }, false) else ({ lessF s with pos := bp3 F s.pos s.vel, vel := bvel F s.pos s.vel }, false)

theorem step_val {w d h : Int} {len off : Nat} {xs : List Bool} {s : Sh} (hm : mapOk w d h len = true) (hl : decide (off + len ≤ xs.length) = true) (hp : s.pos.fits) :
    runK xSs (fun _ _ => none) 300 53 Try.f53 0 [mapS w d h (.slice 0 1 off len none) .unk, .agg s.sv] [.vec true .bool xs] =
     some (.tuple [.agg (stepS (mpOf w d h len fun j => xs.getD (off + j) false).at s).1.sv, .bool (stepS (mpOf w d h len fun j => xs.getD (off + j) false).at s).2], []) := by
 rw [step_tree]
 have hx := in64B_iff.2 hp.1
 have hy := in64B_iff.2 hp.2.1
 have hz := in64B_iff.2 hp.2.2
 have c2 : (IntKind.i64.wrap (IntKind.i64.wrap (0 + 1) + 1) == 2) = true := by decide
 simp only [hm, hl, fitsB, in64_wrap, hx, hy, hz, c2, Bool.and_true, Bool.true_and, cond_true, and_form]
 generalize (mpOf w d h len fun j => xs.getD (off + j) false).at = F
 clear hp hx hy hz
 obtain ⟨id, ow, k, p, v, f, r⟩ := s
 unfold stepS lessF
 dsimp only
 cases decide (IntKind.i64.wrap (f - 1) ≤ 0)
 · cases r
   · cases k == 0
     · unfold bdown bvel bp3 bp2 bp1
       simp only [cond_false]
       rw [show (V3.mk (IntKind.i64.wrap (p.x + min (max v.x (-32768)) 32768)) p.y p.z) = bq1 p v from rfl]
       cases F (bq1 p v)
       · simp only [cond_false, Bool.not_false, cond_true]
         rw [show (V3.mk (IntKind.i64.wrap (p.x + min (max v.x (-32768)) 32768)) (IntKind.i64.wrap (p.y + min (max v.y (-32768)) 32768)) p.z) = bq2 (bq1 p v) v from rfl]
         cases F (bq2 (bq1 p v) v)
         · simp only [cond_false, Bool.not_false, cond_true]
           rw [show (V3.mk (IntKind.i64.wrap (p.x + min (max v.x (-32768)) 32768)) (IntKind.i64.wrap (p.y + min (max v.y (-32768)) 32768)) (IntKind.i64.wrap (p.z + min (max (IntKind.i64.wrap (v.z - 1024)) (-32768)) 32768))) = bq3 (bq2 (bq1 p v) v) v from rfl]
           cases F (bq3 (bq2 (bq1 p v) v) v)
           · rfl
           · simp only [cond_false, Bool.not_true, Bool.true_and, cond_true]
             exact cond_split (f := fun r : Sh × Bool => (some (.tuple [.agg r.1.sv, .bool r.2], ([] : List Row)) : Option Res2)) rfl rfl
         · simp only [cond_false, Bool.not_true, cond_true]
           rw [show (V3.mk (IntKind.i64.wrap (p.x + min (max v.x (-32768)) 32768)) p.y (IntKind.i64.wrap (p.z + min (max (IntKind.i64.wrap (v.z - 1024)) (-32768)) 32768))) = bq3 (bq1 p v) v from rfl]
           cases F (bq3 (bq1 p v) v)
           · rfl
           · simp only [cond_false, Bool.not_true, Bool.true_and, cond_true]
             exact cond_split (f := fun r : Sh × Bool => (some (.tuple [.agg r.1.sv, .bool r.2], ([] : List Row)) : Option Res2)) rfl rfl
       · simp only [cond_false, Bool.not_true, cond_true]
         rw [show (V3.mk p.x (IntKind.i64.wrap (p.y + min (max v.y (-32768)) 32768)) p.z) = bq2 p v from rfl]
         cases F (bq2 p v)
         · simp only [cond_false, Bool.not_false, cond_true]
           rw [show (V3.mk p.x (IntKind.i64.wrap (p.y + min (max v.y (-32768)) 32768)) (IntKind.i64.wrap (p.z + min (max (IntKind.i64.wrap (v.z - 1024)) (-32768)) 32768))) = bq3 (bq2 p v) v from rfl]
           cases F (bq3 (bq2 p v) v)
           · rfl
           · simp only [cond_false, Bool.not_true, Bool.true_and, cond_true]
             exact cond_split (f := fun r : Sh × Bool => (some (.tuple [.agg r.1.sv, .bool r.2], ([] : List Row)) : Option Res2)) rfl rfl
         · simp only [cond_false, Bool.not_true, cond_true]
           rw [show (V3.mk p.x p.y (IntKind.i64.wrap (p.z + min (max (IntKind.i64.wrap (v.z - 1024)) (-32768)) 32768))) = bq3 p v from rfl]
           cases F (bq3 p v)
           · rfl
           · simp only [cond_false, Bool.not_true, Bool.true_and, cond_true]
             exact cond_split (f := fun r : Sh × Bool => (some (.tuple [.agg r.1.sv, .bool r.2], ([] : List Row)) : Option Res2)) rfl rfl
     · simp only [cond_false, cond_true]
       rw [show (V3.mk (IntKind.i64.wrap (p.x + v.x)) (IntKind.i64.wrap (p.y + v.y)) (IntKind.i64.wrap (p.z + v.z))) = flyTo ⟨id, ow, k, p, v, f, false⟩ from rfl]
       cases F (flyTo ⟨id, ow, k, p, v, f, false⟩) <;> rfl
   · rfl
 · rfl

noncomputable def oStep (args : List SV) (rows : List Row) : Option Eff :=
 match args with
 | [.agg [.int .i64 w, .int .i64 d, .int .i64 h, .slice id st off len _, sp], .agg [.int .i64 a0, .int .i64 a1, .int .i64 a2, .int .i64 a3, .int .i64 a4, .int .i64 a5, .int .i64 a6, .int .i64 a7, .int .i64 a8, .int .i64 a9, .bool b]] => match rows[id]? with
  | some (.vec _ .bool xs) => bif Nat.beq st 1 && sp.one then some { ok := mapOk w d h len && (fitsB ⟨a3, a4, a5⟩ && decide (off + len ≤ xs.length)), val := .tuple [.agg (stepS (mpOf w d h len fun j => xs.getD (off + j) false).at ⟨a0, a1, a2, ⟨a3, a4, a5⟩, ⟨a6, a7, a8⟩, a9, b⟩).1.sv, .bool (stepS (mpOf w d h len fun j => xs.getD (off + j) false).at ⟨a0, a1, a2, ⟨a3, a4, a5⟩, ⟨a6, a7, a8⟩, a9, b⟩).2], rd := [id] } else none
  | _ => none
 | _ => none
theorem oStep_ok {args : List SV} {rows : List Row} {n : Nat} {e : Eff} (h : oStep args rows = some e) (hok : e.ok = true) : FnOk Try.prog 53 args (rows[·]?) n e := by
 unfold oStep at h
 split at h
 · rename_i wd dd hd id st off len cap sp a0 a1 a2 a3 a4 a5 a6 a7 a8 a9 b
   split at h
   · rename_i ro xs hrow
     cases hb : Nat.beq st 1 && sp.one with
     | false => simp [hb] at h
     | true =>
      simp only [hb, cond_true, Option.some.injEq] at h
      subst h
      rw [Bool.and_eq_true] at hb
      have hst := Nat.eq_of_beq_eq_true hb.1
      subst hst
      simp only [Bool.and_eq_true, fitsB_iff] at hok
      obtain ⟨h1, h2, h3⟩ := hok
      obtain ⟨rows', hc, _⟩ := runK_ok xSs_ok lok_none Try.func53 (step_val (s := ⟨a0, a1, a2, ⟨a3, a4, a5⟩, ⟨a6, a7, a8⟩, a9, b⟩) h1 h3 h2)
      exact fnOk_map hb.2 hc rfl rfl hrow
   · cases h
 · cases h
noncomputable def orcStep : Orc := ⟨53, oStep, fun _ _ _ h hok => oStep_ok h hok, bodied Try.func53 (by kernel_rfl)⟩
theorem stepS_fits {F : V3 → Bool} {s : Sh} (hp : s.pos.fits) : (stepS F s).1.pos.fits := by
 have w64 : ∀ x : Int, In64 (IntKind.i64.wrap x) := fun x => in64B_iff.1 (in64_wrap x)
 have f1 : (bp1 F s.pos s.vel).fits := by unfold bp1; cases F (bq1 s.pos s.vel); exact ⟨w64 _, hp.2.1, hp.2.2⟩; exact hp
 have f2 : (bp2 F s.pos s.vel).fits := by unfold bp2; cases F (bq2 (bp1 F s.pos s.vel) s.vel); exact ⟨f1.1, w64 _, f1.2.2⟩; exact f1
 have f3 : (bp3 F s.pos s.vel).fits := by unfold bp3; cases F (bq3 (bp2 F s.pos s.vel) s.vel); exact ⟨f2.1, f2.2.1, w64 _⟩; exact f2
 unfold stepS
 cases decide (IntKind.i64.wrap (s.fuse - 1) ≤ 0)
 · cases s.rest
   · cases s.kind == 0
     · cases bdown F s.pos s.vel && slowV (bvel F s.pos s.vel)
       · exact f3
       · exact f3
     · simp only [cond_false, cond_true]
       cases F (flyTo s)
       · exact ⟨w64 _, w64 _, w64 _⟩
       · exact hp
   · exact hp
 · exact hp

end Go.Proofs.Ytimkhidniolpeaa
