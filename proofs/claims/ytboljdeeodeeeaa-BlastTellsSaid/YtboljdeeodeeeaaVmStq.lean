/- grid's Sight: the steps of a line's axes, as a contract. -/
import Derived.Test.YtboljdeeodeeeaaVmStp
namespace Go.Proofs.Ytboljdeeodeeeaa
set_option linter.unusedSimpArgs false
set_option linter.unusedVariables false
set_option maxRecDepth 100000
open Go.RowKit

set_option maxRecDepth 100000 in
set_option maxHeartbeats 0 in
theorem steps_tree (w d h : Int) (len : Nat) (cap : Option Nat) (ro : Bool) (xs : List Bool) (off : Nat) (dir : Int) (a b c x : Ax) : runF xStp lStp 200 31 Try.f31 [.agg [.int .i64 x.c, .int .i64 x.d, .int .i64 x.n, .int .i64 x.e], .int .i64 dir, .ptr 2 0 0 0, .ptr 1 0 0 0] [.vec ro .bool xs, .own [.int .i64 w, .int .i64 d, .int .i64 h, .slice 0 1 off len cap, .unk], .own [.int .i64 a.c, .int .i64 a.d, .int .i64 a.n, .int .i64 a.e, .int .i64 b.c, .int .i64 b.d, .int .i64 b.n, .int .i64 b.e, .int .i64 c.c, .int .i64 c.d, .int .i64 c.n, .int .i64 c.e]] =
  bif
      (mapOk w d h len &&
                  (in64B ((⟨x.c, x.d, x.n, x.e⟩ : Ax).next dir (⟨a.c, a.d, a.n, a.e⟩ : Ax)).c &&
                    (in64B ((⟨x.c, x.d, x.n, x.e⟩ : Ax).next dir (⟨b.c, b.d, b.n, b.e⟩ : Ax)).c &&
                      (in64B ((⟨x.c, x.d, x.n, x.e⟩ : Ax).next dir (⟨c.c, c.d, c.n, c.e⟩ : Ax)).c && decide (off + len ≤ xs.length)))) &&
                true &&
              true ||
            ((⟨x.c, x.d, x.n, x.e⟩ : Ax).goes dir (⟨c.c, c.d, c.n, c.e⟩ : Ax) ||
                ((⟨x.c, x.d, x.n, x.e⟩ : Ax).goes dir (⟨b.c, b.d, b.n, b.e⟩ : Ax) ||
                  ((⟨x.c, x.d, x.n, x.e⟩ : Ax).goes dir (⟨a.c, a.d, a.n, a.e⟩ : Ax) || false))) !=
              true) &&
          (true ||
            ((⟨x.c, x.d, x.n, x.e⟩ : Ax).goes dir (⟨c.c, c.d, c.n, c.e⟩ : Ax) ||
                ((⟨x.c, x.d, x.n, x.e⟩ : Ax).goes dir (⟨b.c, b.d, b.n, b.e⟩ : Ax) ||
                  ((⟨x.c, x.d, x.n, x.e⟩ : Ax).goes dir (⟨a.c, a.d, a.n, a.e⟩ : Ax) || false))) ==
              true) &&
        true then
    some
      (SV.bool
          (bif
              ((⟨x.c, x.d, x.n, x.e⟩ : Ax).goes dir (⟨c.c, c.d, c.n, c.e⟩ : Ax) ||
                  ((⟨x.c, x.d, x.n, x.e⟩ : Ax).goes dir (⟨b.c, b.d, b.n, b.e⟩ : Ax) ||
                    ((⟨x.c, x.d, x.n, x.e⟩ : Ax).goes dir (⟨a.c, a.d, a.n, a.e⟩ : Ax) || false))) ==
                true then
            (mpOf w d h len fun j => xs.getD (off + j) false).solid ((⟨x.c, x.d, x.n, x.e⟩ : Ax).next dir (⟨a.c, a.d, a.n, a.e⟩ : Ax)).c
              ((⟨x.c, x.d, x.n, x.e⟩ : Ax).next dir (⟨b.c, b.d, b.n, b.e⟩ : Ax)).c
              ((⟨x.c, x.d, x.n, x.e⟩ : Ax).next dir (⟨c.c, c.d, c.n, c.e⟩ : Ax)).c
          else false),
        [Row.vec ro Knd.bool xs, Row.own [SV.int IntKind.i64 w, SV.int IntKind.i64 d, SV.int IntKind.i64 h, SV.slice 0 1 off len cap, SV.unk],
          Row.own
            [SV.int IntKind.i64 ((⟨x.c, x.d, x.n, x.e⟩ : Ax).next dir (⟨a.c, a.d, a.n, a.e⟩ : Ax)).c,
              SV.int IntKind.i64 ((⟨x.c, x.d, x.n, x.e⟩ : Ax).next dir (⟨a.c, a.d, a.n, a.e⟩ : Ax)).d,
              SV.int IntKind.i64 ((⟨x.c, x.d, x.n, x.e⟩ : Ax).next dir (⟨a.c, a.d, a.n, a.e⟩ : Ax)).n,
              SV.int IntKind.i64 ((⟨x.c, x.d, x.n, x.e⟩ : Ax).next dir (⟨a.c, a.d, a.n, a.e⟩ : Ax)).e,
              SV.int IntKind.i64 ((⟨x.c, x.d, x.n, x.e⟩ : Ax).next dir (⟨b.c, b.d, b.n, b.e⟩ : Ax)).c,
              SV.int IntKind.i64 ((⟨x.c, x.d, x.n, x.e⟩ : Ax).next dir (⟨b.c, b.d, b.n, b.e⟩ : Ax)).d,
              SV.int IntKind.i64 ((⟨x.c, x.d, x.n, x.e⟩ : Ax).next dir (⟨b.c, b.d, b.n, b.e⟩ : Ax)).n,
              SV.int IntKind.i64 ((⟨x.c, x.d, x.n, x.e⟩ : Ax).next dir (⟨b.c, b.d, b.n, b.e⟩ : Ax)).e,
              SV.int IntKind.i64 ((⟨x.c, x.d, x.n, x.e⟩ : Ax).next dir (⟨c.c, c.d, c.n, c.e⟩ : Ax)).c,
              SV.int IntKind.i64 ((⟨x.c, x.d, x.n, x.e⟩ : Ax).next dir (⟨c.c, c.d, c.n, c.e⟩ : Ax)).d,
              SV.int IntKind.i64 ((⟨x.c, x.d, x.n, x.e⟩ : Ax).next dir (⟨c.c, c.d, c.n, c.e⟩ : Ax)).n,
              SV.int IntKind.i64 ((⟨x.c, x.d, x.n, x.e⟩ : Ax).next dir (⟨c.c, c.d, c.n, c.e⟩ : Ax)).e],
          Row.own [SV.int IntKind.i64 x.c, SV.int IntKind.i64 x.d, SV.int IntKind.i64 x.n, SV.int IntKind.i64 x.e]])
  else none := by kernel_rfl

noncomputable def Mp.hit (m : Mp) (x : Ax) (dir : Int) (a b c : Ax) : Bool := bif x.anyGo dir a b c == true then m.solid (x.next dir a).c (x.next dir b).c (x.next dir c).c else false
def okStp (w d h : Int) (len off : Nat) (xs : List Bool) (x : Ax) (dir : Int) (a b c : Ax) : Bool := mapOk w d h len && (in64B (x.next dir a).c && (in64B (x.next dir b).c && (in64B (x.next dir c).c && decide (off + len ≤ xs.length))))

theorem steps_val {w d h : Int} {len : Nat} {cap : Option Nat} {ro : Bool} {xs : List Bool} {off : Nat} {dir : Int} {a b c x : Ax} (hok : okStp w d h len off xs x dir a b c = true) :
    runF xStp lStp 200 31 Try.f31 [.agg [.int .i64 x.c, .int .i64 x.d, .int .i64 x.n, .int .i64 x.e], .int .i64 dir, .ptr 2 0 0 0, .ptr 1 0 0 0] [.vec ro .bool xs, .own [.int .i64 w, .int .i64 d, .int .i64 h, .slice 0 1 off len cap, .unk], .own [.int .i64 a.c, .int .i64 a.d, .int .i64 a.n, .int .i64 a.e, .int .i64 b.c, .int .i64 b.d, .int .i64 b.n, .int .i64 b.e, .int .i64 c.c, .int .i64 c.d, .int .i64 c.n, .int .i64 c.e]] =
    some (.bool ((mpOf w d h len fun j => xs.getD (off + j) false).hit x dir a b c), rowStp w d h len cap ro xs off (x.next dir a) (x.next dir b) (x.next dir c) x) := by
  rw [steps_tree]
  unfold okStp at hok
  have e : ∀ y : Ax, (⟨y.c, y.d, y.n, y.e⟩ : Ax) = y := fun _ => rfl
  simp only [e, hok, Bool.and_true, Bool.true_or, cond_true]
  rfl

noncomputable def oSteps (args : List SV) (rows : List Row) : Option Eff := match args with
  | [.agg [.int .i64 xc, .int .i64 xd, .int .i64 xn, .int .i64 xe], .int .i64 dir, .ptr lid 0 0 0, .ptr mid 0 0 0] => match rows[lid]?, rows[mid]? with
    | some (.own [.int .i64 ac, .int .i64 ad, .int .i64 an, .int .i64 ae, .int .i64 bc, .int .i64 bd, .int .i64 bn, .int .i64 be, .int .i64 cc, .int .i64 cd, .int .i64 cn, .int .i64 ce]), some (.own [.int .i64 w, .int .i64 d, .int .i64 h, .slice sid 1 off len cap, .unk]) => match rows[sid]? with
      | some (.vec true .bool xs) => bif !(Nat.beq sid mid) && (!(Nat.beq sid lid) && !(Nat.beq mid lid)) then
          some { ok := okStp w d h len off xs ⟨xc, xd, xn, xe⟩ dir ⟨ac, ad, an, ae⟩ ⟨bc, bd, bn, be⟩ ⟨cc, cd, cn, ce⟩, val := .bool ((mpOf w d h len fun j => xs.getD (off + j) false).hit ⟨xc, xd, xn, xe⟩ dir ⟨ac, ad, an, ae⟩ ⟨bc, bd, bn, be⟩ ⟨cc, cd, cn, ce⟩),
                 rd := [sid, mid, lid], wr := [(mid, .own [.int .i64 w, .int .i64 d, .int .i64 h, .slice sid 1 off len cap, .unk]), (lid, .own ((Ax.next ⟨xc, xd, xn, xe⟩ dir ⟨ac, ad, an, ae⟩).sv ++ ((Ax.next ⟨xc, xd, xn, xe⟩ dir ⟨bc, bd, bn, be⟩).sv ++ (Ax.next ⟨xc, xd, xn, xe⟩ dir ⟨cc, cd, cn, ce⟩).sv)))],
                 nw := [.own [.int .i64 xc, .int .i64 xd, .int .i64 xn, .int .i64 xe]] } else none
      | _ => none
    | _, _ => none
  | _ => none

theorem oSteps_ok {args : List SV} {rows : List Row} {e : Eff} (h : oSteps args rows = some e) (hok : e.ok = true) : FnOk Try.prog 31 args (rows[·]?) rows.length e := by
  unfold oSteps at h
  split at h
  · rename_i xc xd xn xe dir lid mid
    split at h
    · rename_i q1 q2 ac ad an ae bc bd bn be cc cd cn ce w d h' sid off len cap hl hm
      split at h
      · rename_i xs hs
        obtain ⟨hb, h⟩ := cond_some h
        cases h
        simp only [Bool.and_eq_true, Bool.not_eq_true'] at hb
        obtain ⟨n1, n2, n3⟩ := hb
        have n1 := Nat.ne_of_beq_eq_false n1
        have n2 := Nat.ne_of_beq_eq_false n2
        have n3 := Nat.ne_of_beq_eq_false n3
        have l1 := (List.getElem?_eq_some_iff.1 hl).1
        have l2 := (List.getElem?_eq_some_iff.1 hm).1
        have l3 := (List.getElem?_eq_some_iff.1 hs).1
        have hc := runF_ok xStp_ok lStp_ok Try.func31 (steps_val (ro := true) (cap := cap) hok)
        refine fnOk_ren hc (σ := [sid, mid, lid]) (n := rows.length) (W := [(mid, .own [.int .i64 w, .int .i64 d, .int .i64 h', .slice sid 1 off len cap, .unk]), (lid, .own ((Ax.next ⟨xc, xd, xn, xe⟩ dir ⟨ac, ad, an, ae⟩).sv ++ ((Ax.next ⟨xc, xd, xn, xe⟩ dir ⟨bc, bd, bn, be⟩).sv ++ (Ax.next ⟨xc, xd, xn, xe⟩ dir ⟨cc, cd, cn, ce⟩).sv)))]) rfl ?_ ?_ ?_ ?_ ?_ ?_ ?_
        · simp [n1, n2, n3]
        · intro j hj
          simp at hj
          rcases hj with rfl | rfl | rfl <;> assumption
        · intro i hi
          simp [SV.idsL, SV.ids] at hi
          rcases hi with rfl | rfl <;> simp
        · intro i row hr j hj
          match i, hr with
          | 0, hr => simp at hr; subst hr; simp [Row.idsR] at hj
          | 1, hr => simp at hr; subst hr; simp [Row.idsR, SV.idsL, SV.ids] at hj; subst hj; simp
          | 2, hr => simp at hr; subst hr; simp [Row.idsR, SV.idsL, SV.ids] at hj
          | i + 3, hr => simp at hr
        · intro i row hr
          match i, hr with
          | 0, hr => simp at hr; subst hr; exact ⟨_, hs, fun h => h, fun _ _ h => h⟩
          | 1, hr => simp at hr; subst hr; exact ⟨_, hm, fun _ => rfl, fun _ _ h => h⟩
          | 2, hr => simp at hr; subst hr; exact ⟨_, hl, fun _ => rfl, fun _ _ h => h⟩
          | i + 3, hr => simp at hr
        · intro i row hr _
          match i, hr with
          | 0, hr => simp at hr; subst hr; exact .inl ⟨_, _, rfl⟩
          | 1, hr => exact .inr ⟨_, rfl, List.mem_cons_self ..⟩
          | 2, hr => exact .inr ⟨_, rfl, List.mem_cons_of_mem _ (List.mem_cons_self ..)⟩
          | i + 3, hr => simp at hr
        · intro x hx
          simp only [List.mem_cons, List.not_mem_nil, or_false] at hx
          rcases hx with rfl | rfl
          · exact ⟨1, _, by simp, rfl, rfl⟩
          · exact ⟨2, _, by simp, rfl, rfl⟩
      · cases h
    · cases h
  · cases h

end Go.Proofs.Ytboljdeeodeeeaa
