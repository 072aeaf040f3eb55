/- Games: Map, which gives back a copy. -/
import Derived.Test.YtimkhidniolpeaaWmO
namespace Go.Proofs.Ytimkhidniolpeaa
set_option linter.unusedSimpArgs false
set_option linter.unusedVariables false
set_option maxRecDepth 100000
set_option maxHeartbeats 0
open Go.RowKit

section
variable {P : Program} {X : Ctx}
def foldM (v : SV) (rows : List Row) : Option Res2 := match foldW rows with
 | some f => match v with
  | .agg [.int .i64 a, .int .i64 b, .int .i64 c, .slice k1 1 0 n1 cap1, .slice k2 3 0 n2 cap2] => match rows[k1]?, rows[k2]? with
   | some (.vec false .bool xs), some (.vec false .vec ys) => bif !memN k1 f.all && (!memN k2 f.all && !Nat.beq k1 k2) then some (encF (.agg [.int .i64 a, .int .i64 b, .int .i64 c, .slice 0 1 0 n1 cap1, .slice 1 3 0 n2 cap2]) f [.vec false .bool xs, .vec false .vec ys]) else none
   | _, _ => none
  | _ => none
 | none => none
theorem foldM_some {v : SV} {rows : List Row} {v' : SV} {s : WS} {more : List Row} (h : Ends (foldM v rows) v' s more) : ∃ F a b c k1 n1 cap1 k2 n2 cap2 xs ys, foldW rows = some F ∧ F.Ok ∧ F.s = s ∧ v = .agg [.int .i64 a, .int .i64 b, .int .i64 c, .slice k1 1 0 n1 cap1, .slice k2 3 0 n2 cap2] ∧
    rows[k1]? = some (.vec false .bool xs) ∧ rows[k2]? = some (.vec false .vec ys) ∧ k1 ∉ F.all ∧ k2 ∉ F.all ∧ k1 ≠ k2 ∧ v' = .agg [.int .i64 a, .int .i64 b, .int .i64 c, .slice 0 1 0 n1 cap1, .slice 1 3 0 n2 cap2] ∧ more = [.vec false .bool xs, .vec false .vec ys] := by
 have bad : ¬ Ends none v' s more := fun ⟨_, _, _, _, he, _⟩ => by cases he
 unfold foldM at h
 split at h
 · rename_i F hF
   split at h
   · rename_i a b c k1 n1 cap1 k2 n2 cap2
     split at h
     · rename_i xs ys h1 h2
       cases hb : !memN k1 F.all && (!memN k2 F.all && !Nat.beq k1 k2) with
       | false => rw [hb] at h; exact (bad h).elim
       | true =>
        rw [hb, cond_true] at h
        simp only [Bool.and_eq_true, Bool.not_eq_true'] at hb
        obtain ⟨rfl, e2, rfl, hok⟩ := encF_ends h
        have nm : ∀ k, memN k F.all = false → k ∉ F.all := fun k hk hm => by rw [memN_iff.2 hm] at hk; cases hk
        exact ⟨F, a, b, c, k1, n1, cap1, k2, n2, cap2, xs, ys, hF, hok, e2, rfl, h1, h2, nm _ hb.1, nm _ hb.2.1, Nat.ne_of_beq_eq_false hb.2.2, rfl, rfl⟩
     · exact (bad h).elim
   · exact (bad h).elim
 · exact (bad h).elim

theorem fnOkO_map (hX : COk P X) {L : Nat → List Nat → Option LoopF} (hL : LOk P L) {fuel f : Nat} {fn : Func} (hfu : P.funcs[f]? = some fn) {s s' : WS} {a b c : Int} {xs : List Bool} {ys : List V3} {ok : Bool}
    (h : ∀ l, LayOk l s → ∃ cap1 cap2, Ends (runG X L fuel f fn foldM [.ptr 0 0 0 0] (s.rows l)) (.agg [.int .i64 a, .int .i64 b, .int .i64 c, .slice 0 1 0 xs.length cap1, .slice 1 3 0 ys.length cap2]) s' [.vec false .bool xs, .vec false .vec ys])
    {m : Rws} {n g : Nat} (hm : m g = some (.obj s)) : FnOkO P f [.ptr g 0 0 0] m n { ok := ok, val := .agg [.int .i64 a, .int .i64 b, .int .i64 c, .slice n 1 0 xs.length none, .slice (n + 1) 3 0 ys.length none], rd := [g], wr := [(g, .obj s')], nw := [.vec false .bool xs, .vec false .vec ys] } := by
 intro ρ m1 vargs w hrd _ hfree hargs hW
 have hm1 : m1 g = some (.obj s) := by rw [hrd g (by simp), hm]
 obtain ⟨p, hp, hb0, _, ρ0, l, p0, hAt, h00, hpb⟩ := hW.obj.is g s hm1
 obtain ⟨cap1, cap2, he⟩ := h l (lay_ok hAt)
 obtain ⟨_, _, _, _, hr, _⟩ := id he
 obtain ⟨v1, rows', hk, hc⟩ := runG_ok hX hL hfu hr
 rw [hr, ← hk] at he
 obtain ⟨F, a', b', c', k1, n1, cp1, k2, n2, cp2, xs', ys', hF, hok, rfl, rfl, hrow1, hrow2, hk1, hk2, hne, hv, hmo⟩ := foldM_some he
 simp only [SV.agg.injEq, List.cons.injEq, SV.int.injEq, SV.slice.injEq, true_and, and_true] at hv
 obtain ⟨rfl, rfl, rfl, ⟨rfl, rfl⟩, rfl, rfl⟩ := hv
 simp only [List.cons.injEq, and_true] at hmo
 obtain ⟨e1, e2⟩ := hmo
 cases e1
 cases e2
 refine (game_run (ds := []) rfl hargs hW hm1 hp hb0 hAt h00 hpb (hc.plain (noObj_rows s l)) hF hok).mono ?_
 rintro en w' ⟨u, ρ1, rfl, hu, hg1, hr1, ha1, his, hfr, hnames, hft⟩
 have get : ∀ {k : Knd} {zs : List k.T} {j : Nat}, rows'[j]? = some (.vec false k zs) → ∃ q : Plc, ρ1 j = some q ∧ RowAt (fun i => if i = 0 then some q else none) 0 (.vec false k zs) w' := by
  intro k zs j hj
  rcases hr1 j _ hj with ⟨h, _⟩ | ⟨q, hq, h1, h2, h3⟩
  · cases h
  · exact ⟨q, hq, .inr ⟨q, by simp, h1, h2, h3⟩⟩
 obtain ⟨q1, hq1, hA⟩ := get hrow1
 obtain ⟨q2, hq2, hB⟩ := get hrow2
 have lives : ∀ j row, rows'[j]? = some row → row.live = true → liveAt (fun i => rows'[i]?) j := fun j row h h2 => ⟨row, h, h2⟩
 have out : ∀ k q row, ρ1 k = some q → rows'[k]? = some row → row.live = true → k ∉ F.all → q.b < w'.heap.size ∧ (w.heap.size ≤ q.b ∨ WFoot w p.b q.b) ∧ ¬ WFoot w' p.b q.b := by
  intro k q row hq hrow hl hk
  refine ⟨hg1 k q hq, (hnames k q hq).symm, fun hx => ?_⟩
  obtain ⟨i, r, hi, hr, hrb, hrm, hlv⟩ := hft _ hx
  exact ha1 i k r q hlv (lives _ _ hrow hl) (fun h => hk (h ▸ hi)) hr hq (by simp [hrm]) hrb
 have mine : ∀ {k : Knd} {zs : List k.T} {q : Plc}, RowAt (fun i => if i = 0 then some q else none) 0 (.vec false k zs) w' → q.mine = true := by
  intro k zs q h
  rcases h with ⟨h, _⟩ | ⟨q', hq', _, h2, _⟩
  · cases h
  · simp at hq'; subst hq'; exact (h2 rfl).1
 obtain ⟨h1, h2⟩ := game_close (n := n) (nw := [.vec false .bool xs, .vec false .vec ys]) (ρn := fun j => if j = 0 then some q1 else if j = 1 then some q2 else none) hW hm1 hp hfr his (fun x hx => by
  obtain ⟨j, q, _, hq, rfl, _⟩ := hft x hx
  exact hnames j q hq) hfree (by
   intro r hr
   simp only [List.mem_cons, List.not_mem_nil, or_false] at hr
   rcases hr with rfl | rfl
   · exact ⟨_, _, _, rfl⟩
   · exact ⟨_, _, _, rfl⟩) (fun j row hj => by
   match j, hj with
   | 0, hj => simp at hj; subst hj; exact hA.only (fun p h => by simpa using h) (fun i hi => by simp [Row.idsR] at hi)
   | 1, hj =>
    simp at hj; subst hj
    rcases hB with ⟨h, _⟩ | ⟨q', hq', e1, e2, e3⟩
    · cases h
    · simp at hq'; subst hq'
      exact .inr ⟨q2, by simp, e1, e2, e3⟩
   | j + 2, hj => simp at hj) (fun j r hj => by
    split at hj
    · cases hj; exact out k1 q1 _ hq1 hrow1 rfl hk1
    · split at hj
      · cases hj; exact out k2 q2 _ hq2 hrow2 rfl hk2
      · cases hj) (fun i j r t hij hi hj hmn => by
    have h12 : q1.b ≠ q2.b := ha1 k1 k2 q1 q2 (lives _ _ hrow1 rfl) (lives _ _ hrow2 rfl) hne hq1 hq2 (by simp [mine hA])
    split at hi
    · cases hi
      split at hj
      · omega
      · split at hj
        · cases hj; exact h12
        · cases hj
    · split at hi
      · cases hi
        split at hj
        · cases hj; exact Ne.symm h12
        · split at hj
          · omega
          · cases hj
      · cases hi)
 refine ⟨u, _, rfl, ?_, h1, h2⟩
 simp only [Rel] at hu ⊢
 obtain ⟨vs, hvs, hrl⟩ := hu
 refine ⟨vs, hvs, ?_⟩
 simp only [RelL, Rel] at hrl ⊢
 obtain ⟨b1, l1, rfl, g1, b2, l2, rfl, g2, b3, l3, rfl, g3, b4, l4, rfl, g4, b5, l5, rfl, g5, rfl⟩ := hrl
 refine ⟨_, _, rfl, g1, _, _, rfl, g2, _, _, rfl, g3, _, _, rfl, ?_, _, _, rfl, ?_, rfl⟩
 · rcases g4 with ⟨q', o, cc, hq', hs, _, ho, hn, hz⟩ | ⟨h5, _, hu⟩
   · rw [hq1] at hq'; cases hq'
     refine .inl ⟨q1, o, cc, by simp, hs, (fun c' h => by cases h), ?_, hn, hz⟩
     rcases ho with ho | ⟨ho, _⟩
     · exact .inl ho
     · exact .inr ⟨ho, trivial⟩
   · exact .inr ⟨h5, trivial, hu⟩
 · rcases g5 with ⟨q', o, cc, hq', hs, _, ho, hn, hz⟩ | ⟨h5, _, hu⟩
   · rw [hq2] at hq'; cases hq'
     refine .inl ⟨q2, o, cc, by simp, hs, (fun c' h => by cases h), ?_, hn, hz⟩
     rcases ho with ho | ⟨ho, _⟩
     · exact .inl ho
     · exact .inr ⟨ho, trivial⟩
   · exact .inr ⟨h5, trivial, hu⟩
end

def mapT (l : WLay) (s : WS) : Option Res2 := bif bigB s.cells.length 1 then (bif bigB s.spawns.length 24 then
 endV l s (.agg [.int .i64 s.w, .int .i64 s.d, .int .i64 s.h, .slice 0 1 0 (0 + s.cells.length) none, .slice 1 3 0 (0 + s.spawns.length) none]) [.vec false .bool (s.cells.take s.cells.length), .vec false .vec (s.spawns.take s.spawns.length)] else none) else none
theorem map_tree : ∀ (s : WS) (l : WLay), LayOk l s → runG xWo (fun _ _ => none) 300 24 Try.f24 foldM [.ptr 0 0 0 0] (s.rows l) = mapT l s :=
 game_cases fun w d h cells spawns now given fired cc sc => by repeat' (first | apply And.intro | intro _ | kernel_rfl)
noncomputable def oMapW (args : List SV) (rows : List Row) : Option Eff := match args with
 | [.ptr g 0 0 0] => match rows[g]? with
  | some (.obj s) => some { ok := decide (s.cells.length ≤ 100000) && decide (s.spawns.length ≤ 1000), val := .agg [.int .i64 s.w, .int .i64 s.d, .int .i64 s.h, .slice rows.length 1 0 s.cells.length none, .slice (rows.length + 1) 3 0 s.spawns.length none], rd := [g], wr := [(g, .obj s)], nw := [.vec false .bool s.cells, .vec false .vec s.spawns] }
  | _ => none
 | _ => none
theorem oMapW_ok {args : List SV} {rows : List Row} {e : Eff} (h : oMapW args rows = some e) (hok : e.ok = true) : FnOkO Try.prog 24 args (rows[·]?) rows.length e := by
 unfold oMapW at h
 split at h
 · split at h
   · rename_i s hs
     cases h
     simp only [Bool.and_eq_true, decide_eq_true_eq] at hok
     refine fnOkO_map (fuel := 300) xWo_ok lok_none Try.func24 (fun l ok => ⟨none, none, ?_⟩) hs
     rw [map_tree s l ok]
     unfold mapT
     have b1 : bigB s.cells.length 1 = true := by simp only [bigB, Bool.and_eq_true, decide_eq_true_eq]; omega
     have b2 : bigB s.spawns.length 24 = true := by simp only [bigB, Bool.and_eq_true, decide_eq_true_eq]; omega
     rw [b1, b2]
     have key : ∀ (xs : List Bool) (ys : List V3) (n m : Nat), xs = s.cells → ys = s.spawns → n = s.cells.length → m = s.spawns.length → Ends (endV l s (.agg [.int .i64 s.w, .int .i64 s.d, .int .i64 s.h, .slice 0 1 0 n none, .slice 1 3 0 m none]) [.vec false .bool xs, .vec false .vec ys])
         (.agg [.int .i64 s.w, .int .i64 s.d, .int .i64 s.h, .slice 0 1 0 s.cells.length none, .slice 1 3 0 s.spawns.length none]) s [.vec false .bool s.cells, .vec false .vec s.spawns] := by
      rintro _ _ _ _ rfl rfl rfl rfl
      exact endV_ends _ _ ok
     exact key _ _ _ _ List.take_length List.take_length (Nat.zero_add _) (Nat.zero_add _)
   · cases h
 · cases h
noncomputable def orcMapW : OrcO := ⟨24, oMapW, fun _ _ _ h hok => oMapW_ok h hok, bodied Try.func24 (by kernel_rfl)⟩

end Go.Proofs.Ytimkhidniolpeaa
