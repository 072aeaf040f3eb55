/- Games: a method that gives back a slice which may be written: Players. -/
import Derived.Test.YtimkhidniolpeaaWoN
namespace Go.Proofs.Ytimkhidniolpeaa
set_option linter.unusedSimpArgs false
set_option linter.unusedVariables false
set_option maxRecDepth 100000
set_option maxHeartbeats 0
open Go.RowKit

section
variable {P : Program} {X : Ctx}
theorem fnOkO_own (hX : COk P X) {L : Nat → List Nat → Option LoopF} (hL : LOk P L) {fuel f : Nat} {fn : Func} (hfu : P.funcs[f]? = some fn) {ds : List SV} (hds : SV.idsL ds = []) {s s' : WS} {k : Knd} {xs : List k.T} {ok : Bool}
    (h : ∀ l, LayOk l s → ∃ cap, Ends (runG X L fuel f fn foldV (.ptr 0 0 0 0 :: ds) (s.rows l)) (.slice 0 k.st 0 xs.length cap) s' [.vec false k xs])
    {m : Rws} {n g : Nat} (hm : m g = some (.obj s)) : FnOkO P f (.ptr g 0 0 0 :: ds) m n { ok := ok, val := .slice n k.st 0 xs.length none, rd := [g], wr := [(g, .obj s')], nw := [.vec false k xs] } := by
 intro ρ m1 vargs w hrd _ hfree hargs hW
 have hm1 : m1 g = some (.obj s) := by rw [hrd g (by simp), hm]
 obtain ⟨p, hp, hb0, _, ρ0, l, p0, hAt, h00, hpb⟩ := hW.obj.is g s hm1
 have fin : ∀ (r : Res2) (v0 : SV) (more : List Row), runG X L fuel f fn foldV (.ptr 0 0 0 0 :: ds) (s.rows l) = some r → Ends (some r) v0 s' more → ∃ v1 rows' F, CallOkO P f (.ptr 0 0 0 0 :: ds) (s.rows l) v1 rows' ∧ foldW rows' = some F ∧ F.Ok ∧ F.s = s' ∧
     ((v1 = .nils ∧ v0 = .nils ∧ more = []) ∨ ∃ k1 st n1 cap kd ys, v1 = .slice k1 st 0 n1 cap ∧ v0 = .slice 0 st 0 n1 cap ∧ st = kd.st ∧ rows'[k1]? = some (.vec false kd ys) ∧ k1 ∉ F.all ∧ more = [.vec false kd ys]) := by
  intro r v0 more hr he
  obtain ⟨v1, rows', hk, hc⟩ := runG_ok hX hL hfu hr
  rw [← hk] at he
  unfold foldV at he
  split at he
  · rename_i F hF
    split at he
    · obtain ⟨rfl, h2, rfl, hok⟩ := encF_ends he
      exact ⟨_, rows', F, hc, hF, hok, h2, .inl ⟨rfl, rfl, rfl⟩⟩
    · rename_i k1 st n1 cap
      split at he
      · rename_i kd ys hrow
        cases hb : Nat.beq st kd.st && !memN k1 F.all with
        | false => rw [hb] at he; obtain ⟨_, _, _, _, he, _⟩ := he; cases he
        | true =>
         rw [hb, cond_true] at he
         rw [Bool.and_eq_true, Bool.not_eq_true'] at hb
         obtain ⟨rfl, h2, rfl, hok⟩ := encF_ends he
         have hnm : k1 ∉ F.all := by
          intro hmem
          have h9 := hb.2
          rw [memN_iff.2 hmem] at h9
          cases h9
         exact ⟨_, rows', F, hc, hF, hok, h2, .inr ⟨k1, st, n1, cap, kd, ys, rfl, rfl, Nat.eq_of_beq_eq_true hb.1, hrow, hnm, rfl⟩⟩
      · obtain ⟨_, _, _, _, he, _⟩ := he; cases he
    · obtain ⟨_, _, _, _, he, _⟩ := he; cases he
  · obtain ⟨_, _, _, _, he, _⟩ := he; cases he
 obtain ⟨cap, he⟩ := h l (lay_ok hAt)
 · obtain ⟨_, _, _, _, hr, _⟩ := id he
   obtain ⟨v1, rows', F, hc, hF, hok, rfl, hv⟩ := fin _ _ _ hr (hr ▸ he)
   rcases hv with ⟨_, h2, _⟩ | ⟨k1, st, n1, cap1, kd, ys, rfl, h2, hst, hrow, hk1, h3⟩
   · cases h2
   · cases h2
     simp only [List.cons.injEq, and_true, Row.vec.injEq, true_and] at h3
     obtain ⟨rfl, h3⟩ := h3
     cases h3
     refine (game_run hds hargs hW hm1 hp hb0 hAt h00 hpb (hc.plain (noObj_rows s l)) hF hok).mono ?_
     rintro en w' ⟨u, ρ1, rfl, hu, hg1, hr1, ha1, his, hfr, hnames, hft⟩
     obtain ⟨q, hq, _, hown, hcells⟩ : ∃ q : Plc, ρ1 k1 = some q ∧ (false = true → q.mine = false) ∧ (false = false → q.mine = true ∧ q.base = 0 ∧ ∃ (vs : List Value) (ty : TypeId), w'.heap[q.b]? = some (.cells vs.toArray ty (0, 0)) ∧ xs.length * k.st ≤ vs.length ∧ vs.length = q.size) ∧
         ∀ (i : Nat) (x : k.T), xs[i]? = some x → ∀ (j : Nat) (s : SV), (k.enc x)[j]? = some s → w'.cell? ⟨q.b, q.base + i * k.st + j, none⟩ = some (dval s) := by
      rcases hr1 k1 _ hrow with ⟨h, _⟩ | h
      · cases h
      · exact h
     have hqm := (hown rfl).1
     obtain ⟨h1, h2⟩ := game_close (n := n) (nw := [.vec false k xs]) (ρn := fun j => if j = 0 then some q else none) hW hm1 hp hfr his (fun x hx => by
      obtain ⟨j, q, _, hq, rfl, _⟩ := hft x hx
      exact hnames j q hq) hfree (by simp) (fun j row hj => by
       cases j with
       | zero =>
        simp at hj; subst hj
        exact .inr ⟨q, by simp, fun h => (by cases h), hown, hcells⟩
       | succ j => simp at hj) (fun j r hj => by
        split at hj
        · cases hj
          refine ⟨hg1 k1 q hq, (hnames k1 q hq).symm, fun hx => ?_⟩
          obtain ⟨i, r, hi, hr, hrb, hrm, hlv⟩ := hft _ hx
          exact ha1 i k1 r q hlv ⟨_, hrow, rfl⟩ (fun h => hk1 (h ▸ hi)) hr hq (by simp [hrm]) hrb
        · cases hj) (fun i j r t hij hi hj => by
          split at hi
          · split at hj
            · omega
            · cases hj
          · cases hi)
     refine ⟨u, _, rfl, ?_, h1, h2⟩
     simp only [Rel] at hu ⊢
     rcases hu with ⟨q', o, c, hq', rfl, _, ho, hn, hz⟩ | ⟨h5, _, hu⟩
     · rw [hq] at hq'; cases hq'
       refine .inl ⟨q, o, c, by simp, rfl, (fun c' h => by cases h), ?_, hn, hz⟩
       rcases ho with ho | ⟨ho, _⟩
       · exact .inl ho
       · exact .inr ⟨ho, trivial⟩
     · exact .inr ⟨h5, trivial, hu⟩
end

noncomputable def oPlayersV (args : List SV) (rows : List Row) : Option Eff := match args with
 | [.ptr g 0 0 0] => match rows[g]? with
  | some (.obj s) => match s.ps with
   | [] => some { val := .slice rows.length 15 0 (s.ps.map PL.p).length none, rd := [g], wr := [(g, .obj s)], nw := [.vec true .pl (s.ps.map PL.p)] }
   | _ :: _ => some { val := .slice rows.length 15 0 (s.ps.map PL.p).length none, rd := [g], wr := [(g, .obj s)], nw := [.vec false .pl (s.ps.map PL.p)] }
  | _ => none
 | _ => none
theorem oPlayersV_ok {args : List SV} {rows : List Row} {e : Eff} (h : oPlayersV args rows = some e) (hok : e.ok = true) : FnOkO Try.prog 16 args (rows[·]?) rows.length e := by
 unfold oPlayersV at h
 split at h
 · split at h
   · rename_i g _ s hs
     split at h
     · refine oPlayersW_ok (args := [.ptr g 0 0 0]) ?_ hok
       unfold oPlayersW
       simp only [hs]
       exact h
     · rename_i p0 ps0 hp0
       cases h
       refine fnOkO_own (fuel := 300) (k := .pl) (xs := s.ps.map PL.p) xWo_ok lok_none Try.func16 (ds := []) rfl (fun l ok => ?_) hs
       rw [players_tree s l ok]
       unfold playersT
       cases hp : s.ps with
       | nil => rw [hp0] at hp; cases hp
       | cons p ps =>
        refine ⟨none, ?_⟩
        have key : ∀ (ys : List Pl) (n : Nat), p.p :: ps.map PL.p = ys → ps.length + 1 = n → Ends (endV l s (.slice 0 15 0 (ps.length + 1) none) [.vec false .pl (p.p :: ps.map PL.p)]) (.slice 0 15 0 n none) s [.vec false .pl ys] := by
         rintro _ _ rfl rfl
         exact endV_ends _ _ ok
        exact key _ _ rfl (show ps.length + 1 = ((p :: ps).map PL.p : List Pl).length by simp)
   · cases h
 · cases h
noncomputable def orcPlayersV : OrcO := ⟨16, oPlayersV, fun _ _ _ h hok => oPlayersV_ok h hok, bodied Try.func16 (by kernel_rfl)⟩

end Go.Proofs.Ytimkhidniolpeaa
