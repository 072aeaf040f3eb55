/- What turns a contract of a law's call ('it returns true, and nothing that was there has changed') into the law's statement. Conditions: none beyond the given statement's own. The values of the program's structs, and small words for contracts. The blocks that a call has made itself, as rows, and the laws by which a walk reads and writes them. Of whatever program. -/
import Derived.Test.YtimkhidniolpeaaRows
import Derived.ProofKit
import Derived.Below
import Derived.Carry
import Derived.ChangeSame
import Derived.WideKeyArgs
import Derived.WalkKit
import Derived.WalkSpells
import Derived.WalkLawsBesides
import Derived.Laws.ByValue
import Derived.Lib.Hide
import Derived.Handy
import Derived.Deep.QuietTactic
import Derived.BigQuiet
import Derived.KernelRfl
import Derived.Laws.Tables
import Derived.Laws.Rows
namespace Go.Proofs.Ytimkhidniolpeaa
set_option linter.unusedSimpArgs false
set_option linter.unusedVariables false
set_option maxRecDepth 100000
set_option maxHeartbeats 0
open Go.ChangeShapes Go.WideShapes Go.ChangeAt Go.RowKit

section
variable {H : Type} {enc : TypeId × Value → H} {P : Program}

theorem post_of_below {f : Func} {s : ChangeSpec} {apart fresh handsOn again : Bool} {W W' : World} {args : Array Value} {v : Value} {ds gs : List (DataW H)} {before pa pv : List MemPlace}
    (hW : DataW.Whole enc P f.params.toList s.vars apart W args.toList ds gs before)
    (hres : ∀ (b : Nat) (sp : Nat → Bool) (hd : Bool), DataW.TrodAll enc P W' b sp hd f.resultTypes.toList (v.resultList f.resultTypes.size) (s.fn H (ds ++ gs)).results [])
    (hargs : ∀ sp : Nat → Bool, (∀ p ∈ before, sp p.block = true) → DataW.TrodAll enc P W' 0 sp true f.params.toList args.toList (s.fn H (ds ++ gs)).args pa)
    (hvars : ∀ sp : Nat → Bool, (∀ p ∈ before, sp p.block = true) → DataW.TrodVars enc P W' sp s.vars (s.fn H (ds ++ gs)).vars pv)
    (hps : before = pa ++ pv) (hb : Below W.heap.size W W')
    (hok : ∀ (j : Nat) (t : TypeId) (r : Value), f.resultTypes[j]? = some t → (v.resultList f.resultTypes.size)[j]? = some r → Value.okWide P W' .any 0 t r) :
    s.post enc P f apart fresh handsOn again W args v W' := by
 have hlt : ∀ p ∈ before, p.block < W.heap.size := fun p hp => hW.lt p hp
 have hold : ∀ p ∈ before, (fun b => decide (b < W.heap.size)) p.block = true := fun p hp => by simpa using hlt p hp
 refine ⟨ds, gs, before, [], pa, pv, hW, hres _ _ _, hargs _ hold, hvars _ hold, World.keptBut_mono (fun p hp => ⟨hp, ?_⟩) (hb.frame (· ∈ before)), fun _ => ?_⟩
 · rw [hps, List.mem_append] at hp
   exact Or.inr hp
 · obtain ⟨_, _, _, _, _, hz, hn⟩ := hW
   refine ⟨hok, _, _, ([] ++ pa) ++ pv, ⟨[] ++ pa, pv, trodAll_append (hargs _ (fun _ _ => rfl)) (hres _ _ _), hvars _ (fun _ _ => rfl), rfl, ?_, ?_⟩, ?_⟩
   · intro b off hp
     have hin : MemPlace.cell b off ∈ before := by rw [hps]; simpa using hp
     rw [hb.frozen (hlt _ hin)]
     exact hz b off hin
   · intro ha
     have := hn ha
     rw [hps] at this
     simpa using this
   · intro p hp _
     rw [hps]
     simpa using hp

theorem args_stay (hl : laidOutB P = true) {W W' : World} (hb : Below W.heap.size W W') {sp : Nat → Bool} :
    ∀ {ts : List TypeId} {vs : List Value} {ds : List (DataW H)} {ps : List MemPlace}, (∀ t ∈ ts, P.readableRec t = true ∧ t < P.types.size) →
     DataW.TrodAll enc P W 0 (fun _ => true) true ts vs ds ps → (∀ x ∈ ps, x.block < W.heap.size) → (∀ x ∈ ps, sp x.block = true) →
     DataW.TrodAll enc P W' 0 sp true ts vs ds ps
 | [], [], [], _, _, h, _, _ => h
 | [], [], _ :: _, _, _, h, _, _ => h.elim
 | [], _ :: _, _, _, _, h, _, _ => h.elim
 | _ :: _, [], _, _, _, h, _, _ => h.elim
 | _ :: _, _ :: _, [], _, _, h, _, _ => h.elim
 | t :: ts, v :: vs, d :: ds, ps, hr, h, hlt, hs => by
  obtain ⟨p, q, h1, h2, rfl⟩ := h
  refine ⟨p, q, ?_, ?_, rfl⟩
  · exact WideElems.Trod_stays hl (hr t (by simp)).1 (hr t (by simp)).2 h1 (fun x hx => hb.same (hlt x (by simp [hx]))) (fun x hx => hs x (by simp [hx]))
  · exact args_stay hl hb (fun u hu => hr u (by simp [hu])) h2 (fun x hx => hlt x (by simp [hx])) (fun x hx => hs x (by simp [hx]))

theorem law_post {f : Func} {s : ChangeSpec} {tb : TypeId} {W W' : World} {args : Array Value} {ds gs : List (DataW H)} {before : List MemPlace}
    (hl : laidOutB P = true) (hr : ∀ t ∈ f.params.toList, P.readableRec t = true ∧ t < P.types.size) (hres : f.resultTypes = #[tb]) (htb : P.underlying tb = some .bool)
    (hvars : s.vars = []) (hfn : ∀ l : List (DataW H), l.length = f.params.toList.length → s.fn H l = { results := [.lit (.bool true)], args := l })
    (hW : DataW.Whole enc P f.params.toList s.vars false W args.toList ds gs before) (hb : Below W.heap.size W W') :
    s.post enc P f false true false false W args (.bool true) W' := by
 have hlt : ∀ p ∈ before, p.block < W.heap.size := fun p hp => hW.lt p hp
 have hW0 := hW
 obtain ⟨p, q, hA, hV, hpq, hfz, hnd⟩ := hW
 rw [hvars] at hV
 cases gs with
 | cons g gs => exact hV.elim
 | nil =>
  have hV' : q = [] := hV
  subst hV'
  have hlen : ∀ (ts : List TypeId) (vs : List Value) (ds : List (DataW H)) (ps : List MemPlace), DataW.TrodAll enc P W 0 (fun _ => true) true ts vs ds ps → ds.length = ts.length := by
   intro ts
   induction ts with
   | nil => intro vs ds ps h; cases vs <;> cases ds <;> first | rfl | exact h.elim
   | cons t ts ih =>
    intro vs ds ps h
    cases vs with
    | nil => exact h.elim
    | cons v vs =>
     cases ds with
     | nil => exact h.elim
     | cons d ds =>
      obtain ⟨_, _, _, h2, _⟩ := h
      simp [ih _ _ _ h2]
  have hf := hfn (ds ++ []) (by rw [List.append_nil]; exact hlen _ _ _ _ hA)
  rw [List.append_nil] at hf
  refine post_of_below (pa := p) (pv := []) hW0 ?_ ?_ ?_ (by simpa using hpq) hb ?_
  · intro b sp hd
    rw [List.append_nil, hf, hres]
    exact trodAll_mk1 (shut_bool htb true)
  · intro sp hsp
    rw [List.append_nil, hf]
    exact args_stay hl hb hr hA (fun x hx => hlt x (by rw [hpq]; simp [hx])) (fun x hx => hsp x (by rw [hpq]; simp [hx]))
  · intro sp hsp
    rw [List.append_nil, hf, hvars]
    rfl
  · exact ok_one hres rfl (okWide_bool_mk htb true)
end
end Go.Proofs.Ytimkhidniolpeaa

namespace Go.Proofs.Ytimkhidniolpeaa
set_option linter.unusedSimpArgs false
set_option linter.unusedVariables false
set_option maxRecDepth 100000
set_option maxHeartbeats 0
open Go.RowKit

abbrev I (n : Int) : Value := .int .i64 n

structure V3 where
 x : Int
 y : Int
 z : Int
 deriving DecidableEq

def V3.cs (a : V3) : Array Value := #[.int .i64 a.x, .int .i64 a.y, .int .i64 a.z]
def V3.v (a : V3) : Value := .agg a.cs

structure Pl where
 id : Int
 pos : V3
 vel : V3
 ground : Bool
 health : Int
 armour : Int
 score : Int
 a0 : Int
 a1 : Int
 wait : Int
 dead : Int
 deriving DecidableEq

def Pl.cs (p : Pl) : Array Value := #[.int .i64 p.id, .int .i64 p.pos.x, .int .i64 p.pos.y, .int .i64 p.pos.z, .int .i64 p.vel.x, .int .i64 p.vel.y, .int .i64 p.vel.z, .bool p.ground, .int .i64 p.health, .int .i64 p.armour, .int .i64 p.score, .int .i64 p.a0, .int .i64 p.a1, .int .i64 p.wait, .int .i64 p.dead]
def Pl.v (p : Pl) : Value := .agg p.cs

def Ret (w : World) (v : Value) (e : Ending) (w' : World) : Prop := e = .returned v ∧ Below w.heap.size w w'

theorem calls_hide {P : Program} {f : FuncId} {args : Array Value} {w w0 : World} {v : Value} (h : ∀ V : Value, Hid (V = v) → Calls P f args w (Ret w0 V)) : Calls P f args w (Ret w0 v) := h v rfl

theorem bcell {W w1 : World} (hb : Below W.heap.size W w1) : (∀ b o, b < W.heap.size → w1.cell? ⟨b, o, none⟩ = W.cell? ⟨b, o, none⟩) ∧ (∀ b o, b < W.heap.size → w1.frozen? ⟨b, o, none⟩ = W.frozen? ⟨b, o, none⟩) :=
 ⟨fun b o h => hb.cell (p := ⟨b, o, none⟩) h, fun b o h => hb.frozen (p := ⟨b, o, none⟩) h⟩

end Go.Proofs.Ytimkhidniolpeaa

namespace Go.Proofs.Ytimkhidniolpeaa
set_option linter.unusedSimpArgs false
set_option linter.unusedVariables false
set_option maxRecDepth 100000
set_option maxHeartbeats 0
open Go.RowKit

structure Ent where
 b : Nat
 cs : Array Value
 t : TypeId

structure Own (B : Nat) (w0 w : World) (L : List Ent) : Prop where
 below : Below B w0 w
 big : B ≤ w.heap.size
 rows : ∀ e ∈ L, B ≤ e.b ∧ w.heap[e.b]? = some (.cells e.cs e.t (0, 0))
 apart : (L.map (·.b)).Nodup

theorem Own.start (w : World) : Own w.heap.size w w [] := ⟨Below.refl _ _, Nat.le_refl _, (fun _ h => nomatch h), List.nodup_nil⟩

theorem Own.lt {B : Nat} {w0 w : World} {L : List Ent} (h : Own B w0 w L) {e : Ent} (he : e ∈ L) : e.b < w.heap.size := (Array.getElem?_eq_some_iff.1 (h.rows e he).2).1

theorem Own.alloc {B : Nat} {w0 w : World} {L : List Ent} (h : Own B w0 w L) (cs : Array Value) (t : TypeId) : Own B w0 (w.alloc (.cells cs t)) (⟨w.heap.size, cs, t⟩ :: L) := by
 refine ⟨h.below.alloc h.big _, by have := h.big; simp; omega, ?_, ?_⟩
 · intro e he
   rcases List.mem_cons.1 he with rfl | he
   · exact ⟨h.big, Go.heap_alloc_new w _⟩
   · exact ⟨(h.rows e he).1, (Below.heap_alloc w _ e.b (h.lt he)).trans (h.rows e he).2⟩
 · simp only [List.map_cons, List.nodup_cons]
   refine ⟨fun hm => ?_, h.apart⟩
   obtain ⟨e, he, hb⟩ := List.mem_map.1 hm
   have := h.lt he
   omega

theorem Own.set {B : Nat} {w0 w : World} {pre post : List Ent} {e : Ent} (h : Own B w0 w (pre ++ e :: post)) (cs : Array Value) : Own B w0 (w.setRow e.b cs) (pre ++ ⟨e.b, cs, e.t⟩ :: post) := by
 have he := h.rows e (by simp)
 have hap : ∀ x ∈ pre ++ post, x.b ≠ e.b := by
  have ha := h.apart
  rw [List.map_append, List.map_cons] at ha
  have ha' := (List.nodup_append.1 ha)
  intro x hx hxe
  rcases List.mem_append.1 hx with hx | hx
  · exact ha'.2.2 x.b (List.mem_map_of_mem hx) e.b (by simp) hxe
  · have := (List.nodup_cons.1 ha'.2.1).1
    exact this (List.mem_map.2 ⟨x, hx, hxe⟩)
 refine ⟨h.below.trans ⟨rfl, rfl, rfl, by simp, fun k hk => setRow_other w e.b k cs (by have := he.1; omega)⟩, by have := h.big; simpa using this, ?_, ?_⟩
 · intro x hx
   rw [List.mem_append, List.mem_cons] at hx
   rcases hx with hx | rfl | hx
   · have hr := h.rows x (by simp [hx])
     exact ⟨hr.1, (setRow_other w e.b x.b cs (hap x (by simp [hx]))).trans hr.2⟩
   · exact ⟨he.1, setRow_heap w e.b e.cs cs e.t _ he.2⟩
   · have hr := h.rows x (by simp [hx])
     exact ⟨hr.1, (setRow_other w e.b x.b cs (hap x (by simp [hx]))).trans hr.2⟩
 · have ha := h.apart
   simpa using ha

theorem Own.ext {B : Nat} {w0 w w' : World} {L : List Ent} (h : Own B w0 w L) (hb : Below w.heap.size w w') : Own B w0 w' L :=
 ⟨h.below.trans (hb.mono h.big), Nat.le_trans h.big hb.size, fun e he => ⟨(h.rows e he).1, (hb.block e.b (h.lt he)).trans (h.rows e he).2⟩, h.apart⟩

theorem Own.drew {B : Nat} {w0 w : World} {L : List Ent} (h : Own B w0 w L) : Own B w0 w.drew L := h.ext (Below.refl _ _).drew

theorem Own.drewN {B : Nat} {w0 w : World} {L : List Ent} (h : Own B w0 w L) (n : Nat) : Own B w0 (w.drewN n) L := h.ext ⟨rfl, rfl, rfl, Nat.le_refl _, fun _ _ => rfl⟩

theorem Own.cell {B : Nat} {w0 w : World} {L : List Ent} (h : Own B w0 w L) {b off : Nat} {cs : Array Value} {u : TypeId} (hm : ⟨b, cs, u⟩ ∈ L) {v : Value} (hv : cs[off]? = some v) : w.cell? ⟨b, off, none⟩ = some v := by
 rw [cell_of_row w b off cs u _ (h.rows _ hm).2]; exact hv

theorem Own.drop {B : Nat} {w0 w : World} {e : Ent} {L : List Ent} (h : Own B w0 w (e :: L)) : Own B w0 w L :=
 ⟨h.below, h.big, fun x hx => h.rows x (by simp [hx]), (List.nodup_cons.1 h.apart).2⟩

theorem Own.ret {w0 w : World} {L : List Ent} {v : Value} {e : Ending} (h : Own w0.heap.size w0 w L) (he : e = .returned v) : Ret w0 v e w := ⟨he, h.below⟩

structure Agg (P : Program) (t : TypeId) (n : Nat) : Prop where
 desc : ∃ d, P.underlying t = some d ∧ (match d with | .struct _ | .array _ _ => true | _ => false) = true
 size : (P.info? t).map (·.size) = some n

structure One (P : Program) (t : TypeId) : Prop where
 desc : ∃ d, P.underlying t = some d ∧ (match d with | .struct _ | .array _ _ => true | _ => false) = false
 size : (P.info? t).map (·.size) = some 1

section
variable {P : Program}

theorem Agg.isAgg {t : TypeId} {n : Nat} (h : Agg P t n) (w : World) : (isAgg t).run P w = .ok true w := by
 obtain ⟨⟨d, hd, hm⟩, _⟩ := h
 unfold Go.isAgg
 rw [Sem.run_bind, run_underlying hd w]
 cases d <;> simp_all
theorem One.isAgg {t : TypeId} (h : One P t) (w : World) : (isAgg t).run P w = .ok false w := by
 obtain ⟨⟨d, hd, hm⟩, _⟩ := h
 unfold Go.isAgg
 rw [Sem.run_bind, run_underlying hd w]
 cases d <;> simp_all
theorem sizeOf_run {t : TypeId} {n : Nat} (h : (P.info? t).map (·.size) = some n) (w : World) : (sizeOf t).run P w = .ok n w := by
 cases hq : P.info? t with
 | none => simp [hq] at h
 | some i => simp [hq] at h; simp [sizeOf, typeInfo, hq, h]

theorem addr_add (g i j : Nat) : (⟨g, i, none⟩ : Addr).add j = ⟨g, i + j, none⟩ := by unfold Addr.add; split <;> simp_all

theorem loadVar_agg {t : TypeId} {n : Nat} (h : Agg P t n) (w : World) (g off : Nat) (cs : Array Value) (u : TypeId) (fr : Nat × Nat) (hg : w.heap[g]? = some (.cells cs u fr)) (hn : off + n ≤ cs.size) :
    (loadVar t ⟨g, off, none⟩).run P w = .ok (.agg (cs.extract off (off + n))) w := by
 have hl := run_loadCells_list (P := P) w ⟨g, off, none⟩ (cs.extract off (off + n)).toList (fun j v hv => by
  rw [addr_add, cell_of_row w g (off + j) cs u fr hg]
  simp only [Array.toList_extract, List.extract_eq_take_drop] at hv
  rw [List.getElem?_take] at hv
  split at hv
  · simpa using hv
  · cases hv)
 have hlen : (cs.extract off (off + n)).toList.length = n := by simp; omega
 rw [hlen] at hl
 unfold loadVar
 rw [Sem.run_bind, h.isAgg]
 simp only [Array.toArray_toList] at hl
 simp [Sem.run_bind, sizeOf_run h.size, hl]

theorem loadVar_one {t : TypeId} (h : One P t) (w : World) (g off : Nat) (cs : Array Value) (u : TypeId) (fr : Nat × Nat) (v : Value) (hg : w.heap[g]? = some (.cells cs u fr)) (hv : cs[off]? = some v) :
    (loadVar t ⟨g, off, none⟩).run P w = .ok v w := by
 unfold loadVar
 rw [Sem.run_bind, h.isAgg]
 simp [run_load, cell_of_row w g off cs u fr hg, hv]

def layAt (cs : Array Value) (i : Nat) : List Value → Array Value
 | [] => cs
 | v :: vs => layAt (cs.setIfInBounds i v) (i + 1) vs

theorem layAt_size (vs : List Value) : ∀ (cs : Array Value) (i : Nat), (layAt cs i vs).size = cs.size := by
 induction vs with
 | nil => intro cs i; rfl
 | cons v vs ih => intro cs i; rw [layAt, ih]; simp

theorem layAt_get (vs : List Value) : ∀ (cs : Array Value) (i k : Nat), i + vs.length ≤ cs.size → (layAt cs i vs)[k]? = if i ≤ k ∧ k < i + vs.length then vs[k - i]? else cs[k]? := by
 induction vs with
 | nil => intro cs i k _; rw [if_neg (by simp only [List.length_nil]; omega)]; rfl
 | cons v vs ih =>
  intro cs i k h
  simp only [List.length_cons] at h
  rw [layAt, ih _ _ _ (by simp; omega)]
  by_cases h1 : i + 1 ≤ k ∧ k < i + 1 + vs.length
  · rw [if_pos h1, if_pos (by simp only [List.length_cons]; omega)]
    obtain ⟨j, rfl⟩ : ∃ j, k = i + 1 + j := ⟨k - (i + 1), by omega⟩
    rw [show i + 1 + j - (i + 1) = j by omega, show i + 1 + j - i = j + 1 by omega, List.getElem?_cons_succ]
  · rw [if_neg h1]
    by_cases h2 : k = i
    · subst h2
      rw [if_pos (by simp only [List.length_cons]; omega)]
      have : k < cs.size := by omega
      simp [Array.getElem?_setIfInBounds, this]
    · rw [if_neg (by simp only [List.length_cons]; omega)]
      simp [Array.getElem?_setIfInBounds, Ne.symm h2]

theorem layAt_all (cs vs : Array Value) (h : vs.size = cs.size) : layAt cs 0 vs.toList = vs := by
 apply Array.ext_getElem?
 intro k
 rw [layAt_get _ _ _ _ (by simp; omega)]
 split
 · simp
 · rename_i hk
   have hk' : vs.size ≤ k := by
    simp only [Array.length_toList] at hk
    omega
   rw [Array.getElem?_eq_none (by omega), Array.getElem?_eq_none hk']

theorem storeCells_row (g : Nat) (off : Nat) (u : TypeId) (hone : True) : ∀ (vs : List Value) (i : Nat) (w : World) (cs : Array Value), (∀ v ∈ vs, v.oneCell' = true) → w.heap[g]? = some (.cells cs u (0, 0)) → off + i + vs.length ≤ cs.size →
    (storeCells ⟨g, off, none⟩ vs i).run P w = .ok () (w.setRow g (layAt cs (off + i) vs))
 | [], i, w, cs, _, hg, _ => by
  have : w.setRow g cs = w := by
   have hlt := (Array.getElem?_eq_some_iff.1 hg).1
   cases w with
   | mk heap tape drawn os output =>
    unfold World.setRow
    congr 1
    apply Array.ext
    · simp
    · intro k h1 h2
      rw [Array.getElem_modify]
      split
      · rename_i hk
        subst hk
        rw [(Array.getElem?_eq_some_iff.1 hg).2]
      · rfl
  simp [storeCells, layAt, this]
 | v :: vs, i, w, cs, ho, hg, hn => by
  simp only [List.length_cons] at hn
  have hv : v.oneCell' = true := ho v (by simp)
  have hlt : off + i < cs.size := by omega
  have hc : w.cell? ⟨g, off + i, none⟩ = some cs[off + i] := by
   rw [cell_of_row w g (off + i) cs u _ hg]; simp [hlt]
  have hf : w.frozen? ⟨g, off + i, none⟩ = false := frozen_of_row w g (off + i) cs u hg
  have hs : (store ⟨g, off + i, none⟩ v).run P w = .ok () (w.setRow g (cs.setIfInBounds (off + i) v)) := by
   rw [run_store P w _ v _ hv, hc]
   simp only [hf]
   rw [setCell_eq_setRow w g (off + i) cs u _ v hg]
   rfl
  have ih := storeCells_row g off u hone vs (i + 1) (w.setRow g (cs.setIfInBounds (off + i) v)) (cs.setIfInBounds (off + i) v) (fun x hx => ho x (by simp [hx])) (setRow_heap w g cs _ u _ hg) (by simp; omega)
  rw [storeCells, Sem.run_bind, addr_add, hs]
  simp only [Result.andThen_ok]
  rw [ih, setRow_setRow, layAt, Nat.add_assoc]

theorem storeVar_row {t : TypeId} {n : Nat} (h : (P.info? t).map (·.size) = some n) (w : World) (g off : Nat) (cs : Array Value) (u : TypeId) (v : Value) (hg : w.heap[g]? = some (.cells cs u (0, 0))) (hv : v.cells.size = n)
    (ho : v.cells.toList.all (·.oneCell') = true) (hn : off + n ≤ cs.size) : (storeVar t ⟨g, off, none⟩ v).run P w = .ok () (w.setRow g (layAt cs off v.cells.toList)) := by
 have hs := storeCells_row (P := P) g off u trivial v.cells.toList 0 w cs (fun x hx => by simpa using List.all_eq_true.1 ho x hx) hg (by simp; omega)
 unfold storeVar
 rw [Sem.run_bind, sizeOf_run h]
 simp only [Result.andThen_ok]
 rw [if_neg (by simp [hv])]
 simpa using hs
end

section
variable {P : Program} {ops : Array Oper} {rest : List Oper} {o : Oper} {a : Act} {w w0 : World} {B : Nat} {L : List Ent} {Q : Exit → Act → World → Prop}

theorem is_list (h : wpList P ops Q (o :: rest) a w) : wpList P ops Q (o :: rest) a w := h

theorem wpList_do (hw : Region.wanted o (yielded ops a.tmps) = true) (h : ∀ K : Act → World → Prop, (∀ a w, wpList P ops Q rest a w → K a w) → o.wp P a w K Q) : wpList P ops Q (o :: rest) a w :=
 wpList_step fun K hK => by rw [if_pos hw]; exact h K hK

theorem own_box (hw : Region.wanted o (yielded ops a.tmps) = true) {t : TypeId} {x : Operand} (ho : o.op = .box t x) {cs : Array Value} (hc : (a.eval x).cells = cs)
    (h : ∀ (b : Nat) (w' : World), Own B w0 w' (⟨b, cs, t⟩ :: L) → wpList P ops Q rest (a.put o.dst (.pointer (some ⟨b, 0, none⟩))) w') (hR : Own B w0 w L) : wpList P ops Q (o :: rest) a w := by
 refine wpList_do hw fun K hK => ?_
 unfold Oper.wp execOp
 rw [ho]
 subst hc
 exact hK _ _ (h _ _ (hR.alloc _ _))

theorem own_alloc (hw : Region.wanted o (yielded ops a.tmps) = true) {t : TypeId} (ho : o.op = .alloc t) {cs : Array Value} (hz : (P.info? t).bind (·.zero) = some (.agg cs))
    (h : ∀ (b : Nat) (w' : World), Own B w0 w' (⟨b, cs, t⟩ :: L) → wpList P ops Q rest (a.put o.dst (.pointer (some ⟨b, 0, none⟩))) w') (hR : Own B w0 w L) : wpList P ops Q (o :: rest) a w := by
 refine wpList_do hw fun K hK => ?_
 have hz' : (zeroValue t).run P w = .ok (.agg cs) w := by
  cases hq : P.info? t with
  | none => simp [hq] at hz
  | some i => simp [hq] at hz; simp [zeroValue, typeInfo, hq, hz]
 have : (execOp a.eval o).run P w = .ok (.value (.pointer (some ⟨w.heap.size, 0, none⟩))) (w.alloc (.cells cs t)) := by
  unfold execOp
  rw [ho]
  simp [Instr.alloc, Sem.run_bind, hz', newVar, newRow, Value.cells]
 unfold Oper.wp
 rw [this]
 exact hK _ _ (h _ _ (hR.alloc _ _))

theorem own_alloc1 (hw : Region.wanted o (yielded ops a.tmps) = true) {t : TypeId} (ho : o.op = .alloc t) {z : Value} (hz : (P.info? t).bind (·.zero) = some z) {cs : Array Value} (hc : z.cells = cs)
    (h : ∀ (b : Nat) (w' : World), Own B w0 w' (⟨b, cs, t⟩ :: L) → wpList P ops Q rest (a.put o.dst (.pointer (some ⟨b, 0, none⟩))) w') (hR : Own B w0 w L) : wpList P ops Q (o :: rest) a w := by
 refine wpList_do hw fun K hK => ?_
 have hz' : (zeroValue t).run P w = .ok z w := by
  cases hq : P.info? t with
  | none => simp [hq] at hz
  | some i => simp [hq] at hz; simp [zeroValue, typeInfo, hq, hz]
 subst hc
 have : (execOp a.eval o).run P w = .ok (.value (.pointer (some ⟨w.heap.size, 0, none⟩))) (w.alloc (.cells z.cells t)) := by
  unfold execOp
  rw [ho]
  simp [Instr.alloc, Sem.run_bind, hz', newVar, newRow]
 unfold Oper.wp
 rw [this]
 exact hK _ _ (h _ _ (hR.alloc _ _))

theorem own_build (hw : Region.wanted o (yielded ops a.tmps) = true) {t : TypeId} {parts : Array (Nat × Operand)} (ho : o.op = .build t parts) {cs : Array Value}
    (hf : P.built t (parts.map fun (i, x) => (i, a.eval x)).toList = some cs) (h : wpList P ops Q rest (a.put o.dst (.agg cs)) w) : wpList P ops Q (o :: rest) a w := by
 refine wpList_do hw fun K hK => ?_
 refine wp_build t parts ho (by rw [hf]; rfl) ?_
 rw [hf]
 exact hK _ _ h

theorem own_max (hw : Region.wanted o (yielded ops a.tmps) = true) {x y : Operand} {ts : Array TypeId} (ho : o.op = .call { callee := .builtin .max, args := #[x, y], argTypes := ts }) {k : IntKind} {m n : Int} (hx : a.eval x = .int k m) (hy : a.eval y = .int k n)
    (h : wpList P ops Q rest (a.put o.dst (.int k (max m n))) w) : wpList P ops Q (o :: rest) a w := by
 refine wpList_do hw fun K hK => ?_
 have : (execOp a.eval o).run P w = .ok (.value (.int k (max m n))) w := by
  have e : max m n = if n > m then n else m := by rw [Int.max_def]; split <;> split <;> omega
  unfold execOp
  rw [ho]
  simp only [resolve, builtin]
  simp [Sem.run_bind, hx, hy, e, invoke, builtin, run_max_int2]
 unfold Oper.wp
 rw [this]
 exact hK _ _ h

theorem own_min (hw : Region.wanted o (yielded ops a.tmps) = true) {x y : Operand} {ts : Array TypeId} (ho : o.op = .call { callee := .builtin .min, args := #[x, y], argTypes := ts }) {k : IntKind} {m n : Int} (hx : a.eval x = .int k m) (hy : a.eval y = .int k n)
    (h : wpList P ops Q rest (a.put o.dst (.int k (min m n))) w) : wpList P ops Q (o :: rest) a w := by
 refine wpList_do hw fun K hK => ?_
 have : (execOp a.eval o).run P w = .ok (.value (.int k (min m n))) w := by
  have e : min m n = if n < m then n else m := by rw [Int.min_def]; split <;> split <;> omega
  unfold execOp
  rw [ho]
  simp only [resolve, builtin]
  simp [Sem.run_bind, hx, hy, e, invoke, builtin, run_min_int2]
 unfold Oper.wp
 rw [this]
 exact hK _ _ h

theorem own_load_agg (hw : Region.wanted o (yielded ops a.tmps) = true) {t : TypeId} {x : Operand} (ho : o.op = .load t x) {b off : Nat} (hx : a.eval x = .pointer (some ⟨b, off, none⟩))
    {n : Nat} (ht : Agg P t n) {cs : Array Value} {u : TypeId} (hm : ⟨b, cs, u⟩ ∈ L) (hn : Nat.ble (off + n) cs.size = true) {ds : Array Value} (hd : cs.extract off (off + n) = ds)
    (h : Own B w0 w L → wpList P ops Q rest (a.put o.dst (.agg ds)) w) (hR : Own B w0 w L) : wpList P ops Q (o :: rest) a w := by
 refine wpList_do hw fun K hK => ?_
 have hg := (hR.rows _ hm).2
 subst hd
 have : (execOp a.eval o).run P w = .ok (.value (.agg (cs.extract off (off + n)))) w := by
  unfold execOp
  rw [ho]
  simp [hx, Instr.loadAt, Instr.sureAddr, Sem.run_bind, loadVar_agg ht w b off cs u _ hg (Nat.le_of_ble_eq_true hn)]
 unfold Oper.wp
 rw [this]
 exact hK _ _ (h hR)

theorem own_load_all (hw : Region.wanted o (yielded ops a.tmps) = true) {t : TypeId} {x : Operand} (ho : o.op = .load t x) {b : Nat} (hx : a.eval x = .pointer (some ⟨b, 0, none⟩))
    {n : Nat} (ht : Agg P t n) {cs : Array Value} {u : TypeId} (hm : ⟨b, cs, u⟩ ∈ L) (hn : cs.size = n)
    (h : Own B w0 w L → wpList P ops Q rest (a.put o.dst (.agg cs)) w) (hR : Own B w0 w L) : wpList P ops Q (o :: rest) a w := by
 refine own_load_agg hw ho hx ht hm (Nat.ble_eq_true_of_le (by omega)) (ds := cs) (by simp [← hn]) h hR

theorem own_load_one (hw : Region.wanted o (yielded ops a.tmps) = true) {t : TypeId} {x : Operand} (ho : o.op = .load t x) {b off : Nat} (hx : a.eval x = .pointer (some ⟨b, off, none⟩))
    (ht : One P t) {cs : Array Value} {u : TypeId} (hm : ⟨b, cs, u⟩ ∈ L) {v : Value} (hv : cs[off]? = some v)
    (h : Own B w0 w L → wpList P ops Q rest (a.put o.dst v) w) (hR : Own B w0 w L) : wpList P ops Q (o :: rest) a w := by
 refine wpList_do hw fun K hK => ?_
 have hg := (hR.rows _ hm).2
 have : (execOp a.eval o).run P w = .ok (.value v) w := by
  unfold execOp
  rw [ho]
  simp [hx, Instr.loadAt, Instr.sureAddr, Sem.run_bind, loadVar_one ht w b off cs u _ v hg hv]
 unfold Oper.wp
 rw [this]
 exact hK _ _ (h hR)

theorem loadVar_cell {t : TypeId} (h : One P t) (w : World) (a : Addr) (v : Value) (hv : w.cell? a = some v) : (loadVar t a).run P w = .ok v w := by
 unfold loadVar
 rw [Sem.run_bind, h.isAgg]
 simp [run_load, hv]

theorem own_load_arg (hw : Region.wanted o (yielded ops a.tmps) = true) {t : TypeId} {x : Operand} (ho : o.op = .load t x) {b off : Nat} (hx : a.eval x = .pointer (some ⟨b, off, none⟩))
    (ht : One P t) (hb : b < B) {v : Value} (hv : w0.cell? ⟨b, off, none⟩ = some v) (h : Own B w0 w L → wpList P ops Q rest (a.put o.dst v) w) (hR : Own B w0 w L) : wpList P ops Q (o :: rest) a w := by
 refine wpList_do hw fun K hK => ?_
 have hc : w.cell? ⟨b, off, none⟩ = some v := (hR.below.cell (p := ⟨b, off, none⟩) hb).trans hv
 have : (execOp a.eval o).run P w = .ok (.value v) w := by
  unfold execOp
  rw [ho]
  simp [hx, Instr.loadAt, Instr.sureAddr, Sem.run_bind, loadVar_cell ht w _ v hc]
 unfold Oper.wp
 rw [this]
 exact hK _ _ (h hR)

theorem run_index1 {t e : TypeId} (hu : P.underlying t = some (.slice e)) (hs : (P.info? e).map (·.size) = some 1) (w : World) (b off len cap k : Nat) (kd : IntKind) (hk : k < len) :
    (Instr.indexAt t (.slice (some ⟨b, off, none⟩) len cap) (.int kd (k : Int))).run P w = .ok (.pointer (some ⟨b, off + k, none⟩)) w := by
 have h1 : (0 : Int) ≤ k ∧ (k : Int) < len := by omega
 unfold Instr.indexAt
 simp [Sem.run_bind, asIntOf, run_underlying hu, sizeOf_run hs, h1, addr_add, hk]

theorem own_index1 (hw : Region.wanted o (yielded ops a.tmps) = true) {t : TypeId} {x y : Operand} (ho : o.op = .indexAddr t x y) {e : TypeId} (hu : P.underlying t = some (.slice e)) (hs : (P.info? e).map (·.size) = some 1) {b off len cap k : Nat} {kd : IntKind}
    (hx : a.eval x = .slice (some ⟨b, off, none⟩) len cap) (hy : a.eval y = .int kd (k : Int)) (hk : k < len) (h : wpList P ops Q rest (a.put o.dst (.pointer (some ⟨b, off + k, none⟩))) w) : wpList P ops Q (o :: rest) a w := by
 refine wpList_do hw fun K hK => ?_
 have : (execOp a.eval o).run P w = .ok (.value (.pointer (some ⟨b, off + k, none⟩))) w := by
  unfold execOp
  rw [ho]
  simp [hx, hy, Sem.run_bind, run_index1 hu hs w b off len cap k kd hk]
 unfold Oper.wp
 rw [this]
 exact hK _ _ h

theorem own_buildSlice (hw : Region.wanted o (yielded ops a.tmps) = true) {t e : TypeId} {len : Nat} {parts : Array (Nat × Operand)} (ho : o.op = .buildSlice t len parts) (hu : P.underlying t = some (.slice e)) {n : Nat} (hs : (P.info? e).map (·.size) = some n)
    (hlen : ¬ len * n > 2 ^ 24) {z : Value} (hz : (P.info? e).bind (·.zero) = some z) (hpos : ¬ len * n = 0) (cs : Array Value)
    (hf : Instr.fill (fun i => some (i * n, n)) ((Array.range (len * n)).map (z.cells[· % z.cells.size]!)) (parts.map fun (i, x) => (i, a.eval x)).toList = some cs)
    (h : ∀ (b : Nat) (w' : World), Own B w0 w' (⟨b, cs, e⟩ :: L) → wpList P ops Q rest (a.put o.dst (.slice (some ⟨b, 0, none⟩) len len)) w') (hR : Own B w0 w L) : wpList P ops Q (o :: rest) a w := by
 refine wpList_do hw fun K hK => ?_
 have hz' : (zeroValue e).run P w = .ok z w := by
  cases hq : P.info? e with
  | none => simp [hq] at hz
  | some i => simp [hq] at hz; simp [zeroValue, typeInfo, hq, hz]
 have : (execOp a.eval o).run P w = .ok (.value (.slice (some ⟨w.heap.size, 0, none⟩) len len)) (w.alloc (.cells cs e)) := by
  unfold execOp
  rw [ho]
  unfold Instr.buildSlice
  simp only [Sem.run_bind, run_underlying hu, Result.andThen_ok, sizeOf_run hs, if_neg hlen, if_neg hpos, hz', Sem.run_pure, hf, newRow, run_newObj_alloc]
 unfold Oper.wp
 rw [this]
 exact hK _ _ (h _ _ (hR.alloc _ _))

inductive Upd (b : Nat) (cs cs' : Array Value) (u : TypeId) : List Ent → List Ent → Prop
 | here {L : List Ent} : Upd b cs cs' u (⟨b, cs, u⟩ :: L) (⟨b, cs', u⟩ :: L)
 | there {e : Ent} {L L' : List Ent} : Upd b cs cs' u L L' → Upd b cs cs' u (e :: L) (e :: L')

theorem Upd.split {b : Nat} {cs cs' : Array Value} {u : TypeId} {L L' : List Ent} (h : Upd b cs cs' u L L') : ∃ pre post, L = pre ++ ⟨b, cs, u⟩ :: post ∧ L' = pre ++ ⟨b, cs', u⟩ :: post := by
 induction h with
 | here => exact ⟨[], _, rfl, rfl⟩
 | there _ ih =>
  obtain ⟨pre, post, h1, h2⟩ := ih
  exact ⟨_ :: pre, post, by rw [h1]; rfl, by rw [h2]; rfl⟩

theorem own_store (hw : Region.wanted o (yielded ops a.tmps) = true) {t : TypeId} {x y : Operand} (ho : o.op = .store t x y) {b off : Nat} (hx : a.eval x = .pointer (some ⟨b, off, none⟩))
    {n : Nat} (ht : (P.info? t).map (·.size) = some n) {v : Value} (hy : a.eval y = v) (hv : v.cells.size = n) (hone : v.cells.toList.all (·.oneCell') = true)
    {cs cs' : Array Value} {u : TypeId} {L' : List Ent} (_ : ⟨b, cs, u⟩ ∈ L) (hn : Nat.ble (off + n) cs.size = true) (hc : layAt cs off v.cells.toList = cs') (hL : Upd b cs cs' u L L')
    (h : ∀ w' : World, Own B w0 w' L' → wpList P ops Q rest (a.put o.dst undef) w') (hR : Own B w0 w L) : wpList P ops Q (o :: rest) a w := by
 refine wpList_do hw fun K hK => ?_
 subst hc
 obtain ⟨pre, post, h1, h2⟩ := hL.split
 have hg := (hR.rows ⟨b, cs, u⟩ (by rw [h1]; simp)).2
 have : (execOp a.eval o).run P w = .ok .skip (w.setRow b (layAt cs off v.cells.toList)) := by
  unfold execOp
  rw [ho]
  simp [hx, hy, Instr.storeAt, Instr.sureAddr, Sem.run_bind, storeVar_row ht w b off cs u _ hg hv hone (Nat.le_of_ble_eq_true hn)]
 unfold Oper.wp
 rw [this]
 subst h1
 subst h2
 exact hK _ _ (h _ (hR.set _))

theorem own_store_all (hw : Region.wanted o (yielded ops a.tmps) = true) {t : TypeId} {x y : Operand} (ho : o.op = .store t x y) {b : Nat} (hx : a.eval x = .pointer (some ⟨b, 0, none⟩))
    {n : Nat} (ht : (P.info? t).map (·.size) = some n) {v : Value} (hy : a.eval y = v) (hv : v.cells.size = n) (hone : v.cells.toList.all (·.oneCell') = true)
    {cs cs' : Array Value} {u : TypeId} {L' : List Ent} (hm : ⟨b, cs, u⟩ ∈ L) (hn : cs.size = n) (hc : v.cells = cs') (hL : Upd b cs cs' u L L')
    (h : ∀ w' : World, Own B w0 w' L' → wpList P ops Q rest (a.put o.dst undef) w') (hR : Own B w0 w L) : wpList P ops Q (o :: rest) a w := by
 have : layAt cs 0 v.cells.toList = v.cells := layAt_all _ _ (by omega)
 exact own_store hw ho hx ht hy hv hone hm (Nat.ble_eq_true_of_le (by omega)) (by rw [this]; exact hc) hL h hR

theorem own_call {f : FuncId} {args : Array Value} {v : Value} {R : Ending → World → Prop} (hc : Calls P f args w (Ret w v)) (h : ∀ w' : World, Own B w0 w' L → R (.returned v) w') (hR : Own B w0 w L) : Calls P f args w R :=
 hc.mono fun _ w' ⟨he, hb⟩ => by subst he; exact h w' (hR.ext hb)

inductive Res (P : Program) (tmps : Array Value) (L : List Ent) : ResultVar → Value → Prop
 | tmp {t : Tmp} {v : Value} (h : tmps.getD t undef = v) : Res P tmps L (.tmp t) v
 | all {p : Tmp} {ty : TypeId} {b n : Nat} {cs : Array Value} {u : TypeId} (hp : tmps.getD p undef = .pointer (some ⟨b, 0, none⟩)) (ht : Agg P ty n) (hm : ⟨b, cs, u⟩ ∈ L) (hn : cs.size = n) : Res P tmps L (.cell p ty) (.agg cs)
 | one {p : Tmp} {ty : TypeId} {b off : Nat} {cs : Array Value} {u : TypeId} {v : Value} (hp : tmps.getD p undef = .pointer (some ⟨b, off, none⟩)) (ht : One P ty) (hm : ⟨b, cs, u⟩ ∈ L) (hv : cs[off]? = some v) : Res P tmps L (.cell p ty) v

def resRun (tmps : Array Value) : ResultVar → Sem Value
 | .tmp t => pure (tmps.getD t undef)
 | .cell p t => do loadVar t (← asAddr (tmps.getD p undef))

theorem Res.run {tmps : Array Value} {rv : ResultVar} {v : Value} (h : Res P tmps L rv v) (hR : Own B w0 w L) : (resRun tmps rv).run P w = .ok v w := by
 cases h with
 | tmp h => simp [resRun, ← h]
 | @all p ty b n cs u hp ht hm hn =>
  have hg := (hR.rows _ hm).2
  have hl := loadVar_agg ht w b 0 cs u _ hg (by omega)
  have : cs.extract 0 (0 + n) = cs := by simp [← hn]
  rw [this] at hl
  simp only [resRun, hp]
  simp [asAddr, hl]
 | @one p ty b off cs u v hp ht hm hv =>
  have hg := (hR.rows _ hm).2
  simp only [resRun, hp]
  simp [asAddr, loadVar_one ht w b off cs u _ v hg hv]

theorem results_eq (fn : Func) (tmps : Array Value) : results fn tmps = (do
    let vs ← fn.results.mapM (resRun tmps)
    pure (if h : vs.size = 1 then vs[0] else .tuple vs)) := by
 unfold results
 congr 1

theorem own_eql (hw : Region.wanted o (yielded ops a.tmps) = true) {t ty : TypeId} {x y : Operand} (ho : o.op = .binOp .eql t x y ty) {xs ys : Array Value} (hx : a.eval x = .agg xs) (hy : a.eval y = .agg ys)
    (hm : P.eqGuardType P.depth t = false) {r : Bool} (hr : ∀ w, (Op.equalIn 10000 t (.agg xs) (.agg ys)).run P w = .ok r w) (h : wpList P ops Q rest (a.put o.dst (.bool r)) w) : wpList P ops Q (o :: rest) a w := by
 refine wpList_do hw fun K hK => ?_
 have : (execOp a.eval o).run P w = .ok (.value (.bool r)) w := by
  unfold execOp
  rw [ho]
  simp [hx, hy, Sem.run_bind, run_eqGuard_agg w .eql t x y xs ys hm, run_eql_struct, hr]
 unfold Oper.wp
 rw [this]
 exact hK _ _ h
theorem own_neq (hw : Region.wanted o (yielded ops a.tmps) = true) {t ty : TypeId} {x y : Operand} (ho : o.op = .binOp .neq t x y ty) {xs ys : Array Value} (hx : a.eval x = .agg xs) (hy : a.eval y = .agg ys)
    (hm : P.eqGuardType P.depth t = false) {r : Bool} (hr : ∀ w, (Op.equalIn 10000 t (.agg xs) (.agg ys)).run P w = .ok r w) (h : wpList P ops Q rest (a.put o.dst (.bool (!r))) w) : wpList P ops Q (o :: rest) a w := by
 refine wpList_do hw fun K hK => ?_
 have : (execOp a.eval o).run P w = .ok (.value (.bool (!r))) w := by
  unfold execOp
  rw [ho]
  simp [hx, hy, Sem.run_bind, run_eqGuard_agg w .neq t x y xs ys hm, run_neq_struct, hr]
 unfold Oper.wp
 rw [this]
 exact hK _ _ h

theorem part_one {t : TypeId} (h : One P t) (w : World) (xs : Array Value) (off : Nat) {v : Value} (hv : xs[off]? = some v) : (part t xs off).run P w = .ok v w := by
 unfold part
 rw [Sem.run_bind, h.isAgg]
 simp [hv]
theorem part_agg {t : TypeId} {n : Nat} (h : Agg P t n) (w : World) (xs : Array Value) (off : Nat) {ds : Array Value} (hd : xs.extract off (off + n) = ds) : (part t xs off).run P w = .ok (.agg ds) w := by
 unfold part
 rw [Sem.run_bind, h.isAgg]
 simp [Sem.run_bind, sizeOf_run h.size, hd]
theorem eqf_nil (d : Nat) (xs ys : Array Value) (w : World) : (Op.eqFields d xs ys []).run P w = .ok true w := by simp [Op.eqFields]
theorem eqf_cons {d : Nat} {xs ys : Array Value} {f : Field} {fs : List Field} {x y : Value} {r s : Bool} (w : World) (hn : (f.name == "_") = false) (ha : (part f.type xs f.offset).run P w = .ok x w) (hb : (part f.type ys f.offset).run P w = .ok y w)
    (he : (Op.equalIn d f.type x y).run P w = .ok r w) (hr : (Op.eqFields d xs ys fs).run P w = .ok s w) : (Op.eqFields d xs ys (f :: fs)).run P w = .ok (r && s) w := by
 have hn' : f.name ≠ "_" := by simpa using hn
 rw [Op.eqFields]
 simp only [if_pos hn', Sem.run_bind, ha, hb, he, Result.andThen_ok]
 cases r
 · simp
 · simpa using hr
theorem eqs_of {d : Nat} {t : TypeId} {fs : Array Field} {xs ys : Array Value} {r : Bool} (w : World) (hu : P.underlying t = some (.struct fs)) (hp : P.stoodInHeld t = false) (h : (Op.eqFields d xs ys fs.toList).run P w = .ok r w) :
    (Op.equalIn (d + 1) t (.agg xs) (.agg ys)).run P w = .ok r w := by
 have hf : P.fieldsOf t = fs := by simp [Program.fieldsOf, hu]
 rw [run_equalIn_struct (P := P) w d t xs ys (by rw [hf]; exact hu) hp, hf]
 exact h
theorem eqa_two {d : Nat} {t e : TypeId} {n : Nat} {xs ys : Array Value} {x0 x1 y0 y1 : Value} {r0 r1 : Bool} (w : World) (hu : P.underlying t = some (.array 2 e)) (hs : (P.info? e).map (·.size) = some n)
    (a0 : (part e xs 0).run P w = .ok x0 w) (a1 : (part e xs n).run P w = .ok x1 w) (b0 : (part e ys 0).run P w = .ok y0 w) (b1 : (part e ys n).run P w = .ok y1 w)
    (h0 : (Op.equalIn d e x0 y0).run P w = .ok r0 w) (h1 : (Op.equalIn d e x1 y1).run P w = .ok r1 w) : (Op.equalIn (d + 1) t (.agg xs) (.agg ys)).run P w = .ok (r0 && r1) w := by
 simp only [Op.equalIn, Sem.run_bind, run_underlying hu, Result.andThen_ok, sizeOf_run hs]
 cases r0 <;> cases r1 <;> simp [Std.Legacy.Range.forIn_eq_forIn_range', Std.Legacy.Range.size, List.range'_succ, Sem.run_bind, a0, a1, b0, b1, h0, h1]
theorem eqa_three {d : Nat} {t e : TypeId} {n : Nat} {xs ys : Array Value} {x0 x1 x2 y0 y1 y2 : Value} {r0 r1 r2 : Bool} (w : World) (hu : P.underlying t = some (.array 3 e)) (hs : (P.info? e).map (·.size) = some n)
    (a0 : (part e xs 0).run P w = .ok x0 w) (a1 : (part e xs n).run P w = .ok x1 w) (a2 : (part e xs (2 * n)).run P w = .ok x2 w) (b0 : (part e ys 0).run P w = .ok y0 w) (b1 : (part e ys n).run P w = .ok y1 w) (b2 : (part e ys (2 * n)).run P w = .ok y2 w)
    (h0 : (Op.equalIn d e x0 y0).run P w = .ok r0 w) (h1 : (Op.equalIn d e x1 y1).run P w = .ok r1 w) (h2 : (Op.equalIn d e x2 y2).run P w = .ok r2 w) : (Op.equalIn (d + 1) t (.agg xs) (.agg ys)).run P w = .ok (r0 && (r1 && r2)) w := by
 simp only [Op.equalIn, Sem.run_bind, run_underlying hu, Result.andThen_ok, sizeOf_run hs]
 cases r0 <;> cases r1 <;> cases r2 <;> simp [Std.Legacy.Range.forIn_eq_forIn_range', Std.Legacy.Range.size, List.range'_succ, Sem.run_bind, a0, a1, a2, b0, b1, b2, h0, h1, h2]

theorem own_ret1 {fn : Func} {rv : ResultVar} {v : Value} {R : Ending → World → Prop} (hf : fn.results = #[rv]) (hd : a.defers = []) (h1 : Res P a.tmps L rv v) (h : Own B w0 w L → R (.returned v) w) (hR : Own B w0 w L) : bodyPost P fn R .ret a w := by
 refine bodyPost_ret (v := v) ?_ hd (h hR)
 rw [results_eq, hf]
 simp [h1.run hR]

theorem own_ret2 {fn : Func} {r1 r2 : ResultVar} {v1 v2 : Value} {R : Ending → World → Prop} (hf : fn.results = #[r1, r2]) (hd : a.defers = []) (h1 : Res P a.tmps L r1 v1) (h2 : Res P a.tmps L r2 v2) (h : Own B w0 w L → R (.returned (.tuple #[v1, v2])) w)
    (hR : Own B w0 w L) : bodyPost P fn R .ret a w := by
 refine bodyPost_ret (v := .tuple #[v1, v2]) ?_ hd (h hR)
 rw [results_eq, hf]
 simp [h1.run hR, h2.run hR]

theorem own_ret3 {fn : Func} {r1 r2 r3 : ResultVar} {v1 v2 v3 : Value} {R : Ending → World → Prop} (hf : fn.results = #[r1, r2, r3]) (hd : a.defers = []) (h1 : Res P a.tmps L r1 v1) (h2 : Res P a.tmps L r2 v2) (h3 : Res P a.tmps L r3 v3)
    (h : Own B w0 w L → R (.returned (.tuple #[v1, v2, v3])) w) (hR : Own B w0 w L) : bodyPost P fn R .ret a w := by
 refine bodyPost_ret (v := .tuple #[v1, v2, v3]) ?_ hd (h hR)
 rw [results_eq, hf]
 simp [h1.run hR, h2.run hR, h3.run hR]
end
end Go.Proofs.Ytimkhidniolpeaa
