/- The small machine: append. Of whatever program. -/
import Derived.Test.YtikifgbbiffclaaVmC
namespace Go.Proofs.Ytikifgbbiffclaa
set_option linter.unusedSimpArgs false
set_option linter.unusedVariables false
open Go.RowKit

def castK : (k' k : Knd) → List k'.T → Option (List k.T)
  | .bool, .bool, xs => some xs
  | .i64, .i64, xs => some xs
  | .u64, .u64, xs => some xs
  | .vec, .vec, xs => some xs
  | .pl, .pl, xs => some xs
  | .pt, .pt, xs => some xs
  | .sh, .sh, xs => some xs
  | .cm, .cm, xs => some xs
  | .wop, .wop, xs => some xs
  | _, _, _ => none
theorem castK_eq {k' k : Knd} {xs : List k'.T} {ys : List k.T} (h : castK k' k xs = some ys) : ∃ e : k' = k, ys = e ▸ xs := by
  cases k' <;> cases k <;> simp only [castK, Option.some.injEq, reduceCtorEq] at h <;> exact ⟨rfl, h.symm⟩

/-- What is appended. -/
def newsS (k : Knd) (rows : List Row) : SV → Option (Bool × List Nat × Nat × List k.T)
  | .nils => some (true, [], 0, [])
  | .slice id st off m _ => match rows[id]? with
    | some (.vec _ k' ys) => match castK k' k ys with
      | some ys => bif Nat.beq st k.st then some (decide (off + m ≤ ys.length), [id], m, (ys.drop off).take m) else none
      | none => none
    | _ => none
  | _ => none

def appS (k : Knd) (bytes : Nat) (rows : List Row) (s x : SV) : Option Eff :=
  match newsS k rows x with
  | none => none
  | some (okx, rd, m, ys) => match s with
    | .nils => some { ok := okx && (decide (0 < m) && (decide (m ≤ 9223372036854775807) && decide (m * bytes ≤ 140737488355328))), val := .slice rows.length k.st 0 m none, rd := rd, nw := [.vec false k ys] }
    | .slice id st off len cap => match rows[id]? with
      | some (.vec false k' xs) => match castK k' k xs with
        | some xs => bif Nat.beq st k.st then some { ok := okx && (decide (off = 0) && ((decide (0 < len) || cap.isSome) && (decide (len ≤ xs.length) && (decide (len + m ≤ 9223372036854775807) && decide ((len + m) * bytes ≤ 140737488355328))))), val := .slice rows.length k.st 0 (len + m) none, rd := id :: rd, wr := [(id, .gone)], nw := [.vec false k (xs.take len ++ ys)] } else none
        | none => none
      | _ => none
    | _ => none

/-- The cells of a row. -/
def flat (k : Knd) : List k.T → List SV
  | [] => []
  | x :: xs => k.enc x ++ flat k xs

theorem Knd.st_pos (k : Knd) : 0 < k.st := by cases k <;> decide
theorem flat_len (k : Knd) : ∀ xs : List k.T, (flat k xs).length = xs.length * k.st
  | [] => by simp [flat]
  | x :: xs => by rw [flat, List.length_append, k.enc_len, flat_len k xs, List.length_cons, Nat.succ_mul]; omega
theorem flat_append (k : Knd) : ∀ xs ys : List k.T, flat k (xs ++ ys) = flat k xs ++ flat k ys
  | [], ys => rfl
  | x :: xs, ys => by rw [List.cons_append, flat, flat, flat_append k xs ys, List.append_assoc]
theorem flat_at (k : Knd) : ∀ (xs : List k.T) (i : Nat) (x : k.T) (j : Nat) (s : SV), xs[i]? = some x → (k.enc x)[j]? = some s → (flat k xs)[i * k.st + j]? = some s
  | [], i, x, j, s, h, _ => by simp at h
  | x0 :: xs, 0, x, j, s, h, hs => by
    simp at h
    subst h
    have hj := (List.getElem?_eq_some_iff.1 hs).1
    rw [flat, Nat.zero_mul, Nat.zero_add, List.getElem?_append_left hj, hs]
  | x0 :: xs, i + 1, x, j, s, h, hs => by
    have := flat_at k xs i x j s (by simpa using h) hs
    rw [flat, List.getElem?_append_right (by rw [k.enc_len, Nat.succ_mul]; omega), k.enc_len, Nat.succ_mul, show i * k.st + k.st + j - k.st = i * k.st + j by omega]
    exact this
theorem flat_get (k : Knd) (xs : List k.T) (q : Nat) (s : SV) (h : (flat k xs)[q]? = some s) : ∃ i j x, q = i * k.st + j ∧ j < k.st ∧ xs[i]? = some x ∧ (k.enc x)[j]? = some s := by
  have hq := (List.getElem?_eq_some_iff.1 h).1
  rw [flat_len] at hq
  have hst := k.st_pos
  have hi : q / k.st < xs.length := Nat.div_lt_of_lt_mul (by rw [Nat.mul_comm]; exact hq)
  have hj := Nat.mod_lt q hst
  have he : q = q / k.st * k.st + q % k.st := by rw [Nat.mul_comm]; exact (Nat.div_add_mod q k.st).symm
  obtain ⟨x0, hx0⟩ : ∃ x0, xs[q / k.st]? = some x0 := ⟨_, List.getElem?_eq_getElem hi⟩
  obtain ⟨s', hs'⟩ : ∃ s', (k.enc x0)[q % k.st]? = some s' := ⟨_, List.getElem?_eq_getElem (by rw [k.enc_len]; exact hj)⟩
  refine ⟨q / k.st, q % k.st, x0, he, hj, hx0, ?_⟩
  have := flat_at k xs _ _ _ _ hx0 hs'
  rw [← he, h] at this
  rw [hs', this]
theorem flat_dat (k : Knd) (xs : List k.T) : ∀ s ∈ flat k xs, s.isDat = true := by
  intro s hs
  obtain ⟨q, hq⟩ := List.getElem?_of_mem hs
  obtain ⟨i, j, x, _, _, _, h⟩ := flat_get k xs q s hq
  exact k.enc_dat _ s (List.mem_of_getElem? h)

theorem dval_one {s : SV} (h : s.isDat = true) : (dval s).oneCell' = true := by cases s <;> simp_all [SV.isDat, dval, Value.oneCell']

theorem rowAt_flat {ρ : Rho} {id : Nat} {k : Knd} {zs : List k.T} {w : World} {p : Plc} {vs : List Value} {ty : TypeId} (hp : ρ id = some p) (hm : p.mine = true) (hb : p.base = 0) (hh : w.heap[p.b]? = some (.cells vs.toArray ty (0, 0))) (hs : vs.length = p.size)
    (ht : vs.take (zs.length * k.st) = (flat k zs).map dval) : RowAt ρ id (.vec false k zs) w := by
  have hl : zs.length * k.st ≤ vs.length := by
    have := congrArg List.length ht
    rw [List.length_take, List.length_map, flat_len] at this
    omega
  refine .inr ⟨p, hp, fun h => (by cases h), fun _ => ⟨hm, hb, vs, ty, hh, hl, hs⟩, fun i x hx j s hs' => ?_⟩
  have h1 := flat_at k zs i x j s hx hs'
  have h2 : ((flat k zs).map dval)[i * k.st + j]? = some (dval s) := by rw [List.getElem?_map, h1]; rfl
  rw [← ht] at h2
  have h3 := (List.getElem?_eq_some_iff.1 h2).1
  rw [List.length_take] at h3
  rw [List.getElem?_take_of_lt (by omega)] at h2
  rw [hb, cell_of_row w p.b _ _ ty _ hh, Nat.zero_add]
  simpa using h2

theorem vec_cells {k : Knd} {xs : List k.T} {w : World} {b base : Nat} (h : ∀ (i : Nat) (x : k.T), xs[i]? = some x → ∀ (j : Nat) (s : SV), (k.enc x)[j]? = some s → w.cell? ⟨b, base + i * k.st + j, none⟩ = some (dval s)) (off m : Nat) :
    ∀ q v, ((flat k ((xs.drop off).take m)).map dval)[q]? = some v → w.cell? ⟨b, base + off * k.st + q, none⟩ = some v := by
  intro q v hv
  rw [List.getElem?_map] at hv
  cases hf : (flat k ((xs.drop off).take m))[q]? with
  | none => simp [hf] at hv
  | some s =>
    simp [hf] at hv
    subst hv
    obtain ⟨i, j, x, rfl, _, hx, hs⟩ := flat_get k _ q s hf
    have hi : i < m := by
      have := (List.getElem?_eq_some_iff.1 hx).1
      rw [List.length_take] at this
      omega
    rw [List.getElem?_take_of_lt hi, List.getElem?_drop] at hx
    have := h _ x hx j s hs
    rw [Nat.add_mul] at this
    rw [show base + off * k.st + (i * k.st + j) = base + (off * k.st + i * k.st) + j by omega]
    exact this

end Go.Proofs.Ytikifgbbiffclaa
