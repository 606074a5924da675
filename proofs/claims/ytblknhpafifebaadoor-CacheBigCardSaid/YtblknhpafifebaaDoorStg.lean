/-
  Stages of a piece within a region that draws its order; literals of elements of several cells. No program in sight.
-/
import Derived.Test.YtblknhpafifebaaDoorRowN
import Derived.Test.YtblknhpafifebaaDoorReg3
namespace Go.Sl
open Go Go.RowKit
set_option linter.unusedVariables false
set_option linter.unusedSimpArgs false

/-- a piece: P once b is done, else Q -/
def stg (b : Bool) (P Q : HProp) : HProp := if b then P else Q
section
variable {st : World} {R P Q : HProp} {w : World} {b : Bool}
theorem Has.stg_no (h : Has st (sep (stg b P Q) R) w) (hb : b = false) : Has st (sep Q R) w := by subst hb; exact h
theorem Has.stg_yes (h : Has st (sep (stg b P Q) R) w) (hb : b = true) : Has st (sep P R) w := by subst hb; exact h
theorem Has.stg_mk (h : Has st (sep P R) w) : Has st (sep (stg true P Q) R) w := h
theorem Has.stg_start (h : Has st (sep Q R) w) : Has st (sep (stg false P Q) R) w := h
theorem Has.stg_false (h : Has st (sep Q R) w) (hb : b = false) : Has st (sep (stg b P Q) R) w := by subst hb; exact h
theorem stg_eq (hb : b = false) (P P' : HProp) {Q : HProp} : stg b P Q = stg b P' Q := by subst hb; rfl
theorem stg_true (P Q : HProp) : stg true P Q = P := rfl
theorem stg_no (P Q : HProp) : stg false P Q = Q := rfl
theorem stg_off (hb : b = false) (P Q : HProp) : stg b P Q = Q := by subst hb; rfl
theorem stg_on (hb : b = true) (P Q : HProp) : stg b P Q = P := by subst hb; rfl
theorem Has.noEmp (h : Has st (sep emp R) w) : Has st R w := h.right
theorem row_one {E : TypeId} {size : Nat} {v : Value} {n : Nat} {xs : List Value} (h : Has st (sep (row E size v n xs) R) w) : v.oneCell' = true := by
  obtain ⟨A, c, rfl⟩ := h.row_slice; rfl
end
theorem Down.yes {ops : List Oper} {L : Nat → Bool} (h : Down ops L) (f j k : Nat) (hj : L j = true) (hn : needs ops f j k = true) : L k = true := by
  cases hk : L k with
  | true => rfl
  | false => rw [h.nots f j k hk hn] at hj; cases hj
theorem waits.far {ops : List Oper} {L : Nat → Bool} {i : Nat} {o : Oper} (hW : waits o L) (hD : Down ops L) (ho : ops[i]? = some o) (f k : Nat) (hn : needs ops (f + 1) i k = true) : L k = true := by
  unfold needs at hn
  rw [ho] at hn
  simp only [List.any_eq_true, Bool.or_eq_true, beq_iff_eq] at hn
  obtain ⟨e, he, hj⟩ := hn
  have hLe := hW e he
  rcases hj with hj | hj
  · rwa [hj] at hLe
  · exact hD.yes f e.on k hLe hj

theorem fold_set (off : Nat) : ∀ (l : List Value) (k : Nat) (cs : Array Value), off + k + l.length ≤ cs.size →
    (l.zipIdx k).foldl (fun (cs : Array Value) (p : Value × Nat) => cs.setIfInBounds (off + p.2) p.1) cs = (cs.toList.take (off + k) ++ l ++ cs.toList.drop (off + k + l.length)).toArray
  | [], k, cs, _ => by simp
  | x :: l, k, cs, h => by
    simp only [List.length_cons] at h
    rw [List.zipIdx_cons, List.foldl_cons, fold_set off l (k + 1) _ (by rw [Array.size_setIfInBounds]; omega)]
    simp only [Array.toList_setIfInBounds, List.length_cons]
    have hl : off + k < cs.toList.length := by rw [Array.length_toList]; omega
    congr 1
    rw [show off + (k + 1) = off + k + 1 by omega, List.take_succ_eq_append_getElem (by rw [List.length_set]; exact hl), List.take_set_of_le (Nat.le_refl _), List.getElem_set_self, List.drop_set_of_lt (by omega), show off + k + 1 + l.length = off + k + (l.length + 1) by omega]
    simp
theorem fill_cons (place : Nat → Option (Nat × Nat)) (cells : Array Value) (i off size : Nat) (v : Value) (rest : List (Nat × Value)) (hp : place i = some (off, size)) (hv : v.cells.size = size) (hc : off + size ≤ cells.size) :
    Instr.fill place cells ((i, v) :: rest) = Instr.fill place (cells.toList.take off ++ v.cells.toList ++ cells.toList.drop (off + size)).toArray rest := by
  rw [Instr.fill, hp]
  simp only [hv, ne_eq, not_true_eq_false, false_or]
  rw [if_neg (by simp; omega)]
  congr 1
  have := fold_set off v.cells.toList 0 cells (by simp [hv]; omega)
  simp only [Nat.add_zero, Array.length_toList, hv] at this
  rw [← this, ← Array.foldl_toList, Array.toList_zipIdx]
section
variable {P : Program} {o : Oper} {a : Act} {w : World} {K : Act → World → Prop} {Q : Exit → Act → World → Prop} {st : World}
/-- an empty literal, as a row of one's own -/
theorem opw_row0 (t E : TypeId) (size : Nat) (ho : o.op = .buildSlice t 0 #[]) (ht : P.underlying t = some (.slice E)) (hs : (P.info? E).map (·.size) = some size) {R : HProp} (h : Has st R w)
    (hK : ∀ v w', Has st (sep (row E size v 0 []) R) w' → K (a.put o.dst v) w') : o.wp P a w K Q := by
  obtain ⟨i, hi0, hi1⟩ : ∃ i, P.info? E = some i ∧ i.size = size := by
    cases hp : P.info? E with
    | none => rw [hp] at hs; cases hs
    | some i => rw [hp] at hs; simp at hs; exact ⟨i, rfl, hs⟩
  have := hK (.slice (some ⟨w.heap.size, 0, none⟩) 0 0) _ (h.row_empty E size)
  unfold Oper.wp execOp
  simp [ho, Instr.buildSlice, Sem.run_bind, run_underlying ht, sizeOf, typeInfo, hi0, go_sem, Result.andThen, newVar, Instr.fill]
  exact this
/-- a literal of one element, as a row of one's own -/
theorem opw_row1 (t E : TypeId) (size : Nat) (z : Value) (x : Operand) (val : Value) (xs : List Value) (ho : o.op = .buildSlice t 1 #[(0, x)]) (ht : P.underlying t = some (.slice E)) (hi : (P.info? E).map (fun i => (i.zero, i.size)) = some (some z, size))
    (hz : z.cells.size = size) (h0 : 0 < size) (hsm : size ≤ 1000) (hx : a.eval x = val) (hv : val.cells = xs.toArray) (hl : xs.length = size) {R : HProp} (h : Has st R w)
    (hK : ∀ v w', Has st (sep (row E size v 1 xs) R) w' → K (a.put o.dst v) w') : o.wp P a w K Q := by
  obtain ⟨i, hi0, hi1, hi2⟩ : ∃ i, P.info? E = some i ∧ i.zero = some z ∧ i.size = size := by
    cases hp : P.info? E with
    | none => rw [hp] at hi; cases hi
    | some i => rw [hp] at hi; simp at hi; exact ⟨i, rfl, hi⟩
  refine opw_lit t 1 [(0, x)] [(0, val)] E xs.toArray ho (by simp [hx]) ?_ h (fun q w' h' => hK _ w' (h'.row_of_blk size 1 1 (Nat.le_refl _) (by decide) (by simp [hl]) (by simp [hl, List.take_of_length_le])))
  unfold litCells
  simp only [ht, hi0, hi1, hi2, Nat.one_mul]
  rw [if_neg (by omega), if_neg (by omega), fill_cons _ _ 0 0 size val [] (by simp) (by rw [hv]; simp [hl]) (by simp)]
  simp [Instr.fill, hv]
end
/-- where a struct's fields lie, and its zero value -/
def layout (P : Program) (t : TypeId) : Option (List (Nat × Nat) × Array Value) :=
  match P.info? t, P.underlying t with
  | some it, some (.struct fields) =>
    match it.zero, fields.toList.mapM (fun f => (P.info? f.type).map fun i => (f.offset, i.size)) with
    | some z, some places => some (places, z.cells)
    | _, _ => none
  | _, _ => none
theorem built_of {P : Program} {t : TypeId} {pl : List (Nat × Nat)} {z : Array Value} (h : layout P t = some (pl, z)) (parts : List (Nat × Value)) : P.built t parts = Instr.fill (pl.toArray[·]?) z parts := by
  unfold layout at h
  unfold Program.built
  cases hi : P.info? t with
  | none => simp [hi] at h
  | some it =>
    cases hu : P.underlying t with
    | none => simp [hi, hu] at h
    | some d =>
      cases d <;> simp only [hi, hu] at h ⊢ <;> try (cases h; done)
      split at h
      · rename_i z' pl' h1 h2
        injection h with h
        injection h with h3 h4
        subst h3 h4
        simp only [h1, h2]
      · cases h
end Go.Sl
