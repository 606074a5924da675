/-
  The rule of XReg, its slots by name: no frame is reckoned at an operation.
-/
import Derived.Test.YtblknhpafifebaaDoorTail
namespace Go.Sl
open Go Go.RowKit
set_option linter.unusedVariables false
set_option linter.unusedSimpArgs false
def dstAt (ops : List Oper) (j : Nat) : Option Tmp := (ops[j]?).bind (·.dst)
theorem put_eval_ne (a : Act) (d : Option Tmp) (v : Value) (t : Tmp) (h : d ≠ some t) : (a.put d v).eval (.tmp t) = a.eval (.tmp t) := by
  cases d with
  | none => rfl
  | some d =>
    have hne : d ≠ t := fun e => h (by rw [e])
    show (a.tmps.setIfInBounds d v).getD t undef = a.tmps.getD t undef
    rw [Array.getD_eq_getD_getElem?, Array.getD_eq_getD_getElem?, Array.getElem?_setIfInBounds_ne hne]
theorem put_eval_same (a : Act) (t : Tmp) (v : Value) (h : t < a.tmps.size) : (a.put (some t) v).eval (.tmp t) = v := by
  show (a.tmps.setIfInBounds t v).getD t undef = v
  rw [Array.getD_eq_getD_getElem?, Array.getElem?_setIfInBounds_self_of_lt h]; rfl
theorem put_size (a : Act) (d : Option Tmp) (v : Value) : (a.put d v).tmps.size = a.tmps.size := by
  cases d <;> simp [Act.put]
theorem frame_out {ops : List Oper} : ∀ (a : Act) (k : Nat) (u : Nat → Value) (t : Tmp), t ∉ dsts ops → (frame a ops k u).eval (.tmp t) = a.eval (.tmp t) := by
  induction ops with
  | nil => intro a k u t _; rfl
  | cons o os ih =>
    intro a k u t h
    have h1 : o.dst ≠ some t := fun e => h (by simp [dsts, e])
    have h2 : t ∉ dsts os := fun hm => h (by simp only [dsts, List.filterMap_cons] at hm ⊢; split <;> simp_all)
    rw [frame_cons, ih _ _ _ _ h2, put_eval_ne _ _ _ _ h1]
theorem frame_in {ops : List Oper} : ∀ (a : Act) (k : Nat) (u : Nat → Value) (j : Nat) (t : Tmp), (dsts ops).Nodup → dstAt ops j = some t → t < a.tmps.size → (frame a ops k u).eval (.tmp t) = u (k + j) := by
  induction ops with
  | nil => intro a k u j t _ h; simp [dstAt] at h
  | cons o os ih =>
    intro a k u j t hn h hlt
    have hn2 : (dsts os).Nodup := by
      simp only [dsts, List.filterMap_cons] at hn ⊢
      split at hn
      · exact hn
      · exact (List.nodup_cons.1 hn).2
    cases j with
    | zero =>
      have hd : o.dst = some t := by simpa [dstAt] using h
      have hnot : t ∉ dsts os := by
        simp only [dsts, List.filterMap_cons, hd] at hn
        exact (List.nodup_cons.1 hn).1
      rw [frame_cons, frame_out _ _ _ _ hnot, hd, put_eval_same _ _ _ hlt, Nat.add_zero]
    | succ j =>
      have h' : dstAt os j = some t := by simpa [dstAt] using h
      rw [frame_cons, ih _ _ _ _ _ hn2 h' (by rw [put_size]; exact hlt), show k + 1 + j = k + (j + 1) by omega]
section
variable {P : Program} {Q : Exit → Act → World → Prop}
structure RegStep2 (P : Program) (Q : Exit → Act → World → Prop) (a : Act) (ops : List Oper) (I : (Nat → Bool) → (Nat → Value) → World → Prop) (i : Nat) (o : Oper) : Prop where
  out : o.guard = none ∧ ∀ (L : Nat → Bool) (u : Nat → Value) (w : World) (b : Act), L i = false → waits o L → Down ops L → Kept a ops L u → I L u w → (∀ j t, dstAt ops j = some t → b.eval (.tmp t) = u j) → (∀ t, (dsts ops).contains t = false → b.eval (.tmp t) = a.eval (.tmp t)) →
    o.wp P b w (fun a' w' => ∃ v, a' = b.put o.dst v ∧ I (upd L i true) (upd u i v) w') Q
def RegSteps2 (P : Program) (Q : Exit → Act → World → Prop) (a : Act) (ops : List Oper) (I : (Nat → Bool) → (Nat → Value) → World → Prop) : Nat → List Oper → Prop
  | _, [] => True
  | i, o :: os => RegStep2 P Q a ops I i o ∧ RegSteps2 P Q a ops I (i + 1) os
theorem RegSteps2.steps {a : Act} {ops : List Oper} {I : (Nat → Bool) → (Nat → Value) → World → Prop} (hn : (dsts ops).Nodup) (hsz : (dsts ops).all (fun d => decide (d < a.tmps.size)) = true) : ∀ {os : List Oper} {k : Nat}, RegSteps2 P Q a ops I k os → RegSteps P Q a ops I k os := by
  intro os
  induction os with
  | nil => intro k _; trivial
  | cons o os ih =>
    intro k h
    refine ⟨RegStep.plainU h.1.out.1 fun L u w hL hw hD hU hI b hb => ?_, ih h.2⟩
    refine h.1.out.2 L u w b hL hw hD hU hI (fun j t hj => ?_) (fun t ht => ?_)
    · have hm : t ∈ dsts ops := by
        unfold dstAt at hj
        cases ho : ops[j]? with
        | none => rw [ho] at hj; cases hj
        | some p =>
          rw [ho] at hj
          exact List.mem_filterMap.2 ⟨p, List.mem_of_getElem? ho, hj⟩
      have hlt : t < a.tmps.size := by
        rw [List.all_eq_true] at hsz
        simpa using hsz t hm
      rw [hb, frame_in a 0 u j t hn hj hlt, Nat.zero_add]
    · rw [hb, frame_out a 0 u t (by simpa using ht)]
theorem wp_region_inv2 {id : Nat} {ops : List Oper} {a : Act} {w : World} (I : (Nat → Bool) → (Nat → Value) → World → Prop) (hm : P.follows .mixedOrders = true) (hn : (dsts ops).Nodup) (hb : backB ops = true) (hsz : (dsts ops).all (fun d => decide (d < a.tmps.size)) = true)
    (h0 : ∀ u, I (fun _ => false) u w.drew) (hs : RegSteps2 P Q a ops I 0 ops)
    (hend : ∀ L u w, (∀ i, i < ops.length → L i = true) → I L u w → Q .normal (frame a ops 0 u) w) : (Code.region id ops.toArray true).wp P Q a w :=
  wp_region_inv I hm hn hb h0 (hs.steps hn hsz) hend
theorem RegStep2.plain {a : Act} {ops : List Oper} {I : (Nat → Bool) → (Nat → Value) → World → Prop} {i : Nat} {o : Oper} (hg : o.guard = none)
    (h : ∀ (L : Nat → Bool) (u : Nat → Value) (w : World) (b : Act), L i = false → waits o L → Down ops L → Kept a ops L u → I L u w → (∀ j t, dstAt ops j = some t → b.eval (.tmp t) = u j) → (∀ t, (dsts ops).contains t = false → b.eval (.tmp t) = a.eval (.tmp t)) →
    o.wp P b w (fun a' w' => ∃ v, a' = b.put o.dst v ∧ I (upd L i true) (upd u i v) w') Q) : RegStep2 P Q a ops I i o := ⟨hg, h⟩
end
end Go.Sl
