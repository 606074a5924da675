/-
  Digits and sums, in plain Lean.
-/
import Derived.Test.YtijcjjinafpomaaDoorRefParse
import Derived.Test.YtijcjjinafpomaaDoorReg3
namespace Go.Proofs.YtijcjjinafpomaaDoor
open Go.RowKit Go.Sl Go.Sha
set_option linter.unusedVariables false
set_option linter.unusedSimpArgs false
theorem digit_hexd (n : Nat) (h : n < 16) : digitN (hexd n).toNat = n := by
  have : ∀ n : Fin 16, digitN (hexd n.val).toNat = n.val := by decide
  exact this ⟨n, h⟩
theorem hexd_inj {n m : Nat} (h : n < 16) (h' : m < 16) (e : hexd n = hexd m) : n = m := by
  rw [← digit_hexd n h, e, digit_hexd m h']
theorem hexd_lt {n m : Nat} (h : n < 16) (h' : m < 16) : hexd n < hexd m ↔ n < m := by
  have : ∀ n m : Fin 16, hexd n.val < hexd m.val ↔ n.val < m.val := by decide
  exact this ⟨n, h⟩ ⟨m, h'⟩
theorem hex_cons (c : UInt8) (l : List UInt8) : hex (c :: l) = hexd (c.toNat / 16) :: hexd (c.toNat % 16) :: hex l := by simp [hex]
theorem hex_get0 : ∀ (x : List UInt8) (j : Nat), j < x.length → (hex x).getD (2 * j) 0 = hexd ((x.getD j 0).toNat / 16) := by
  intro x
  induction x with
  | nil => intro j h; simp at h
  | cons c x ih =>
    intro j h
    rw [hex_cons]
    cases j with
    | zero => rfl
    | succ j =>
      rw [show 2 * (j + 1) = 2 * j + 1 + 1 by omega, List.getD_cons_succ, List.getD_cons_succ, List.getD_cons_succ]
      exact ih j (by simpa using h)
theorem hex_get1 : ∀ (x : List UInt8) (j : Nat), j < x.length → (hex x).getD (2 * j + 1) 0 = hexd ((x.getD j 0).toNat % 16) := by
  intro x
  induction x with
  | nil => intro j h; simp at h
  | cons c x ih =>
    intro j h
    rw [hex_cons]
    cases j with
    | zero => rfl
    | succ j =>
      rw [show 2 * (j + 1) + 1 = (2 * j + 1) + 1 + 1 by omega, List.getD_cons_succ, List.getD_cons_succ, List.getD_cons_succ]
      exact ih j (by simpa using h)
theorem dg_hex0 (x : List UInt8) (j : Nat) (h : j < x.length) : dg (hex x) (2 * j) = (x.getD j 0).toNat / 16 := by
  unfold dg
  rw [hex_get0 x j h, digit_hexd _ (by have := (x.getD j 0).toNat_lt; omega)]
theorem dg_hex1 (x : List UInt8) (j : Nat) (h : j < x.length) : dg (hex x) (2 * j + 1) = (x.getD j 0).toNat % 16 := by
  unfold dg
  rw [hex_get1 x j h, digit_hexd _ (by omega)]
theorem ok_hex (x : List UInt8) (h : x.length = 32) : okS (hex x) = true := by
  unfold okS
  rw [Bool.and_eq_true]
  refine ⟨by rw [hex_length, h]; rfl, List.all_eq_true.2 fun i hi => ?_⟩
  have hi := List.mem_range.1 hi
  refine decide_eq_true ?_
  rcases Nat.mod_two_eq_zero_or_one i with e | e
  · rw [show i = 2 * (i / 2) by omega, dg_hex0 x _ (by omega)]
    have := (x.getD (i / 2) 0).toNat_lt; omega
  · rw [show i = 2 * (i / 2) + 1 by omega, dg_hex1 x _ (by omega)]
    omega
theorem part_hex (x : List UInt8) (h : x.length = 32) : part (hex x) 64 = x := by
  apply List.ext_getElem
  · rw [part_length, h]
  · intro j h1 h2
    simp only [part, List.getElem_map, List.getElem_range]
    rw [if_pos (by omega), dg_hex0 x j h2, dg_hex1 x j h2]
    have : x.getD j 0 = x[j] := by rw [List.getD_eq_getElem?_getD, List.getElem?_eq_getElem h2]; rfl
    rw [this, Nat.div_add_mod]
    simp
theorem parse_hex (x : List UInt8) (h : x.length = 32) : parseV (hex x) = .tuple #[.agg (bcells x).toArray, .int .i64 0] := by
  rw [parse_yes (ok_hex x h), part_hex x h]
theorem hex_inj : ∀ (x y : List UInt8), hex x = hex y → x = y := by
  intro x
  induction x with
  | nil =>
    intro y e
    cases y with
    | nil => rfl
    | cons d y => rw [hex_cons] at e; cases e
  | cons c x ih =>
    intro y e
    cases y with
    | nil => rw [hex_cons] at e; cases e
    | cons d y =>
      rw [hex_cons, hex_cons] at e
      injection e with e1 e
      injection e with e2 e
      have hc := c.toNat_lt
      have hd := d.toNat_lt
      have e1 := hexd_inj (by omega) (by omega) e1
      have e2 := hexd_inj (by omega) (by omega) e2
      rw [ih y e, UInt8.toNat_inj.1 (show c.toNat = d.toNat by omega)]
theorem hex_eq (x y : List UInt8) : (hex x == hex y) = (x == y) := by
  rw [Bool.eq_iff_iff, beq_iff_eq, beq_iff_eq]
  exact ⟨hex_inj x y, fun e => by rw [e]⟩
end Go.Proofs.YtijcjjinafpomaaDoor
