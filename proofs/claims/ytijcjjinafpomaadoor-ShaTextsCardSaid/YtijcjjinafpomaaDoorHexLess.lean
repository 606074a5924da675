/-
  Digits' order, and a digit turned, in plain Lean.
-/
import Derived.Test.YtijcjjinafpomaaDoorSlice
namespace Go.Proofs.YtijcjjinafpomaaDoor
open Go.RowKit Go.Sl Go.Sha
set_option linter.unusedVariables false
set_option linter.unusedSimpArgs false
theorem less_bytes : ∀ (x y : List UInt8), lessB x y = Op.bytesLess x y := by
  intro x
  induction x with
  | nil => intro y; cases y <;> simp [lessB, Lib.compareBytes, Op.bytesLess]
  | cons a x ih =>
    intro y
    cases y with
    | nil => simp [lessB, Lib.compareBytes, Op.bytesLess]
    | cons b y =>
      have := ih y
      unfold lessB at this ⊢
      unfold Lib.compareBytes Op.bytesLess
      rw [← this]
      by_cases h1 : a < b
      · simp [h1]
      · by_cases h2 : b < a
        · have hne : a ≠ b := fun e => h1 (e ▸ h2)
          simp [h1, h2, hne]
        · have he : a = b := UInt8.le_antisymm (UInt8.not_lt.1 h2) (UInt8.not_lt.1 h1)
          simp [h1, h2, he]
theorem byte_lt (a b : UInt8) : a < b ↔ a.toNat < b.toNat := UInt8.lt_iff_toNat_lt
theorem less_hex : ∀ (x y : List UInt8), Op.bytesLess (hex x) (hex y) = Op.bytesLess x y := by
  intro x
  induction x with
  | nil =>
    intro y
    cases y with
    | nil => rfl
    | cons b y => rw [hex_cons]; rfl
  | cons a x ih =>
    intro y
    cases y with
    | nil => rw [hex_cons]; rfl
    | cons b y =>
      rw [hex_cons, hex_cons]
      simp only [Op.bytesLess]
      rw [ih y]
      have ha := a.toNat_lt
      have hb := b.toNat_lt
      have l1 := hexd_lt (n := a.toNat / 16) (m := b.toNat / 16) (by omega) (by omega)
      have l2 := hexd_lt (n := a.toNat % 16) (m := b.toNat % 16) (by omega) (by omega)
      have e1 : (hexd (a.toNat / 16) == hexd (b.toNat / 16)) = decide (a.toNat / 16 = b.toNat / 16) := by
        rw [Bool.eq_iff_iff]; simp only [beq_iff_eq, decide_eq_true_eq]
        exact ⟨hexd_inj (by omega) (by omega), fun e => by rw [e]⟩
      have e2 : (hexd (a.toNat % 16) == hexd (b.toNat % 16)) = decide (a.toNat % 16 = b.toNat % 16) := by
        rw [Bool.eq_iff_iff]; simp only [beq_iff_eq, decide_eq_true_eq]
        exact ⟨hexd_inj (by omega) (by omega), fun e => by rw [e]⟩
      have e3 : (a == b) = decide (a.toNat = b.toNat) := by
        rw [Bool.eq_iff_iff]; simp only [beq_iff_eq, decide_eq_true_eq]
        exact ⟨fun e => by rw [e], fun e => UInt8.toNat_inj.1 e⟩
      rw [e1, e2, e3]
      simp only [l1, l2, byte_lt]
      rw [Bool.eq_iff_iff]
      simp only [Bool.or_eq_true, Bool.and_eq_true, decide_eq_true_eq]
      generalize Op.bytesLess x y = t
      cases t <;> simp <;> omega
theorem less_text (x y : List UInt8) : Op.bytesLess (hex x) (hex y) = lessB x y := by rw [less_hex, less_bytes]
theorem hexd_digit (c : UInt8) (h : digitN c.toNat < 16) : hexd (digitN c.toNat) = c := by
  have : ∀ c : Fin 256, digitN c.val < 16 → hexd (digitN c.val) = UInt8.ofNat c.val := by decide +kernel
  have := this ⟨c.toNat, c.toNat_lt⟩ h
  simpa using this
/-- the bytes' digits are the digits -/
theorem hex_part (s : List UInt8) (h : okS s = true) : hex (part s 64) = s := by
  unfold okS at h
  rw [Bool.and_eq_true] at h
  have hl := of_decide_eq_true h.1
  have hd : ∀ i, i < 64 → dg s i < 16 := fun i hi => by simpa using (List.all_eq_true.1 h.2) i (List.mem_range.2 hi)
  have hlen : (hex (part s 64)).length = 64 := by rw [hex_length, part_length]
  apply List.ext_getElem (by rw [hlen, hl])
  intro i h1 h2
  have hi : i < 64 := by omega
  have e1 : (hex (part s 64)).getD i 0 = (hex (part s 64))[i] := by rw [List.getD_eq_getElem?_getD, List.getElem?_eq_getElem h1]; rfl
  have e2 : s.getD i 0 = s[i] := by rw [List.getD_eq_getElem?_getD, List.getElem?_eq_getElem h2]; rfl
  refine e1.symm.trans (Eq.trans ?_ e2)
  have pj : ∀ j, j < 32 → ((part s 64).getD j 0).toNat = 16 * dg s (2 * j) + dg s (2 * j + 1) := by
    intro j hj
    have hjl : j < (part s 64).length := by rw [part_length]; exact hj
    rw [List.getD_eq_getElem?_getD, List.getElem?_eq_getElem hjl, Option.getD_some]
    simp only [part, List.getElem_map, List.getElem_range]
    rw [if_pos (by omega), UInt8.toNat_ofNat']
    have := hd (2 * j) (by omega)
    have := hd (2 * j + 1) (by omega)
    omega
  rcases Nat.mod_two_eq_zero_or_one i with e | e
  · obtain ⟨j, rfl⟩ : ∃ j, i = 2 * j := ⟨i / 2, by omega⟩
    rw [hex_get0 _ j (by rw [part_length]; omega), pj j (by omega)]
    have h1 := hd (2 * j) (by omega)
    have h2 := hd (2 * j + 1) (by omega)
    rw [show (16 * dg s (2 * j) + dg s (2 * j + 1)) / 16 = dg s (2 * j) by omega]
    exact hexd_digit _ h1
  · obtain ⟨j, rfl⟩ : ∃ j, i = 2 * j + 1 := ⟨i / 2, by omega⟩
    rw [hex_get1 _ j (by rw [part_length]; omega), pj j (by omega)]
    have h1 := hd (2 * j) (by omega)
    have h2 := hd (2 * j + 1) (by omega)
    rw [show (16 * dg s (2 * j) + dg s (2 * j + 1)) % 16 = dg s (2 * j + 1) by omega]
    exact hexd_digit _ h2
/-- a text with one byte turned -/
def turned (s : List UInt8) (k : Nat) (c : UInt8) : List UInt8 := s.take k ++ [c] ++ s.drop (k + 1)
theorem turned_set (s : List UInt8) (k : Nat) (c : UInt8) (h : k < s.length) : turned s k c = s.set k c := by
  unfold turned
  rw [List.set_eq_take_append_cons_drop, if_pos h]
  simp
theorem turned_ok (a : List UInt8) (ha : a.length = 32) (k : Nat) (c : UInt8) (h : k < 64) : okS (turned (hex a) k c) = decide (digitN c.toNat < 16) := by
  have hl : (hex a).length = 64 := by rw [hex_length, ha]
  rw [turned_set _ _ _ (by omega)]
  have hok := ok_hex a ha
  unfold okS at hok ⊢
  rw [Bool.and_eq_true] at hok
  have hd : ∀ i, i < 64 → dg (hex a) i < 16 := fun i hi => by simpa using (List.all_eq_true.1 hok.2) i (List.mem_range.2 hi)
  have hdg : ∀ i, dg ((hex a).set k c) i = if i = k then digitN c.toNat else dg (hex a) i := by
    intro i
    unfold dg
    by_cases e : i = k
    · subst e
      rw [if_pos rfl, List.getD_eq_getElem?_getD, List.getElem?_set_self (by omega)]; rfl
    · rw [if_neg e, List.getD_eq_getElem?_getD, List.getElem?_set_ne (fun h => e h.symm), ← List.getD_eq_getElem?_getD]
  rw [Bool.eq_iff_iff, Bool.and_eq_true, decide_eq_true_eq, decide_eq_true_eq, List.all_eq_true]
  constructor
  · intro h2
    have := h2.2 k (List.mem_range.2 h)
    rw [hdg, if_pos rfl] at this
    simpa using this
  · intro h2
    refine ⟨by rw [List.length_set, hl], fun i hi => ?_⟩
    rw [hdg]
    split
    · simpa using h2
    · simpa using hd i (List.mem_range.1 hi)
theorem turned_same (a : List UInt8) (ha : a.length = 32) (k : Nat) (c : UInt8) (h : k < 64) (hc : digitN c.toNat < 16) : (part (turned (hex a) k c) 64 == a) = (c == (hex a).getD k 0) := by
  have hl : (hex a).length = 64 := by rw [hex_length, ha]
  have hok : okS (turned (hex a) k c) = true := by rw [turned_ok a ha k c h]; simpa using hc
  have hp := hex_part _ hok
  rw [turned_set _ _ _ (by omega)] at hp ⊢
  have hkl : k < (hex a).length := by omega
  have hg : (hex a).getD k 0 = (hex a)[k] := by rw [List.getD_eq_getElem?_getD, List.getElem?_eq_getElem hkl]; rfl
  rw [Bool.eq_iff_iff, beq_iff_eq, beq_iff_eq, hg]
  constructor
  · intro e
    rw [e] at hp
    have : ((hex a).set k c)[k]'(by rw [List.length_set]; exact hkl) = c := List.getElem_set_self _
    rw [← this]
    simp only [← hp]
  · intro e
    subst e
    rw [List.set_getElem_self, part_hex a ha]
theorem digit_16 (c : UInt8) : decide (digitN c.toNat < 16) = (decide (48 ≤ c.toNat) && decide (c.toNat ≤ 57) || decide (97 ≤ c.toNat) && decide (c.toNat ≤ 102)) := by
  have : ∀ c : Fin 256, decide (digitN c.val < 16) = (decide (48 ≤ c.val) && decide (c.val ≤ 57) || decide (97 ≤ c.val) && decide (c.val ≤ 102)) := by decide +kernel
  exact this ⟨c.toNat, c.toNat_lt⟩
end Go.Proofs.YtijcjjinafpomaaDoor
