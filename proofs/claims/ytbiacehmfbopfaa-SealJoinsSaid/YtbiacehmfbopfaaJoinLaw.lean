/-
  Chains of which a bit is turned, in plain Lean.
-/
import Derived.Test.YtbiacehmfbopfaaSealCuts
import Derived.Test.YtbiacehmfbopfaaSealSums
namespace Go.Proofs.Ytbiacehmfbopfaa
open Go.RowKit Go.Sl Go.Crc
set_option linter.unusedVariables false
set_option linter.unusedSimpArgs false
theorem pre_ends : ∀ (n : Nat) (l : List UInt8), l.length ≤ n → ∃ rows left, Pre l rows left ∧ parse1 left = none := by
  intro n
  induction n with
  | zero => intro l h; obtain rfl : l = [] := List.length_eq_zero_iff.mp (by omega); exact ⟨[], [], rfl, parse_nil⟩
  | succ n ih =>
    intro l h
    cases hp : parse1 l with
    | none => exact ⟨[], l, rfl, hp⟩
    | some xq =>
      obtain ⟨x, q⟩ := xq
      have := parse1_len hp
      obtain ⟨rows, left, h1, h2⟩ := ih q (by omega)
      exact ⟨x :: rows, left, ⟨q, hp, h1⟩, h2⟩
theorem pre_chain : ∀ (ls : List (List UInt8)) (X : List UInt8) (rows : List (List UInt8)) (left : List UInt8), (∀ r ∈ ls, r.length < 4294967296) → Pre X rows left → Pre (chainB ls ++ X) (ls ++ rows) left := by
  intro ls
  induction ls with
  | nil => intro X rows left _ h; simpa [chainB] using h
  | cons r ls ih =>
    intro X rows left hr h
    rw [chainB_cons, List.append_assoc]
    exact ⟨chainB ls ++ X, parse_link r _ (hr r (by simp)), ih X rows left (fun x hx => hr x (by simp [hx])) h⟩
theorem flip_right (a b : List UInt8) (i : Nat) : flip (a ++ b) (8 * a.length + i) = a ++ flip b i := by
  unfold flip
  rw [show (8 * a.length + i) / 8 = a.length + i / 8 by omega, show (8 * a.length + i) % 8 = i % 8 by omega, List.set_append_right _ _ (by omega), Nat.add_sub_cancel_left]
  rw [List.getD_eq_getElem?_getD, List.getElem?_append_right (by omega), Nat.add_sub_cancel_left, ← List.getD_eq_getElem?_getD]
theorem flip_left (a b : List UInt8) (i : Nat) (h : i < 8 * a.length) : flip (a ++ b) i = flip a i ++ b := by
  unfold flip
  rw [List.set_append_left _ _ (by omega), List.getD_eq_getElem?_getD, List.getElem?_append_left (by omega), ← List.getD_eq_getElem?_getD]
theorem xor_cancel (s t c : UInt32) (h : s ^^^ c = t ^^^ c) : s = t := by
  have h2 : (s ^^^ c) ^^^ c = (t ^^^ c) ^^^ c := by rw [h]
  rwa [UInt32.xor_assoc, UInt32.xor_assoc, UInt32.xor_self, UInt32.xor_zero, UInt32.xor_zero] at h2
theorem crcS_inj : ∀ (l : List UInt8) (s t : UInt32), crcS s l = crcS t l → s = t := by
  intro l
  induction l with
  | nil => intro s t h; exact h
  | cons c l ih =>
    intro s t h
    have h2 : byteC s c = byteC t c := ih _ _ h
    unfold byteC at h2
    exact xor_cancel _ _ _ (run_inj 8 _ _ h2)
theorem bit_ne : ∀ j : Fin 8, ∀ c : Fin 256, (UInt8.ofNat c.val ^^^ ((1 : UInt8) <<< UInt8.ofNat j.val)).toNat ≠ (UInt8.ofNat c.val).toNat := by decide +kernel
theorem crcS_flip : ∀ (l : List UInt8) (s : UInt32) (i : Nat), i < 8 * l.length → crcS s (flip l i) ≠ crcS s l := by
  intro l
  induction l with
  | nil => intro s i h; simp at h
  | cons c l ih =>
    intro s i h
    by_cases hi : i < 8
    · have e : flip (c :: l) i = (c ^^^ ((1 : UInt8) <<< UInt8.ofNat (i % 8))) :: l := by
        unfold flip
        rw [show i / 8 = 0 by omega]; rfl
      rw [e]
      intro h2
      have h3 : byteC s (c ^^^ ((1 : UInt8) <<< UInt8.ofNat (i % 8))) = byteC s c := crcS_inj l _ _ h2
      unfold byteC at h3
      have h4 := run_inj 8 _ _ h3
      rw [UInt32.xor_comm s, UInt32.xor_comm s] at h4
      have h5 := congrArg UInt32.toNat (xor_cancel _ _ _ h4)
      have h6 := bit_ne ⟨i % 8, by omega⟩ ⟨c.toNat, c.toNat_lt⟩
      have e8 : UInt8.ofNat c.toNat = c := by simp
      dsimp only at h6
      rw [e8] at h6
      rw [UInt8.toNat_toUInt32, UInt8.toNat_toUInt32] at h5
      exact h6 h5
    · have e : flip (c :: l) i = c :: flip l (i - 8) := by
        have := flip_right [c] l (i - 8)
        rw [show 8 * [c].length + (i - 8) = i by simp; omega] at this
        exact this
      rw [e]
      exact ih _ _ (by simp only [List.length_cons] at h; omega)
theorem le_unle4 (L : List UInt8) (h : L.length = 4) : le (unle L) 4 = L := by
  match L, h with
  | [a, b, c, d], _ =>
    have ha := a.toNat_lt
    have hb := b.toNat_lt
    have hc := c.toNat_lt
    have hd := d.toNat_lt
    have e : le (unle [a, b, c, d]) 4 = [UInt8.ofNat (unle [a, b, c, d] / 256 ^ 0), UInt8.ofNat (unle [a, b, c, d] / 256 ^ 1), UInt8.ofNat (unle [a, b, c, d] / 256 ^ 2), UInt8.ofNat (unle [a, b, c, d] / 256 ^ 3)] := rfl
    rw [e]
    have f : ∀ (n : Nat) (x : UInt8), n % 256 = x.toNat → UInt8.ofNat n = x := fun n x h => by
      apply UInt8.toNat_inj.mp
      rw [UInt8.toNat_ofNat', ← h]
    rw [f _ a (by simp only [unle]; omega), f _ b (by simp only [unle]; omega), f _ c (by simp only [unle]; omega), f _ d (by simp only [unle]; omega)]
/-- with a bit of the sum, or of the bytes, turned a row is not parsed -/
theorem parse_bad (r t : List UInt8) (i : Nat) (hr : r.length < 4294967296) (h32 : 32 ≤ i) (hi : i < 8 * (r.length + 8)) : parse1 (flip (linkB r ++ t) i) = none := by
  obtain ⟨X, hX⟩ : ∃ X, X = crc (le r.length 4 ++ r) := ⟨_, rfl⟩
  have e : linkB r ++ t = le r.length 4 ++ (le X.toNat 4 ++ (r ++ t)) := by unfold linkB; rw [← hX]; simp only [List.append_assoc]
  have e2 : flip (linkB r ++ t) i = le r.length 4 ++ flip (le X.toNat 4 ++ (r ++ t)) (i - 32) := by
    rw [e, ← flip_right, le_length, show 8 * 4 + (i - 32) = i by omega]
  have hlen : (flip (linkB r ++ t) i).length = r.length + 8 + t.length := by rw [flip_length, List.length_append, linkB_length]
  have h1 : (flip (linkB r ++ t) i).take 4 = le r.length 4 := by rw [e2]; exact take4 [] _ _
  have h2 : (flip (linkB r ++ t) i).drop 4 = flip (le X.toNat 4 ++ (r ++ t)) (i - 32) := by rw [e2]; exact drop4 _ _
  unfold parse1
  rw [if_neg (by omega), h1, unle4 _ hr, if_neg (by rw [List.length_drop]; omega), h2]
  refine if_neg ?_
  by_cases h64 : i < 64
  · have h3 : flip (le X.toNat 4 ++ (r ++ t)) (i - 32) = flip (le X.toNat 4) (i - 32) ++ (r ++ t) := flip_left _ _ _ (by rw [le_length]; omega)
    have hl4 : (flip (le X.toNat 4) (i - 32)).length = 4 := by rw [flip_length, le_length]
    have h4 : (flip (linkB r ++ t) i).drop 8 = r ++ t := by
      rw [show 8 = 4 + 4 from rfl, ← List.drop_drop, h2, h3, List.drop_left' hl4]
    rw [h4, h3, List.take_left' hl4, List.take_left' rfl, ← hX]
    intro hh
    have h5 := le_unle4 _ hl4
    rw [← hh] at h5
    exact crcS_flip (le X.toNat 4) 0 (i - 32) (by rw [le_length]; omega) (by rw [← h5])
  · have h3 : flip (le X.toNat 4 ++ (r ++ t)) (i - 32) = le X.toNat 4 ++ (flip r (i - 64) ++ t) := by
      rw [← flip_left r t (i - 64) (by omega), ← flip_right, le_length, show 8 * 4 + (i - 64) = i - 32 by omega]
    have h4 : (flip (linkB r ++ t) i).drop 8 = flip r (i - 64) ++ t := by
      rw [show 8 = 4 + 4 from rfl, ← List.drop_drop, h2, h3]; exact drop4 _ _
    rw [h4, h3, take4 [], unle4 _ X.toNat_lt, List.take_left' (flip_length _ _)]
    intro hh
    have h5 := UInt32.toNat_inj.mp hh
    rw [hX] at h5
    have h6 := not_inj _ _ h5
    rw [crcS_append, crcS_append] at h6
    exact crcS_flip r _ (i - 64) (by omega) h6
/-- a chain of which a bit is turned -/
theorem join_law (ls : List (List UInt8)) (z : Nat) (hr : ∀ r ∈ ls, r.length < 4294967296) (hz : z < 8 * (chainB ls).length) :
    fit ls (z / 8) < ls.length ∧ ∃ rows left, Pre (flip (chainB ls) z) rows left ∧ parse1 left = none ∧ fit ls (z / 8) ≤ rows.length ∧ rows.take (fit ls (z / 8)) = ls.take (fit ls (z / 8)) ∧
      ((chainB (ls.take (fit ls (z / 8)))).length + 4 ≤ z / 8 → rows = ls.take (fit ls (z / 8)) ∧ left.length = (chainB ls).length - (chainB (ls.take (fit ls (z / 8)))).length) := by
  obtain ⟨n, hn⟩ : ∃ n, n = fit ls (z / 8) := ⟨_, rfl⟩
  have h1 := fit_le ls (z / 8)
  have h2 := fit_pre ls (z / 8)
  rw [← hn] at h1 h2 ⊢
  have hlt : n < ls.length := by
    rcases Nat.lt_or_ge n ls.length with h | h
    · exact h
    · rw [List.take_of_length_le h] at h2; omega
  refine ⟨hlt, ?_⟩
  have hx : z / 8 < (chainB (ls.take (n + 1))).length := by
    rcases Nat.lt_or_ge (z / 8) (chainB (ls.take (n + 1))).length with h | h
    · exact h
    · have := fit_max ls (z / 8) (n + 1) (by omega) h
      omega
  rw [chain_take_succ ls n hlt] at hx
  have e : chainB ls = chainB (ls.take n) ++ (linkB ls[n] ++ chainB (ls.drop (n + 1))) := by
    rw [← chainB_cons, ← List.drop_eq_getElem_cons hlt, ← chainB_append, List.take_append_drop]
  obtain ⟨E, hE⟩ : ∃ E, E = (chainB (ls.take n)).length := ⟨_, rfl⟩
  rw [← hE] at h2 hx
  have e2 : flip (chainB ls) z = chainB (ls.take n) ++ flip (linkB ls[n] ++ chainB (ls.drop (n + 1))) (z - 8 * E) := by
    rw [← flip_right, ← e, ← hE, show 8 * E + (z - 8 * E) = z by omega]
  have hrt : ∀ r ∈ ls.take n, r.length < 4294967296 := fun r h => hr r (List.mem_of_mem_take h)
  have hln : (ls.take n).length = n := by rw [List.length_take]; omega
  by_cases h4 : E + 4 ≤ z / 8
  · have hb := parse_bad ls[n] (chainB (ls.drop (n + 1))) (z - 8 * E) (hr _ (List.getElem_mem hlt)) (by omega) (by omega)
    refine ⟨ls.take n, _, ?_, hb, by omega, by rw [List.take_take, Nat.min_self], fun _ => ⟨rfl, ?_⟩⟩
    · rw [e2]
      have := pre_chain (ls.take n) (flip (linkB ls[n] ++ chainB (ls.drop (n + 1))) (z - 8 * E)) [] _ hrt rfl
      rwa [List.append_nil] at this
    · have e3 := congrArg List.length e
      rw [List.length_append, ← hE] at e3
      rw [flip_length, ← hE]; omega
  · obtain ⟨rows, left, hp, hn2⟩ := pre_ends _ (flip (linkB ls[n] ++ chainB (ls.drop (n + 1))) (z - 8 * E)) (Nat.le_refl _)
    refine ⟨ls.take n ++ rows, left, ?_, hn2, by rw [List.length_append]; omega, by rw [List.take_left' hln], fun h => by rw [← hE] at h; omega⟩
    rw [e2]
    exact pre_chain _ _ _ _ hrt hp
theorem seesl_parts {st : World} {R : HProp} {v : Value} {ls : List (List UInt8)} (h : SeesL st R v ls) (w : World) (hw : Has st R w) : ∃ vs, vs.length = ls.length ∧ (∀ u ∈ vs, u.oneCell' = true) ∧ Sees st R 1 v ls.length vs ∧ ∀ (i : Nat) (h : i < ls.length), ∃ A c, vs[i]? = some (.slice A (ls[i]).length c) ∧ Sees st R 1 (.slice A (ls[i]).length c) (ls[i]).length (bcells ls[i]) := by
  obtain ⟨vs, h1, h2⟩ := h
  have hl : vs.length = ls.length := by have := (h1 w hw).1; omega
  refine ⟨vs, hl, fun u hu => ?_, h1, h2⟩
  obtain ⟨i, hi, rfl⟩ := List.mem_iff_getElem.mp hu
  obtain ⟨A, c, e, _⟩ := h2 i (by omega)
  rw [List.getElem?_eq_getElem hi] at e
  rw [Option.some.inj e]; rfl
theorem seesl_join {st : World} {R F : HProp} {v : Value} {la lb : List (List UInt8)} {va vb : List Value} (hla : va.length = la.length)
    (ha : ∀ (i : Nat) (h : i < la.length), ∃ A c, va[i]? = some (.slice A (la[i]).length c) ∧ Sees st R 1 (.slice A (la[i]).length c) (la[i]).length (bcells la[i]))
    (hb : ∀ (i : Nat) (h : i < lb.length), ∃ A c, vb[i]? = some (.slice A (lb[i]).length c) ∧ Sees st R 1 (.slice A (lb[i]).length c) (lb[i]).length (bcells lb[i]))
    (hU : ∀ w, Has st F w → Has st R w) (hv : Sees st F 1 v (la ++ lb).length (va ++ vb)) : SeesL st F v (la ++ lb) := by
  refine ⟨va ++ vb, hv, fun i hi => ?_⟩
  by_cases h : i < la.length
  · obtain ⟨A, c, e, s⟩ := ha i h
    rw [List.getElem_append_left h]
    exact ⟨A, c, by rw [List.getElem?_append_left (by omega)]; exact e, s.widen hU⟩
  · rw [List.length_append] at hi
    obtain ⟨A, c, e, s⟩ := hb (i - la.length) (by omega)
    rw [List.getElem_append_right (by omega)]
    exact ⟨A, c, by rw [List.getElem?_append_right (by omega), hla]; exact e, s.widen hU⟩
end Go.Proofs.Ytbiacehmfbopfaa
