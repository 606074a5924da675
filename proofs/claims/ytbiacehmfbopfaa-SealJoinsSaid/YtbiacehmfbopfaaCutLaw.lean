/-
  Chains that are cut, in plain Lean.
-/
import Derived.Test.YtbiacehmfbopfaaSealLaw
namespace Go.Proofs.Ytbiacehmfbopfaa
open Go.RowKit Go.Sl Go.Crc
set_option linter.unusedVariables false
set_option linter.unusedSimpArgs false
theorem unle4 (n : Nat) (h : n < 4294967296) : unle (le n 4) = n := by
  have e : le n 4 = [UInt8.ofNat (n / 256 ^ 0), UInt8.ofNat (n / 256 ^ 1), UInt8.ofNat (n / 256 ^ 2), UInt8.ofNat (n / 256 ^ 3)] := rfl
  rw [e]
  simp only [unle, UInt8.toNat_ofNat']
  omega
theorem take4 (l : List UInt8) (n : Nat) (t : List UInt8) : (le n 4 ++ t).take 4 = le n 4 := by
  rw [List.take_append_of_le_length (by rw [le_length]; exact Nat.le_refl _), List.take_of_length_le (by rw [le_length]; exact Nat.le_refl _)]
theorem drop4 (n : Nat) (t : List UInt8) : (le n 4 ++ t).drop 4 = t := by
  rw [List.drop_append_of_le_length (by rw [le_length]; exact Nat.le_refl _), List.drop_of_length_le (by rw [le_length]; exact Nat.le_refl _), List.nil_append]
theorem parse_link (r t : List UInt8) (h : r.length < 4294967296) : parse1 (linkB r ++ t) = some (r, t) := by
  obtain ⟨X, hX⟩ : ∃ X, X = crc (le r.length 4 ++ r) := ⟨_, rfl⟩
  have e : linkB r ++ t = le r.length 4 ++ (le X.toNat 4 ++ (r ++ t)) := by unfold linkB; rw [← hX]; simp only [List.append_assoc]
  have h1 : (linkB r ++ t).take 4 = le r.length 4 := by rw [e]; exact take4 [] _ _
  have h2 : (linkB r ++ t).drop 4 = le X.toNat 4 ++ (r ++ t) := by rw [e]; exact drop4 _ _
  have h3 : (linkB r ++ t).drop 8 = r ++ t := by rw [show 8 = 4 + 4 from rfl, ← List.drop_drop, h2]; exact drop4 _ _
  unfold parse1
  rw [h1, h2, h3, unle4 _ h, take4 [], unle4 _ X.toNat_lt, List.take_left' rfl, List.drop_left' rfl, ← hX]
  rw [if_neg (by rw [List.length_append, linkB_length]; omega), if_neg (by rw [List.length_append]; omega), if_pos rfl]
/-- a row that isn't all there is not parsed -/
theorem parse_part (r t : List UInt8) (m : Nat) (h : r.length < 4294967296) (hm : m < r.length + 8) : parse1 ((linkB r ++ t).take m) = none := by
  unfold parse1
  have hl : ((linkB r ++ t).take m).length = m := by rw [List.length_take, List.length_append, linkB_length]; omega
  by_cases h8 : m < 8
  · rw [if_pos (by omega)]
  · have e : linkB r ++ t = le r.length 4 ++ (le (crc (le r.length 4 ++ r)).toNat 4 ++ (r ++ t)) := by unfold linkB; simp only [List.append_assoc]
    have h1 : ((linkB r ++ t).take m).take 4 = le r.length 4 := by rw [List.take_take, Nat.min_eq_left (by omega), e]; exact take4 [] _ _
    rw [if_neg (by omega), h1, unle4 _ h, if_pos (by rw [List.length_drop, hl]; omega)]
theorem parse_nil : parse1 [] = none := by decide
/-- how many rows stand ahead of the cut -/
def fit : List (List UInt8) → Nat → Nat
  | [], _ => 0
  | r :: rs, cut => if r.length + 8 ≤ cut then fit rs (cut - (r.length + 8)) + 1 else 0
theorem fit_le : ∀ (ls : List (List UInt8)) (cut : Nat), fit ls cut ≤ ls.length := by
  intro ls
  induction ls with
  | nil => intro cut; exact Nat.le_refl _
  | cons r rs ih => intro cut; unfold fit; split; (have := ih (cut - (r.length + 8)); simp only [List.length_cons]; omega); exact Nat.zero_le _
theorem fit_pre : ∀ (ls : List (List UInt8)) (cut : Nat), (chainB (ls.take (fit ls cut))).length ≤ cut := by
  intro ls
  induction ls with
  | nil => intro cut; simp [chainB]
  | cons r rs ih =>
    intro cut
    unfold fit
    split
    · have := ih (cut - (r.length + 8))
      rw [List.take_succ_cons, chainB_cons, List.length_append, linkB_length]; omega
    · simp [chainB]
theorem fit_max : ∀ (ls : List (List UInt8)) (cut i : Nat), i ≤ ls.length → (chainB (ls.take i)).length ≤ cut → i ≤ fit ls cut := by
  intro ls
  induction ls with
  | nil => intro cut i h _; exact h
  | cons r rs ih =>
    intro cut i h hc
    cases i with
    | zero => exact Nat.zero_le _
    | succ i =>
      rw [List.take_succ_cons, chainB_cons, List.length_append, linkB_length] at hc
      unfold fit
      rw [if_pos (by omega)]
      have := ih (cut - (r.length + 8)) i (by simpa using h) (by omega)
      omega
theorem chain_take_succ (ls : List (List UInt8)) (j : Nat) (h : j < ls.length) : (chainB (ls.take (j + 1))).length = (chainB (ls.take j)).length + 8 + ls[j].length := by
  rw [List.take_succ_eq_append_getElem h, chainB_snoc, List.length_append, linkB_length]; omega
theorem pre_cut : ∀ (ls : List (List UInt8)) (cut n : Nat), (∀ r ∈ ls, r.length < 4294967296) → n ≤ ls.length → (chainB (ls.take n)).length ≤ cut → Pre ((chainB ls).take cut) (ls.take n) (((chainB ls).take cut).drop (chainB (ls.take n)).length) := by
  intro ls
  induction ls with
  | nil => intro cut n _ h _; obtain rfl : n = 0 := by simpa using h
           simp [chainB, Pre]
  | cons r rs ih =>
    intro cut n hr h hc
    cases n with
    | zero => simp [chainB, Pre]
    | succ n =>
      rw [List.take_succ_cons, chainB_cons, List.length_append, linkB_length] at hc
      have e : (chainB (r :: rs)).take cut = linkB r ++ (chainB rs).take (cut - (r.length + 8)) := by
        rw [chainB_cons, List.take_append, List.take_of_length_le (by rw [linkB_length]; omega), linkB_length]
      rw [List.take_succ_cons, e]
      refine ⟨(chainB rs).take (cut - (r.length + 8)), parse_link r _ (hr r (by simp)), ?_⟩
      have := ih (cut - (r.length + 8)) n (fun x hx => hr x (by simp [hx])) (by simpa using h) (by omega)
      rw [chainB_cons, List.length_append, List.drop_append, List.drop_of_length_le (by omega), List.nil_append, Nat.add_sub_cancel_left]
      exact this
theorem cut_none (ls : List (List UInt8)) (cut : Nat) (hr : ∀ r ∈ ls, r.length < 4294967296) (hc : cut ≤ (chainB ls).length) : parse1 (((chainB ls).take cut).drop (chainB (ls.take (fit ls cut))).length) = none := by
  obtain ⟨n, hn⟩ : ∃ n, n = fit ls cut := ⟨_, rfl⟩
  have h1 := fit_le ls cut
  have h2 := fit_pre ls cut
  rw [← hn] at h1 h2 ⊢
  by_cases he : n = ls.length
  · subst he
    rw [List.take_length] at h2 ⊢
    rw [List.drop_of_length_le (by rw [List.length_take]; omega)]
    exact parse_nil
  · have hlt : n < ls.length := by omega
    have hx : cut < (chainB (ls.take (n + 1))).length := by
      rcases Nat.lt_or_ge cut (chainB (ls.take (n + 1))).length with h | h
      · exact h
      · have := fit_max ls cut (n + 1) (by omega) h
        omega
    rw [chain_take_succ ls n hlt] at hx
    have e : (chainB ls).take cut = chainB (ls.take n) ++ (linkB ls[n] ++ chainB (ls.drop (n + 1))).take (cut - (chainB (ls.take n)).length) := by
      have : chainB ls = chainB (ls.take n) ++ (linkB ls[n] ++ chainB (ls.drop (n + 1))) := by
        rw [← chainB_cons, ← List.drop_eq_getElem_cons hlt, ← chainB_append, List.take_append_drop]
      rw [this, List.take_append, List.take_of_length_le (by rw [this] at *; exact h2)]
    rw [e, List.drop_left' rfl]
    exact parse_part _ _ _ (hr _ (List.getElem_mem hlt)) (by omega)
theorem few_len (ls : List (List UInt8)) (h : fewB ls = true) : (∀ r ∈ ls, r.length ≤ 100) ∧ ls.length ≤ 30 := by
  unfold fewB at h
  rw [Bool.and_eq_true, List.all_eq_true] at h
  exact ⟨fun r hr => by simpa using h.1 r hr, by simpa using h.2⟩
theorem chain_len : ∀ (ls : List (List UInt8)), (∀ r ∈ ls, r.length ≤ 100) → (chainB ls).length ≤ 108 * ls.length := by
  intro ls
  induction ls with
  | nil => intro _; simp [chainB]
  | cons r rs ih =>
    intro h
    have h1 := h r (by simp)
    have h2 := ih fun x hx => h x (by simp [hx])
    rw [chainB_cons, List.length_append, linkB_length, List.length_cons]; omega
theorem SeesL.take {st : World} {R : HProp} {A : Option Addr} {c : Nat} {ls : List (List UInt8)} (h : SeesL st R (.slice A ls.length c) ls) (m : Nat) (hm : m ≤ ls.length) : SeesL st R (.slice (subA 1 A 0 c) m c) (ls.take m) := by
  obtain ⟨vs, h1, h2⟩ := h
  have h3 := h1.sub 0 m (Nat.zero_le _) hm (by decide)
  have hl : (ls.take m).length = m := by rw [List.length_take]; omega
  refine ⟨vs.take m, ?_, fun i hi => ?_⟩
  · rw [hl]
    simpa using h3
  · rw [hl] at hi
    obtain ⟨B, d, e, s⟩ := h2 i (by omega)
    refine ⟨B, d, ?_, ?_⟩
    · rw [List.getElem?_take_of_lt hi, List.getElem_take]; exact e
    · rw [List.getElem_take]; exact s
theorem SeesL.widen {st : World} {F F' : HProp} {v : Value} {ls : List (List UInt8)} (h : SeesL st F v ls) (hF : ∀ w, Has st F' w → Has st F w) : SeesL st F' v ls := by
  obtain ⟨vs, h1, h2⟩ := h
  exact ⟨vs, h1.widen hF, fun i hi => by obtain ⟨A, c, e, s⟩ := h2 i hi; exact ⟨A, c, e, s.widen hF⟩⟩
end Go.Proofs.Ytbiacehmfbopfaa
