/-
  More of the pieces: their order; masks of numbers.
-/
import Derived.Test.YtkmhopnpkilhiaaSl
namespace Go.Sl
open Go Go.RowKit
set_option linter.unusedVariables false
set_option linter.unusedSimpArgs false

section
variable {s : World} {p q r t u v y z : HProp} {w : World}
theorem Has.third (h : Has s (sep p (sep q (sep r t))) w) : Has s (sep r (sep p (sep q t))) w := h.cast (by ac_rfl)
theorem Has.fourth (h : Has s (sep p (sep q (sep r (sep t u)))) w) : Has s (sep t (sep p (sep q (sep r u)))) w := h.cast (by ac_rfl)
theorem Has.fifth (h : Has s (sep p (sep q (sep r (sep t (sep u v))))) w) : Has s (sep u (sep p (sep q (sep r (sep t v))))) w := h.cast (by ac_rfl)
theorem Has.sixth (h : Has s (sep p (sep q (sep r (sep t (sep u (sep v y)))))) w) : Has s (sep v (sep p (sep q (sep r (sep t (sep u y)))))) w := h.cast (by ac_rfl)
theorem Has.seventh (h : Has s (sep p (sep q (sep r (sep t (sep u (sep v (sep y z))))))) w) : Has s (sep y (sep p (sep q (sep r (sep t (sep u (sep v z))))))) w := h.cast (by ac_rfl)
end

theorem SlB.of {k : IntKind} {x : Int} {n : Nat} (e : x = (n : Int)) (d : Nat) : SlB (some (.int k x)) d n := .inr ⟨k, by rw [e]⟩
theorem Rd.le_cap {size : Nat} {w : World} {A : Option Addr} {n c : Nat} {xs : List Value} (h : Rd size w (.slice A n c) n xs) : n ≤ c ∧ c ≤ maxLen := by
  obtain ⟨_, _, _, e, h1, h2, _⟩ := h
  injection e with _ _ e
  subst e
  exact ⟨h1, h2⟩
/-- x[:m] -/
theorem Rd.take {size : Nat} {w : World} {A : Option Addr} {n m c : Nat} {xs : List Value} (h : Rd size w (.slice A n c) n xs) (hm : m ≤ n) : Rd size w (.slice A m c) m (xs.take (m * size)) := by
  obtain ⟨hl, A', c', e, h1, h2, hx⟩ := h
  injection e with e1 _ e3
  subst e1 e3
  refine ⟨by rw [List.length_take, hl]; exact Nat.min_eq_left (Nat.mul_le_mul_right _ hm), A, c, rfl, by omega, h2, ?_⟩
  rcases hx with hx | ⟨ad, rfl, hc⟩
  · exact .inl hx
  · refine .inr ⟨ad, rfl, fun j u hu => hc j u ?_⟩
    have hj := (List.getElem?_eq_some_iff.1 hu).1
    rw [List.length_take] at hj
    rwa [List.getElem?_take_of_lt (by omega)] at hu
/-- a literal of one byte -/
theorem sees_lit1 (st : World) (R : HProp) (g : Nat) (t : TypeId) (f : Nat × Nat) (x : Value) : Sees st (sep (blk g (.cells #[x] t f)) R) 1 (.slice (some ⟨g, 0, none⟩) 1 1) 1 [x] := by
  intro w hw
  refine ⟨rfl, _, 1, rfl, Nat.le_refl _, by decide, .inr ⟨_, rfl, fun j u hu => ⟨rfl, ?_⟩⟩⟩
  show w.cell? ⟨g, 0 + j, none⟩ = _
  rw [Nat.zero_add, hw.cell]
  rw [← hu]; simp
theorem i64_and_mask (n : Int) (m : Nat) (hm : m < 63) : bits .and .i64 n ((2 ^ m - 1 : Nat) : Int) = n % ((2 ^ m : Nat) : Int) := by
  have hp : 2 ^ m < 2 ^ 63 := Nat.pow_lt_pow_right (by decide) hm
  have h1 : 1 ≤ 2 ^ m := Nat.one_le_two_pow
  have e : (BitVec.ofInt IntKind.i64.bits n &&& BitVec.ofInt IntKind.i64.bits ((2 ^ m - 1 : Nat) : Int)).toNat = (n % ((2 ^ m : Nat) : Int)).toNat := by
    rw [BitVec.toNat_and, BitVec.toNat_ofInt, BitVec.toNat_ofInt]
    have e1 : (((2 ^ m - 1 : Nat) : Int) % (2 ^ IntKind.i64.bits : Nat)).toNat = 2 ^ m - 1 := by
      rw [Int.emod_eq_of_lt (by omega) (by have : (2 ^ IntKind.i64.bits : Nat) = 18446744073709551616 := by decide
                                           rw [this]; have : (2:Nat) ^ 63 = 9223372036854775808 := by decide
                                           omega)]
      simp
    rw [e1, Nat.and_two_pow_sub_one_eq_mod]
    have hd : ((2 ^ m : Nat) : Int) ∣ ((2 ^ IntKind.i64.bits : Nat) : Int) := by
      have : (2 ^ m : Nat) ∣ 2 ^ IntKind.i64.bits := Nat.pow_dvd_pow 2 (by show m ≤ 64; omega)
      exact Int.natCast_dvd_natCast.2 this
    have e2 : n % ((2 ^ IntKind.i64.bits : Nat) : Int) % ((2 ^ m : Nat) : Int) = n % ((2 ^ m : Nat) : Int) := Int.emod_emod_of_dvd n hd
    have h3 : 0 ≤ n % ((2 ^ IntKind.i64.bits : Nat) : Int) := Int.emod_nonneg _ (by decide)
    rw [← e2]
    generalize n % ((2 ^ IntKind.i64.bits : Nat) : Int) = x at h3
    obtain ⟨k, rfl⟩ := Int.eq_ofNat_of_zero_le h3
    simp
    norm_cast
  unfold bits
  simp only
  rw [e]
  have h4 : 0 ≤ n % ((2 ^ m : Nat) : Int) := Int.emod_nonneg _ (by omega)
  have h5 : n % ((2 ^ m : Nat) : Int) < ((2 ^ m : Nat) : Int) := Int.emod_lt_of_pos _ (by omega)
  rw [Int.toNat_of_nonneg h4]
  refine IntWalk.i64_in _ ⟨by omega, ?_⟩
  have : (2:Nat) ^ 63 = 9223372036854775808 := by decide
  omega
theorem i64_and7 (n : Int) : bits .and .i64 n 7 = n % 8 := i64_and_mask n 3 (by decide)
theorem i64_and31 (n : Int) : bits .and .i64 n 31 = n % 32 := i64_and_mask n 5 (by decide)
theorem i64_and63 (n : Int) : bits .and .i64 n 63 = n % 64 := i64_and_mask n 6 (by decide)
theorem i64_and255 (n : Int) : bits .and .i64 n 255 = n % 256 := i64_and_mask n 8 (by decide)
theorem i64_and16 (n : Int) : bits .and .i64 n 65535 = n % 65536 := i64_and_mask n 16 (by decide)
theorem i64_and24 (n : Int) : bits .and .i64 n 16777215 = n % 16777216 := i64_and_mask n 24 (by decide)
end Go.Sl
