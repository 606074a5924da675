/-
  Plain laws for CodeBack: what is read back out of what was written.
-/
import Derived.Test.YtkmhopnpkilhiaaOps2
import Derived.Test.YtkmhopnpkilhiaaSl2
namespace Go.Proofs.Ytkmhopnpkilhiaa
open Go.RowKit Go.Sl
set_option linter.unusedVariables false
set_option linter.unusedSimpArgs false

theorem opsW_drop (ops : List OpV) (i : Nat) (h : i < ops.length) : opsW (ops.drop i) = opW ops[i] ++ opsW (ops.drop (i + 1)) := by
  unfold opsW
  rw [List.drop_eq_getElem_cons h, List.map_cons, List.flatten_cons]

theorem split_ok {r ext a b : List UInt8} (h : r ++ ext = a ++ b) (hl : a.length ≤ r.length) : r.take a.length = a ∧ r.drop a.length ++ ext = b := by
  have h1 := congrArg (List.take a.length) h
  rw [List.take_append_of_le_length hl, List.take_left'] at h1
  · have h2 := congrArg (List.drop a.length) h
    rw [List.drop_append_of_le_length hl, List.drop_left' rfl] at h2
    exact ⟨h1, h2⟩
  · rfl
theorem split_no {r ext a b : List UInt8} (h : r ++ ext = a ++ b) (hl : r.length < a.length) : ext ≠ [] := by
  rintro rfl
  have := congrArg List.length h
  simp at this
  omega

theorem unle_le (k : Nat) : ∀ n, unle (le n k) = n % 256 ^ k := by
  induction k with
  | zero => intro n; simp [le, unle, Nat.mod_one]
  | succ k ih =>
    intro n
    rw [le_succ, unle_snoc, ih, le_length, Nat.pow_succ, Nat.mod_mul]
    simp
    rw [Nat.mul_comm]

theorem u64_and_mask (n m : Nat) (hn : n ≤ 18446744073709551615) (hm : m ≤ 64) : bits .and .u64 (n : Int) (IntKind.u64.wrap (IntKind.u64.wrap (2 ^ m) - 1)) = ((n % 2 ^ m : Nat) : Int) := by
  have hp : 2 ^ m ≤ 2 ^ 64 := Nat.pow_le_pow_right (by decide) hm
  have h1 : 1 ≤ 2 ^ m := Nat.one_le_two_pow
  have e64 : (2 : Nat) ^ 64 = 18446744073709551616 := by decide
  have hw : IntKind.u64.wrap (IntKind.u64.wrap (2 ^ m) - 1) = ((2 ^ m - 1 : Nat) : Int) := by
    by_cases h64 : m = 64
    · subst h64; decide
    · have hp : 2 ^ m < 2 ^ 64 := Nat.pow_lt_pow_right (by decide) (by omega)
      have e1 : IntKind.u64.wrap ((2 : Int) ^ m) = ((2 ^ m : Nat) : Int) := by
        rw [show ((2 : Int) ^ m) = ((2 ^ m : Nat) : Int) by simp]
        exact IntWalk.u64_in _ ⟨by omega, by omega⟩
      rw [e1, IntWalk.u64_in _ ⟨by omega, by omega⟩]
      omega
  rw [hw]
  have e : (BitVec.ofInt IntKind.u64.bits (n : Int) &&& BitVec.ofInt IntKind.u64.bits ((2 ^ m - 1 : Nat) : Int)).toNat = n % 2 ^ m := by
    rw [BitVec.toNat_and, BitVec.toNat_ofInt, BitVec.toNat_ofInt]
    have eb : (2 ^ IntKind.u64.bits : Nat) = 18446744073709551616 := by decide
    have e1 : (((2 ^ m - 1 : Nat) : Int) % (2 ^ IntKind.u64.bits : Nat)).toNat = 2 ^ m - 1 := by
      rw [eb, Int.emod_eq_of_lt (by omega) (by omega)]; simp
    have e2 : ((n : Int) % (2 ^ IntKind.u64.bits : Nat)).toNat = n := by
      rw [eb, Int.emod_eq_of_lt (by omega) (by omega)]; simp
    rw [e1, e2, Nat.and_two_pow_sub_one_eq_mod]
  unfold bits
  simp only
  rw [e]
  have : n % 2 ^ m ≤ n := Nat.mod_le _ _
  exact IntWalk.u64_in _ ⟨by omega, by omega⟩

theorem num_back {n k m : Nat} {r ext tail : List UInt8} (hn : n ≤ 18446744073709551615) (hk : k ≤ 8) (hm : m = 8 * k) (h : r ++ ext = le n k ++ tail) (hl : k ≤ r.length) :
    r.drop k ++ ext = tail ∧ ((unle (r.take k) : Int) == bits .and .u64 (n : Int) (IntKind.u64.wrap (IntKind.u64.wrap (2 ^ m) - 1))) = true := by
  have h1 := split_ok h (by rw [le_length]; exact hl)
  rw [le_length] at h1
  refine ⟨h1.2, ?_⟩
  rw [u64_and_mask n m hn (by omega), h1.1, unle_le, hm, Nat.pow_mul]
  simp

theorem rget_back {b r ext tail : List UInt8} (hb : b.length ≤ 60) (h : r ++ ext = (le b.length 4 ++ b) ++ tail) :
    (∃ r', rget r 60 = .ok (b, r') ∧ r' ++ ext = tail) ∨ (rget r 60 = .error 20 ∧ ext ≠ []) := by
  have hlen : (le b.length 4 ++ b).length = 4 + b.length := by rw [List.length_append, le_length]
  by_cases h4 : r.length < 4
  · exact .inr ⟨if_pos h4, split_no h (by omega)⟩
  · have h1 := split_ok (a := le b.length 4) (b := b ++ tail) (by rw [h, List.append_assoc]) (by rw [le_length]; omega)
    rw [le_length] at h1
    have hu : unle (r.take 4) = b.length := by rw [h1.1, unle_le]; exact Nat.mod_eq_of_lt (by omega)
    by_cases hs : r.length < 4 + b.length
    · refine .inr ⟨?_, split_no h (by omega)⟩
      unfold rget
      rw [if_neg h4, hu, if_neg (by show ¬ 60 < _; omega), if_pos (by rw [List.length_drop]; omega)]
    · have h2 := split_ok h1.2 (by rw [List.length_drop]; omega)
      refine .inl ⟨_, ?_, h2.2⟩
      unfold rget
      rw [if_neg h4, hu, if_neg (by show ¬ 60 < _; omega), if_neg (by rw [List.length_drop]; omega), h2.1]
theorem same_self (l : List UInt8) (n k : Nat) (u v : Value) (w : World) (hu : Rd 1 w u n (bcells l)) (hv : Rd 1 w v k (bcells l)) :
    Calls Try.prog 13 #[u, v] w fun e w' => e = .returned (.bool true) ∧ w = w' := by
  have := same_any l l n k u v w hu hv
  rwa [show (l == l) = true by simp] at this
end Go.Proofs.Ytkmhopnpkilhiaa
