/-
  32 bit words as the walk has them.
-/
import Derived.Test.YtblknhpafifebaaDoorSl2
namespace Go.Sl
open Go.RowKit
set_option linter.unusedSimpArgs false

theorem w32_wrap (z : Int) : IntKind.u32.wrap z = z % 4294967296 := by simp [IntKind.wrap, IntKind.signed, IntKind.bits]
theorem w32_of (x : Nat) (h : x < 4294967296) : IntKind.u32.wrap (x : Int) = (x : Int) := by rw [w32_wrap]; omega
theorem w32_add (x y : UInt32) : IntKind.u32.wrap ((x.toNat : Int) + (y.toNat : Int)) = ((x + y).toNat : Int) := by
  rw [w32_wrap, UInt32.toNat_add]; omega
theorem w32_ofInt (x : UInt32) : BitVec.ofInt IntKind.u32.bits (x.toNat : Int) = x.toBitVec := by
  apply BitVec.eq_of_toNat_eq
  rw [BitVec.toNat_ofInt]
  show ((x.toNat : Int) % ((2 ^ 32 : Nat) : Int)).toNat = x.toNat
  have := x.toNat_lt
  omega
theorem w32_xor (x y : UInt32) : bits .xor .u32 (x.toNat : Int) (y.toNat : Int) = ((x ^^^ y).toNat : Int) := by
  unfold bits; simp only [w32_ofInt]; exact w32_of _ (x ^^^ y).toNat_lt
theorem w32_and (x y : UInt32) : bits .and .u32 (x.toNat : Int) (y.toNat : Int) = ((x &&& y).toNat : Int) := by
  unfold bits; simp only [w32_ofInt]; exact w32_of _ (x &&& y).toNat_lt
theorem w32_not (x : UInt32) : bits .xor .u32 IntKind.u32.max (x.toNat : Int) = ((~~~ x).toNat : Int) := by
  rw [show IntKind.u32.max = ((4294967295 : UInt32).toNat : Int) by decide, w32_xor]
  congr 2
theorem w32_or (x y : UInt32) : bits .or .u32 (x.toNat : Int) (y.toNat : Int) = ((x ||| y).toNat : Int) := by
  unfold bits; simp only [w32_ofInt]; exact w32_of _ (x ||| y).toNat_lt
theorem u64_mask (n m : Nat) (hn : n ≤ 18446744073709551615) (hm : m ≤ 64) : bits .and .u64 (n : Int) (IntKind.u64.wrap (IntKind.u64.wrap (2 ^ m) - 1)) = ((n % 2 ^ m : Nat) : Int) := by
  have hp : 2 ^ m ≤ 2 ^ 64 := Nat.pow_le_pow_right (by decide) hm
  have h1 : 1 ≤ 2 ^ m := Nat.one_le_two_pow
  have e64 : (2 : Nat) ^ 64 = 18446744073709551616 := by decide
  have hw : IntKind.u64.wrap (IntKind.u64.wrap (2 ^ m) - 1) = ((2 ^ m - 1 : Nat) : Int) := by
    by_cases h64 : m = 64
    · subst h64; decide
    · have hp : 2 ^ m < 2 ^ 64 := Nat.pow_lt_pow_right (by decide) (by omega)
      have e1 : IntKind.u64.wrap ((2 : Int) ^ m) = ((2 ^ m : Nat) : Int) := by
        rw [show ((2 : Int) ^ m) = ((2 ^ m : Nat) : Int) by simp]
        exact IntWalk.u64_in _ ⟨by omega, by omega⟩
      rw [e1, IntWalk.u64_in _ ⟨by omega, by omega⟩]
      omega
  rw [hw]
  have e : (BitVec.ofInt IntKind.u64.bits (n : Int) &&& BitVec.ofInt IntKind.u64.bits ((2 ^ m - 1 : Nat) : Int)).toNat = n % 2 ^ m := by
    rw [BitVec.toNat_and, BitVec.toNat_ofInt, BitVec.toNat_ofInt]
    have eb : (2 ^ IntKind.u64.bits : Nat) = 18446744073709551616 := by decide
    have e1 : (((2 ^ m - 1 : Nat) : Int) % (2 ^ IntKind.u64.bits : Nat)).toNat = 2 ^ m - 1 := by
      rw [eb, Int.emod_eq_of_lt (by omega) (by omega)]; simp
    have e2 : ((n : Int) % (2 ^ IntKind.u64.bits : Nat)).toNat = n := by
      rw [eb, Int.emod_eq_of_lt (by omega) (by omega)]; simp
    rw [e1, e2, Nat.and_two_pow_sub_one_eq_mod]
  unfold bits
  simp only
  rw [e]
  have : n % 2 ^ m ≤ n := Nat.mod_le _ _
  exact IntWalk.u64_in _ ⟨by omega, by omega⟩

theorem w32_shl (x : UInt32) (m : Nat) (hm : m < 32) : (x.toNat : Int) * 2 ^ m % 4294967296 = ((x <<< UInt32.ofNat m).toNat : Int) := by
  have h1 : (UInt32.ofNat m).toNat % 32 = m := by simp; omega
  rw [UInt32.toNat_shiftLeft, h1, Nat.shiftLeft_eq, Int.natCast_emod, Int.natCast_mul, Int.natCast_pow]
  rfl
theorem w32_shr (x : UInt32) (m : Nat) (hm : m < 32) : (x.toNat : Int) / 2 ^ m = ((x >>> UInt32.ofNat m).toNat : Int) := by
  have h1 : (UInt32.ofNat m).toNat % 32 = m := by simp; omega
  rw [UInt32.toNat_shiftRight, h1, Nat.shiftRight_eq_div_pow, Int.natCast_ediv, Int.natCast_pow]
  rfl
end Go.Sl
