/-
  sha.ror.
-/
import Derived.Test.YtblknhpafifebaaDoorShaSpec
import Derived.Test.YtblknhpafifebaaDoorChecked
import Derived.ProofKit
namespace Go.Proofs.YtblknhpafifebaaDoor
open Go.RowKit Go.Sl Go.Sha
set_option linter.unusedVariables false
set_option linter.unusedSimpArgs false

theorem rot_any (x : UInt32) (n : Nat) (hn : 1 ≤ n ∧ n ≤ 31) (w : World) :
    Calls Tryd.prog 47 #[.int .u32 x.toNat, .int .i64 (-(n : Int))] w fun e w' => e = .returned (.int .u32 (rr x n).toNat) ∧ w = w' := by
  obtain ⟨m, hm⟩ : ∃ m : Nat, m = 32 - n := ⟨_, rfl⟩
  have hm31 : 1 ≤ m ∧ m ≤ 31 := by omega
  have hneg : IntKind.u64.wrap (-(n : Int)) = 18446744073709551616 - (n : Int) := by simp [IntKind.wrap, IntKind.signed, IntKind.bits]; omega
  have hand : bits .and .u64 (18446744073709551616 - (n : Int)) 31 = (m : Int) := by
    rw [show (18446744073709551616 : Int) - (n : Int) = ((18446744073709551616 - n : Nat) : Int) by omega, show (31 : Int) = IntKind.u64.wrap (IntKind.u64.wrap (2 ^ 5) - 1) by decide, u64_mask _ 5 (by omega) (by decide)]
    omega
  have hsub : IntKind.u64.wrap (32 - (m : Int)) = (n : Int) := by simp [IntKind.wrap, IntKind.signed, IntKind.bits]; omega
  have HM := Lib.hid hm
  clear hm
  have hmn : 32 - (32 - n) = n := by omega
  go_enter Tryd.func47, Tryd.ntmps47
  go_wp2
  go_ret
  refine ⟨?_, rfl⟩
  have e1 : bits .or .u32 ((x.toNat : Int) * 2 ^ m % 4294967296) ((x.toNat : Int) / 2 ^ n) = ((rr x n).toNat : Int) := by
    rw [w32_shl x m (by omega), w32_shr x n (by omega), w32_or, HM.out]; rfl
  have e2 : 32 - m = n := by have := HM.out; omega
  simp only [e2]
  exact congrArg (fun z => Ending.returned (.int .u32 z)) e1

theorem ror_any (x : UInt32) (n : Nat) (hn : 1 ≤ n ∧ n ≤ 31) (w : World) :
    Calls Tryd.prog 46 #[.int .u32 x.toNat, .int .i64 n] w fun e w' => e = .returned (.int .u32 (rr x n).toNat) ∧ w = w' := by
  have HR := Lib.hid (rot_any x n hn w)
  have hneg : IntKind.i64.wrap (-(n : Int)) = -(n : Int) := IntWalk.i64_in _ ⟨by omega, by omega⟩
  go_enter Tryd.func46, Tryd.ntmps46
  go_wp2_with (go_at_call 47; refine HR.out.mono ?_; rintro e w' ⟨rfl, rfl⟩)
  go_ret
  exact ⟨rfl, rfl⟩
theorem ror_q (x : UInt32) (n : Nat) (hn : 1 ≤ n ∧ n ≤ 31) (w : World) :
    Calls Tryd.prog 46 #[.int .u32 x.toNat, .int .i64 n] w fun e w' => e = .returned (.int .u32 (rr x n).toNat) ∧ w' = w :=
  (ror_any x n hn w).mono fun _ _ h => ⟨h.1, h.2.symm⟩
end Go.Proofs.YtblknhpafifebaaDoor
