/-
  coldstoreref03: right, first; laws on words.
-/
import Derived.Test.YtblknhpafifebaaDoorShaOf
import Derived.Test.YtblknhpafifebaaDoorReg2
namespace Go.Sha
open Go Go.Sl Go.RowKit
theorem sh32 (X : UInt32) (m : Nat) (hm : m < 32) : shZ .shr .u32 (X.toNat : Int) (m : Int) = some ((sh X m).toNat : Int) := by
  have h := sh_r .u32 X.toNat m (by show m ≤ 32; omega)
  rw [h]
  have e := w32_shr X m hm
  unfold sh
  rw [← e]
  simp
theorem word_plus (a b c d : UInt8) : (16777216 : UInt32) * a.toUInt32 + (65536 : UInt32) * b.toUInt32 + (256 : UInt32) * c.toUInt32 + d.toUInt32 = a.toUInt32 <<< 24 ||| b.toUInt32 <<< 16 ||| c.toUInt32 <<< 8 ||| d.toUInt32 := by
  have ha := a.toNat_lt
  have hb := b.toNat_lt
  have hc := c.toNat_lt
  have hd := d.toNat_lt
  apply UInt32.toNat_inj.1
  have e1 : (a.toUInt32 <<< 24).toNat = a.toNat <<< 24 := by
    simp only [UInt32.toNat_shiftLeft, UInt8.toNat_toUInt32]
    rw [Nat.mod_eq_of_lt]; rfl
    show a.toNat <<< 24 < 2 ^ 32
    rw [Nat.shiftLeft_eq]; omega
  have e2 : (b.toUInt32 <<< 16).toNat = b.toNat <<< 16 := by
    simp only [UInt32.toNat_shiftLeft, UInt8.toNat_toUInt32]
    rw [Nat.mod_eq_of_lt]; rfl
    show b.toNat <<< 16 < 2 ^ 32
    rw [Nat.shiftLeft_eq]; omega
  have e3 : (c.toUInt32 <<< 8).toNat = c.toNat <<< 8 := by
    simp only [UInt32.toNat_shiftLeft, UInt8.toNat_toUInt32]
    rw [Nat.mod_eq_of_lt]; rfl
    show c.toNat <<< 8 < 2 ^ 32
    rw [Nat.shiftLeft_eq]; omega
  rw [UInt32.toNat_or, UInt32.toNat_or, UInt32.toNat_or, e1, e2, e3, UInt8.toNat_toUInt32]
  rw [Nat.or_assoc, Nat.or_assoc]
  rw [← Nat.shiftLeft_add_eq_or_of_lt (b := d.toNat) (by omega)]
  rw [← Nat.shiftLeft_add_eq_or_of_lt (b := c.toNat <<< 8 + d.toNat) (by rw [Nat.shiftLeft_eq]; omega)]
  rw [← Nat.shiftLeft_add_eq_or_of_lt (b := b.toNat <<< 16 + (c.toNat <<< 8 + d.toNat)) (by rw [Nat.shiftLeft_eq, Nat.shiftLeft_eq]; omega)]
  simp only [UInt32.toNat_add, UInt32.toNat_mul, UInt8.toNat_toUInt32, Nat.shiftLeft_eq]
  have n1 : UInt32.toNat 16777216 = 16777216 := rfl
  have n2 : UInt32.toNat 65536 = 65536 := rfl
  have n3 : UInt32.toNat 256 = 256 := rfl
  rw [n1, n2, n3]
  omega
theorem rr_or (x : UInt32) (n : Nat) : x >>> (UInt32.ofNat n) ||| x <<< (UInt32.ofNat (32 - n)) = rr x n := UInt32.or_comm _ _
end Go.Sha
namespace Go.Proofs.YtblknhpafifebaaDoor
open Go.RowKit Go.Sl Go.Sha
set_option linter.unusedVariables false
set_option linter.unusedSimpArgs false
theorem right_q (x : UInt32) (n : Nat) (hn : 1 ≤ n ∧ n ≤ 31) (w : World) :
    Calls Tryd.prog 35 #[.int .u32 x.toNat, .int .i64 n] w fun e w' => e = .returned (.int .u32 (rr x n).toNat) ∧ ∃ k, w' = w.drewN k := by
  obtain ⟨m, hm⟩ : ∃ m : Nat, m = 32 - n := ⟨_, rfl⟩
  have hm31 : 1 ≤ m ∧ m ≤ 31 := by omega
  have hsub : IntKind.i64.wrap (32 - (n : Int)) = (m : Int) := by rw [IntWalk.i64_in _ ⟨by omega, by omega⟩]; omega
  have HM := Lib.hid hm
  clear hm
  have hn0 : (0 : Int) ≤ (n : Int) := by omega
  have hm0 : (0 : Int) ≤ (m : Int) := by omega
  go_enter Tryd.func35, Tryd.ntmps35
  go_wp2
  go_quiet (fail)
  go_wp2
  go_ret
  refine ⟨?_, nq, rfl⟩
  have e1 : bits .or .u32 ((x.toNat : Int) / 2 ^ n) ((x.toNat : Int) * 2 ^ m % 4294967296) = ((rr x n).toNat : Int) := by
    rw [w32_shl x m (by omega), w32_shr x n (by omega), w32_or, HM.out, rr_or]
  exact congrArg (fun z => Ending.returned (.int .u32 z)) e1
theorem right_any (st : World) (R : HProp) (x : UInt32) (n : Nat) (hn : 1 ≤ n ∧ n ≤ 31) (w : World) (h : Has st R w) :
    Calls Tryd.prog 35 #[.int .u32 x.toNat, .int .i64 n] w fun e w' => e = .returned (.int .u32 (rr x n).toNat) ∧ Has st R w' :=
  (right_q x n hn w).mono fun _ _ ⟨he, k, hk⟩ => ⟨he, hk ▸ h.drewN k⟩

set_option maxRecDepth 100000 in
set_option maxHeartbeats 1000000 in
theorem first_any (st : World) (R : HProp) (w : World) (h : Has st R w) :
    Calls Tryd.prog 25 #[] w fun e w' => ∃ p q, e = .returned (.tuple #[.slice (some ⟨p, 0, none⟩) 8 8, .slice (some ⟨q, 0, none⟩) 64 64]) ∧ Has st (sep (blk q (.cells (wcells keyList).toArray 70 (0, 0))) (sep (blk p (.cells (wcells Sha.start.list).toArray 70 (0, 0))) R)) w' := by
  go_enter Tryd.func25, Tryd.ntmps25
  go_wp2_with ((with_reducible refine wpList_plain rfl ?_); intro _ hk; (first
    | (refine opw_lit _ 8 _ _ 70 (wcells Sha.start.list).toArray rfl rfl (by kernel_rfl) h (fun p w1 h1 => hk _ _ ?_); have H1 := Lib.hid h1; clear h1)
    | (refine opw_lit _ 64 _ _ 70 (wcells keyList).toArray rfl rfl (by kernel_rfl) H1.out (fun q w2 h2 => hk _ _ ?_); have H2 := Lib.hid h2; clear h2)); simp only [Act.put, List.setIfInBounds_toArray, List.set_cons_zero, List.set_cons_succ])
  go_ret2
  exact ⟨p, q, rfl, H2.out⟩
end Go.Proofs.YtblknhpafifebaaDoor
