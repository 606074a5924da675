/-
  Layer 4: Sum.
-/
import Derived.Test.YtbiacehmfbopfaaCrc
import Derived.Test.YtbiacehmfbopfaaGen
import Derived.Test.YtbiacehmfbopfaaOpn
import Derived.Test.YtbiacehmfbopfaaReader
namespace Go.Sl
open Go Go.RowKit
theorem opw_neg32 {P : Program} {o : Oper} {a : Act} {w : World} {K : Act → World → Prop} {Q : Exit → Act → World → Prop} (t : TypeId) (x : Operand) (X : UInt32) (ho : o.op = .unOp .neg t x) (hx : a.eval x = .int .u32 (X.toNat : Int)) (hK : K (a.put o.dst (.int .u32 ((0 - X).toNat : Int))) w) : o.wp P a w K Q := by
  refine opw_run (.int .u32 ((0 - X).toNat : Int)) ?_ hK
  have e : IntKind.u32.wrap (-(X.toNat : Int)) = ((0 - X).toNat : Int) := by
    rw [w32_wrap, UInt32.toNat_sub]
    have := X.toNat_lt
    have h0 : (0 : UInt32).toNat = 0 := rfl
    rw [h0]
    omega
  unfold execOp
  simp only [ho, hx, Op.unary, Op.intArith, Sem.run_bind, Sem.run_pure, Result.andThen_ok, Int.zero_sub, e]
theorem byte_u32 (a : UInt8) : IntKind.u32.wrap (a.toNat : Int) = (a.toUInt32.toNat : Int) := by
  rw [w32_wrap, UInt8.toNat_toUInt32]
  have := a.toNat_lt
  omega
theorem shr32 (X : UInt32) : shZ .shr .u32 (X.toNat : Int) 1 = some ((X >>> 1).toNat : Int) := by
  have h := sh_r .u32 X.toNat 1 (by decide)
  rw [UInt32.toNat_shiftRight]
  simpa [Nat.shiftRight_eq_div_pow] using h
end Go.Sl
namespace Go.Proofs.Ytbiacehmfbopfaa
open Go.RowKit Go.Sl Go.Crc
set_option linter.unusedVariables false
set_option linter.unusedSimpArgs false
theorem stepC_prog (x : UInt32) : (x >>> 1) ^^^ ((2197175160 : UInt32) &&& (0 - (x &&& 1))) = stepC x := by
  unfold stepC
  congr 1
  have h1 : (x &&& 1).toNat = x.toNat % 2 := by rw [UInt32.toNat_and]; exact Nat.and_one_is_mod _
  rcases Nat.mod_two_eq_zero_or_one x.toNat with h | h
  · rw [if_neg (by omega), show x &&& 1 = 0 from UInt32.toNat_inj.1 (by rw [h1, h]; rfl)]; decide
  · rw [if_pos h, show x &&& 1 = 1 from UInt32.toNat_inj.1 (by rw [h1, h]; rfl)]; decide
def SumO (l : List UInt8) (w : World) (v3 v8 : Value) (wr : World) : Prop := ∃ i : Nat, i ≤ l.length ∧ v8 = .int .i64 ((i : Nat) : Int) ∧ v3 = .int .u32 ((crcS 4294967295 (l.take i)).toNat : Int) ∧ wr = w
def SumIn (Y : UInt32) (w : World) (v3 v16 : Value) (wr : World) : Prop := ∃ j : Nat, j ≤ 8 ∧ v16 = .int .i64 ((j : Nat) : Int) ∧ v3 = .int .u32 ((run j Y).toNat : Int) ∧ wr = w
set_option maxRecDepth 100000 in
set_option maxHeartbeats 2000000 in
theorem crc_any (l : List UInt8) (v : Value) (w : World) (hr : Rd 1 w v l.length (bcells l)) :
    Calls Try.prog 13 #[v] w fun e w' => e = .returned (.int .u32 ((crc l).toNat : Int)) ∧ w = w' := by
  obtain ⟨A, c, rfl⟩ : ∃ A c, v = .slice A l.length c := by obtain ⟨_, A, c, e, _⟩ := hr; exact ⟨A, c, e⟩
  have hmax : l.length ≤ 9223372036854775807 := by have := hr.le_cap; unfold maxLen at this; omega
  have HR := Lib.hid hr
  clear hr
  go_enter Try.func13, Try.ntmps13
  go_wp2_with ((with_reducible refine wpList_plain rfl ?_); intro _ hk; (first
    | (refine opw_len _ _ _ Try.underlying22 A l.length c rfl rfl (hk _ _ ?_))); simp only [Act.put, List.setIfInBounds_toArray, List.set_cons_zero, List.set_cons_succ])
  go_loopw [3, 8] (SumO l w) (fun _ v8 _ => l.length - (intOf v8).toNat)
  case atStart => exact ⟨0, Nat.zero_le _, rfl, rfl, rfl⟩
  case round =>
    obtain ⟨i, hi, rfl, rfl, rfl⟩ := hrel
    obtain ⟨X, hX⟩ : ∃ X, X = crcS 4294967295 (l.take i) := ⟨_, rfl⟩
    rw [← hX]
    by_cases hlt : i < l.length
    · obtain ⟨bb, off, hA, hcell⟩ := HR.out.at (by omega)
      subst hA
      obtain ⟨x, hx⟩ : ∃ x, x = l[i] := ⟨_, rfl⟩
      have hc := hcell i _ (bcells_get hlt)
      rw [← hx] at hc
      obtain ⟨y, hy⟩ : ∃ y, y = x.toUInt32 := ⟨_, rfl⟩
      have c1 : IntKind.u32.wrap (x.toNat : Int) = (y.toNat : Int) := by rw [hy]; exact byte_u32 x
      obtain ⟨Y, hY⟩ : ∃ Y, Y = X ^^^ y := ⟨_, rfl⟩
      have hnext : run 8 Y = crcS 4294967295 (l.take (i + 1)) := by
        rw [List.take_succ_eq_append_getElem hlt, crcS_snoc, ← hX, ← hx, hY, hy]; rfl
      have HC := Lib.hid hc
      have HC1 := Lib.hid c1
      have HY := Lib.hid hY
      have HN := Lib.hid hnext
      clear hX hx hc hy c1 hY hnext hcell
      go_wp2_with ((with_reducible refine wpList_plain rfl ?_); intro _ hk; (first
        | (refine opw_indexSl 22 5 _ _ rfl Try.underlying22 sizeB bb off l.length c i rfl rfl hlt (hk _ _ ?_))
        | (refine opw_load1 5 _ rfl _ Try.underlying5 rfl ⟨bb, off + i, none⟩ (.int .u8 (x.toNat : Int)) rfl HC.out (hk _ _ ?_))
        | (refine opw_conv _ _ _ .u8 .u32 (x.toNat : Int) (y.toNat : Int) rfl Try.underlying5 Try.underlying30 rfl HC1.out (hk _ _ ?_))
        | (refine opw_bin32 .xor _ _ _ _ X y Y rfl rfl rfl (.inr (.inl ⟨rfl, HY.out⟩)) (hk _ _ ?_))); simp only [Act.put, List.setIfInBounds_toArray, List.set_cons_zero, List.set_cons_succ])
      go_loopw [3, 16] (SumIn Y wr) (fun _ v16 _ => 8 - (intOf v16).toNat)
      case atStart => exact ⟨0, Nat.zero_le _, rfl, rfl, rfl⟩
      case round =>
        obtain ⟨j, hj, rfl, rfl, rfl⟩ := hrel
        obtain ⟨Z, hZ⟩ : ∃ Z, Z = run j Y := ⟨_, rfl⟩
        rw [← hZ]
        by_cases hj8 : j < 8
        · obtain ⟨Z1, h1⟩ : ∃ Z1, Z1 = Z >>> 1 := ⟨_, rfl⟩
          obtain ⟨Z2, h2⟩ : ∃ Z2, Z2 = Z &&& 1 := ⟨_, rfl⟩
          obtain ⟨Z3, h3⟩ : ∃ Z3, Z3 = 0 - Z2 := ⟨_, rfl⟩
          obtain ⟨Z4, h4⟩ : ∃ Z4, Z4 = (2197175160 : UInt32) &&& Z3 := ⟨_, rfl⟩
          obtain ⟨Z5, h5⟩ : ∃ Z5, Z5 = Z1 ^^^ Z4 := ⟨_, rfl⟩
          have hz : run (j + 1) Y = Z5 := by rw [run_add j 1, ← hZ, h5, h4, h3, h2, h1, stepC_prog]; rfl
          have c1 : shZ .shr .u32 (Z.toNat : Int) 1 = some (Z1.toNat : Int) := by rw [h1]; exact shr32 Z
          have C1 := Lib.hid c1
          have HZ := Lib.hid hz
          have K2 := Lib.hid h2
          have K3 := Lib.hid h3
          have K4 := Lib.hid h4
          have K5 := Lib.hid h5
          clear hZ h1 h2 h3 h4 h5 hz c1
          go_wp2_with ((with_reducible refine wpList_plain rfl ?_); intro _ hk; (first
            | (refine opw_shift .shr _ _ _ _ .u32 .u64 (Z.toNat : Int) 1 (Z1.toNat : Int) rfl rfl rfl C1.out (hk _ _ ?_))
            | (refine opw_bin32 .and _ _ _ _ Z 1 Z2 rfl rfl rfl (.inr (.inr (.inl ⟨rfl, K2.out⟩))) (hk _ _ ?_))
            | (refine opw_neg32 _ _ Z2 rfl rfl (K3.out ▸ hk _ _ ?_))
            | (refine opw_bin32 .and _ _ _ _ 2197175160 Z3 Z4 rfl rfl rfl (.inr (.inr (.inl ⟨rfl, K4.out⟩))) (hk _ _ ?_))
            | (refine opw_bin32 .xor _ _ _ _ Z1 Z4 Z5 rfl rfl rfl (.inr (.inl ⟨rfl, K5.out⟩)) (hk _ _ ?_))); simp only [Act.put, List.setIfInBounds_toArray, List.set_cons_zero, List.set_cons_succ])
          go_wp2
          go_roundw
          case rel =>
            have hrel2 : SumIn Y wr (.int .u32 (Z5.toNat : Int)) (.int .i64 ((j : Int) + 1)) wr := ⟨j + 1, by omega, by go_num, by rw [HZ.out], rfl⟩
            first | exact hrel2 | ((repeat apply Exists.intro); exact ⟨hrel2, rfl⟩)
          case measure => simp [intOf]; omega
        · obtain rfl : j = 8 := by omega
          rw [hZ, HN.out]
          clear hZ
          go_wp2
          go_roundw
          case rel =>
            have hrel2 : SumO l wr (.int .u32 ((crcS 4294967295 (l.take (i + 1))).toNat : Int)) (.int .i64 ((i : Int) + 1)) wr := ⟨i + 1, by omega, by go_num, rfl, rfl⟩
            first | exact hrel2 | ((repeat apply Exists.intro); exact ⟨hrel2, rfl⟩)
          case measure => simp [intOf]; omega
    · obtain rfl : i = l.length := by omega
      rw [List.take_of_length_le (Nat.le_refl _)] at hX
      have HX := Lib.hid hX
      clear hX
      go_wp2_with ((with_reducible refine wpList_plain rfl ?_); intro _ hk; (first
        | (refine opw_not32 _ _ X rfl rfl (hk _ _ ?_))); simp only [Act.put, List.setIfInBounds_toArray, List.set_cons_zero, List.set_cons_succ])
      go_ret
      exact ⟨by unfold crc; rw [← HX.out]; rfl, rfl⟩
end Go.Proofs.Ytbiacehmfbopfaa
