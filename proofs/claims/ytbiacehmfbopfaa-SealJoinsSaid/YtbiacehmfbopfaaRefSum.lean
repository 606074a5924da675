/-
  coldstoreref04.Sum.
-/
import Derived.Test.YtbiacehmfbopfaaUnseal
namespace Go.Crc
set_option linter.unusedVariables false
set_option linter.unusedSimpArgs false
theorem bitC_ref (s : UInt32) (b : Bool) : bitC s b = (s >>> 1) ^^^ (if (s.toNat + (if b then 1 else 0)) % 2 = 1 then poly else 0) := by
  have hs : (s >>> 1).toNat = s.toNat / 2 := by rw [UInt32.toNat_shiftRight]; simp [Nat.shiftRight_eq_div_pow]
  unfold bitC
  rw [stepC_xor]
  cases b
  · simp only [Bool.false_eq_true, if_false, stepC_zero, UInt32.xor_zero, Nat.add_zero]; rfl
  · have e1 : stepC 1 = poly := by decide
    simp only [if_true, e1]
    unfold stepC
    rcases Nat.mod_two_eq_zero_or_one s.toNat with h | h
    · rw [if_neg (by omega), if_pos (by omega), UInt32.xor_zero]
    · rw [if_pos h, if_neg (by omega), UInt32.xor_assoc, UInt32.xor_self]
theorem bitsN_get : ∀ (k n i : Nat), i < k → (bitsN k n)[i]? = some (n / 2 ^ i % 2 == 1) := by
  intro k
  induction k with
  | zero => intro n i h; omega
  | succ k ih =>
    intro n i h
    cases i with
    | zero => show some (n % 2 == 1) = _; rw [Nat.pow_zero, Nat.div_one]
    | succ i =>
      show (bitsN k (n / 2))[i]? = _
      rw [ih (n / 2) i (by omega), Nat.div_div_eq_div_mul, Nat.pow_succ, Nat.mul_comm 2]
theorem bitsOf_get : ∀ (l : List UInt8) (i : Nat), i < 8 * l.length → (bitsOf l)[i]? = some ((l.getD (i / 8) 0).toNat / 2 ^ (i % 8) % 2 == 1) := by
  intro l
  induction l with
  | nil => intro i h; simp at h
  | cons c l ih =>
    intro i h
    show (bitsN 8 c.toNat ++ bitsOf l)[i]? = _
    by_cases h8 : i < 8
    · rw [List.getElem?_append_left (by rw [bitsN_length]; exact h8), bitsN_get 8 c.toNat i h8, Nat.div_eq_of_lt h8, Nat.mod_eq_of_lt h8]; rfl
    · rw [List.getElem?_append_right (by rw [bitsN_length]; omega), bitsN_length, ih (i - 8) (by rw [List.length_cons] at h; omega)]
      rw [show i / 8 = (i - 8) / 8 + 1 by omega, List.getD_cons_succ, show (i - 8) % 8 = i % 8 by omega]
end Go.Crc
namespace Go.Proofs.Ytbiacehmfbopfaa
open Go.RowKit Go.Sl Go.Crc
set_option linter.unusedVariables false
set_option linter.unusedSimpArgs false
theorem bin_remk (k : IntKind) (n m : Nat) (hm : 0 < m) : binZ .rem k (n : Int) (m : Int) = some ((n % m : Nat) : Int) := by
  simp only [binZ]
  rw [if_neg (by omega)]
  rfl
def RSumI (l : List UInt8) (w : World) (v3 v4 : Value) (wr : World) : Prop := ∃ i : Nat, i ≤ 8 * l.length ∧ v4 = .int .i64 ((i : Nat) : Int) ∧ v3 = .int .u32 ((bitsC 4294967295 ((bitsOf l).take i)).toNat : Int) ∧ wr = w
set_option maxRecDepth 100000 in
set_option maxHeartbeats 4000000 in
theorem refcrc_any (l : List UInt8) (v : Value) (w : World) (hr : Rd 1 w v l.length (bcells l)) (hb : l.length ≤ 100000000) :
    Calls Try.prog 14 #[v] w fun e w' => e = .returned (.int .u32 ((crc l).toNat : Int)) ∧ w = w' := by
  obtain ⟨A, c, rfl⟩ : ∃ A c, v = .slice A l.length c := by obtain ⟨_, A, c, e, _⟩ := hr; exact ⟨A, c, e⟩
  have HR := Lib.hid hr
  obtain ⟨N, hN⟩ : ∃ N, N = 8 * l.length := ⟨_, rfl⟩
  have bN : binZ .mul .i64 8 (l.length : Int) = some (N : Int) := by rw [hN]; exact bin_mul 8 l.length (by omega)
  have HBN := Lib.hid bN
  clear hr bN
  go_enter Try.func14, Try.ntmps14
  go_wp2_with (fail)
  go_loopw [3, 4] (RSumI l w) (fun _ v4 _ => N - (intOf v4).toNat)
  case atStart => exact ⟨0, Nat.zero_le _, rfl, rfl, rfl⟩
  case round =>
    obtain ⟨i, hi, rfl, rfl, rfl⟩ := hrel
    obtain ⟨X, hX⟩ : ∃ X, X = bitsC 4294967295 ((bitsOf l).take i) := ⟨_, rfl⟩
    rw [← hX]
    by_cases hlt : i < N
    · have HLT : Hid (cmpZ .lss (i : Int) (N : Int) = some true) := Lib.hid (by simp only [cmpZ]; simp; omega)
      obtain ⟨j, hj⟩ : ∃ j, j = i / 8 := ⟨_, rfl⟩
      obtain ⟨m, hm⟩ : ∃ m, m = i % 8 := ⟨_, rfl⟩
      have hjl : j < l.length := by omega
      obtain ⟨bb, off, hA, hcell⟩ := HR.out.at (by omega)
      subst hA
      obtain ⟨x, hx⟩ : ∃ x, x = l.getD j 0 := ⟨_, rfl⟩
      have hxe : l[j] = x := by rw [hx, List.getD_eq_getElem?_getD, List.getElem?_eq_getElem hjl]; rfl
      have hc := hcell j _ (bcells_get hjl)
      rw [hxe] at hc
      obtain ⟨y, hy⟩ : ∃ y, y = x.toNat / 2 ^ m := ⟨_, rfl⟩
      have hxlt := x.toNat_lt
      have hyl : y < 256 := by rw [hy]; exact Nat.lt_of_le_of_lt (Nat.div_le_self _ _) hxlt
      obtain ⟨β, hβ⟩ : ∃ β, β = y % 2 := ⟨_, rfl⟩
      have hXlt := X.toNat_lt
      obtain ⟨z, hz⟩ : ∃ z, z = (X.toNat + β) % 4294967296 := ⟨_, rfl⟩
      obtain ⟨q, hq⟩ : ∃ q, q = z % 2 := ⟨_, rfl⟩
      obtain ⟨H, hH⟩ : ∃ H, H = X >>> 1 := ⟨_, rfl⟩
      have hHn : H.toNat = X.toNat / 2 := by rw [hH, UInt32.toNat_shiftRight]; simp [Nat.shiftRight_eq_div_pow]
      have b1 : binZ .quo .i64 (i : Int) 8 = some (j : Int) := by rw [hj]; exact bin_quo i 8 (by decide) (by omega)
      have b2 : binZ .rem .i64 (i : Int) 8 = some (m : Int) := by rw [hm]; exact bin_rem i 8 (by decide)
      have b3 : shZ .shr .u8 (x.toNat : Int) (m : Int) = some (y : Int) := by rw [hy]; exact sh_r .u8 x.toNat m (by rw [hm]; show _ ≤ 8; omega)
      have b4 : IntKind.u32.wrap (y : Int) = (y : Int) := by rw [w32_wrap]; omega
      have b5 : binZ .rem .u32 (y : Int) 2 = some (β : Int) := by rw [hβ]; exact bin_remk .u32 y 2 (by decide)
      have b6 : binZ .add .u32 (X.toNat : Int) (β : Int) = some (z : Int) := by
        show some (IntKind.u32.wrap ((X.toNat : Int) + (β : Int))) = _
        rw [w32_wrap, hz]; congr 1
      have b7 : binZ .rem .u32 (z : Int) 2 = some (q : Int) := by rw [hq]; exact bin_remk .u32 z 2 (by decide)
      have b8 : binZ .quo .u32 (X.toNat : Int) 2 = some (H.toNat : Int) := by
        show (if (2 : Int) = 0 then none else some (IntKind.u32.wrap ((X.toNat : Int).tdiv 2))) = _
        rw [if_neg (by decide), w32_wrap, hHn]
        congr 1
        rw [Int.tdiv_eq_ediv_of_nonneg (by omega)]
        omega
      have hbit : (bitsOf l)[i]? = some (β == 1) := by rw [bitsOf_get l i (by omega), ← hj, ← hx, ← hm, ← hy, ← hβ]
      have hil : i < (bitsOf l).length := by rw [bitsOf_length]; omega
      have hbe : (bitsOf l)[i] = (β == 1) := by rw [List.getElem?_eq_getElem hil] at hbit; exact Option.some.inj hbit
      have hqm : q = (X.toNat + β) % 2 := by omega
      have hβb : (if (β == 1) = true then 1 else 0) = β := by
        rcases Nat.mod_two_eq_zero_or_one y with e | e <;> rw [e] at hβ <;> rw [hβ] <;> rfl
      have hnext : bitsC 4294967295 ((bitsOf l).take (i + 1)) = H ^^^ (if q = 1 then poly else 0) := by
        rw [List.take_succ_eq_append_getElem hil, bitsC_append, ← hX, hbe]
        show bitC X (β == 1) = _
        rw [bitC_ref, ← hH, hβb, ← hqm]
      have HC := Lib.hid hc
      have B1 := Lib.hid b1
      have B2 := Lib.hid b2
      have B3 := Lib.hid b3
      have B4 := Lib.hid b4
      have B5 := Lib.hid b5
      have B6 := Lib.hid b6
      have B7 := Lib.hid b7
      have B8 := Lib.hid b8
      have HN := Lib.hid hnext
      have HQN := Lib.hid hN
      clear hX hj hm hx hxe hc hcell hy hxlt hyl hβ hXlt hz hq hH hHn b1 b2 b3 b4 b5 b6 b7 b8 hbit hbe hqm hβb hnext hN hil
      by_cases hq1 : q = 1
      · have HE : Hid (cmpZ .eql (q : Int) 1 = some true) := Lib.hid (by simp [cmpZ, hq1])
        obtain ⟨Y, hY⟩ : ∃ Y, Y = H ^^^ poly := ⟨_, rfl⟩
        have HY := Lib.hid hY
        have HQ := Lib.hid hq1
        clear hY hq1
        go_wp2_with (first
          | (fail)
          | ((first | (with_reducible refine wpList_plain rfl ?_) | ((with_reducible refine wpList_yes _ _ rfl ?_ ?_); (focus rfl))); intro _ hk; (first
            | (refine opw_len _ _ _ Try.underlying22 (some ⟨bb, off, none⟩) l.length c rfl rfl (hk _ _ ?_))
            | (refine opw_bin .mul _ _ _ _ .i64 8 (l.length : Int) (N : Int) rfl rfl rfl HBN.out (hk _ _ ?_))
            | (refine opw_cmp .lss _ _ _ _ .i64 (i : Int) (N : Int) true rfl rfl rfl HLT.out (hk _ _ ?_))
            | (refine opw_bin .quo _ _ _ _ .i64 (i : Int) 8 (j : Int) rfl rfl rfl B1.out (hk _ _ ?_))
            | (refine opw_indexSl 22 5 _ _ rfl Try.underlying22 sizeB bb off l.length c j rfl rfl hjl (hk _ _ ?_))
            | (refine opw_load1 5 _ rfl _ Try.underlying5 rfl ⟨bb, off + j, none⟩ (.int .u8 (x.toNat : Int)) rfl HC.out (hk _ _ ?_))
            | (refine opw_bin .rem _ _ _ _ .i64 (i : Int) 8 (m : Int) rfl rfl rfl B2.out (hk _ _ ?_))
            | (refine opw_shift .shr _ _ _ _ .u8 .i64 (x.toNat : Int) (m : Int) (y : Int) rfl rfl rfl B3.out (hk _ _ ?_))
            | (refine opw_conv _ _ _ .u8 .u32 (y : Int) (y : Int) rfl Try.underlying5 Try.underlying30 rfl B4.out (hk _ _ ?_))
            | (refine opw_bin .rem _ _ _ _ .u32 (y : Int) 2 (β : Int) rfl rfl rfl B5.out (hk _ _ ?_))
            | (refine opw_bin .add _ _ _ _ .u32 (X.toNat : Int) (β : Int) (z : Int) rfl rfl rfl B6.out (hk _ _ ?_))
            | (refine opw_bin .rem _ _ _ _ .u32 (z : Int) 2 (q : Int) rfl rfl rfl B7.out (hk _ _ ?_))
            | (refine opw_cmp .eql _ _ _ _ .u32 (q : Int) 1 true rfl rfl rfl HE.out (hk _ _ ?_))
            | (refine opw_bin .quo _ _ _ _ .u32 (X.toNat : Int) 2 (H.toNat : Int) rfl rfl rfl B8.out (hk _ _ ?_))
            | (refine opw_bin32 .xor _ _ _ _ H poly Y rfl rfl rfl (.inr (.inl ⟨rfl, HY.out⟩)) (hk _ _ ?_))); simp only [Act.put, List.setIfInBounds_toArray, List.set_cons_zero, List.set_cons_succ]))
        go_wp2
        go_roundw
        case rel =>
          have hrel2 : RSumI l wr (.int .u32 (Y.toNat : Int)) (.int .i64 ((i : Int) + 1)) wr := ⟨i + 1, by have := HQN.out; omega, by go_num, by rw [HN.out, if_pos HQ.out, HY.out], rfl⟩
          first | exact hrel2 | ((repeat apply Exists.intro); exact ⟨hrel2, rfl⟩)
        case measure => simp [intOf]; omega
      · have HE : Hid (cmpZ .eql (q : Int) 1 = some false) := Lib.hid (by simp [cmpZ]; omega)
        have HQ := Lib.hid hq1
        clear hq1
        go_wp2_with (first
          | (fail)
          | ((first | (with_reducible refine wpList_plain rfl ?_) | ((with_reducible refine wpList_yes _ _ rfl ?_ ?_); (focus rfl))); intro _ hk; (first
            | (refine opw_len _ _ _ Try.underlying22 (some ⟨bb, off, none⟩) l.length c rfl rfl (hk _ _ ?_))
            | (refine opw_bin .mul _ _ _ _ .i64 8 (l.length : Int) (N : Int) rfl rfl rfl HBN.out (hk _ _ ?_))
            | (refine opw_cmp .lss _ _ _ _ .i64 (i : Int) (N : Int) true rfl rfl rfl HLT.out (hk _ _ ?_))
            | (refine opw_bin .quo _ _ _ _ .i64 (i : Int) 8 (j : Int) rfl rfl rfl B1.out (hk _ _ ?_))
            | (refine opw_indexSl 22 5 _ _ rfl Try.underlying22 sizeB bb off l.length c j rfl rfl hjl (hk _ _ ?_))
            | (refine opw_load1 5 _ rfl _ Try.underlying5 rfl ⟨bb, off + j, none⟩ (.int .u8 (x.toNat : Int)) rfl HC.out (hk _ _ ?_))
            | (refine opw_bin .rem _ _ _ _ .i64 (i : Int) 8 (m : Int) rfl rfl rfl B2.out (hk _ _ ?_))
            | (refine opw_shift .shr _ _ _ _ .u8 .i64 (x.toNat : Int) (m : Int) (y : Int) rfl rfl rfl B3.out (hk _ _ ?_))
            | (refine opw_conv _ _ _ .u8 .u32 (y : Int) (y : Int) rfl Try.underlying5 Try.underlying30 rfl B4.out (hk _ _ ?_))
            | (refine opw_bin .rem _ _ _ _ .u32 (y : Int) 2 (β : Int) rfl rfl rfl B5.out (hk _ _ ?_))
            | (refine opw_bin .add _ _ _ _ .u32 (X.toNat : Int) (β : Int) (z : Int) rfl rfl rfl B6.out (hk _ _ ?_))
            | (refine opw_bin .rem _ _ _ _ .u32 (z : Int) 2 (q : Int) rfl rfl rfl B7.out (hk _ _ ?_))
            | (refine opw_cmp .eql _ _ _ _ .u32 (q : Int) 1 false rfl rfl rfl HE.out (hk _ _ ?_))
            | (refine opw_bin .quo _ _ _ _ .u32 (X.toNat : Int) 2 (H.toNat : Int) rfl rfl rfl B8.out (hk _ _ ?_))); simp only [Act.put, List.setIfInBounds_toArray, List.set_cons_zero, List.set_cons_succ]))
        go_wp2
        go_roundw
        case rel =>
          have hrel2 : RSumI l wr (.int .u32 (H.toNat : Int)) (.int .i64 ((i : Int) + 1)) wr := ⟨i + 1, by have := HQN.out; omega, by go_num, by rw [HN.out, if_neg HQ.out, UInt32.xor_zero], rfl⟩
          first | exact hrel2 | ((repeat apply Exists.intro); exact ⟨hrel2, rfl⟩)
        case measure => simp [intOf]; omega
    · have HLT : Hid (cmpZ .lss (i : Int) (N : Int) = some false) := Lib.hid (by simp only [cmpZ]; simp; omega)
      obtain rfl : i = 8 * l.length := by omega
      rw [List.take_of_length_le (by rw [bitsOf_length]; exact Nat.le_refl _), ← crcS_bits] at hX
      have HX := Lib.hid hX
      have b9 : binZ .sub .u32 4294967295 (X.toNat : Int) = some ((~~~ X).toNat : Int) := by
        show some (IntKind.u32.wrap ((4294967295 : Int) - (X.toNat : Int))) = _
        rw [w32_wrap]
        have e : (~~~ X).toNat = 4294967295 - X.toNat := by rw [UInt32.toNat_not]; rfl
        have := X.toNat_lt
        rw [e]; congr 1; omega
      have B9 := Lib.hid b9
      clear hX b9
      go_wp2_with (first
        | (fail)
        | ((first | (with_reducible refine wpList_plain rfl ?_) | ((with_reducible refine wpList_yes _ _ rfl ?_ ?_); (focus rfl))); intro _ hk; (first
          | (refine opw_len _ _ _ Try.underlying22 A l.length c rfl rfl (hk _ _ ?_))
          | (refine opw_bin .mul _ _ _ _ .i64 8 (l.length : Int) (N : Int) rfl rfl rfl HBN.out (hk _ _ ?_))
          | (refine opw_cmp .lss _ _ _ _ .i64 ((8 * l.length : Nat) : Int) (N : Int) false rfl rfl rfl HLT.out (hk _ _ ?_))
          | (refine opw_bin .sub _ _ _ _ .u32 4294967295 (X.toNat : Int) ((~~~ X).toNat : Int) rfl rfl rfl B9.out (hk _ _ ?_))); simp only [Act.put, List.setIfInBounds_toArray, List.set_cons_zero, List.set_cons_succ]))
      go_ret
      exact ⟨by unfold crc; rw [← HX.out]; rfl, rfl⟩
end Go.Proofs.Ytbiacehmfbopfaa
