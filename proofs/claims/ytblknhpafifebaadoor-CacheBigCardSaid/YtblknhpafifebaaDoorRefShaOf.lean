/-
  coldstoreref03.Of.
-/
import Derived.Test.YtblknhpafifebaaDoorRefMix
namespace Go.Proofs.YtblknhpafifebaaDoor
open Go.RowKit Go.Sl Go.Sha
set_option linter.unusedVariables false
set_option linter.unusedSimpArgs false

theorem be8_drop (n k : Nat) (h : k < 8) : (be8 n).drop (8 - (k + 1)) = UInt8.ofNat (n / 256 ^ k) :: (be8 n).drop (8 - k) := by
  have hl : 8 - (k + 1) < (be8 n).length := by simp [be8]; omega
  rw [List.drop_eq_getElem_cons hl, show 8 - (k + 1) + 1 = 8 - k by omega]
  simp only [be8, List.getElem_map, List.getElem_range, show 7 - (8 - (k + 1)) = k by omega]
/-- the number's bytes, the last k of them -/
def RefO2 (st : World) (R : HProp) (N : Nat) (v6 v7 v8 : Value) (wr : World) : Prop :=
  ∃ k A c, k ≤ 8 ∧ v8 = .int .i64 ((k : Nat) : Int) ∧ v6 = .int .u64 ((N / 256 ^ k : Nat) : Int) ∧ v7 = .slice A k c ∧ Has st (sep (row 5 1 (.slice A k c) k (bcells ((be8 N).drop (8 - k)))) R) wr
/-- the blocks -/
def RefO3 (st : World) (R : HProp) (E : List UInt8) (v3 v9 : Value) (wr : World) : Prop :=
  ∃ j A c, 64 * j ≤ E.length ∧ v9 = .int .i64 ((64 * j : Nat) : Int) ∧ v3 = .slice A 8 c ∧ Has st (sep (seenP 1 (.slice A 8 c) 8 (wcells (run Sha.start E j).list)) R) wr

set_option maxRecDepth 100000 in
set_option maxHeartbeats 4000000 in
theorem refOf_any (st : World) (R : HProp) (m : List UInt8) (v : Value) (w : World) (h : Has st R w) (hs : Sees st R 1 v m.length (bcells m)) (hmb : m.length ≤ 100000) :
    Calls Tryd.prog 11 #[v] w fun e w' => e = .returned (.agg (bcells (sha m)).toArray) ∧ Has st R w' := by
  obtain ⟨Am, cm, rfl⟩ := hs.form h
  have HS := Lib.hid hs
  have HH := Lib.hid h
  clear hs h
  go_enter Tryd.func11, Tryd.ntmps11
  go_wp2_with (first
    | (go_at_call 25; refine (first_any st _ _ H0.out).mono ?_; rintro e w1 ⟨p, q, rfl, h1⟩; have H1 := Lib.hid h1; clear h1)
    | (refine wp_append rfl _ _ 30 5 1 1 (.int .u8 0) rfl Tryd.underlying30 infoB rfl (by decide) rfl rfl (H1.out.row_empty 5 1) (HS.out _ (H1.out.alloc' _).right.right.right) (bcells_one m) (by unfold maxLen; omega) (by omega) ?_; intro A2 c2 w2 h2 hnil; clear hnil; rw [Nat.zero_add, List.nil_append] at h2; have H2 := Lib.hid h2; clear h2)
    | (refine wp_append (v := .slice A2 m.length c2) rfl _ _ 30 5 1 1 (.int .u8 0) rfl Tryd.underlying30 infoB rfl (by decide) rfl rfl (H2.out.alloc' _) (Rd.one _ _ _) (by simp; rfl) (by unfold maxLen; omega) (by omega) ?_; intro A6 c6 w6 h6 hnil; clear hnil; have H6 := Lib.hid (h6.cast (show _ = sep (row 5 1 (.slice A6 (m.length + 1) c6) (m.length + 1) (bcells (m ++ [128]))) _ by rw [← bcells_append]; rfl)); clear h6)
    | ((with_reducible refine wpList_plain rfl ?_); intro _ hk; (first
      | (refine opw_alloc 34 (.agg (bcells (List.replicate 32 0)).toArray) (bcells (List.replicate 32 0)).toArray rfl zeroID rfl HH.out (fun p0 w0 hp h0 => hk _ _ ?_); clear hp; have H0 := Lib.hid h0; clear h0)); simp only [Act.put, List.setIfInBounds_toArray, List.set_cons_zero, List.set_cons_succ]))
  obtain ⟨Y, hY⟩ : ∃ Y, Y = m ++ [128] := ⟨_, rfl⟩
  have hYl : Y.length = m.length + 1 := by rw [hY]; simp
  obtain ⟨z, hz⟩ : ∃ z, z = (119 - m.length % 64) % 64 := ⟨_, rfl⟩
  have hz64 : z < 64 := by omega
  have hz1 : (Y.length + z) % 64 = 56 := by omega
  have hz2 : ∀ k, k < z → (Y.length + k) % 64 ≠ 56 := fun k hk => by omega
  have HYL : Y.length ≤ 100001 := by omega
  have h7 : Has st (sep (row 5 1 (.slice A6 Y.length c6) Y.length (bcells Y)) (sep (seenP 1 (.slice (some ⟨p, 0, none⟩) 8 8) 8 (wcells Sha.start.list)) (sep (seenP 1 (.slice (some ⟨q, 0, none⟩) 64 64) 64 (wcells keyList)) (sep (blk p0 (.cells (bcells (List.replicate 32 0)).toArray 34 (0, 0))) R)))) w6 := by
    have a1 := H6.out.second
    have a2 := (a1.row_of_blk 1 64 64 (by decide) (by decide) rfl (xs := wcells keyList) rfl).row_seen
    have a3 := a2.third
    have a4 := (a3.row_of_blk 1 8 8 (by decide) (by decide) rfl (xs := wcells Sha.start.list) rfl).row_seen
    rw [hYl, hY]
    exact a4.cast (by ac_rfl)
  have HZ1 := Lib.hid hz1
  have HZ2 := Lib.hid hz2
  have HZ := Lib.hid hz
  have HY := Lib.hid hY
  have HYLen := Lib.hid hYl
  have H7 := Lib.hid h7
  rw [← hYl]
  clear hY hYl hz hz1 hz2 h7 H6 H2 H1 H0 HH
  go_loopw [5] (SumA st (sep (seenP 1 (.slice (some ⟨p, 0, none⟩) 8 8) 8 (wcells Sha.start.list)) (sep (seenP 1 (.slice (some ⟨q, 0, none⟩) 64 64) 64 (wcells keyList)) (sep (blk p0 (.cells (bcells (List.replicate 32 0)).toArray 34 (0, 0))) R))) Y z) (fun v _ => 100065 - lenOf v)
  case atStart => exact ⟨0, A6, c6, Nat.zero_le _, rfl, H7.out.cast (by simp)⟩
  case round =>
    obtain ⟨k, A, c, hk, rfl, h8⟩ := hrel
    clear H7
    by_cases hlt : k < z
    · have ht := HZ2.out k hlt
      obtain ⟨n, hn⟩ : ∃ n, n = Y.length + k := ⟨_, rfl⟩
      rw [← hn] at h8 ht ⊢
      have htb : cmpZ .neq ((n % 64 : Nat) : Int) 56 = some true := by simp only [cmpZ, Option.some.injEq, bne_iff_ne]; omega
      have hnb : n ≤ 100064 := by omega
      have HN := Lib.hid hn
      have HT := Lib.hid htb
      have H8 := Lib.hid h8
      clear ht hn htb h8
      go_wp2_with (first
        | (refine wp_append (v := .slice A n c) rfl _ _ 30 5 1 1 (.int .u8 0) rfl Tryd.underlying30 infoB rfl (by decide) rfl rfl (H8.out.alloc' _) (Rd.one _ _ _) (by simp; rfl) (by unfold maxLen; omega) (by omega) ?_; intro A9 c9 w9 h9 hnil; clear hnil; have H9 := Lib.hid h9; clear h9)
        | ((with_reducible refine wpList_plain rfl ?_); intro _ hk; (first
          | (refine opw_bin .rem _ _ _ _ .i64 (n : Int) 64 ((n % 64 : Nat) : Int) rfl rfl rfl (bin_rem n 64 (by decide)) (hk _ _ ?_))
          | (refine opw_cmp .neq _ _ _ _ .i64 ((n % 64 : Nat) : Int) 56 true rfl rfl rfl HT.out (hk _ _ ?_))); simp only [Act.put, List.setIfInBounds_toArray, List.set_cons_zero, List.set_cons_succ]))
      have hn := HN.out
      go_roundw
      case rel =>
        refine ⟨k + 1, A9, c9, by omega, by rw [show Y.length + (k + 1) = n + 1 by omega], ?_⟩
        rw [show Y.length + (k + 1) = n + 1 by omega]
        have e : bcells (Y ++ List.replicate k 0) ++ [Value.int .u8 0] = bcells (Y ++ List.replicate (k + 1) 0) :=
          (bcells_append (Y ++ List.replicate k 0) [0]).trans (by rw [List.append_assoc, ← List.replicate_succ'])
        exact H9.out.cast (by rw [e])
      case measure => simp [lenOf]; omega
    · obtain rfl : k = z := by omega
      have hc : cmpZ .neq ((((Y.length + k) % 64 : Nat)) : Int) 56 = some false := by simp only [cmpZ, Option.some.injEq, bne_eq_false_iff_eq]; have := HZ1.out; omega
      obtain ⟨Y2, hY2⟩ : ∃ Y2, Y2 = Y ++ List.replicate k 0 := ⟨_, rfl⟩
      have hYl : Y2.length = Y.length + k := by rw [hY2]; simp
      rw [← hYl] at h8 hc ⊢
      rw [← hY2] at h8
      have hb2 : Y2.length ≤ 100064 := by omega
      obtain ⟨N, hN⟩ : ∃ N, N = 8 * m.length := ⟨_, rfl⟩
      have hNb : N ≤ 800000 := by omega
      have bN : binZ .mul .u64 8 (m.length : Int) = some (N : Int) := by
        unfold binZ
        rw [show (8 : Int) * (m.length : Int) = (N : Int) by omega, u64_nat _ (by omega)]
      have HC := Lib.hid hc
      have HY2 := Lib.hid hY2
      have HY2L := Lib.hid hYl
      have H8 := Lib.hid h8
      have HN := Lib.hid hN
      have HBN := Lib.hid bN
      clear hY2 hYl hc h8 hN bN
      go_wp2_with ((with_reducible refine wpList_plain rfl ?_); intro _ hk; (first
        | (refine opw_bin .rem _ _ _ _ .i64 (Y2.length : Int) 64 ((Y2.length % 64 : Nat) : Int) rfl rfl rfl (bin_rem Y2.length 64 (by decide)) (hk _ _ ?_))
        | (refine opw_cmp .neq _ _ _ _ .i64 ((Y2.length % 64 : Nat) : Int) 56 false rfl rfl rfl HC.out (hk _ _ ?_))
        | (refine opw_conv _ _ _ .i64 .u64 (m.length : Int) (m.length : Int) rfl Tryd.underlying3 Tryd.underlying68 rfl (u64_nat _ (by omega)) (hk _ _ ?_))
        | (refine opw_bin .mul _ _ _ _ .u64 8 (m.length : Int) (N : Int) rfl rfl rfl HBN.out (hk _ _ ?_))); simp only [Act.put, List.setIfInBounds_toArray, List.set_cons_zero, List.set_cons_succ])
      go_loopw [6, 7, 8] (RefO2 st (sep (row 5 1 (.slice A Y2.length c) Y2.length (bcells Y2)) (sep (seenP 1 (.slice (some ⟨p, 0, none⟩) 8 8) 8 (wcells Sha.start.list)) (sep (seenP 1 (.slice (some ⟨q, 0, none⟩) 64 64) 64 (wcells keyList)) (sep (blk p0 (.cells (bcells (List.replicate 32 0)).toArray 34 (0, 0))) R)))) N) (fun _ _ v8 _ => 8 - (intOf v8).toNat)
      case atStart => exact ⟨0, _, _, Nat.zero_le _, rfl, by simp, rfl, H8.out.row_empty 5 1⟩
      case round =>
        obtain ⟨k2, A3, c3, hk2, rfl, rfl, rfl, h9⟩ := hrel
        clear H8
        by_cases hlt2 : k2 < 8
        · obtain ⟨M, hM⟩ : ∃ M, M = N / 256 ^ k2 := ⟨_, rfl⟩
          have hMb : M ≤ 800000 := by rw [hM]; exact Nat.le_trans (Nat.div_le_self _ _) hNb
          obtain ⟨Mr, hMr⟩ : ∃ Mr, Mr = M % 256 := ⟨_, rfl⟩
          obtain ⟨Mq, hMq⟩ : ∃ Mq, Mq = M / 256 := ⟨_, rfl⟩
          obtain ⟨B, hB⟩ : ∃ B, B = UInt8.ofNat M := ⟨_, rfl⟩
          have b1 : binZ .rem .u64 (M : Int) 256 = some (Mr : Int) := by rw [hMr]; exact bin_rem M 256 (by decide)
          have b2 : binZ .quo .u64 (M : Int) 256 = some (Mq : Int) := by
            have e : (M : Int).tdiv (256 : Int) = (Mq : Int) := by rw [Int.tdiv_eq_ediv_of_nonneg (by omega)]; omega
            unfold binZ
            rw [if_neg (by decide), e, u64_nat _ (by omega)]
          have b3 : IntKind.u8.wrap (Mr : Int) = (B.toNat : Int) := by rw [wrap_u8, hMr, hB]; simp
          have hnext : Mq = N / 256 ^ (k2 + 1) := by rw [hMq, hM, Nat.div_div_eq_div_mul, Nat.pow_succ]
          have hlist : bcells [B] ++ bcells ((be8 N).drop (8 - k2)) = bcells ((be8 N).drop (8 - (k2 + 1))) := by
            rw [be8_drop N k2 hlt2, bcells_append, hB, hM]; rfl
          rw [← hM]
          have HB1 := Lib.hid b1
          have HB2 := Lib.hid b2
          have HB3 := Lib.hid b3
          have HNX := Lib.hid hnext
          have HLI := Lib.hid hlist
          have H9 := Lib.hid h9
          clear hM hMr hMq hB b1 b2 b3 hnext hlist h9
          go_wp2_with (first
            | (refine wp_append (v := .slice (some ⟨q2, 0, none⟩) 1 1) rfl _ _ 30 5 1 1 (.int .u8 0) rfl Tryd.underlying30 infoB rfl (by decide) rfl rfl (H10.out.row_of_blk 1 1 1 (by decide) (by decide) rfl (xs := bcells [B]) rfl) (sees_row st _ 1 _ _ _ _ _ H10.out.right) (bcells_one _) (by unfold maxLen; omega) (by omega) ?_; intro A11 c11 w11 h11 hnil; clear hnil; have H11 := Lib.hid h11; clear h11)
            | ((with_reducible refine wpList_plain rfl ?_); intro _ hk; (first
              | (refine opw_bin .rem _ _ _ _ .u64 (M : Int) 256 (Mr : Int) rfl rfl rfl HB1.out (hk _ _ ?_))
              | (refine opw_bin .quo _ _ _ _ .u64 (M : Int) 256 (Mq : Int) rfl rfl rfl HB2.out (hk _ _ ?_))
              | (refine opw_conv _ _ _ .u64 .u8 (Mr : Int) (B.toNat : Int) rfl Tryd.underlying68 Tryd.underlying5 rfl HB3.out (hk _ _ ?_))
              | (refine opw_lit _ 1 _ [(0, .int .u8 (B.toNat : Int))] 5 (bcells [B]).toArray rfl rfl (by kernel_rfl) H9.out (fun q2 w10 h10 => hk _ _ ?_); have H10 := Lib.hid h10; clear h10)); simp only [Act.put, List.setIfInBounds_toArray, List.set_cons_zero, List.set_cons_succ]))
          have hnx := HNX.out
          go_roundw
          case rel =>
            have hrel2 : RefO2 st (sep (row 5 1 (.slice A Y2.length c) Y2.length (bcells Y2)) (sep (seenP 1 (.slice (some ⟨p, 0, none⟩) 8 8) 8 (wcells Sha.start.list)) (sep (seenP 1 (.slice (some ⟨q, 0, none⟩) 64 64) 64 (wcells keyList)) (sep (blk p0 (.cells (bcells (List.replicate 32 0)).toArray 34 (0, 0))) R)))) N (.int .u64 (Mq : Int)) (.slice A11 (1 + k2) c11) (.int .i64 ((k2 : Int) + 1)) w11 := by
              refine ⟨k2 + 1, A11, c11, by omega, by go_num, by rw [hnx], by rw [Nat.add_comm], ?_⟩
              exact H11.out.drop2.cast (by rw [HLI.out, Nat.add_comm 1 k2])
            first | exact hrel2 | ((repeat apply Exists.intro); exact ⟨hrel2, rfl⟩)
          case measure => simp [intOf]; omega
        · obtain rfl : k2 = 8 := by omega
          obtain ⟨E, hE⟩ : ∃ E, E = Y2 ++ be8 N := ⟨_, rfl⟩
          have hEl : E.length = Y2.length + 8 := by rw [hE]; simp [be8]
          have hE2 : E = m ++ tail m.length := by
            rw [hE, HY2.out, HY.out, HZ.out, HN.out]
            simp [tail]
          have hE64 : E.length % 64 = 0 := by rw [hE2, List.length_append]; exact tail_length m.length
          have hEb : E.length ≤ 100072 := by omega
          have h9' : Has st (sep (row 5 1 (.slice A3 8 c3) 8 (bcells (be8 N))) (sep (row 5 1 (.slice A Y2.length c) Y2.length (bcells Y2)) (sep (seenP 1 (.slice (some ⟨p, 0, none⟩) 8 8) 8 (wcells Sha.start.list)) (sep (seenP 1 (.slice (some ⟨q, 0, none⟩) 64 64) 64 (wcells keyList)) (sep (blk p0 (.cells (bcells (List.replicate 32 0)).toArray 34 (0, 0))) R))))) wr := h9
          have HE2 := Lib.hid hE2
          have HE := Lib.hid hE
          have HEl := Lib.hid hEl
          have HE64 := Lib.hid hE64
          have H9 := Lib.hid h9'
          have hbe : (be8 N).length = 8 := by simp [be8]
          have HBE := Lib.hid hbe
          clear hE hEl hE2 hE64 h9 h9' hbe
          go_wp2_with (refine wp_append (v := .slice A Y2.length c) (m := 8) (news := bcells (be8 N)) rfl _ _ 30 5 1 1 (.int .u8 0) rfl Tryd.underlying30 infoB rfl (by decide) rfl rfl H9.out.second (sees_row st _ 1 _ _ _ _ _ H9.out) (bcells_one _) (by unfold maxLen; omega) (by omega) ?_; intro A12 c12 w12 h12 hnil; clear hnil; rw [bcells_append, ← HE.out, ← HEl.out] at h12; have H12 := Lib.hid (h12.drop2.cast (show _ = sep (seenP 1 (.slice (some ⟨p, 0, none⟩) 8 8) 8 (wcells Sha.start.list)) (sep (row 5 1 (.slice A12 E.length c12) E.length (bcells E)) (sep (seenP 1 (.slice (some ⟨q, 0, none⟩) 64 64) 64 (wcells keyList)) (sep (blk p0 (.cells (bcells (List.replicate 32 0)).toArray 34 (0, 0))) R))) by ac_rfl)); clear h12)
          rw [← HEl.out]
          go_loopw [3, 9] (RefO3 st (sep (row 5 1 (.slice A12 E.length c12) E.length (bcells E)) (sep (seenP 1 (.slice (some ⟨q, 0, none⟩) 64 64) 64 (wcells keyList)) (sep (blk p0 (.cells (bcells (List.replicate 32 0)).toArray 34 (0, 0))) R))) E) (fun _ v9 _ => 100072 - (intOf v9).toNat)
          case atStart => exact ⟨0, _, _, Nat.zero_le _, rfl, rfl, H12.out⟩
          case round =>
            obtain ⟨j, Ah, ch, hj, rfl, rfl, h13⟩ := hrel
            clear H12 H9
            obtain ⟨a, ha⟩ : ∃ a, a = 64 * j := ⟨_, rfl⟩
            rw [← ha]
            by_cases hlt3 : a < E.length
            · obtain ⟨b, hb⟩ : ∃ b, b = a + 64 := ⟨_, rfl⟩
              have hbE : b ≤ E.length := by have := HE64.out; omega
              obtain ⟨S5, hS5⟩ : ∃ S5, S5 = run Sha.start E j := ⟨_, rfl⟩
              rw [← hS5] at h13
              have badd : IntKind.i64.wrap ((a : Int) + 64) = (b : Int) := by rw [show (a : Int) + 64 = (b : Int) by omega, i64_nat _ (by omega)]
              have hba : b - a = 64 := by omega
              obtain ⟨l, hl⟩ : ∃ l, l = (E.drop a).take 64 := ⟨_, rfl⟩
              have hll : l.length = 64 := by rw [hl]; simp; omega
              obtain ⟨S6, hS6⟩ : ∃ S6, S6 = mix S5 (E.drop a) := ⟨_, rfl⟩
              have hmix : mix S5 l = S6 := by rw [hl, hS6, mix_take]
              have hcap := (sees_row st _ 1 _ _ _ _ wr h13.right).le_cap
              have HM : Hid (∀ (A' : Option Addr) (c' : Nat), (∀ w', Rd 1 w' (.slice A12 E.length c12) E.length (bcells E) → Rd 1 w' (.slice A' (b - a) c') (b - a) (((bcells E).drop (a * 1)).take ((b - a) * 1))) → ∀ w', Has st (sep (seenP 1 (.slice Ah 8 ch) 8 (wcells S5.list)) (sep (row 5 1 (.slice A12 E.length c12) E.length (bcells E)) (sep (seenP 1 (.slice (some ⟨q, 0, none⟩) 64 64) 64 (wcells keyList)) (sep (blk p0 (.cells (bcells (List.replicate 32 0)).toArray 34 (0, 0))) R)))) w' →
                  Calls Tryd.prog 26 #[.slice Ah 8 ch, .slice (some ⟨q, 0, none⟩) 64 64, .slice A' (b - a) c'] w' fun e w'' => ∃ A c, e = .returned (.slice A 8 c) ∧ Has st (sep (row 70 1 (.slice A 8 c) 8 (wcells S6.list)) (sep (seenP 1 (.slice Ah 8 ch) 8 (wcells S5.list)) (sep (row 5 1 (.slice A12 E.length c12) E.length (bcells E)) (sep (seenP 1 (.slice (some ⟨q, 0, none⟩) 64 64) 64 (wcells keyList)) (sep (blk p0 (.cells (bcells (List.replicate 32 0)).toArray 34 (0, 0))) R))))) w'') := Lib.hid fun A' c' hr w' h' => by
                have hz : (((bcells E).drop (a * 1)).take ((b - a) * 1)) = bcells l := by rw [Nat.mul_one, Nat.mul_one, hba, hl, bcells_drop, bcells_take]
                have := refmix_any st _ S5 l (.slice Ah 8 ch) (.slice (some ⟨q, 0, none⟩) 64 64) (.slice A' (b - a) c') (fun w2 h2 => sees_seen st 1 _ _ _ _ w2 h2) (fun w2 h2 => sees_seen st 1 _ _ _ _ w2 h2.right.right) (fun w2 h2 => by
                  have := hr w2 (sees_row st _ 1 _ _ _ _ w2 h2.right)
                  rw [hz, hba] at this
                  rw [hll, hba]; exact this) (by omega) (by omega) w' h'
                rw [hmix] at this
                exact this
              have HA := Lib.hid ha
              have HB := Lib.hid hb
              have HS5 := Lib.hid hS5
              have HS6 := Lib.hid hS6
              have HADD := Lib.hid badd
              have H13 := Lib.hid h13
              have hab : a ≤ b := by omega
              clear ha hb hS5 hS6 badd hba hl hll hmix h13
              go_wp2_with (first
                | (go_at_call 26; refine (HM.out A' c' HSL.out _ H13.out).mono ?_; rintro e w14 ⟨A14, c14, rfl, h14⟩; have H14 := Lib.hid h14; clear h14)
                | (refine wp_slice rfl 30 5 1 _ _ _ _ rfl Tryd.underlying30 infosz (by decide) (A := A12) (n := E.length) (cap := c12) (xs := bcells E) rfl (sees_row st _ 1 _ _ _ _ _ H13.out.right) a b c12 (SlB.at .i64 a 0) (SlB.at .i64 b E.length) (SlB.out c12) (fun h => absurd rfl h) hab hbE (Nat.le_trans hbE hcap.1) (Nat.le_refl _) ?_; intro A' c' hR2; have HSL := Lib.hid hR2; clear hR2)
                | ((with_reducible refine wpList_plain rfl ?_); intro _ hk; (first
                  | (refine opw_bin .add _ _ _ _ .i64 (a : Int) 64 (b : Int) rfl rfl rfl (congrArg some HADD.out) (hk _ _ ?_))); simp only [Act.put, List.setIfInBounds_toArray, List.set_cons_zero, List.set_cons_succ]))
              have ha := HA.out
              have hb := HB.out
              go_roundw
              case rel =>
                have hrel3 : RefO3 st (sep (row 5 1 (.slice A12 E.length c12) E.length (bcells E)) (sep (seenP 1 (.slice (some ⟨q, 0, none⟩) 64 64) 64 (wcells keyList)) (sep (blk p0 (.cells (bcells (List.replicate 32 0)).toArray 34 (0, 0))) R))) E (.slice A14 8 c14) (.int .i64 (b : Int)) w14 := by
                  refine ⟨j + 1, A14, c14, by omega, by rw [show 64 * (j + 1) = b by omega], rfl, ?_⟩
                  rw [show run Sha.start E (j + 1) = S6 by rw [HS6.out, HS5.out, ha]; rfl]
                  exact H14.out.drop2.row_seen
                first | exact hrel3 | ((repeat apply Exists.intro); exact ⟨hrel3, rfl⟩)
              case measure => simp [intOf]; omega
            · obtain ⟨gh, oh, rfl, _⟩ := (sees_seen st 1 _ 8 _ _ wr h13).at (by decide)
              obtain ⟨S5, hS5⟩ : ∃ S5, S5 = run Sha.start E j := ⟨_, rfl⟩
              rw [← hS5] at h13
              have hS : S5 = state (m ++ tail m.length) := by
                rw [hS5, ← HE2.out]; unfold state
                rw [show j = E.length / 64 by have := HE64.out; omega]
              have hsha : Sha.bytes S5 = Sha.sha m := by rw [hS]; rfl
              have HSha := Lib.hid hsha
              have H13 := Lib.hid h13
              clear ha hS5 hS hsha h13
              go_wp2_with ((with_reducible refine wpList_plain rfl ?_); intro _ hk; (first
                | (refine opw_build _ [] [] (bcells (List.replicate 32 0)).toArray rfl rfl (by kernel_rfl) (hk _ _ ?_))
                | (refine opw_alloc 34 (.agg (bcells (List.replicate 32 0)).toArray) (bcells (List.replicate 32 0)).toArray rfl zeroID rfl H13.out (fun p6 w8 hp h8 => hk _ _ ?_); clear hp; have H8 := Lib.hid h8; clear h8)
                | (refine opw_storeRow 34 _ _ rfl p6 (bcells (List.replicate 32 0)).toArray rfl rfl 34 (bcells (List.replicate 32 0)).toArray infoID rfl (bcells_all _) H8.out (fun w9 h9 => hk _ _ ?_); have H9' := Lib.hid h9; clear h9)); simp only [Act.put, List.setIfInBounds_toArray, List.set_cons_zero, List.set_cons_succ])
              go_loopw [11] (SumD st (sep (seenP 1 (.slice (some ⟨gh, oh, none⟩) 8 ch) 8 (wcells S5.list)) (sep (row 5 1 (.slice A12 E.length c12) E.length (bcells E)) (sep (seenP 1 (.slice (some ⟨q, 0, none⟩) 64 64) 64 (wcells keyList)) (sep (blk p0 (.cells (bcells (List.replicate 32 0)).toArray 34 (0, 0))) R)))) p6 S5) (fun v _ => 32 - (intOf v).toNat)
              case atStart => exact ⟨0, Nat.zero_le _, rfl, H9'.out⟩
              case round =>
                obtain ⟨i, hi, rfl, h8⟩ := hrel
                clear H8 H9' H13
                by_cases hlt : i < 32
                · obtain ⟨d, hd⟩ : ∃ d, d = i / 4 := ⟨_, rfl⟩
                  obtain ⟨r, hr⟩ : ∃ r, r = i % 4 := ⟨_, rfl⟩
                  obtain ⟨e8, he⟩ : ∃ e, e = 8 * r := ⟨_, rfl⟩
                  obtain ⟨f, hf⟩ : ∃ f, f = 24 - e8 := ⟨_, rfl⟩
                  have b1 := bin_quo i 4 (by decide) (by omega)
                  have b2 := bin_rem i 4 (by decide)
                  have b3 := bin_mul 8 r (by omega)
                  have b4 := bin_sub 24 e8 (by omega) (by decide)
                  rw [← hd] at b1
                  rw [← hr] at b2
                  rw [← he] at b3
                  rw [← hf] at b4
                  obtain ⟨X, hX⟩ : ∃ X, X = S5.list.getD d 0 := ⟨_, rfl⟩
                  obtain ⟨Z, hZ⟩ : ∃ Z, Z = X.toNat / 2 ^ f := ⟨_, rfl⟩
                  have b5 := sh_r .u32 X.toNat f (by show f ≤ 32; omega)
                  rw [← hZ] at b5
                  have hd8 : d < 8 := by omega
                  have gX : wr.cell? ⟨gh, oh + d, none⟩ = some (.int .u32 (X.toNat : Int)) := (sees_seen st 1 _ 8 _ _ wr h8.right).cells_at _ _ (by rw [hX]; exact wget (show d < S5.list.length from hd8))
                  have e0 : ((Sha.bytes S5).take i ++ List.replicate (32 - i) 0).set i (UInt8.ofNat Z) = (Sha.bytes S5).take (i + 1) ++ List.replicate (32 - (i + 1)) 0 := by
                    rw [hZ, hX, hf, he, hr, hd]; exact bytes_set S5 i hlt
                  have hsz : 0 + i < (bcells ((Sha.bytes S5).take i ++ List.replicate (32 - i) 0)).toArray.size := by simp [bcells_length, bytes_length]; omega
                  have HB1 := Lib.hid b1
                  have HB2 := Lib.hid b2
                  have HB3 := Lib.hid b3
                  have HB4 := Lib.hid b4
                  have HB5 := Lib.hid b5
                  have HGX := Lib.hid gX
                  have HE0 := Lib.hid e0
                  have HSZ := Lib.hid hsz
                  have H8 := Lib.hid h8
                  clear hd hr he hf b1 b2 b3 b4 b5 hX hZ gX e0 hsz h8
                  go_wp2_with (((with_reducible refine wpList_plain rfl ?_); intro _ hk; (first
                    | (refine opw_bin .quo _ _ _ _ .i64 (i : Int) 4 (d : Int) rfl rfl rfl HB1.out (hk _ _ ?_))
                    | (refine opw_bin .rem _ _ _ _ .i64 (i : Int) 4 (r : Int) rfl rfl rfl HB2.out (hk _ _ ?_))
                    | (refine opw_bin .mul _ _ _ _ .i64 8 (r : Int) (e8 : Int) rfl rfl rfl HB3.out (hk _ _ ?_))
                    | (refine opw_bin .sub _ _ _ _ .i64 24 (e8 : Int) (f : Int) rfl rfl rfl HB4.out (hk _ _ ?_))
                    | (refine opw_shift .shr _ _ _ _ .u32 .i64 (X.toNat : Int) (f : Int) (Z : Int) rfl rfl rfl HB5.out (hk _ _ ?_))
                    | (refine opw_conv _ _ _ .u32 .u8 (Z : Int) ((UInt8.ofNat Z).toNat : Int) rfl Tryd.underlying70 Tryd.underlying5 rfl (wrap_u8 _) (hk _ _ ?_))
                    | (refine opw_indexSl 65 _ _ _ rfl Tryd.underlying65 info1 gh oh 8 ch d rfl .i64 rfl hd8 (hk _ _ ?_))
                    | (refine opw_load1 _ _ rfl _ Tryd.underlying70 rfl ⟨gh, oh + d, none⟩ (.int .u32 (X.toNat : Int)) rfl HGX.out (hk _ _ ?_))
                    | (refine opw_indexArr 34 _ 32 _ _ rfl Tryd.underlying34 infosz p6 0 i rfl .i64 rfl hlt (hk _ _ ?_))
                    | (refine opw_store1 5 _ _ rfl infosz p6 (0 + i) (.int .u8 ((UInt8.ofNat Z).toNat : Int)) rfl rfl rfl H8.out HSZ.out (fun w9 h9 => hk _ _ ?_))); simp only [Act.put, List.setIfInBounds_toArray, List.set_cons_zero, List.set_cons_succ]))
                  go_wp2
                  go_roundw
                  case rel =>
                    have hrel4 : SumD st (sep (seenP 1 (.slice (some ⟨gh, oh, none⟩) 8 ch) 8 (wcells S5.list)) (sep (row 5 1 (.slice A12 E.length c12) E.length (bcells E)) (sep (seenP 1 (.slice (some ⟨q, 0, none⟩) 64 64) 64 (wcells keyList)) (sep (blk p0 (.cells (bcells (List.replicate 32 0)).toArray 34 (0, 0))) R)))) p6 S5 (.int .i64 ((i : Int) + 1)) w9 :=
                      ⟨i + 1, by omega, by go_num, h9.cast (by rw [Nat.zero_add, List.setIfInBounds_toArray, show (bcells ((Sha.bytes S5).take i ++ List.replicate (32 - i) 0)).set i (.int .u8 ((UInt8.ofNat Z).toNat : Int)) = bcells ((Sha.bytes S5).take (i + 1) ++ List.replicate (32 - (i + 1)) 0) by rw [← HE0.out]; simp [bcells, bcell, List.map_set]])⟩
                    first | exact hrel4 | ((repeat apply Exists.intro); exact ⟨hrel4, rfl⟩)
                  case measure => simp [intOf]; omega
                · obtain rfl : i = 32 := by omega
                  rw [show (Sha.bytes S5).take 32 ++ List.replicate (32 - 32) 0 = Sha.bytes S5 by simp [List.take_of_length_le, bytes_length]] at h8
                  have hz : (bcells (Sha.bytes S5)).toArray.size = 32 := by simp [bcells_length, bytes_length]
                  have hi32 : (Tryd.prog.info? 34).map (·.size) = some (bcells (Sha.bytes S5)).toArray.size := by rw [hz]; exact infoID
                  have hz2 : (bcells (List.replicate 32 (0 : UInt8))).toArray.size = (bcells (Sha.bytes S5)).toArray.size := by rw [hz]; rfl
                  have HI := Lib.hid hi32
                  have HZ2 := Lib.hid hz2
                  obtain ⟨BS, hBS⟩ : ∃ BS, BS = Sha.bytes S5 := ⟨_, rfl⟩
                  rw [← hBS] at h8 HI HZ2
                  have hfin : Has st (sep (blk p0 (.cells (bcells (List.replicate 32 0)).toArray 34 (0, 0))) (sep (blk p6 (.cells (bcells BS).toArray 34 (0, 0))) (sep (seenP 1 (.slice (some ⟨gh, oh, none⟩) 8 ch) 8 (wcells S5.list)) (sep (row 5 1 (.slice A12 E.length c12) E.length (bcells E)) (sep (seenP 1 (.slice (some ⟨q, 0, none⟩) 64 64) 64 (wcells keyList)) R))))) wr := h8.cast (by ac_rfl)
                  have H8 := Lib.hid h8
                  have HF := Lib.hid hfin
                  have HBS := Lib.hid hBS
                  clear h8 hz hi32 hz2 hBS hfin
                  go_wp2_with (((with_reducible refine wpList_plain rfl ?_); intro _ hk; (first
                    | (refine opw_loadRow 34 _ rfl p6 rfl 34 (bcells BS).toArray _ _ Tryd.underlying34 rfl HI.out H8.out (hk _ _ ?_))
                    | (refine opw_storeRow 34 _ _ rfl p0 (bcells BS).toArray rfl rfl 34 (bcells (List.replicate 32 0)).toArray HI.out HZ2.out (bcells_all _) HF.out (fun w9 h9 => hk _ _ ?_))); simp only [Act.put, List.setIfInBounds_toArray, List.set_cons_zero, List.set_cons_succ]))
                  refine bodyPost_ret (results_cell_row Tryd.results11 _ _ _ 34 _ _ _ rfl h9.blk Tryd.underlying34 rfl HI.out) rfl ?_
                  exact ⟨by rw [HBS.out, HSha.out], h9.right.right.right.right.right⟩
end Go.Proofs.YtblknhpafifebaaDoor
