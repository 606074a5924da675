/-
  Several texts of this proof in one: RefShaOf, RefF.
-/
import Derived.Test.YtblknhpafifebaaDoorM8
import Derived.Test.YtblknhpafifebaaDoorM7
import Derived.Test.YtblknhpafifebaaDoorM6
/-
  coldstoreref03.Of.
-/
namespace Go.Proofs.YtblknhpafifebaaDoor
open Go.RowKit Go.Sl Go.Sha
set_option linter.unusedVariables false
set_option linter.unusedSimpArgs false

theorem be8_drop (n k : Nat) (h : k < 8) : (be8 n).drop (8 - (k + 1)) = UInt8.ofNat (n / 256 ^ k) :: (be8 n).drop (8 - k) := by
  have hl : 8 - (k + 1) < (be8 n).length := by simp [be8]; omega
  rw [List.drop_eq_getElem_cons hl, show 8 - (k + 1) + 1 = 8 - k by omega]
  simp only [be8, List.getElem_map, List.getElem_range, show 7 - (8 - (k + 1)) = k by omega]
/-- the number's bytes, the last k of them -/
def RefO2 (st : World) (R : HProp) (N : Nat) (v6 v7 v8 : Value) (wr : World) : Prop :=
  ∃ k A c, k ≤ 8 ∧ v8 = .int .i64 ((k : Nat) : Int) ∧ v6 = .int .u64 ((N / 256 ^ k : Nat) : Int) ∧ v7 = .slice A k c ∧ Has st (sep (row 5 1 (.slice A k c) k (bcells ((be8 N).drop (8 - k)))) R) wr
/-- the blocks -/
def RefO3 (st : World) (R : HProp) (E : List UInt8) (v3 v9 : Value) (wr : World) : Prop :=
  ∃ j A c, 64 * j ≤ E.length ∧ v9 = .int .i64 ((64 * j : Nat) : Int) ∧ v3 = .slice A 8 c ∧ Has st (sep (seenP 1 (.slice A 8 c) 8 (wcells (run Sha.start E j).list)) R) wr

set_option maxRecDepth 100000 in
set_option maxHeartbeats 4000000 in
theorem refOf_any (st : World) (R : HProp) (m : List UInt8) (v : Value) (w : World) (h : Has st R w) (hs : Sees st R 1 v m.length (bcells m)) (hmb : m.length ≤ 100000) :
    Calls Tryd.prog 11 #[v] w fun e w' => e = .returned (.agg (bcells (sha m)).toArray) ∧ Has st R w' := by
  obtain ⟨Am, cm, rfl⟩ := hs.form h
  have HS := Lib.hid hs
  have HH := Lib.hid h
  clear hs h
  go_enter Tryd.func11, Tryd.ntmps11
  go_wp2_with (first
    | (go_at_call 25; refine (first_any st _ _ H0.out).mono ?_; rintro e w1 ⟨p, q, rfl, h1⟩; have H1 := Lib.hid h1; clear h1)
    | (refine wp_append rfl _ _ 30 5 1 1 (.int .u8 0) rfl Tryd.underlying30 infoB rfl (by decide) rfl rfl (H1.out.row_empty 5 1) (HS.out _ (H1.out.alloc' _).right.right.right) (bcells_one m) (by unfold maxLen; omega) (by omega) ?_; intro A2 c2 w2 h2 hnil; clear hnil; rw [Nat.zero_add, List.nil_append] at h2; have H2 := Lib.hid h2; clear h2)
    | (refine wp_append (v := .slice A2 m.length c2) rfl _ _ 30 5 1 1 (.int .u8 0) rfl Tryd.underlying30 infoB rfl (by decide) rfl rfl (H2.out.alloc' _) (Rd.one _ _ _) (by simp; rfl) (by unfold maxLen; omega) (by omega) ?_; intro A6 c6 w6 h6 hnil; clear hnil; have H6 := Lib.hid (h6.cast (show _ = sep (row 5 1 (.slice A6 (m.length + 1) c6) (m.length + 1) (bcells (m ++ [128]))) _ by rw [← bcells_append]; rfl)); clear h6)
    | ((with_reducible refine wpList_plain rfl ?_); intro _ hk; (first
      | (refine opw_alloc 34 (.agg (bcells (List.replicate 32 0)).toArray) (bcells (List.replicate 32 0)).toArray rfl zeroID rfl HH.out (fun p0 w0 hp h0 => hk _ _ ?_); clear hp; have H0 := Lib.hid h0; clear h0)); simp only [Act.put, List.setIfInBounds_toArray, List.set_cons_zero, List.set_cons_succ]))
  obtain ⟨Y, hY⟩ : ∃ Y, Y = m ++ [128] := ⟨_, rfl⟩
  have hYl : Y.length = m.length + 1 := by rw [hY]; simp
  obtain ⟨z, hz⟩ : ∃ z, z = (119 - m.length % 64) % 64 := ⟨_, rfl⟩
  have hz64 : z < 64 := by omega
  have hz1 : (Y.length + z) % 64 = 56 := by omega
  have hz2 : ∀ k, k < z → (Y.length + k) % 64 ≠ 56 := fun k hk => by omega
  have HYL : Y.length ≤ 100001 := by omega
  have h7 : Has st (sep (row 5 1 (.slice A6 Y.length c6) Y.length (bcells Y)) (sep (seenP 1 (.slice (some ⟨p, 0, none⟩) 8 8) 8 (wcells Sha.start.list)) (sep (seenP 1 (.slice (some ⟨q, 0, none⟩) 64 64) 64 (wcells keyList)) (sep (blk p0 (.cells (bcells (List.replicate 32 0)).toArray 34 (0, 0))) R)))) w6 := by
    have a1 := H6.out.second
    have a2 := (a1.row_of_blk 1 64 64 (by decide) (by decide) rfl (xs := wcells keyList) rfl).row_seen
    have a3 := a2.third
    have a4 := (a3.row_of_blk 1 8 8 (by decide) (by decide) rfl (xs := wcells Sha.start.list) rfl).row_seen
    rw [hYl, hY]
    exact a4.cast (by ac_rfl)
  have HZ1 := Lib.hid hz1
  have HZ2 := Lib.hid hz2
  have HZ := Lib.hid hz
  have HY := Lib.hid hY
  have HYLen := Lib.hid hYl
  have H7 := Lib.hid h7
  rw [← hYl]
  clear hY hYl hz hz1 hz2 h7 H6 H2 H1 H0 HH
  go_loopw [5] (SumA st (sep (seenP 1 (.slice (some ⟨p, 0, none⟩) 8 8) 8 (wcells Sha.start.list)) (sep (seenP 1 (.slice (some ⟨q, 0, none⟩) 64 64) 64 (wcells keyList)) (sep (blk p0 (.cells (bcells (List.replicate 32 0)).toArray 34 (0, 0))) R))) Y z) (fun v _ => 100065 - lenOf v)
  case atStart => exact ⟨0, A6, c6, Nat.zero_le _, rfl, H7.out.cast (by simp)⟩
  case round =>
    obtain ⟨k, A, c, hk, rfl, h8⟩ := hrel
    clear H7
    by_cases hlt : k < z
    · have ht := HZ2.out k hlt
      obtain ⟨n, hn⟩ : ∃ n, n = Y.length + k := ⟨_, rfl⟩
      rw [← hn] at h8 ht ⊢
      have htb : cmpZ .neq ((n % 64 : Nat) : Int) 56 = some true := by simp only [cmpZ, Option.some.injEq, bne_iff_ne]; omega
      have hnb : n ≤ 100064 := by omega
      have HN := Lib.hid hn
      have HT := Lib.hid htb
      have H8 := Lib.hid h8
      clear ht hn htb h8
      go_wp2_with (first
        | (refine wp_append (v := .slice A n c) rfl _ _ 30 5 1 1 (.int .u8 0) rfl Tryd.underlying30 infoB rfl (by decide) rfl rfl (H8.out.alloc' _) (Rd.one _ _ _) (by simp; rfl) (by unfold maxLen; omega) (by omega) ?_; intro A9 c9 w9 h9 hnil; clear hnil; have H9 := Lib.hid h9; clear h9)
        | ((with_reducible refine wpList_plain rfl ?_); intro _ hk; (first
          | (refine opw_bin .rem _ _ _ _ .i64 (n : Int) 64 ((n % 64 : Nat) : Int) rfl rfl rfl (bin_rem n 64 (by decide)) (hk _ _ ?_))
          | (refine opw_cmp .neq _ _ _ _ .i64 ((n % 64 : Nat) : Int) 56 true rfl rfl rfl HT.out (hk _ _ ?_))); simp only [Act.put, List.setIfInBounds_toArray, List.set_cons_zero, List.set_cons_succ]))
      have hn := HN.out
      go_roundw
      case rel =>
        refine ⟨k + 1, A9, c9, by omega, by rw [show Y.length + (k + 1) = n + 1 by omega], ?_⟩
        rw [show Y.length + (k + 1) = n + 1 by omega]
        have e : bcells (Y ++ List.replicate k 0) ++ [Value.int .u8 0] = bcells (Y ++ List.replicate (k + 1) 0) :=
          (bcells_append (Y ++ List.replicate k 0) [0]).trans (by rw [List.append_assoc, ← List.replicate_succ'])
        exact H9.out.cast (by rw [e])
      case measure => simp [lenOf]; omega
    · obtain rfl : k = z := by omega
      have hc : cmpZ .neq ((((Y.length + k) % 64 : Nat)) : Int) 56 = some false := by simp only [cmpZ, Option.some.injEq, bne_eq_false_iff_eq]; have := HZ1.out; omega
      obtain ⟨Y2, hY2⟩ : ∃ Y2, Y2 = Y ++ List.replicate k 0 := ⟨_, rfl⟩
      have hYl : Y2.length = Y.length + k := by rw [hY2]; simp
      rw [← hYl] at h8 hc ⊢
      rw [← hY2] at h8
      have hb2 : Y2.length ≤ 100064 := by omega
      obtain ⟨N, hN⟩ : ∃ N, N = 8 * m.length := ⟨_, rfl⟩
      have hNb : N ≤ 800000 := by omega
      have bN : binZ .mul .u64 8 (m.length : Int) = some (N : Int) := by
        unfold binZ
        rw [show (8 : Int) * (m.length : Int) = (N : Int) by omega, u64_nat _ (by omega)]
      have HC := Lib.hid hc
      have HY2 := Lib.hid hY2
      have HY2L := Lib.hid hYl
      have H8 := Lib.hid h8
      have HN := Lib.hid hN
      have HBN := Lib.hid bN
      clear hY2 hYl hc h8 hN bN
      go_wp2_with ((with_reducible refine wpList_plain rfl ?_); intro _ hk; (first
        | (refine opw_bin .rem _ _ _ _ .i64 (Y2.length : Int) 64 ((Y2.length % 64 : Nat) : Int) rfl rfl rfl (bin_rem Y2.length 64 (by decide)) (hk _ _ ?_))
        | (refine opw_cmp .neq _ _ _ _ .i64 ((Y2.length % 64 : Nat) : Int) 56 false rfl rfl rfl HC.out (hk _ _ ?_))
        | (refine opw_conv _ _ _ .i64 .u64 (m.length : Int) (m.length : Int) rfl Tryd.underlying3 Tryd.underlying68 rfl (u64_nat _ (by omega)) (hk _ _ ?_))
        | (refine opw_bin .mul _ _ _ _ .u64 8 (m.length : Int) (N : Int) rfl rfl rfl HBN.out (hk _ _ ?_))); simp only [Act.put, List.setIfInBounds_toArray, List.set_cons_zero, List.set_cons_succ])
      go_loopw [6, 7, 8] (RefO2 st (sep (row 5 1 (.slice A Y2.length c) Y2.length (bcells Y2)) (sep (seenP 1 (.slice (some ⟨p, 0, none⟩) 8 8) 8 (wcells Sha.start.list)) (sep (seenP 1 (.slice (some ⟨q, 0, none⟩) 64 64) 64 (wcells keyList)) (sep (blk p0 (.cells (bcells (List.replicate 32 0)).toArray 34 (0, 0))) R)))) N) (fun _ _ v8 _ => 8 - (intOf v8).toNat)
      case atStart => exact ⟨0, _, _, Nat.zero_le _, rfl, by simp, rfl, H8.out.row_empty 5 1⟩
      case round =>
        obtain ⟨k2, A3, c3, hk2, rfl, rfl, rfl, h9⟩ := hrel
        clear H8
        by_cases hlt2 : k2 < 8
        · obtain ⟨M, hM⟩ : ∃ M, M = N / 256 ^ k2 := ⟨_, rfl⟩
          have hMb : M ≤ 800000 := by rw [hM]; exact Nat.le_trans (Nat.div_le_self _ _) hNb
          obtain ⟨Mr, hMr⟩ : ∃ Mr, Mr = M % 256 := ⟨_, rfl⟩
          obtain ⟨Mq, hMq⟩ : ∃ Mq, Mq = M / 256 := ⟨_, rfl⟩
          obtain ⟨B, hB⟩ : ∃ B, B = UInt8.ofNat M := ⟨_, rfl⟩
          have b1 : binZ .rem .u64 (M : Int) 256 = some (Mr : Int) := by rw [hMr]; exact bin_rem M 256 (by decide)
          have b2 : binZ .quo .u64 (M : Int) 256 = some (Mq : Int) := by
            have e : (M : Int).tdiv (256 : Int) = (Mq : Int) := by rw [Int.tdiv_eq_ediv_of_nonneg (by omega)]; omega
            unfold binZ
            rw [if_neg (by decide), e, u64_nat _ (by omega)]
          have b3 : IntKind.u8.wrap (Mr : Int) = (B.toNat : Int) := by rw [wrap_u8, hMr, hB]; simp
          have hnext : Mq = N / 256 ^ (k2 + 1) := by rw [hMq, hM, Nat.div_div_eq_div_mul, Nat.pow_succ]
          have hlist : bcells [B] ++ bcells ((be8 N).drop (8 - k2)) = bcells ((be8 N).drop (8 - (k2 + 1))) := by
            rw [be8_drop N k2 hlt2, bcells_append, hB, hM]; rfl
          rw [← hM]
          have HB1 := Lib.hid b1
          have HB2 := Lib.hid b2
          have HB3 := Lib.hid b3
          have HNX := Lib.hid hnext
          have HLI := Lib.hid hlist
          have H9 := Lib.hid h9
          clear hM hMr hMq hB b1 b2 b3 hnext hlist h9
          go_wp2_with (first
            | (refine wp_append (v := .slice (some ⟨q2, 0, none⟩) 1 1) rfl _ _ 30 5 1 1 (.int .u8 0) rfl Tryd.underlying30 infoB rfl (by decide) rfl rfl (H10.out.row_of_blk 1 1 1 (by decide) (by decide) rfl (xs := bcells [B]) rfl) (sees_row st _ 1 _ _ _ _ _ H10.out.right) (bcells_one _) (by unfold maxLen; omega) (by omega) ?_; intro A11 c11 w11 h11 hnil; clear hnil; have H11 := Lib.hid h11; clear h11)
            | ((with_reducible refine wpList_plain rfl ?_); intro _ hk; (first
              | (refine opw_bin .rem _ _ _ _ .u64 (M : Int) 256 (Mr : Int) rfl rfl rfl HB1.out (hk _ _ ?_))
              | (refine opw_bin .quo _ _ _ _ .u64 (M : Int) 256 (Mq : Int) rfl rfl rfl HB2.out (hk _ _ ?_))
              | (refine opw_conv _ _ _ .u64 .u8 (Mr : Int) (B.toNat : Int) rfl Tryd.underlying68 Tryd.underlying5 rfl HB3.out (hk _ _ ?_))
              | (refine opw_lit _ 1 _ [(0, .int .u8 (B.toNat : Int))] 5 (bcells [B]).toArray rfl rfl (by kernel_rfl) H9.out (fun q2 w10 h10 => hk _ _ ?_); have H10 := Lib.hid h10; clear h10)); simp only [Act.put, List.setIfInBounds_toArray, List.set_cons_zero, List.set_cons_succ]))
          have hnx := HNX.out
          go_roundw
          case rel =>
            have hrel2 : RefO2 st (sep (row 5 1 (.slice A Y2.length c) Y2.length (bcells Y2)) (sep (seenP 1 (.slice (some ⟨p, 0, none⟩) 8 8) 8 (wcells Sha.start.list)) (sep (seenP 1 (.slice (some ⟨q, 0, none⟩) 64 64) 64 (wcells keyList)) (sep (blk p0 (.cells (bcells (List.replicate 32 0)).toArray 34 (0, 0))) R)))) N (.int .u64 (Mq : Int)) (.slice A11 (1 + k2) c11) (.int .i64 ((k2 : Int) + 1)) w11 := by
              refine ⟨k2 + 1, A11, c11, by omega, by go_num, by rw [hnx], by rw [Nat.add_comm], ?_⟩
              exact H11.out.drop2.cast (by rw [HLI.out, Nat.add_comm 1 k2])
            first | exact hrel2 | ((repeat apply Exists.intro); exact ⟨hrel2, rfl⟩)
          case measure => simp [intOf]; omega
        · obtain rfl : k2 = 8 := by omega
          obtain ⟨E, hE⟩ : ∃ E, E = Y2 ++ be8 N := ⟨_, rfl⟩
          have hEl : E.length = Y2.length + 8 := by rw [hE]; simp [be8]
          have hE2 : E = m ++ tail m.length := by
            rw [hE, HY2.out, HY.out, HZ.out, HN.out]
            simp [tail]
          have hE64 : E.length % 64 = 0 := by rw [hE2, List.length_append]; exact tail_length m.length
          have hEb : E.length ≤ 100072 := by omega
          have h9' : Has st (sep (row 5 1 (.slice A3 8 c3) 8 (bcells (be8 N))) (sep (row 5 1 (.slice A Y2.length c) Y2.length (bcells Y2)) (sep (seenP 1 (.slice (some ⟨p, 0, none⟩) 8 8) 8 (wcells Sha.start.list)) (sep (seenP 1 (.slice (some ⟨q, 0, none⟩) 64 64) 64 (wcells keyList)) (sep (blk p0 (.cells (bcells (List.replicate 32 0)).toArray 34 (0, 0))) R))))) wr := h9
          have HE2 := Lib.hid hE2
          have HE := Lib.hid hE
          have HEl := Lib.hid hEl
          have HE64 := Lib.hid hE64
          have H9 := Lib.hid h9'
          have hbe : (be8 N).length = 8 := by simp [be8]
          have HBE := Lib.hid hbe
          clear hE hEl hE2 hE64 h9 h9' hbe
          go_wp2_with (refine wp_append (v := .slice A Y2.length c) (m := 8) (news := bcells (be8 N)) rfl _ _ 30 5 1 1 (.int .u8 0) rfl Tryd.underlying30 infoB rfl (by decide) rfl rfl H9.out.second (sees_row st _ 1 _ _ _ _ _ H9.out) (bcells_one _) (by unfold maxLen; omega) (by omega) ?_; intro A12 c12 w12 h12 hnil; clear hnil; rw [bcells_append, ← HE.out, ← HEl.out] at h12; have H12 := Lib.hid (h12.drop2.cast (show _ = sep (seenP 1 (.slice (some ⟨p, 0, none⟩) 8 8) 8 (wcells Sha.start.list)) (sep (row 5 1 (.slice A12 E.length c12) E.length (bcells E)) (sep (seenP 1 (.slice (some ⟨q, 0, none⟩) 64 64) 64 (wcells keyList)) (sep (blk p0 (.cells (bcells (List.replicate 32 0)).toArray 34 (0, 0))) R))) by ac_rfl)); clear h12)
          rw [← HEl.out]
          go_loopw [3, 9] (RefO3 st (sep (row 5 1 (.slice A12 E.length c12) E.length (bcells E)) (sep (seenP 1 (.slice (some ⟨q, 0, none⟩) 64 64) 64 (wcells keyList)) (sep (blk p0 (.cells (bcells (List.replicate 32 0)).toArray 34 (0, 0))) R))) E) (fun _ v9 _ => 100072 - (intOf v9).toNat)
          case atStart => exact ⟨0, _, _, Nat.zero_le _, rfl, rfl, H12.out⟩
          case round =>
            obtain ⟨j, Ah, ch, hj, rfl, rfl, h13⟩ := hrel
            clear H12 H9
            obtain ⟨a, ha⟩ : ∃ a, a = 64 * j := ⟨_, rfl⟩
            rw [← ha]
            by_cases hlt3 : a < E.length
            · obtain ⟨b, hb⟩ : ∃ b, b = a + 64 := ⟨_, rfl⟩
              have hbE : b ≤ E.length := by have := HE64.out; omega
              obtain ⟨S5, hS5⟩ : ∃ S5, S5 = run Sha.start E j := ⟨_, rfl⟩
              rw [← hS5] at h13
              have badd : IntKind.i64.wrap ((a : Int) + 64) = (b : Int) := by rw [show (a : Int) + 64 = (b : Int) by omega, i64_nat _ (by omega)]
              have hba : b - a = 64 := by omega
              obtain ⟨l, hl⟩ : ∃ l, l = (E.drop a).take 64 := ⟨_, rfl⟩
              have hll : l.length = 64 := by rw [hl]; simp; omega
              obtain ⟨S6, hS6⟩ : ∃ S6, S6 = mix S5 (E.drop a) := ⟨_, rfl⟩
              have hmix : mix S5 l = S6 := by rw [hl, hS6, mix_take]
              have hcap := (sees_row st _ 1 _ _ _ _ wr h13.right).le_cap
              have HM : Hid (∀ (A' : Option Addr) (c' : Nat), (∀ w', Rd 1 w' (.slice A12 E.length c12) E.length (bcells E) → Rd 1 w' (.slice A' (b - a) c') (b - a) (((bcells E).drop (a * 1)).take ((b - a) * 1))) → ∀ w', Has st (sep (seenP 1 (.slice Ah 8 ch) 8 (wcells S5.list)) (sep (row 5 1 (.slice A12 E.length c12) E.length (bcells E)) (sep (seenP 1 (.slice (some ⟨q, 0, none⟩) 64 64) 64 (wcells keyList)) (sep (blk p0 (.cells (bcells (List.replicate 32 0)).toArray 34 (0, 0))) R)))) w' →
                  Calls Tryd.prog 26 #[.slice Ah 8 ch, .slice (some ⟨q, 0, none⟩) 64 64, .slice A' (b - a) c'] w' fun e w'' => ∃ A c, e = .returned (.slice A 8 c) ∧ Has st (sep (row 70 1 (.slice A 8 c) 8 (wcells S6.list)) (sep (seenP 1 (.slice Ah 8 ch) 8 (wcells S5.list)) (sep (row 5 1 (.slice A12 E.length c12) E.length (bcells E)) (sep (seenP 1 (.slice (some ⟨q, 0, none⟩) 64 64) 64 (wcells keyList)) (sep (blk p0 (.cells (bcells (List.replicate 32 0)).toArray 34 (0, 0))) R))))) w'') := Lib.hid fun A' c' hr w' h' => by
                have hz : (((bcells E).drop (a * 1)).take ((b - a) * 1)) = bcells l := by rw [Nat.mul_one, Nat.mul_one, hba, hl, bcells_drop, bcells_take]
                have := refmix_any st _ S5 l (.slice Ah 8 ch) (.slice (some ⟨q, 0, none⟩) 64 64) (.slice A' (b - a) c') (fun w2 h2 => sees_seen st 1 _ _ _ _ w2 h2) (fun w2 h2 => sees_seen st 1 _ _ _ _ w2 h2.right.right) (fun w2 h2 => by
                  have := hr w2 (sees_row st _ 1 _ _ _ _ w2 h2.right)
                  rw [hz, hba] at this
                  rw [hll, hba]; exact this) (by omega) (by omega) w' h'
                rw [hmix] at this
                exact this
              have HA := Lib.hid ha
              have HB := Lib.hid hb
              have HS5 := Lib.hid hS5
              have HS6 := Lib.hid hS6
              have HADD := Lib.hid badd
              have H13 := Lib.hid h13
              have hab : a ≤ b := by omega
              clear ha hb hS5 hS6 badd hba hl hll hmix h13
              go_wp2_with (first
                | (go_at_call 26; refine (HM.out A' c' HSL.out _ H13.out).mono ?_; rintro e w14 ⟨A14, c14, rfl, h14⟩; have H14 := Lib.hid h14; clear h14)
                | (refine wp_slice rfl 30 5 1 _ _ _ _ rfl Tryd.underlying30 infosz (by decide) (A := A12) (n := E.length) (cap := c12) (xs := bcells E) rfl (sees_row st _ 1 _ _ _ _ _ H13.out.right) a b c12 (SlB.at .i64 a 0) (SlB.at .i64 b E.length) (SlB.out c12) (fun h => absurd rfl h) hab hbE (Nat.le_trans hbE hcap.1) (Nat.le_refl _) ?_; intro A' c' hR2; have HSL := Lib.hid hR2; clear hR2)
                | ((with_reducible refine wpList_plain rfl ?_); intro _ hk; (first
                  | (refine opw_bin .add _ _ _ _ .i64 (a : Int) 64 (b : Int) rfl rfl rfl (congrArg some HADD.out) (hk _ _ ?_))); simp only [Act.put, List.setIfInBounds_toArray, List.set_cons_zero, List.set_cons_succ]))
              have ha := HA.out
              have hb := HB.out
              go_roundw
              case rel =>
                have hrel3 : RefO3 st (sep (row 5 1 (.slice A12 E.length c12) E.length (bcells E)) (sep (seenP 1 (.slice (some ⟨q, 0, none⟩) 64 64) 64 (wcells keyList)) (sep (blk p0 (.cells (bcells (List.replicate 32 0)).toArray 34 (0, 0))) R))) E (.slice A14 8 c14) (.int .i64 (b : Int)) w14 := by
                  refine ⟨j + 1, A14, c14, by omega, by rw [show 64 * (j + 1) = b by omega], rfl, ?_⟩
                  rw [show run Sha.start E (j + 1) = S6 by rw [HS6.out, HS5.out, ha]; rfl]
                  exact H14.out.drop2.row_seen
                first | exact hrel3 | ((repeat apply Exists.intro); exact ⟨hrel3, rfl⟩)
              case measure => simp [intOf]; omega
            · obtain ⟨gh, oh, rfl, _⟩ := (sees_seen st 1 _ 8 _ _ wr h13).at (by decide)
              obtain ⟨S5, hS5⟩ : ∃ S5, S5 = run Sha.start E j := ⟨_, rfl⟩
              rw [← hS5] at h13
              have hS : S5 = state (m ++ tail m.length) := by
                rw [hS5, ← HE2.out]; unfold state
                rw [show j = E.length / 64 by have := HE64.out; omega]
              have hsha : Sha.bytes S5 = Sha.sha m := by rw [hS]; rfl
              have HSha := Lib.hid hsha
              have H13 := Lib.hid h13
              clear ha hS5 hS hsha h13
              go_wp2_with ((with_reducible refine wpList_plain rfl ?_); intro _ hk; (first
                | (refine opw_build _ [] [] (bcells (List.replicate 32 0)).toArray rfl rfl (by kernel_rfl) (hk _ _ ?_))
                | (refine opw_alloc 34 (.agg (bcells (List.replicate 32 0)).toArray) (bcells (List.replicate 32 0)).toArray rfl zeroID rfl H13.out (fun p6 w8 hp h8 => hk _ _ ?_); clear hp; have H8 := Lib.hid h8; clear h8)
                | (refine opw_storeRow 34 _ _ rfl p6 (bcells (List.replicate 32 0)).toArray rfl rfl 34 (bcells (List.replicate 32 0)).toArray infoID rfl (bcells_all _) H8.out (fun w9 h9 => hk _ _ ?_); have H9' := Lib.hid h9; clear h9)); simp only [Act.put, List.setIfInBounds_toArray, List.set_cons_zero, List.set_cons_succ])
              go_loopw [11] (SumD st (sep (seenP 1 (.slice (some ⟨gh, oh, none⟩) 8 ch) 8 (wcells S5.list)) (sep (row 5 1 (.slice A12 E.length c12) E.length (bcells E)) (sep (seenP 1 (.slice (some ⟨q, 0, none⟩) 64 64) 64 (wcells keyList)) (sep (blk p0 (.cells (bcells (List.replicate 32 0)).toArray 34 (0, 0))) R)))) p6 S5) (fun v _ => 32 - (intOf v).toNat)
              case atStart => exact ⟨0, Nat.zero_le _, rfl, H9'.out⟩
              case round =>
                obtain ⟨i, hi, rfl, h8⟩ := hrel
                clear H8 H9' H13
                by_cases hlt : i < 32
                · obtain ⟨d, hd⟩ : ∃ d, d = i / 4 := ⟨_, rfl⟩
                  obtain ⟨r, hr⟩ : ∃ r, r = i % 4 := ⟨_, rfl⟩
                  obtain ⟨e8, he⟩ : ∃ e, e = 8 * r := ⟨_, rfl⟩
                  obtain ⟨f, hf⟩ : ∃ f, f = 24 - e8 := ⟨_, rfl⟩
                  have b1 := bin_quo i 4 (by decide) (by omega)
                  have b2 := bin_rem i 4 (by decide)
                  have b3 := bin_mul 8 r (by omega)
                  have b4 := bin_sub 24 e8 (by omega) (by decide)
                  rw [← hd] at b1
                  rw [← hr] at b2
                  rw [← he] at b3
                  rw [← hf] at b4
                  obtain ⟨X, hX⟩ : ∃ X, X = S5.list.getD d 0 := ⟨_, rfl⟩
                  obtain ⟨Z, hZ⟩ : ∃ Z, Z = X.toNat / 2 ^ f := ⟨_, rfl⟩
                  have b5 := sh_r .u32 X.toNat f (by show f ≤ 32; omega)
                  rw [← hZ] at b5
                  have hd8 : d < 8 := by omega
                  have gX : wr.cell? ⟨gh, oh + d, none⟩ = some (.int .u32 (X.toNat : Int)) := (sees_seen st 1 _ 8 _ _ wr h8.right).cells_at _ _ (by rw [hX]; exact wget (show d < S5.list.length from hd8))
                  have e0 : ((Sha.bytes S5).take i ++ List.replicate (32 - i) 0).set i (UInt8.ofNat Z) = (Sha.bytes S5).take (i + 1) ++ List.replicate (32 - (i + 1)) 0 := by
                    rw [hZ, hX, hf, he, hr, hd]; exact bytes_set S5 i hlt
                  have hsz : 0 + i < (bcells ((Sha.bytes S5).take i ++ List.replicate (32 - i) 0)).toArray.size := by simp [bcells_length, bytes_length]; omega
                  have HB1 := Lib.hid b1
                  have HB2 := Lib.hid b2
                  have HB3 := Lib.hid b3
                  have HB4 := Lib.hid b4
                  have HB5 := Lib.hid b5
                  have HGX := Lib.hid gX
                  have HE0 := Lib.hid e0
                  have HSZ := Lib.hid hsz
                  have H8 := Lib.hid h8
                  clear hd hr he hf b1 b2 b3 b4 b5 hX hZ gX e0 hsz h8
                  go_wp2_with (((with_reducible refine wpList_plain rfl ?_); intro _ hk; (first
                    | (refine opw_bin .quo _ _ _ _ .i64 (i : Int) 4 (d : Int) rfl rfl rfl HB1.out (hk _ _ ?_))
                    | (refine opw_bin .rem _ _ _ _ .i64 (i : Int) 4 (r : Int) rfl rfl rfl HB2.out (hk _ _ ?_))
                    | (refine opw_bin .mul _ _ _ _ .i64 8 (r : Int) (e8 : Int) rfl rfl rfl HB3.out (hk _ _ ?_))
                    | (refine opw_bin .sub _ _ _ _ .i64 24 (e8 : Int) (f : Int) rfl rfl rfl HB4.out (hk _ _ ?_))
                    | (refine opw_shift .shr _ _ _ _ .u32 .i64 (X.toNat : Int) (f : Int) (Z : Int) rfl rfl rfl HB5.out (hk _ _ ?_))
                    | (refine opw_conv _ _ _ .u32 .u8 (Z : Int) ((UInt8.ofNat Z).toNat : Int) rfl Tryd.underlying70 Tryd.underlying5 rfl (wrap_u8 _) (hk _ _ ?_))
                    | (refine opw_indexSl 65 _ _ _ rfl Tryd.underlying65 info1 gh oh 8 ch d rfl .i64 rfl hd8 (hk _ _ ?_))
                    | (refine opw_load1 _ _ rfl _ Tryd.underlying70 rfl ⟨gh, oh + d, none⟩ (.int .u32 (X.toNat : Int)) rfl HGX.out (hk _ _ ?_))
                    | (refine opw_indexArr 34 _ 32 _ _ rfl Tryd.underlying34 infosz p6 0 i rfl .i64 rfl hlt (hk _ _ ?_))
                    | (refine opw_store1 5 _ _ rfl infosz p6 (0 + i) (.int .u8 ((UInt8.ofNat Z).toNat : Int)) rfl rfl rfl H8.out HSZ.out (fun w9 h9 => hk _ _ ?_))); simp only [Act.put, List.setIfInBounds_toArray, List.set_cons_zero, List.set_cons_succ]))
                  go_wp2
                  go_roundw
                  case rel =>
                    have hrel4 : SumD st (sep (seenP 1 (.slice (some ⟨gh, oh, none⟩) 8 ch) 8 (wcells S5.list)) (sep (row 5 1 (.slice A12 E.length c12) E.length (bcells E)) (sep (seenP 1 (.slice (some ⟨q, 0, none⟩) 64 64) 64 (wcells keyList)) (sep (blk p0 (.cells (bcells (List.replicate 32 0)).toArray 34 (0, 0))) R)))) p6 S5 (.int .i64 ((i : Int) + 1)) w9 :=
                      ⟨i + 1, by omega, by go_num, h9.cast (by rw [Nat.zero_add, List.setIfInBounds_toArray, show (bcells ((Sha.bytes S5).take i ++ List.replicate (32 - i) 0)).set i (.int .u8 ((UInt8.ofNat Z).toNat : Int)) = bcells ((Sha.bytes S5).take (i + 1) ++ List.replicate (32 - (i + 1)) 0) by rw [← HE0.out]; simp [bcells, bcell, List.map_set]])⟩
                    first | exact hrel4 | ((repeat apply Exists.intro); exact ⟨hrel4, rfl⟩)
                  case measure => simp [intOf]; omega
                · obtain rfl : i = 32 := by omega
                  rw [show (Sha.bytes S5).take 32 ++ List.replicate (32 - 32) 0 = Sha.bytes S5 by simp [List.take_of_length_le, bytes_length]] at h8
                  have hz : (bcells (Sha.bytes S5)).toArray.size = 32 := by simp [bcells_length, bytes_length]
                  have hi32 : (Tryd.prog.info? 34).map (·.size) = some (bcells (Sha.bytes S5)).toArray.size := by rw [hz]; exact infoID
                  have hz2 : (bcells (List.replicate 32 (0 : UInt8))).toArray.size = (bcells (Sha.bytes S5)).toArray.size := by rw [hz]; rfl
                  have HI := Lib.hid hi32
                  have HZ2 := Lib.hid hz2
                  obtain ⟨BS, hBS⟩ : ∃ BS, BS = Sha.bytes S5 := ⟨_, rfl⟩
                  rw [← hBS] at h8 HI HZ2
                  have hfin : Has st (sep (blk p0 (.cells (bcells (List.replicate 32 0)).toArray 34 (0, 0))) (sep (blk p6 (.cells (bcells BS).toArray 34 (0, 0))) (sep (seenP 1 (.slice (some ⟨gh, oh, none⟩) 8 ch) 8 (wcells S5.list)) (sep (row 5 1 (.slice A12 E.length c12) E.length (bcells E)) (sep (seenP 1 (.slice (some ⟨q, 0, none⟩) 64 64) 64 (wcells keyList)) R))))) wr := h8.cast (by ac_rfl)
                  have H8 := Lib.hid h8
                  have HF := Lib.hid hfin
                  have HBS := Lib.hid hBS
                  clear h8 hz hi32 hz2 hBS hfin
                  go_wp2_with (((with_reducible refine wpList_plain rfl ?_); intro _ hk; (first
                    | (refine opw_loadRow 34 _ rfl p6 rfl 34 (bcells BS).toArray _ _ Tryd.underlying34 rfl HI.out H8.out (hk _ _ ?_))
                    | (refine opw_storeRow 34 _ _ rfl p0 (bcells BS).toArray rfl rfl 34 (bcells (List.replicate 32 0)).toArray HI.out HZ2.out (bcells_all _) HF.out (fun w9 h9 => hk _ _ ?_))); simp only [Act.put, List.setIfInBounds_toArray, List.set_cons_zero, List.set_cons_succ]))
                  refine bodyPost_ret (results_cell_row Tryd.results11 _ _ _ 34 _ _ _ rfl h9.blk Tryd.underlying34 rfl HI.out) rfl ?_
                  exact ⟨by rw [HBS.out, HSha.out], h9.right.right.right.right.right⟩
end Go.Proofs.YtblknhpafifebaaDoor

/-
  coldstoreref14: Put.
-/
namespace Go.Proofs.YtblknhpafifebaaDoor
open Go Go.RowKit Go.Sl Go.Sha
set_option linter.unusedVariables false
set_option linter.unusedSimpArgs false
set_option maxRecDepth 100000
theorem RS.widen {st : World} {F T : HProp} {v : Value} {K : List Kp} (h : RS st F v K) (hw : ∀ w, Has st T w → Has st F w) : RS st T v K :=
  ⟨fun w h' => h.row w (hw w h'), h.ok, fun k hk w h' => h.blob k hk w (hw w h')⟩
/-- a Cache value in memory of its own: a piece G by which its row reads -/
def wrow (st : World) (F0 : HProp) (u : Value) (lim : Int) (K : List Kp) : HProp := ex fun p : Option Addr × Nat × HProp => sep (pure (u = .agg (rcells (.slice p.1 K.length p.2.1) lim) ∧ RS st (sep p.2.2 F0) (.slice p.1 K.length p.2.1) K)) p.2.2
theorem wrow_mk {st : World} {F0 R : HProp} {w : World} {B : Option Addr} {d : Nat} {lim : Int} {K : List Kp} {G : HProp} (h : Has st (sep G R) w) (hRS : RS st (sep G F0) (.slice B K.length d) K) : Has st (sep (wrow st F0 (.agg (rcells (.slice B K.length d) lim)) lim K) R) w :=
  Has.ofEx (p := fun p : Option Addr × Nat × HProp => sep (pure (Value.agg (rcells (.slice B K.length d) lim) = .agg (rcells (.slice p.1 K.length p.2.1) lim) ∧ RS st (sep p.2.2 F0) (.slice p.1 K.length p.2.1) K)) p.2.2) (B, d, G) ((Has.ofPure ⟨rfl, hRS⟩ h).unassoc)
theorem wrow_open {st : World} {F0 R : HProp} {w : World} {u : Value} {lim : Int} {K : List Kp} (h : Has st (sep (wrow st F0 u lim K) R) w) : ∃ B d G, u = .agg (rcells (.slice B K.length d) lim) ∧ RS st (sep G F0) (.slice B K.length d) K ∧ Has st (sep G R) w := by
  obtain ⟨⟨B, d, G⟩, h1⟩ := h.exL
  obtain ⟨⟨h2, h3⟩, h4⟩ := h1.assoc.pureL
  exact ⟨B, d, G, h2, h3, h4⟩
theorem results_cells2 {P : Program} {fn : Func} {p q : Tmp} {ty ty2 : TypeId} (h : fn.results = #[.cell p ty, .cell q ty2]) (tmps : Array Value) (w : World) (g g2 : Nat) (t t2 : TypeId) (cs cs2 : Array Value) (fr fr2 : Nat × Nat) (d d2 : TypeDesc)
    (hp : tmps.getD p undef = .pointer (some ⟨g, 0, none⟩)) (hg : w.heap[g]? = some (.cells cs t fr)) (hq : tmps.getD q undef = .pointer (some ⟨g2, 0, none⟩)) (hg2 : w.heap[g2]? = some (.cells cs2 t2 fr2))
    (hu : P.underlying ty = some d) (hd : (match d with | .struct _ | .array _ _ => true | _ => false) = true) (hi : (P.info? ty).map (·.size) = some cs.size)
    (hu2 : P.underlying ty2 = some d2) (hd2 : (match d2 with | .struct _ | .array _ _ => true | _ => false) = true) (hi2 : (P.info? ty2).map (·.size) = some cs2.size) :
    (results fn tmps).run P w = .ok (.tuple #[.agg cs, .agg cs2]) w := by
  have hp' : tmps[p]?.getD undef = .pointer (some ⟨g, 0, none⟩) := by simpa using hp
  have hq' : tmps[q]?.getD undef = .pointer (some ⟨g2, 0, none⟩) := by simpa using hq
  simp [results, h, hp', hq', asAddr, run_loadVar_row w g t ty cs fr d hg hu hd hi, run_loadVar_row w g2 t2 ty2 cs2 fr2 d2 hg2 hu2 hd2 hi2]
theorem trim_step {lim : Int} {n : Nat} {K : List Kp} (h0 : 0 < K.length) (h : lim < ((tot K : Nat) : Int) + (n : Int)) : trimL lim n (absK K) = trimL lim n (absK (K.eraseIdx 0)) := by
  cases K with
  | nil => exact absurd h0 (by decide)
  | cons k K =>
    show trimL lim n ((k.id, k.b) :: absK K) = _
    have e : totL ((k.id, k.b) :: absK K) = tot (k :: K) := abs_tot (k :: K)
    rw [trimL, e, if_pos (by omega)]
    rfl
theorem trim_stop {lim : Int} {n : Nat} {K : List Kp} (h : ¬ lim < ((tot K : Nat) : Int) + (n : Int)) : trimL lim n (absK K) = absK K := by
  cases K with
  | nil => rfl
  | cons k K =>
    show trimL lim n ((k.id, k.b) :: absK K) = _
    have e : totL ((k.id, k.b) :: absK K) = tot (k :: K) := abs_tot (k :: K)
    rw [trimL, e, if_neg (by omega)]
    rfl
theorem layoutRK : layout Tryd.prog 48 = some ([(0, 32), (32, 1)], zeroKc.toArray) := by kernel_rfl
theorem infoR2 : (Tryd.prog.info? 48).map (fun i => (i.zero, i.size)) = some (some (.agg zeroKc.toArray), 33) := by kernel_rfl
theorem infoSlR : (Tryd.prog.info? 27).map (·.size) = some 1 := by kernel_rfl
theorem builtRK (X : List UInt8) (v : Value) (hX : X.length = 32) (hv : v.cells = #[v]) : Tryd.prog.built 48 [(0, .agg (bcells X).toArray), (1, v)] = some (bcells X ++ [v]).toArray := by
  have h1 := builtK X v hX hv
  rw [built_of layoutK] at h1
  rw [built_of layoutRK]
  exact h1
def RPutRel (st : World) (F F0 : HProp) (lim : Int) (n : Nat) (GK : CL) (q x ri rc : Nat) (S : List UInt8) (Z : Array Value) (wr : World) : Prop :=
  ∃ (K2 : List Kp) (B : Option Addr) (d : Nat) (G : HProp), trimL lim n (absK K2) = GK ∧ K2.length ≤ 1000 ∧ tot K2 ≤ 1000000 ∧ Hid (RS st (sep G F0) (.slice B K2.length d) K2) ∧
    Hid (Has st (sep (blk q (.cells (rcells (.slice B K2.length d) lim) 29 (0, 0))) (sep G (sep (blk x (.cells (bcells S).toArray 34 (0, 0))) (sep (blk ri (.cells Z 34 (0, 0))) (sep (blk rc (.cells zrc 29 (0, 0))) F))))) wr)
set_option maxHeartbeats 8000000 in
theorem rput_any (st : World) (F F0 : HProp) (hF0 : ∀ G w, Has st (sep G F) w → Has st (sep G F0) w) (v : Value) (K : List Kp) (lim : Int) (hRS : RS st F0 v K) (hlen : K.length ≤ 1000) (htot : tot K ≤ 1000000) (BL : List UInt8) (Ab : Option Addr) (cb : Nat) (hsb : Sees st F0 1 (.slice Ab BL.length cb) BL.length (bcells BL)) (hbl : BL.length ≤ 1000) (hlim : 0 ≤ lim) (w : World) (h : Has st F w) :
    Calls Tryd.prog 12 #[.agg (rcells v lim), .slice Ab BL.length cb] w fun e w' => ∃ G v' K', e = .returned (.tuple #[.agg (rcells v' lim), .agg (bcells (sha BL)).toArray]) ∧ absK K' = putL lim (absK K) (sha BL) BL ∧ Has st (sep G F) w' ∧ RS st (sep G F0) v' K' := by
  have hF1 : ∀ w, Has st F w → Has st F0 w := fun w h => (hF0 emp w h.ofEmp).right
  have HRS0 := Lib.hid hRS
  have hRF := hRS.widen hF1
  obtain ⟨A, c, rfl⟩ := hRF.row.form h
  have HRS := Lib.hid hRF
  obtain ⟨nb, hnb⟩ : ∃ n, n = BL.length := ⟨_, rfl⟩
  obtain ⟨S, hS⟩ : ∃ S, S = sha BL := ⟨_, rfl⟩
  have lS : S.length = 32 := by rw [hS]; exact sha_length _
  have HOF : Hid (∀ T w, (∀ w, Has st T w → Has st F w) → Has st T w → Calls Tryd.prog 11 #[.slice Ab nb cb] w fun e w' => e = .returned (.agg (bcells S).toArray) ∧ Has st T w') := Lib.hid fun T w hT hw => by
    rw [hS, hnb]; exact refOf_any st T BL _ w hw (fun w h => hsb w (hF1 w (hT w h))) (by omega)
  rw [← hnb, ← hS]
  have HNB := Lib.hid hnb
  rw [← hnb] at hbl
  have HIS : Hid ((Tryd.prog.info? 34).map (·.size) = some (bcells S).toArray.size) := Lib.hid (by rw [List.size_toArray, bcells_length, lS]; exact infoID)
  have HJS : Hid ((Tryd.prog.info? 34).map (·.size) = some (bcells S).length) := Lib.hid (by rw [bcells_length, lS]; exact infoID)
  have HTS : Hid (((bcells S).toArray.toList.drop 0).take (bcells S).length = bcells S) := Lib.hid (by simp)
  obtain ⟨Z, hZ⟩ : ∃ Z, Z = (bcells (List.replicate 32 (0 : UInt8))).toArray := ⟨_, rfl⟩
  have HZI : Hid ((Tryd.prog.info? 34).map (·.zero) = some (some (.agg Z))) := Lib.hid (by rw [hZ]; exact zeroID)
  have HOS : Hid (Z.size = (bcells S).toArray.size) := Lib.hid (by rw [hZ]; simp [bcells_length, lS])
  have HZC := Lib.hid zeroRC
  have HLS := Lib.hid lS
  have HH := Lib.hid h
  have HFI : Hid (∀ T w, (∀ w, Has st T w → Has st F w) → Has st T w → Calls Tryd.prog 28 #[.agg (rcells (.slice A K.length c) lim), .agg (bcells S).toArray] w fun e w' => e = .returned (.int .i64 (placeZ S K)) ∧ Has st T w') := Lib.hid fun T w hT hw =>
    rfind_any st T _ K lim S (HRS.out.widen hT) HLS.out (by omega) w hw
  obtain ⟨CC, hCC⟩ : ∃ CC, CC = rcells (.slice A K.length c) lim := ⟨_, rfl⟩
  have HCL : Hid ((Tryd.prog.info? 29).map (·.size) = some CC.toList.length) := Lib.hid (by rw [hCC]; exact infoRC)
  have HCT : Hid ((CC.toList.drop 0).take CC.toList.length = CC.toList) := Lib.hid (by rw [hCC]; rfl)
  have HCC := Lib.hid hCC
  rw [← hCC] at HFI ⊢
  have HSB : Hid (Sees st F0 1 (.slice Ab nb cb) nb (bcells BL)) := Lib.hid (by rw [HNB.out]; exact hsb)
  clear hRS hRF hnb hS lS hZ h hCC hsb
  obtain ⟨PZ, hPZ⟩ : ∃ PZ, PZ = placeZ S K := ⟨_, rfl⟩
  rw [← hPZ] at HFI
  obtain ⟨K1, hK1⟩ : ∃ K1, K1 = dropK S K := ⟨_, rfl⟩
  have HWA : Hid (∀ T w, (∀ w, Has st T w → Has st F w) → Has st T w → Calls Tryd.prog 27 #[.agg CC, .int .i64 PZ] w fun e w' => ∃ G B d, e = .returned (.agg (rcells (.slice B K1.length d) lim)) ∧ RS st (sep G F0) (.slice B K1.length d) K1 ∧ Has st (sep G T) w') := Lib.hid fun T w hT hw => by
    rw [HCC.out, hPZ, hK1]
    cases hpl : place S K with
    | none =>
      have e1 : dropK S K = K := by unfold dropK; rw [hpl]
      rw [e1]
      rw [show placeZ S K = -1 by rw [placeZ, hpl]]
      exact (rwithout_neg st T A K.length c lim (-1) (by decide) w hw).mono fun e w' h' => ⟨emp, A, c, h'.1, by rw [emp_sep]; exact HRS0.out, h'.2.ofEmp⟩
    | some i =>
      have hi := place_lt hpl
      have e1 : dropK S K = K.eraseIdx i := by unfold dropK; rw [hpl]
      have e2 : (K.eraseIdx i).length = K.length - 1 := List.length_eraseIdx_of_lt hi
      rw [e1]
      rw [show placeZ S K = (i : Int) by rw [placeZ, hpl]]
      refine (rwithout_at st T A c K lim (HRS.out.widen hT) i hi (by omega) w hw).mono fun e w' h' => ?_
      obtain ⟨B, d, he, h8⟩ := h'
      rw [← e2] at he h8
      exact ⟨_, B, d, he, ⟨sees_row st _ 33 _ _ _ _, ok_erase HRS0.out.ok i, fun k hk => (HRS0.out.blob k (List.mem_of_mem_eraseIdx hk)).right⟩, h8⟩
  have HK1 := Lib.hid hK1
  obtain ⟨PL, hPL⟩ : ∃ PL, PL = putL lim (absK K) S BL := ⟨_, rfl⟩
  have HPL : Hid (PL = if lim < (nb : Int) then absK K1 else trimL lim nb (absK K1) ++ [(S, BL)]) := Lib.hid (by
    rw [hPL]; unfold putL; rw [← HNB.out, HK1.out, abs_drop])
  rw [← hPL]
  have hl1 : K1.length ≤ 1000 := by rw [hK1]; have := len_drop K S; omega
  have ht1 : tot K1 ≤ 1000000 := by rw [hK1]; have := tot_drop K S; omega
  clear hPZ hK1 hPL
  go_enter Tryd.func12, Tryd.ntmps12
  go_wp2_with (first
    | (go_at_call 11; refine (HOF.out _ _ (fun w h => h.right.right.right) H2.out).mono ?_; rintro e w9 ⟨rfl, h9⟩; have H3 := Lib.hid h9; clear h9)
    | ((first | (with_reducible refine wpList_plain rfl ?_) | ((with_reducible refine wpList_yes _ _ rfl ?_ ?_); (focus rfl))); intro _ hk; (first
      | (have _k := H4; refine opw_storeRow 34 _ _ rfl x (bcells S).toArray rfl rfl 34 Z HIS.out HOS.out (bcells_all _) H4.out (fun w9 h9 => hk _ _ ?_); have H5 : Hid (Has st (sep (blk q (.cells CC 29 (0, 0))) (sep (blk x (.cells (bcells S).toArray 34 (0, 0))) (sep (blk ri (.cells Z 34 (0, 0))) (sep (blk rc (.cells zrc 29 (0, 0))) F)))) w9) := Lib.hid (h9.cast (by ac_rfl)); clear h9)
      | (have _k := H3; refine opw_alloc 34 (.agg Z) Z rfl HZI.out rfl H3.out (fun x w1 hp h1 => hk _ _ ?_); clear hp; have H4 := Lib.hid h1; clear h1)
      | (have _k := H1; refine opw_alloc 34 (.agg Z) Z rfl HZI.out rfl H1.out (fun ri w1 hp h1 => hk _ _ ?_); clear hp; have H2 := Lib.hid h1; clear h1)
      | (have _k := H0; refine opw_alloc 29 (.agg zrc) zrc rfl HZC.out rfl H0.out (fun rc w1 hp h1 => hk _ _ ?_); clear hp; have H1 := Lib.hid h1; clear h1)
      | (refine opw_box 29 (.agg CC) CC rfl rfl rfl HH.out (fun q w1 hp h1 => hk _ _ ?_); clear hp; have H0 := Lib.hid h1; clear h1)); simp only [Act.put, List.setIfInBounds_toArray, List.set_cons_zero, List.set_cons_succ]))
  refine wp_region_inv3 (fun L u w' => Slots (fun kk => ([some (.agg CC), some (.agg CC), some (.agg (bcells S).toArray), some (.int .i64 PZ), none, none] : List (Option Value)).getD kk none) L u ∧ Has st (sep (stg (L 5) (blk q (.cells ((u 4)).cells 29 (0, 0))) (blk q (.cells CC 29 (0, 0)))) (sep (stg (L 4) (wrow st F0 (u 4) lim K1) emp) (sep (blk x (.cells (bcells S).toArray 34 (0, 0))) (sep (blk ri (.cells Z 34 (0, 0))) (sep (blk rc (.cells zrc 29 (0, 0))) F))))) w') (by kernel_rfl) (by decide +kernel) (by decide +kernel) (by kernel_rfl) (by kernel_rfl) (fun u => ⟨Slots.start _ u, (show Has st (sep (stg false (blk q (.cells ((u 4)).cells 29 (0, 0))) (blk q (.cells CC 29 (0, 0)))) (sep (stg false (wrow st F0 (u 4) lim K1) emp) (sep (blk x (.cells (bcells S).toArray 34 (0, 0))) (sep (blk ri (.cells Z 34 (0, 0))) (sep (blk rc (.cells zrc 29 (0, 0))) F))))) _ from H5.out.drew.cast (by first | (simp only [stg_no, emp_sep]; done) | (simp only [stg_no, emp_sep]; ac_rfl)))⟩) ?_ ?_
  · refine ⟨?_, ?_, ?_, ?_, ?_, ?_, trivial⟩
    · refine RegStep3.plain rfl ?_; rintro L u w1 bA hL hW hD hU ⟨hS, hH⟩ hin hout; exact opw_loadMid _ _ rfl q (0) ((hout 2 (by kernel_rfl)).trans (by kernel_rfl)) CC.toList _ Tryd.underlying29 rfl HCL.out (hH.stg_no (hD.nots 6 5 0 hL (by decide +kernel))) HCT.out ⟨_, rfl, hS.step 0 _ (.inr rfl), hH⟩
    · refine RegStep3.plain rfl ?_; rintro L u w1 bA hL hW hD hU ⟨hS, hH⟩ hin hout; exact opw_loadMid _ _ rfl q (0) ((hout 2 (by kernel_rfl)).trans (by kernel_rfl)) CC.toList _ Tryd.underlying29 rfl HCL.out (hH.stg_no (hD.nots 6 5 1 hL (by decide +kernel))) HCT.out ⟨_, rfl, hS.step 1 _ (.inr rfl), hH⟩
    · refine RegStep3.plain rfl ?_; rintro L u w1 bA hL hW hD hU ⟨hS, hH⟩ hin hout; exact opw_loadMid _ _ rfl x (0) ((hout 6 (by kernel_rfl)).trans (by kernel_rfl)) (bcells S) _ Tryd.underlying34 rfl HJS.out ((hH.right.right)) HTS.out ⟨_, rfl, hS.step 2 _ (.inr rfl), hH⟩
    · refine RegStep3.plain rfl ?_; rintro L u w1 bA hL hW hD hU ⟨hS, hH⟩ hin hout; exact opw_call_ret _ _ _ [(.agg CC), (.agg (bcells S).toArray)] rfl (by kernel_rfl) (list2 ((hin 1 10 rfl).trans (hS 1 _ rfl (hW.of 1 (by decide)))) (list2 ((hin 2 11 rfl).trans (hS 2 _ rfl (hW.of 2 (by decide)))) rfl)) (HFI.out _ w1 (fun w h => h.right.right.right.right.right) hH) (fun e w2 he => by obtain ⟨rfl, h2⟩ := he; exact ⟨_, rfl, _, rfl, hS.step 3 _ (.inr rfl), h2⟩)
    · refine RegStep3.plain rfl ?_; rintro L u w1 bA hL hW hD hU ⟨hS, hH⟩ hin hout; exact opw_call_ret _ _ _ [.agg CC, .int .i64 PZ] rfl (by kernel_rfl) (list2 ((hin 0 9 rfl).trans (hS 0 _ rfl (hW.of 0 (by decide)))) (list2 ((hin 3 12 rfl).trans (hS 3 _ rfl (hW.of 3 (by decide)))) rfl)) (HWA.out _ w1 (fun w h => h.right.right.right.right.right) hH) (fun e w2 he => by obtain ⟨G8, B8, d8, rfl, hr8, h8⟩ := he; exact ⟨_, rfl, _, rfl, hS.step 4 _ (.inl rfl), (show Has st (sep (stg (L 5) (blk q (.cells ((Value.agg (rcells (.slice B8 K1.length d8) lim))).cells 29 (0, 0))) (blk q (.cells CC 29 (0, 0)))) (sep (stg true (wrow st F0 (Value.agg (rcells (.slice B8 K1.length d8) lim)) lim K1) emp) (sep (blk x (.cells (bcells S).toArray 34 (0, 0))) (sep (blk ri (.cells Z 34 (0, 0))) (sep (blk rc (.cells zrc 29 (0, 0))) F))))) w2 from (wrow_mk (F0 := F0) h8 hr8).cast (by rw [stg_off hL, emp_sep, stg_eq (hD.nots 6 5 4 hL (by decide +kernel)) (blk q (.cells (u 4).cells 29 (0, 0))) (blk q (.cells (Value.agg (rcells (.slice B8 K1.length d8) lim)).cells 29 (0, 0)))]; simp only [stg_true]; ac_rfl))⟩)
    · refine RegStep3.plain rfl ?_; rintro L u w1 bA hL hW hD hU ⟨hS, hH⟩ hin hout; obtain ⟨B8, d8, G8, e8, _, _⟩ := wrow_open (((hH.cast (show _ = sep (stg (L 4) (wrow st F0 (u 4) lim K1) emp) (sep (stg (L 5) (blk q (.cells ((u 4)).cells 29 (0, 0))) (blk q (.cells CC 29 (0, 0)))) (sep (blk x (.cells (bcells S).toArray 34 (0, 0))) (sep (blk ri (.cells Z 34 (0, 0))) (sep (blk rc (.cells zrc 29 (0, 0))) F)))) by ac_rfl)).stg_yes (hW.far (i := 5) hD rfl 6 4 (by decide +kernel)))); exact opw_storeRow _ _ _ rfl q (rcells (.slice B8 K1.length d8) lim) ((hout 2 (by kernel_rfl)).trans (by kernel_rfl)) ((hin 4 13 rfl).trans e8) 29 CC infoRC (by rw [HCC.out]; rfl) (rc_one _ _ _ _) (hH.stg_no hL) (fun w9 h9 => ⟨_, rfl, hS.step 5 _ (.inl rfl), (show Has st (sep (stg true (blk q (.cells ((u 4)).cells 29 (0, 0))) (blk q (.cells CC 29 (0, 0)))) (sep (stg (L 4) (wrow st F0 (u 4) lim K1) emp) (sep (blk x (.cells (bcells S).toArray 34 (0, 0))) (sep (blk ri (.cells Z 34 (0, 0))) (sep (blk rc (.cells zrc 29 (0, 0))) F))))) w9 from by rw [e8] at h9 ⊢; exact h9)⟩)
  intro L u wc hL ⟨hS, hH⟩
  have E0 := hS 0 _ rfl (hL 0 (by decide))
  have E1 := hS 1 _ rfl (hL 1 (by decide))
  have E2 := hS 2 _ rfl (hL 2 (by decide))
  have E3 := hS 3 _ rfl (hL 3 (by decide))
  simp only [hL 4 (by decide), hL 5 (by decide), stg_true, emp_sep] at hH
  simp only [frame_cons, frame_nil, E0, E1, E2, E3, Act.put, List.setIfInBounds_toArray, List.set_cons_zero, List.set_cons_succ]
  clear hL hS E0 E1 E2 E3
  generalize u 4 = u4 at hH ⊢
  have Hc := Lib.hid hH
  clear hH H5 H4 H3 H2 H1 H0 HH
  obtain ⟨B1, d1, G1, e1, hr1, h1⟩ := wrow_open (Hc.out.second)
  rw [e1] at h1 ⊢
  have HR1 := Lib.hid hr1
  have HC1 : Hid (Has st (sep (blk q (.cells (rcells (.slice B1 K1.length d1) lim) 29 (0, 0))) (sep G1 (sep (blk x (.cells (bcells S).toArray 34 (0, 0))) (sep (blk ri (.cells Z 34 (0, 0))) (sep (blk rc (.cells zrc 29 (0, 0))) F))))) wc) := Lib.hid (h1.cast (by show sep G1 (sep (blk q (.cells (rcells (.slice B1 K1.length d1) lim) _ (0, 0))) _) = _; ac_rfl))
  clear Hc hr1 h1 e1
  have hc1 : wc.cell? ⟨q, 0 + 1, none⟩ = some (.int .i64 lim) := HC1.out.cell 1
  have HCC1 := Lib.hid hc1
  clear hc1
  by_cases hbig : lim < (nb : Int)
  · have ZB : Hid (cmpZ .gtr (nb : Int) lim = some true) := Lib.hid (by show some (decide ((nb : Int) > lim)) = some true; rw [decide_eq_true (by omega)])
    have HBG := Lib.hid hbig
    clear hbig
    go_wp2_with (first
      | (fail)
      | ((first | (with_reducible refine wpList_plain rfl ?_) | ((with_reducible refine wpList_yes _ _ rfl ?_ ?_); (focus rfl))); intro _ hk; (first
        | (refine opw_field 29 _ 1 1 rfl (by kernel_rfl) q 0 rfl (hk _ _ ?_))
        | (refine opw_load1 3 _ rfl _ Tryd.underlying3 rfl ⟨q, 0 + 1, none⟩ (.int .i64 lim) rfl HCC1.out (hk _ _ ?_))
        | (refine opw_cmp .gtr _ _ _ _ .i64 (nb : Int) lim true rfl rfl rfl ZB.out (hk _ _ ?_))); simp only [Act.put, List.setIfInBounds_toArray, List.set_cons_zero, List.set_cons_succ]))
    obtain ⟨CB, hCB⟩ : ∃ CB, CB = rcells (.slice B1 K1.length d1) lim := ⟨_, rfl⟩
    have HCBL : Hid ((Tryd.prog.info? 29).map (·.size) = some CB.toList.length) := Lib.hid (by rw [hCB]; exact infoRC)
    have HCBI : Hid ((Tryd.prog.info? 29).map (·.size) = some CB.size) := Lib.hid (by rw [hCB]; exact infoRC)
    have HCBT : Hid ((CB.toList.drop 0).take CB.toList.length = CB.toList) := Lib.hid (by rw [hCB]; rfl)
    have HCB1 : Hid (CB.all (·.oneCell') = true) := Lib.hid (by rw [hCB]; exact rc_one _ _ _ _)
    have HCBZ : Hid (zrc.size = CB.size) := Lib.hid (by rw [hCB]; rfl)
    have HCB : Hid (CB = rcells (.slice B1 K1.length d1) lim) := Lib.hid hCB
    clear hCB
    rw [← HCB.out] at HC1
    refine wp_region_inv3 (fun L u w' => Slots (fun kk => ([some (.agg CB), some (.agg (bcells S).toArray), none, none] : List (Option Value)).getD kk none) L u ∧ Has st (sep (stg (L 2) (blk rc (.cells CB 29 (0, 0))) (blk rc (.cells zrc 29 (0, 0)))) (sep (stg (L 3) (blk ri (.cells (bcells S).toArray 34 (0, 0))) (blk ri (.cells Z 34 (0, 0)))) (sep (blk q (.cells CB 29 (0, 0))) (sep (blk x (.cells (bcells S).toArray 34 (0, 0))) (sep G1 F))))) w') (by kernel_rfl) (by decide +kernel) (by decide +kernel) (by kernel_rfl) (by kernel_rfl) (fun u => ⟨Slots.start _ u, (show Has st (sep (stg false (blk rc (.cells CB 29 (0, 0))) (blk rc (.cells zrc 29 (0, 0)))) (sep (stg false (blk ri (.cells (bcells S).toArray 34 (0, 0))) (blk ri (.cells Z 34 (0, 0)))) (sep (blk q (.cells CB 29 (0, 0))) (sep (blk x (.cells (bcells S).toArray 34 (0, 0))) (sep G1 F))))) _ from HC1.out.drew.cast (by first | (simp only [stg_no, emp_sep]; done) | (simp only [stg_no, emp_sep]; ac_rfl)))⟩) ?_ ?_
    · refine ⟨?_, ?_, ?_, ?_, trivial⟩
      · refine RegStep3.plain rfl ?_; rintro L u w1 bA hL hW hD hU ⟨hS, hH⟩ hin hout; exact opw_loadMid _ _ rfl q (0) ((hout 2 (by kernel_rfl)).trans (by kernel_rfl)) CB.toList _ Tryd.underlying29 rfl HCBL.out (hH.right.right) HCBT.out ⟨_, rfl, hS.step 0 _ (.inr rfl), hH⟩
      · refine RegStep3.plain rfl ?_; rintro L u w1 bA hL hW hD hU ⟨hS, hH⟩ hin hout; exact opw_loadMid _ _ rfl x (0) ((hout 6 (by kernel_rfl)).trans (by kernel_rfl)) (bcells S) _ Tryd.underlying34 rfl HJS.out ((hH.right.right)).second HTS.out ⟨_, rfl, hS.step 1 _ (.inr rfl), hH⟩
      · refine RegStep3.plain rfl ?_; rintro L u w1 bA hL hW hD hU ⟨hS, hH⟩ hin hout; exact opw_storeRow _ _ _ rfl rc CB ((hout 4 (by kernel_rfl)).trans (by kernel_rfl)) ((hin 0 19 rfl).trans (hS 0 _ rfl (hW.of 0 (by decide)))) 29 zrc HCBI.out HCBZ.out HCB1.out (hH.stg_no hL) (fun w9 h9 => ⟨_, rfl, hS.step 2 _ (.inl rfl), (show Has st (sep (stg true (blk rc (.cells CB 29 (0, 0))) (blk rc (.cells zrc 29 (0, 0)))) (sep (stg (L 3) (blk ri (.cells (bcells S).toArray 34 (0, 0))) (blk ri (.cells Z 34 (0, 0)))) (sep (blk q (.cells CB 29 (0, 0))) (sep (blk x (.cells (bcells S).toArray 34 (0, 0))) (sep G1 F))))) w9 from ((h9.stg_mk (Q := (blk rc (.cells zrc 29 (0, 0)))))).cast (by ac_rfl))⟩)
      · refine RegStep3.plain rfl ?_; rintro L u w1 bA hL hW hD hU ⟨hS, hH⟩ hin hout; exact opw_storeRow _ _ _ rfl ri (bcells S).toArray ((hout 5 (by kernel_rfl)).trans (by kernel_rfl)) ((hin 1 20 rfl).trans (hS 1 _ rfl (hW.of 1 (by decide)))) 34 Z HIS.out HOS.out (bcells_all _) ((hH.cast (show _ = sep (stg (L 3) (blk ri (.cells (bcells S).toArray 34 (0, 0))) (blk ri (.cells Z 34 (0, 0)))) (sep (stg (L 2) (blk rc (.cells CB 29 (0, 0))) (blk rc (.cells zrc 29 (0, 0)))) (sep (blk q (.cells CB 29 (0, 0))) (sep (blk x (.cells (bcells S).toArray 34 (0, 0))) (sep G1 F)))) by ac_rfl)).stg_no hL) (fun w9 h9 => ⟨_, rfl, hS.step 3 _ (.inl rfl), (show Has st (sep (stg (L 2) (blk rc (.cells CB 29 (0, 0))) (blk rc (.cells zrc 29 (0, 0)))) (sep (stg true (blk ri (.cells (bcells S).toArray 34 (0, 0))) (blk ri (.cells Z 34 (0, 0)))) (sep (blk q (.cells CB 29 (0, 0))) (sep (blk x (.cells (bcells S).toArray 34 (0, 0))) (sep G1 F))))) w9 from ((h9.stg_mk (Q := (blk ri (.cells Z 34 (0, 0)))))).cast (by ac_rfl))⟩)
    intro L u we hL ⟨hS, hH⟩
    have E0 := hS 0 _ rfl (hL 0 (by decide))
    have E1 := hS 1 _ rfl (hL 1 (by decide))
    simp only [hL 2 (by decide), hL 3 (by decide), stg_true, emp_sep] at hH
    simp only [frame_cons, frame_nil, E0, E1, Act.put, List.setIfInBounds_toArray, List.set_cons_zero, List.set_cons_succ]
    clear hL hS E0 E1
    have He := Lib.hid hH
    clear hH
    go_wp2
    refine bodyPost_ret (results_cells2 Tryd.results12 _ _ _ _ 29 34 _ _ _ _ _ _ rfl He.out.blk rfl He.out.second.blk Tryd.underlying29 rfl HCBI.out Tryd.underlying34 rfl HIS.out) rfl ?_
    refine ⟨G1, .slice B1 K1.length d1, K1, by rw [HCB.out], by rw [HPL.out, if_pos HBG.out], ?_, HR1.out⟩
    exact He.out.right.right.right.right
  · have ZB : Hid (cmpZ .gtr (nb : Int) lim = some false) := Lib.hid (by show some (decide ((nb : Int) > lim)) = some false; rw [decide_eq_false (by omega)])
    have HBG := Lib.hid hbig
    clear hbig
    go_wp2_with (first
      | (fail)
      | ((first | (with_reducible refine wpList_plain rfl ?_) | ((with_reducible refine wpList_yes _ _ rfl ?_ ?_); (focus rfl))); intro _ hk; (first
        | (refine opw_field 29 _ 1 1 rfl (by kernel_rfl) q 0 rfl (hk _ _ ?_))
        | (refine opw_load1 3 _ rfl _ Tryd.underlying3 rfl ⟨q, 0 + 1, none⟩ (.int .i64 lim) rfl HCC1.out (hk _ _ ?_))
        | (refine opw_cmp .gtr _ _ _ _ .i64 (nb : Int) lim false rfl rfl rfl ZB.out (hk _ _ ?_))); simp only [Act.put, List.setIfInBounds_toArray, List.set_cons_zero, List.set_cons_succ]))
    clear HCC1
    obtain ⟨GK, hGK⟩ : ∃ G, G = trimL lim nb (absK K1) := ⟨_, rfl⟩
    have HGK := Lib.hid hGK
    clear hGK
    go_loopw [30] (fun _ wr => RPutRel st F F0 lim nb GK q x ri rc S Z wr) (fun _ wr => keptIn q wr)
    case atStart => exact ⟨K1, B1, d1, G1, HGK.out.symm, hl1, ht1, HR1, HC1⟩
    case round =>
      clear HR1 HC1
      obtain ⟨K2, B2, d2, G2, hG2, hl2, ht2, HR2, HQ2⟩ := hrel
      have HG2 := Lib.hid hG2
      have HM : Hid (keptIn q wr = K2.length) := Lib.hid (by unfold keptIn; rw [HQ2.out.cell 0]; rfl)
      clear hG2
      obtain ⟨T, hT⟩ : ∃ T, T = tot K2 := ⟨_, rfl⟩
      rw [← hT] at ht2
      have HT := Lib.hid hT
      clear hT
      obtain ⟨CB, hCB⟩ : ∃ CB, CB = rcells (.slice B2 K2.length d2) lim := ⟨_, rfl⟩
      have HCBL : Hid ((Tryd.prog.info? 29).map (·.size) = some CB.toList.length) := Lib.hid (by rw [hCB]; exact infoRC)
      have HCBI : Hid ((Tryd.prog.info? 29).map (·.size) = some CB.size) := Lib.hid (by rw [hCB]; exact infoRC)
      have HCBT : Hid ((CB.toList.drop 0).take CB.toList.length = CB.toList) := Lib.hid (by rw [hCB]; rfl)
      have HCB1 : Hid (CB.all (·.oneCell') = true) := Lib.hid (by rw [hCB]; exact rc_one _ _ _ _)
      have HCBZ : Hid (zrc.size = CB.size) := Lib.hid (by rw [hCB]; rfl)
      have HCB : Hid (CB = rcells (.slice B2 K2.length d2) lim) := Lib.hid hCB
      clear hCB
      rw [← HCB.out] at HQ2
      have HF2 : Hid (∀ w, Has st (sep (blk q (.cells CB 29 (0, 0))) (sep G2 (sep (blk x (.cells (bcells S).toArray 34 (0, 0))) (sep (blk ri (.cells Z 34 (0, 0))) (sep (blk rc (.cells zrc 29 (0, 0))) F))))) w → Has st (sep G2 F0) w) := Lib.hid fun w h => hF0 G2 w ((h.cast (show _ = sep (blk q (.cells CB 29 (0, 0))) (sep (blk x (.cells (bcells S).toArray 34 (0, 0))) (sep (blk ri (.cells Z 34 (0, 0))) (sep (blk rc (.cells zrc 29 (0, 0))) (sep G2 F)))) by ac_rfl)).right.right.right.right)
      have HSI : Hid (∀ w, Has st (sep (blk q (.cells CB 29 (0, 0))) (sep G2 (sep (blk x (.cells (bcells S).toArray 34 (0, 0))) (sep (blk ri (.cells Z 34 (0, 0))) (sep (blk rc (.cells zrc 29 (0, 0))) F))))) w → Calls Tryd.prog 24 #[.agg CB] w fun e w' => e = .returned (.int .i64 (T : Int)) ∧ Has st (sep (blk q (.cells CB 29 (0, 0))) (sep G2 (sep (blk x (.cells (bcells S).toArray 34 (0, 0))) (sep (blk ri (.cells Z 34 (0, 0))) (sep (blk rc (.cells zrc 29 (0, 0))) F))))) w') := Lib.hid fun w hw => by
        rw [HCB.out, HT.out]
        rw [HCB.out] at hw HF2
        exact rsize_any st _ _ K2 lim (HR2.out.widen HF2.out) (by omega) (by rw [← HT.out]; omega) w hw
      by_cases hgt : lim < (T : Int) + (nb : Int)
      · have ZC : Hid (cmpZ .gtr ((T + nb : Nat) : Int) lim = some true) := Lib.hid (by show some (decide (((T + nb : Nat) : Int) > lim)) = some true; rw [decide_eq_true (by omega)])
        have hne : 0 < K2.length := by
          cases K2 with
          | nil => exfalso; have e0 : T = 0 := HT.out; have := HBG.out; omega
          | cons k0 K3 => exact Nat.succ_pos _
        have HTR : Hid (trimL lim nb (absK K2) = trimL lim nb (absK (K2.eraseIdx 0))) := Lib.hid (trim_step hne (by rw [← HT.out]; omega))
        have hl3 : (K2.eraseIdx 0).length = K2.length - 1 := List.length_eraseIdx_of_lt hne
        have ht3 : tot (K2.eraseIdx 0) ≤ 1000000 := by have := tot_erase K2 0 hne; rw [← HT.out] at this; omega
        obtain ⟨K3, hK3⟩ : ∃ K3, K3 = K2.eraseIdx 0 := ⟨_, rfl⟩
        obtain ⟨N3, hN3⟩ : ∃ N3, N3 = K2.length - 1 := ⟨_, rfl⟩
        have HWO : Hid (∀ w, Has st (sep (blk q (.cells CB 29 (0, 0))) (sep G2 (sep (blk x (.cells (bcells S).toArray 34 (0, 0))) (sep (blk ri (.cells Z 34 (0, 0))) (sep (blk rc (.cells zrc 29 (0, 0))) F))))) w → Calls Tryd.prog 27 #[.agg CB, .int .i64 0] w fun e w' => ∃ B d, e = .returned (.agg (rcells (.slice B N3 d) lim)) ∧ Has st (sep (row 48 33 (.slice B N3 d) N3 (kcs K3)) (sep (blk q (.cells CB 29 (0, 0))) (sep G2 (sep (blk x (.cells (bcells S).toArray 34 (0, 0))) (sep (blk ri (.cells Z 34 (0, 0))) (sep (blk rc (.cells zrc 29 (0, 0))) F)))))) w') := Lib.hid fun w hw => by
          rw [HCB.out, hN3, hK3]
          rw [HCB.out] at hw HF2
          exact rwithout_at st _ B2 d2 K2 lim (HR2.out.widen HF2.out) 0 hne (by omega) w hw
        have HR3 : Hid (∀ B d, RS st (sep (sep (row 48 33 (.slice B N3 d) N3 (kcs K3)) G2) F0) (.slice B N3 d) K3) := Lib.hid fun B d => by
          have e3 : N3 = K3.length := by rw [hN3, hK3, hl3]
          rw [e3]
          have hr : RS st (sep (row 48 33 (.slice B K3.length d) K3.length (kcs K3)) (sep G2 F0)) (.slice B K3.length d) K3 := by
            rw [hK3]
            exact ⟨sees_row st _ 33 _ _ _ _, ok_erase HR2.out.ok 0, fun k hk => (HR2.out.blob k (List.mem_of_mem_eraseIdx hk)).right⟩
          exact hr.widen fun w h => h.assoc
        rw [← hK3] at HTR hl3 ht3
        rw [← hN3] at hl3
        have hN : N3 < K2.length := by omega
        have HL3 := Lib.hid hl3
        have HNN := Lib.hid hN
        clear hgt hne hK3 hN3 hl3 hN
        go_wp2_with fail
        refine wp_region_inv3 (fun L u w' => Slots (fun kk => ([some (.agg CB), some (.int .i64 ((T : Nat) : Int)), some (.slice Ab nb cb), some (.int .i64 ((nb : Nat) : Int)), some (.int .i64 (((T + nb) : Nat) : Int)), some (.pointer (some ⟨q, 1, none⟩)), some (.int .i64 lim), some (.bool true)] : List (Option Value)).getD kk none) L u ∧ Has st (sep (blk q (.cells CB 29 (0, 0))) (sep G2 (sep (blk x (.cells (bcells S).toArray 34 (0, 0))) (sep (blk ri (.cells Z 34 (0, 0))) (sep (blk rc (.cells zrc 29 (0, 0))) F))))) w') (by kernel_rfl) (by decide +kernel) (by decide +kernel) (by kernel_rfl) (by kernel_rfl) (fun u => ⟨Slots.start _ u, (show Has st (sep (blk q (.cells CB 29 (0, 0))) (sep G2 (sep (blk x (.cells (bcells S).toArray 34 (0, 0))) (sep (blk ri (.cells Z 34 (0, 0))) (sep (blk rc (.cells zrc 29 (0, 0))) F))))) _ from HQ2.out.drew.cast (by first | (simp only [stg_no, emp_sep]; done) | (simp only [stg_no, emp_sep]; ac_rfl)))⟩) ?_ ?_
        · refine ⟨?_, ?_, ?_, ?_, ?_, ?_, ?_, ?_, trivial⟩
          · refine RegStep3.plain rfl ?_; rintro L u w1 bA hL hW hD hU ⟨hS, hH⟩ hin hout; exact opw_loadMid _ _ rfl q (0) ((hout 2 (by kernel_rfl)).trans (by kernel_rfl)) CB.toList _ Tryd.underlying29 rfl HCBL.out hH HCBT.out ⟨_, rfl, hS.step 0 _ (.inr rfl), hH⟩
          · refine RegStep3.plain rfl ?_; rintro L u w1 bA hL hW hD hU ⟨hS, hH⟩ hin hout; exact opw_call_ret _ _ _ [(.agg CB)] rfl (by kernel_rfl) (list2 ((hin 0 21 rfl).trans (hS 0 _ rfl (hW.of 0 (by decide)))) rfl) (HSI.out w1 hH) (fun e w2 he => by obtain ⟨rfl, h2⟩ := he; exact ⟨_, rfl, _, rfl, hS.step 1 _ (.inr rfl), h2⟩)
          · refine RegStep3.plain rfl ?_; rintro L u w1 bA hL hW hD hU ⟨hS, hH⟩ hin hout; exact opw_move _ _ (.inl rfl) ((hout 1 (by kernel_rfl)).trans (by kernel_rfl)) ⟨_, rfl, hS.step 2 _ (.inr rfl), hH⟩
          · refine RegStep3.plain rfl ?_; rintro L u w1 bA hL hW hD hU ⟨hS, hH⟩ hin hout; exact opw_len _ _ _ Tryd.underlying30 Ab (nb) cb rfl ((hin 2 23 rfl).trans (hS 2 _ rfl (hW.of 2 (by decide)))) ⟨_, rfl, hS.step 3 _ (.inr rfl), hH⟩
          · refine RegStep3.plain rfl ?_; rintro L u w1 bA hL hW hD hU ⟨hS, hH⟩ hin hout; exact opw_bin .add _ _ _ _ .i64 _ _ _ rfl ((hin 1 22 rfl).trans (hS 1 _ rfl (hW.of 1 (by decide)))) ((hin 3 24 rfl).trans (hS 3 _ rfl (hW.of 3 (by decide)))) (bin_add (T) (nb) (by omega)) ⟨_, rfl, hS.step 4 _ (.inr rfl), hH⟩
          · refine RegStep3.plain rfl ?_; rintro L u w1 bA hL hW hD hU ⟨hS, hH⟩ hin hout; exact opw_field _ _ _ 1 rfl (by kernel_rfl) (q) (0) ((hout 2 (by kernel_rfl)).trans (by kernel_rfl)) ⟨_, rfl, hS.step 5 _ (.inr rfl), hH⟩
          · refine RegStep3.plain rfl ?_; rintro L u w1 bA hL hW hD hU ⟨hS, hH⟩ hin hout; exact opw_load1 _ _ rfl _ Tryd.underlying3 rfl _ _ ((hin 5 26 rfl).trans (hS 5 _ rfl (hW.of 5 (by decide)))) ((hH.cell 1).trans (by rw [HCB.out]; rfl)) ⟨_, rfl, hS.step 6 _ (.inr rfl), hH⟩
          · refine RegStep3.plain rfl ?_; rintro L u w1 bA hL hW hD hU ⟨hS, hH⟩ hin hout; exact opw_cmp .gtr _ _ _ _ .i64 _ _ true rfl ((hin 4 25 rfl).trans (hS 4 _ rfl (hW.of 4 (by decide)))) ((hin 6 27 rfl).trans (hS 6 _ rfl (hW.of 6 (by decide)))) ZC.out ⟨_, rfl, hS.step 7 _ (.inr rfl), hH⟩
        intro L u wf hL ⟨hS, hH⟩
        have E0 := hS 0 _ rfl (hL 0 (by decide))
        have E1 := hS 1 _ rfl (hL 1 (by decide))
        have E2 := hS 2 _ rfl (hL 2 (by decide))
        have E3 := hS 3 _ rfl (hL 3 (by decide))
        have E4 := hS 4 _ rfl (hL 4 (by decide))
        have E5 := hS 5 _ rfl (hL 5 (by decide))
        have E6 := hS 6 _ rfl (hL 6 (by decide))
        have E7 := hS 7 _ rfl (hL 7 (by decide))
        simp only [frame_cons, frame_nil, E0, E1, E2, E3, E4, E5, E6, E7, Act.put, List.setIfInBounds_toArray, List.set_cons_zero, List.set_cons_succ]
        clear hL hS E0 E1 E2 E3 E4 E5 E6 E7
        have Hf := Lib.hid hH
        clear hH HQ2
        go_wp2_with (first
          | (go_at_call 27; refine (HWO.out _ Hf.out).mono ?_; rintro e w7 ⟨B7, d7, rfl, h7⟩; have H7 : Hid (Has st (sep (blk q (.cells CB 29 (0, 0))) (sep (row 48 33 (.slice B7 N3 d7) N3 (kcs K3)) (sep G2 (sep (blk x (.cells (bcells S).toArray 34 (0, 0))) (sep (blk ri (.cells Z 34 (0, 0))) (sep (blk rc (.cells zrc 29 (0, 0))) F)))))) w7) := Lib.hid (h7.cast (by ac_rfl)); clear h7)
          | ((first | (with_reducible refine wpList_plain rfl ?_) | ((with_reducible refine wpList_yes _ _ rfl ?_ ?_); (focus rfl))); intro _ hk; (first
            | (have _k := H7; refine opw_storeRow 29 _ _ rfl q (rcells (.slice B7 N3 d7) lim) rfl rfl 29 CB infoRC (by rw [HCB.out]; rfl) (rc_one _ _ _ _) H7.out (fun w9 h9 => hk _ _ ?_); have H9 : Hid (Has st (sep (blk q (.cells (rcells (.slice B7 N3 d7) lim) 29 (0, 0))) (sep (sep (row 48 33 (.slice B7 N3 d7) N3 (kcs K3)) G2) (sep (blk x (.cells (bcells S).toArray 34 (0, 0))) (sep (blk ri (.cells Z 34 (0, 0))) (sep (blk rc (.cells zrc 29 (0, 0))) F))))) w9) := Lib.hid (h9.cast (by ac_rfl)); clear h9)
            | (refine opw_loadMid 29 _ rfl q 0 rfl CB.toList _ Tryd.underlying29 rfl HCBL.out Hf.out HCBT.out (hk _ _ ?_))); simp only [Act.put, List.setIfInBounds_toArray, List.set_cons_zero, List.set_cons_succ]))
        go_roundw
        case rel => exact ⟨K3, B7, d7, _, by rw [← HTR.out]; exact HG2.out, by rw [HL3.out]; have := HNN.out; omega, ht3, by rw [HL3.out]; exact Lib.hid (HR3.out B7 d7), by rw [HL3.out]; exact H9⟩
        case measure => unfold keptIn at HM ⊢; rw [H9.out.cell 0, HM.out]; exact HNN.out
      · have ZC : Hid (cmpZ .gtr ((T + nb : Nat) : Int) lim = some false) := Lib.hid (by show some (decide (((T + nb : Nat) : Int) > lim)) = some false; rw [decide_eq_false (by omega)])
        have HTS2 : Hid (GK = absK K2) := Lib.hid (by rw [← HG2.out]; exact trim_stop (by rw [← HT.out]; omega))
        clear hgt
        go_wp2_with fail
        refine wp_region_inv3 (fun L u w' => Slots (fun kk => ([some (.agg CB), some (.int .i64 ((T : Nat) : Int)), some (.slice Ab nb cb), some (.int .i64 ((nb : Nat) : Int)), some (.int .i64 (((T + nb) : Nat) : Int)), some (.pointer (some ⟨q, 1, none⟩)), some (.int .i64 lim), some (.bool false)] : List (Option Value)).getD kk none) L u ∧ Has st (sep (blk q (.cells CB 29 (0, 0))) (sep G2 (sep (blk x (.cells (bcells S).toArray 34 (0, 0))) (sep (blk ri (.cells Z 34 (0, 0))) (sep (blk rc (.cells zrc 29 (0, 0))) F))))) w') (by kernel_rfl) (by decide +kernel) (by decide +kernel) (by kernel_rfl) (by kernel_rfl) (fun u => ⟨Slots.start _ u, (show Has st (sep (blk q (.cells CB 29 (0, 0))) (sep G2 (sep (blk x (.cells (bcells S).toArray 34 (0, 0))) (sep (blk ri (.cells Z 34 (0, 0))) (sep (blk rc (.cells zrc 29 (0, 0))) F))))) _ from HQ2.out.drew.cast (by first | (simp only [stg_no, emp_sep]; done) | (simp only [stg_no, emp_sep]; ac_rfl)))⟩) ?_ ?_
        · refine ⟨?_, ?_, ?_, ?_, ?_, ?_, ?_, ?_, trivial⟩
          · refine RegStep3.plain rfl ?_; rintro L u w1 bA hL hW hD hU ⟨hS, hH⟩ hin hout; exact opw_loadMid _ _ rfl q (0) ((hout 2 (by kernel_rfl)).trans (by kernel_rfl)) CB.toList _ Tryd.underlying29 rfl HCBL.out hH HCBT.out ⟨_, rfl, hS.step 0 _ (.inr rfl), hH⟩
          · refine RegStep3.plain rfl ?_; rintro L u w1 bA hL hW hD hU ⟨hS, hH⟩ hin hout; exact opw_call_ret _ _ _ [(.agg CB)] rfl (by kernel_rfl) (list2 ((hin 0 21 rfl).trans (hS 0 _ rfl (hW.of 0 (by decide)))) rfl) (HSI.out w1 hH) (fun e w2 he => by obtain ⟨rfl, h2⟩ := he; exact ⟨_, rfl, _, rfl, hS.step 1 _ (.inr rfl), h2⟩)
          · refine RegStep3.plain rfl ?_; rintro L u w1 bA hL hW hD hU ⟨hS, hH⟩ hin hout; exact opw_move _ _ (.inl rfl) ((hout 1 (by kernel_rfl)).trans (by kernel_rfl)) ⟨_, rfl, hS.step 2 _ (.inr rfl), hH⟩
          · refine RegStep3.plain rfl ?_; rintro L u w1 bA hL hW hD hU ⟨hS, hH⟩ hin hout; exact opw_len _ _ _ Tryd.underlying30 Ab (nb) cb rfl ((hin 2 23 rfl).trans (hS 2 _ rfl (hW.of 2 (by decide)))) ⟨_, rfl, hS.step 3 _ (.inr rfl), hH⟩
          · refine RegStep3.plain rfl ?_; rintro L u w1 bA hL hW hD hU ⟨hS, hH⟩ hin hout; exact opw_bin .add _ _ _ _ .i64 _ _ _ rfl ((hin 1 22 rfl).trans (hS 1 _ rfl (hW.of 1 (by decide)))) ((hin 3 24 rfl).trans (hS 3 _ rfl (hW.of 3 (by decide)))) (bin_add (T) (nb) (by omega)) ⟨_, rfl, hS.step 4 _ (.inr rfl), hH⟩
          · refine RegStep3.plain rfl ?_; rintro L u w1 bA hL hW hD hU ⟨hS, hH⟩ hin hout; exact opw_field _ _ _ 1 rfl (by kernel_rfl) (q) (0) ((hout 2 (by kernel_rfl)).trans (by kernel_rfl)) ⟨_, rfl, hS.step 5 _ (.inr rfl), hH⟩
          · refine RegStep3.plain rfl ?_; rintro L u w1 bA hL hW hD hU ⟨hS, hH⟩ hin hout; exact opw_load1 _ _ rfl _ Tryd.underlying3 rfl _ _ ((hin 5 26 rfl).trans (hS 5 _ rfl (hW.of 5 (by decide)))) ((hH.cell 1).trans (by rw [HCB.out]; rfl)) ⟨_, rfl, hS.step 6 _ (.inr rfl), hH⟩
          · refine RegStep3.plain rfl ?_; rintro L u w1 bA hL hW hD hU ⟨hS, hH⟩ hin hout; exact opw_cmp .gtr _ _ _ _ .i64 _ _ false rfl ((hin 4 25 rfl).trans (hS 4 _ rfl (hW.of 4 (by decide)))) ((hin 6 27 rfl).trans (hS 6 _ rfl (hW.of 6 (by decide)))) ZC.out ⟨_, rfl, hS.step 7 _ (.inr rfl), hH⟩
        intro L u wf hL ⟨hS, hH⟩
        have E0 := hS 0 _ rfl (hL 0 (by decide))
        have E1 := hS 1 _ rfl (hL 1 (by decide))
        have E2 := hS 2 _ rfl (hL 2 (by decide))
        have E3 := hS 3 _ rfl (hL 3 (by decide))
        have E4 := hS 4 _ rfl (hL 4 (by decide))
        have E5 := hS 5 _ rfl (hL 5 (by decide))
        have E6 := hS 6 _ rfl (hL 6 (by decide))
        have E7 := hS 7 _ rfl (hL 7 (by decide))
        simp only [frame_cons, frame_nil, E0, E1, E2, E3, E4, E5, E6, E7, Act.put, List.setIfInBounds_toArray, List.set_cons_zero, List.set_cons_succ]
        clear hL hS E0 E1 E2 E3 E4 E5 E6 E7
        have Hf := Lib.hid hH
        clear hH HQ2
        obtain ⟨N2, hN2⟩ : ∃ N, N = K2.length := ⟨_, rfl⟩
        obtain ⟨XS, hXS⟩ : ∃ X, X = kcs K2 := ⟨_, rfl⟩
        obtain ⟨Y, hY⟩ : ∃ Y, Y = bcells S ++ [.slice Ab nb cb] := ⟨_, rfl⟩
        have HYB : Hid (Tryd.prog.built 48 [(0, .agg (bcells S).toArray), (1, .slice Ab nb cb)] = some Y.toArray) := Lib.hid (by rw [hY]; exact builtRK S _ HLS.out rfl)
        have hko : Kp.ok (Kp.mk S (.slice Ab nb cb) BL) := ⟨HLS.out, Ab, cb, by rw [HNB.out]⟩
        have hyk : Y = kc (Kp.mk S (.slice Ab nb cb) BL) := hY
        have HYL : Hid (Y.length = 33) := Lib.hid (by rw [hyk]; exact kc_length hko)
        have HY1 : Hid (∀ u ∈ Y, u.oneCell' = true) := Lib.hid (by rw [hyk]; exact kc_one hko)
        have HX1 : Hid (∀ u ∈ XS, u.oneCell' = true) := Lib.hid (by rw [hXS]; exact kcs_one HR2.out.ok)
        have HSR : Hid (∀ w, Has st (sep G2 (sep (blk x (.cells (bcells S).toArray 34 (0, 0))) (sep (blk ri (.cells Z 34 (0, 0))) (sep (blk rc (.cells zrc 29 (0, 0))) F)))) w → Rd 33 w (.slice B2 N2 d2) N2 XS) := Lib.hid fun w h => by
          rw [hN2, hXS]; exact HR2.out.row w (hF0 G2 w ((h.cast (show _ = sep (blk x (.cells (bcells S).toArray 34 (0, 0))) (sep (blk ri (.cells Z 34 (0, 0))) (sep (blk rc (.cells zrc 29 (0, 0))) (sep G2 F))) by ac_rfl)).right.right.right))
        have hsb8 : Sees st (sep G2 F0) 1 (.slice Ab nb cb) BL.length (bcells BL) := by rw [← HNB.out]; exact HSB.out.right
        have HR8 : Hid (∀ B d, RS st (sep (sep (row 48 33 (.slice B (N2 + 1) d) (N2 + 1) (XS ++ Y)) G2) F0) (.slice B (K2 ++ [(Kp.mk S (.slice Ab nb cb) BL)]).length d) (K2 ++ [(Kp.mk S (.slice Ab nb cb) BL)])) := Lib.hid fun B d => by
          have e8 : N2 + 1 = (K2 ++ [(Kp.mk S (.slice Ab nb cb) BL)]).length := by rw [List.length_append, hN2]; rfl
          have e9 : XS ++ Y = kcs (K2 ++ [(Kp.mk S (.slice Ab nb cb) BL)]) := by rw [kcs_append, hXS, hyk]; simp [kcs]
          rw [e8, e9]
          have hr : RS st (sep (row 48 33 (.slice B (K2 ++ [(Kp.mk S (.slice Ab nb cb) BL)]).length d) (K2 ++ [(Kp.mk S (.slice Ab nb cb) BL)]).length (kcs (K2 ++ [(Kp.mk S (.slice Ab nb cb) BL)]))) (sep G2 F0)) (.slice B (K2 ++ [(Kp.mk S (.slice Ab nb cb) BL)]).length d) (K2 ++ [(Kp.mk S (.slice Ab nb cb) BL)]) := by
            refine ⟨sees_row st _ 33 _ _ _ _, ok_append HR2.out.ok hko, fun k hk => ?_⟩
            rcases List.mem_append.1 hk with hk | hk
            · exact (HR2.out.blob k hk).right
            · rw [List.mem_singleton] at hk; rw [hk]; exact hsb8.right
          exact hr.widen fun w h => h.assoc
        have HL8 : Hid (N2 + 1 = (K2 ++ [((Kp.mk S (.slice Ab nb cb) BL) : Kp)]).length) := Lib.hid (by rw [List.length_append, hN2]; rfl)
        have hN1 : N2 ≤ 1000 := by rw [hN2]; exact hl2
        rw [← hN2] at HCB
        clear hN2 hXS hY hko hyk hsb8
        rw [HCB.out] at Hf
        go_wp2_with fail
        refine wp_region_inv3 (fun L u w' => Slots (fun kk => ([none, some (.pointer (some ⟨q, 0, none⟩)), some (.slice B2 N2 d2), none, some (.agg (bcells S).toArray), some (.slice Ab nb cb), some (.agg Y.toArray), none, none, some (.pointer (some ⟨q, 0, none⟩)), none] : List (Option Value)).getD kk none) L u ∧ Has st (sep (stg (L 8) (row 48 33 (u 8) (0 + N2 + 1) ([] ++ XS ++ Y)) (stg (L 3) (row 48 33 (u 3) (0 + N2) ([] ++ XS)) (stg (L 0) (row 48 33 (u 0) 0 []) emp))) (sep (stg (L 7) (row 48 33 (u 7) 1 Y) emp) (sep (stg (L 10) (blk q (.cells (rcells (u 8) lim) 29 (0, 0))) (blk q (.cells (rcells (.slice B2 N2 d2) lim) 29 (0, 0)))) (sep G2 (sep (blk x (.cells (bcells S).toArray 34 (0, 0))) (sep (blk ri (.cells Z 34 (0, 0))) (sep (blk rc (.cells zrc 29 (0, 0))) F))))))) w') (by kernel_rfl) (by decide +kernel) (by decide +kernel) (by kernel_rfl) (by kernel_rfl) (fun u => ⟨Slots.start _ u, (show Has st (sep (stg false (row 48 33 (u 8) (0 + N2 + 1) ([] ++ XS ++ Y)) (stg false (row 48 33 (u 3) (0 + N2) ([] ++ XS)) (stg false (row 48 33 (u 0) 0 []) emp))) (sep (stg false (row 48 33 (u 7) 1 Y) emp) (sep (stg false (blk q (.cells (rcells (u 8) lim) 29 (0, 0))) (blk q (.cells (rcells (.slice B2 N2 d2) lim) 29 (0, 0)))) (sep G2 (sep (blk x (.cells (bcells S).toArray 34 (0, 0))) (sep (blk ri (.cells Z 34 (0, 0))) (sep (blk rc (.cells zrc 29 (0, 0))) F))))))) _ from Hf.out.drew.cast (by first | (simp only [stg_no, emp_sep]; done) | (simp only [stg_no, emp_sep]; ac_rfl)))⟩) ?_ ?_
        · refine ⟨?_, ?_, ?_, ?_, ?_, ?_, ?_, ?_, ?_, ?_, ?_, trivial⟩
          · refine RegStep3.plain rfl ?_; rintro L u w1 bA hL hW hD hU ⟨hS, hH⟩ hin hout; exact opw_row0 _ 48 33 rfl Tryd.underlying27 infoR (((hH.stg_no (hD.nots 11 8 0 hL (by decide +kernel))).stg_no (hD.nots 11 3 0 hL (by decide +kernel))).stg_no hL).noEmp (fun v4 w4 h4 => ⟨_, rfl, hS.step 0 _ (.inl rfl), (show Has st (sep (stg (L 8) (row 48 33 (u 8) (0 + N2 + 1) ([] ++ XS ++ Y)) (stg (L 3) (row 48 33 (u 3) (0 + N2) ([] ++ XS)) (stg true (row 48 33 v4 0 []) emp))) (sep (stg (L 7) (row 48 33 (u 7) 1 Y) emp) (sep (stg (L 10) (blk q (.cells (rcells (u 8) lim) 29 (0, 0))) (blk q (.cells (rcells (.slice B2 N2 d2) lim) 29 (0, 0)))) (sep G2 (sep (blk x (.cells (bcells S).toArray 34 (0, 0))) (sep (blk ri (.cells Z 34 (0, 0))) (sep (blk rc (.cells zrc 29 (0, 0))) F))))))) w4 from ((((h4.stg_mk (Q := emp)).stg_false (P := (row 48 33 (u 3) (0 + N2) ([] ++ XS))) (hD.nots 11 3 0 hL (by decide +kernel))).stg_false (P := (row 48 33 (u 8) (0 + N2 + 1) ([] ++ XS ++ Y))) (hD.nots 11 8 0 hL (by decide +kernel)))).cast (by ac_rfl))⟩)
          · refine RegStep3.plain rfl ?_; rintro L u w1 bA hL hW hD hU ⟨hS, hH⟩ hin hout; exact opw_field _ _ _ 0 rfl (by kernel_rfl) (q) (0) ((hout 2 (by kernel_rfl)).trans (by kernel_rfl)) ⟨_, rfl, hS.step 1 _ (.inr rfl), hH⟩
          · refine RegStep3.plain rfl ?_; rintro L u w1 bA hL hW hD hU ⟨hS, hH⟩ hin hout; exact opw_load1 _ _ rfl _ Tryd.underlying27 rfl _ _ ((hin 1 32 rfl).trans (hS 1 _ rfl (hW.of 1 (by decide)))) ((((hH.cast (show _ = sep (stg (L 10) (blk q (.cells (rcells (u 8) lim) 29 (0, 0))) (blk q (.cells (rcells (.slice B2 N2 d2) lim) 29 (0, 0)))) (sep (stg (L 8) (row 48 33 (u 8) (0 + N2 + 1) ([] ++ XS ++ Y)) (stg (L 3) (row 48 33 (u 3) (0 + N2) ([] ++ XS)) (stg (L 0) (row 48 33 (u 0) 0 []) emp))) (sep (stg (L 7) (row 48 33 (u 7) 1 Y) emp) (sep G2 (sep (blk x (.cells (bcells S).toArray 34 (0, 0))) (sep (blk ri (.cells Z 34 (0, 0))) (sep (blk rc (.cells zrc 29 (0, 0))) F)))))) by ac_rfl)).stg_no (hD.nots 11 10 2 hL (by decide +kernel)))).cell 0) ⟨_, rfl, hS.step 2 _ (.inr rfl), hH⟩
          · refine RegStep3.plain rfl ?_; rintro L u w1 bA hL hW hD hU ⟨hS, hH⟩ hin hout; exact op_append _ _ _ 48 33 56 (.agg zeroKc.toArray) rfl Tryd.underlying27 infoR3 rfl (by decide) (hin 0 31 rfl) ((hin 2 33 rfl).trans (hS 2 _ rfl (hW.of 2 (by decide)))) (((hH.stg_no (hD.nots 11 8 3 hL (by decide +kernel))).stg_no hL).stg_yes (hW.far (i := 3) hD rfl 11 0 (by decide +kernel))) (HSR.out _ (hH.right.right.right)) HX1.out (by unfold maxLen; omega) (by omega) (fun A4 c4 w4 h4 => ⟨_, rfl, hS.step 3 _ (.inl rfl), (show Has st (sep (stg (L 8) (row 48 33 (u 8) (0 + N2 + 1) ([] ++ XS ++ Y)) (stg true (row 48 33 (.slice A4 (0 + N2) c4) (0 + N2) ([] ++ XS)) (stg (L 0) (row 48 33 (u 0) 0 []) emp))) (sep (stg (L 7) (row 48 33 (u 7) 1 Y) emp) (sep (stg (L 10) (blk q (.cells (rcells (u 8) lim) 29 (0, 0))) (blk q (.cells (rcells (.slice B2 N2 d2) lim) 29 (0, 0)))) (sep G2 (sep (blk x (.cells (bcells S).toArray 34 (0, 0))) (sep (blk ri (.cells Z 34 (0, 0))) (sep (blk rc (.cells zrc 29 (0, 0))) F))))))) w4 from (((h4.stg_mk (Q := (stg (L 0) (row 48 33 (u 0) 0 []) emp))).stg_false (P := (row 48 33 (u 8) (0 + N2 + 1) ([] ++ XS ++ Y))) (hD.nots 11 8 3 hL (by decide +kernel)))).cast (by ac_rfl))⟩)
          · refine RegStep3.plain rfl ?_; rintro L u w1 bA hL hW hD hU ⟨hS, hH⟩ hin hout; exact opw_loadMid _ _ rfl x (0) ((hout 6 (by kernel_rfl)).trans (by kernel_rfl)) (bcells S) _ Tryd.underlying34 rfl HJS.out ((hH.right.right.right)).second HTS.out ⟨_, rfl, hS.step 4 _ (.inr rfl), hH⟩
          · refine RegStep3.plain rfl ?_; rintro L u w1 bA hL hW hD hU ⟨hS, hH⟩ hin hout; exact opw_move _ _ (.inl rfl) ((hout 1 (by kernel_rfl)).trans (by kernel_rfl)) ⟨_, rfl, hS.step 5 _ (.inr rfl), hH⟩
          · refine RegStep3.plain rfl ?_; rintro L u w1 bA hL hW hD hU ⟨hS, hH⟩ hin hout; exact opw_build _ _ [(0, (.agg (bcells S).toArray)), (1, (.slice Ab nb cb))] Y.toArray rfl (pair2 ((hin 4 35 rfl).trans (hS 4 _ rfl (hW.of 4 (by decide)))) (pair2 ((hin 5 36 rfl).trans (hS 5 _ rfl (hW.of 5 (by decide)))) rfl)) HYB.out ⟨_, rfl, hS.step 6 _ (.inr rfl), hH⟩
          · refine RegStep3.plain rfl ?_; rintro L u w1 bA hL hW hD hU ⟨hS, hH⟩ hin hout; exact opw_row1 _ 48 33 (.agg zeroKc.toArray) _ (.agg Y.toArray) Y rfl Tryd.underlying27 infoR2 zeroK_size (by decide) (by decide) ((hin 6 37 rfl).trans (hS 6 _ rfl (hW.of 6 (by decide)))) rfl HYL.out ((hH.cast (show _ = sep (stg (L 7) (row 48 33 (u 7) 1 Y) emp) (sep (stg (L 8) (row 48 33 (u 8) (0 + N2 + 1) ([] ++ XS ++ Y)) (stg (L 3) (row 48 33 (u 3) (0 + N2) ([] ++ XS)) (stg (L 0) (row 48 33 (u 0) 0 []) emp))) (sep (stg (L 10) (blk q (.cells (rcells (u 8) lim) 29 (0, 0))) (blk q (.cells (rcells (.slice B2 N2 d2) lim) 29 (0, 0)))) (sep G2 (sep (blk x (.cells (bcells S).toArray 34 (0, 0))) (sep (blk ri (.cells Z 34 (0, 0))) (sep (blk rc (.cells zrc 29 (0, 0))) F)))))) by ac_rfl)).stg_no hL).noEmp (fun v4 w4 h4 => ⟨_, rfl, hS.step 7 _ (.inl rfl), (show Has st (sep (stg (L 8) (row 48 33 (u 8) (0 + N2 + 1) ([] ++ XS ++ Y)) (stg (L 3) (row 48 33 (u 3) (0 + N2) ([] ++ XS)) (stg (L 0) (row 48 33 (u 0) 0 []) emp))) (sep (stg true (row 48 33 v4 1 Y) emp) (sep (stg (L 10) (blk q (.cells (rcells (u 8) lim) 29 (0, 0))) (blk q (.cells (rcells (.slice B2 N2 d2) lim) 29 (0, 0)))) (sep G2 (sep (blk x (.cells (bcells S).toArray 34 (0, 0))) (sep (blk ri (.cells Z 34 (0, 0))) (sep (blk rc (.cells zrc 29 (0, 0))) F))))))) w4 from ((h4.stg_mk (Q := emp))).cast (by ac_rfl))⟩)
          · refine RegStep3.plain rfl ?_; rintro L u w1 bA hL hW hD hU ⟨hS, hH⟩ hin hout; exact op_append _ _ _ 48 33 56 (.agg zeroKc.toArray) rfl Tryd.underlying27 infoR3 rfl (by decide) (hin 3 34 rfl) (hin 7 38 rfl) ((hH.stg_no hL).stg_yes (hW.far (i := 8) hD rfl 11 3 (by decide +kernel))) (Rd.of_row (((hH.cast (show _ = sep (stg (L 7) (row 48 33 (u 7) 1 Y) emp) (sep (stg (L 8) (row 48 33 (u 8) (0 + N2 + 1) ([] ++ XS ++ Y)) (stg (L 3) (row 48 33 (u 3) (0 + N2) ([] ++ XS)) (stg (L 0) (row 48 33 (u 0) 0 []) emp))) (sep (stg (L 10) (blk q (.cells (rcells (u 8) lim) 29 (0, 0))) (blk q (.cells (rcells (.slice B2 N2 d2) lim) 29 (0, 0)))) (sep G2 (sep (blk x (.cells (bcells S).toArray 34 (0, 0))) (sep (blk ri (.cells Z 34 (0, 0))) (sep (blk rc (.cells zrc 29 (0, 0))) F)))))) by ac_rfl)).stg_yes (hW.far (i := 8) hD rfl 11 7 (by decide +kernel)))).ownsRow) HY1.out (by unfold maxLen; omega) (by omega) (fun A4 c4 w4 h4 => ⟨_, rfl, hS.step 8 _ (.inl rfl), (show Has st (sep (stg true (row 48 33 (.slice A4 (0 + N2 + 1) c4) (0 + N2 + 1) ([] ++ XS ++ Y)) (stg (L 3) (row 48 33 (u 3) (0 + N2) ([] ++ XS)) (stg (L 0) (row 48 33 (u 0) 0 []) emp))) (sep (stg (L 7) (row 48 33 (u 7) 1 Y) emp) (sep (stg (L 10) (blk q (.cells (rcells (.slice A4 (0 + N2 + 1) c4) lim) 29 (0, 0))) (blk q (.cells (rcells (.slice B2 N2 d2) lim) 29 (0, 0)))) (sep G2 (sep (blk x (.cells (bcells S).toArray 34 (0, 0))) (sep (blk ri (.cells Z 34 (0, 0))) (sep (blk rc (.cells zrc 29 (0, 0))) F))))))) w4 from ((h4.stg_mk (Q := (stg (L 3) (row 48 33 (u 3) (0 + N2) ([] ++ XS)) (stg (L 0) (row 48 33 (u 0) 0 []) emp))))).cast (by rw [stg_eq (hD.nots 11 10 8 hL (by decide +kernel)) (blk q (.cells (rcells (u 8) lim) 29 (0, 0))) (blk q (.cells (rcells (.slice A4 (0 + N2 + 1) c4) lim) 29 (0, 0)))]; try ac_rfl))⟩)
          · refine RegStep3.plain rfl ?_; rintro L u w1 bA hL hW hD hU ⟨hS, hH⟩ hin hout; exact opw_field _ _ _ 0 rfl (by kernel_rfl) (q) (0) ((hout 2 (by kernel_rfl)).trans (by kernel_rfl)) ⟨_, rfl, hS.step 9 _ (.inr rfl), hH⟩
          · refine RegStep3.plain rfl ?_; rintro L u w1 bA hL hW hD hU ⟨hS, hH⟩ hin hout; exact opw_store1 _ _ _ rfl infoSlR q 0 (u 8) ((hin 9 40 rfl).trans (hS 9 _ rfl (hW.of 9 (by decide)))) (hin 8 39 rfl) (row_one ((hH.stg_yes (hW.far (i := 10) hD rfl 11 8 (by decide +kernel))))) ((hH.cast (show _ = sep (stg (L 10) (blk q (.cells (rcells (u 8) lim) 29 (0, 0))) (blk q (.cells (rcells (.slice B2 N2 d2) lim) 29 (0, 0)))) (sep (stg (L 8) (row 48 33 (u 8) (0 + N2 + 1) ([] ++ XS ++ Y)) (stg (L 3) (row 48 33 (u 3) (0 + N2) ([] ++ XS)) (stg (L 0) (row 48 33 (u 0) 0 []) emp))) (sep (stg (L 7) (row 48 33 (u 7) 1 Y) emp) (sep G2 (sep (blk x (.cells (bcells S).toArray 34 (0, 0))) (sep (blk ri (.cells Z 34 (0, 0))) (sep (blk rc (.cells zrc 29 (0, 0))) F)))))) by ac_rfl)).stg_no hL) (by simp [rcells]) (fun w4 h4 => ⟨_, rfl, hS.step 10 _ (.inl rfl), (show Has st (sep (stg (L 8) (row 48 33 (u 8) (0 + N2 + 1) ([] ++ XS ++ Y)) (stg (L 3) (row 48 33 (u 3) (0 + N2) ([] ++ XS)) (stg (L 0) (row 48 33 (u 0) 0 []) emp))) (sep (stg (L 7) (row 48 33 (u 7) 1 Y) emp) (sep (stg true (blk q (.cells (rcells (u 8) lim) 29 (0, 0))) (blk q (.cells (rcells (.slice B2 N2 d2) lim) 29 (0, 0)))) (sep G2 (sep (blk x (.cells (bcells S).toArray 34 (0, 0))) (sep (blk ri (.cells Z 34 (0, 0))) (sep (blk rc (.cells zrc 29 (0, 0))) F))))))) w4 from ((h4.stg_mk (Q := (blk q (.cells (rcells (.slice B2 N2 d2) lim) 29 (0, 0)))))).cast (by ac_rfl))⟩)
        intro L u wg hL ⟨hS, hH⟩
        have E1 := hS 1 _ rfl (hL 1 (by decide))
        have E2 := hS 2 _ rfl (hL 2 (by decide))
        have E4 := hS 4 _ rfl (hL 4 (by decide))
        have E5 := hS 5 _ rfl (hL 5 (by decide))
        have E6 := hS 6 _ rfl (hL 6 (by decide))
        have E9 := hS 9 _ rfl (hL 9 (by decide))
        simp only [hL 0 (by decide), hL 3 (by decide), hL 7 (by decide), hL 8 (by decide), hL 10 (by decide), stg_true, emp_sep] at hH
        simp only [frame_cons, frame_nil, E1, E2, E4, E5, E6, E9, Act.put, List.setIfInBounds_toArray, List.set_cons_zero, List.set_cons_succ]
        clear hL hS E1 E2 E4 E5 E6 E9
        generalize u 0 = u0 at hH ⊢
        generalize u 3 = u3 at hH ⊢
        generalize u 7 = u7 at hH ⊢
        generalize u 8 = u8 at hH ⊢
        have Hg := Lib.hid hH
        clear hH Hf
        rw [Nat.zero_add, List.nil_append] at Hg
        obtain ⟨B8, d8, rfl⟩ := Hg.out.row_slice
        obtain ⟨G8, hG8⟩ : ∃ G, G = sep (row 48 33 (.slice B8 (N2 + 1) d8) (N2 + 1) (XS ++ Y)) G2 := ⟨_, rfl⟩
        have HRG := Lib.hid (HR8.out B8 d8)
        rw [← hG8] at HRG
        have HG8 : Hid (Has st (sep (blk q (.cells (rcells (.slice B8 (N2 + 1) d8) lim) 29 (0, 0))) (sep G8 (sep (blk x (.cells (bcells S).toArray 34 (0, 0))) (sep (blk ri (.cells Z 34 (0, 0))) (sep (blk rc (.cells zrc 29 (0, 0))) F))))) wg) := Lib.hid (by rw [hG8]; exact ((Hg.out.cast (show _ = sep (row 48 33 u7 1 Y) (sep (blk q (.cells (rcells (.slice B8 (N2 + 1) d8) lim) 29 (0, 0))) (sep (sep (row 48 33 (.slice B8 (N2 + 1) d8) (N2 + 1) (XS ++ Y)) G2) (sep (blk x (.cells (bcells S).toArray 34 (0, 0))) (sep (blk ri (.cells Z 34 (0, 0))) (sep (blk rc (.cells zrc 29 (0, 0))) F))))) by ac_rfl)).right))
        clear hG8 HCBL HCBI HCBT HCB1 HCBZ HCB Hg HR8 HSR HYB HX1 HY1 HYL
        obtain ⟨CB, hCB⟩ : ∃ CB, CB = rcells (.slice B8 (N2 + 1) d8) lim := ⟨_, rfl⟩
        have HCBL : Hid ((Tryd.prog.info? 29).map (·.size) = some CB.toList.length) := Lib.hid (by rw [hCB]; exact infoRC)
        have HCBI : Hid ((Tryd.prog.info? 29).map (·.size) = some CB.size) := Lib.hid (by rw [hCB]; exact infoRC)
        have HCBT : Hid ((CB.toList.drop 0).take CB.toList.length = CB.toList) := Lib.hid (by rw [hCB]; rfl)
        have HCB1 : Hid (CB.all (·.oneCell') = true) := Lib.hid (by rw [hCB]; exact rc_one _ _ _ _)
        have HCBZ : Hid (zrc.size = CB.size) := Lib.hid (by rw [hCB]; rfl)
        have HCB : Hid (CB = rcells (.slice B8 (N2 + 1) d8) lim) := Lib.hid hCB
        clear hCB
        rw [← HCB.out] at HG8
        go_wp2_with fail
        refine wp_region_inv3 (fun L u w' => Slots (fun kk => ([some (.agg CB), some (.agg (bcells S).toArray), none, none] : List (Option Value)).getD kk none) L u ∧ Has st (sep (stg (L 2) (blk rc (.cells CB 29 (0, 0))) (blk rc (.cells zrc 29 (0, 0)))) (sep (stg (L 3) (blk ri (.cells (bcells S).toArray 34 (0, 0))) (blk ri (.cells Z 34 (0, 0)))) (sep (blk q (.cells CB 29 (0, 0))) (sep (blk x (.cells (bcells S).toArray 34 (0, 0))) (sep G8 F))))) w') (by kernel_rfl) (by decide +kernel) (by decide +kernel) (by kernel_rfl) (by kernel_rfl) (fun u => ⟨Slots.start _ u, (show Has st (sep (stg false (blk rc (.cells CB 29 (0, 0))) (blk rc (.cells zrc 29 (0, 0)))) (sep (stg false (blk ri (.cells (bcells S).toArray 34 (0, 0))) (blk ri (.cells Z 34 (0, 0)))) (sep (blk q (.cells CB 29 (0, 0))) (sep (blk x (.cells (bcells S).toArray 34 (0, 0))) (sep G8 F))))) _ from HG8.out.drew.cast (by first | (simp only [stg_no, emp_sep]; done) | (simp only [stg_no, emp_sep]; ac_rfl)))⟩) ?_ ?_
        · refine ⟨?_, ?_, ?_, ?_, trivial⟩
          · refine RegStep3.plain rfl ?_; rintro L u w1 bA hL hW hD hU ⟨hS, hH⟩ hin hout; exact opw_loadMid _ _ rfl q (0) ((hout 2 (by kernel_rfl)).trans (by kernel_rfl)) CB.toList _ Tryd.underlying29 rfl HCBL.out (hH.right.right) HCBT.out ⟨_, rfl, hS.step 0 _ (.inr rfl), hH⟩
          · refine RegStep3.plain rfl ?_; rintro L u w1 bA hL hW hD hU ⟨hS, hH⟩ hin hout; exact opw_loadMid _ _ rfl x (0) ((hout 6 (by kernel_rfl)).trans (by kernel_rfl)) (bcells S) _ Tryd.underlying34 rfl HJS.out ((hH.right.right)).second HTS.out ⟨_, rfl, hS.step 1 _ (.inr rfl), hH⟩
          · refine RegStep3.plain rfl ?_; rintro L u w1 bA hL hW hD hU ⟨hS, hH⟩ hin hout; exact opw_storeRow _ _ _ rfl rc CB ((hout 4 (by kernel_rfl)).trans (by kernel_rfl)) ((hin 0 41 rfl).trans (hS 0 _ rfl (hW.of 0 (by decide)))) 29 zrc HCBI.out HCBZ.out HCB1.out (hH.stg_no hL) (fun w9 h9 => ⟨_, rfl, hS.step 2 _ (.inl rfl), (show Has st (sep (stg true (blk rc (.cells CB 29 (0, 0))) (blk rc (.cells zrc 29 (0, 0)))) (sep (stg (L 3) (blk ri (.cells (bcells S).toArray 34 (0, 0))) (blk ri (.cells Z 34 (0, 0)))) (sep (blk q (.cells CB 29 (0, 0))) (sep (blk x (.cells (bcells S).toArray 34 (0, 0))) (sep G8 F))))) w9 from ((h9.stg_mk (Q := (blk rc (.cells zrc 29 (0, 0)))))).cast (by ac_rfl))⟩)
          · refine RegStep3.plain rfl ?_; rintro L u w1 bA hL hW hD hU ⟨hS, hH⟩ hin hout; exact opw_storeRow _ _ _ rfl ri (bcells S).toArray ((hout 5 (by kernel_rfl)).trans (by kernel_rfl)) ((hin 1 42 rfl).trans (hS 1 _ rfl (hW.of 1 (by decide)))) 34 Z HIS.out HOS.out (bcells_all _) ((hH.cast (show _ = sep (stg (L 3) (blk ri (.cells (bcells S).toArray 34 (0, 0))) (blk ri (.cells Z 34 (0, 0)))) (sep (stg (L 2) (blk rc (.cells CB 29 (0, 0))) (blk rc (.cells zrc 29 (0, 0)))) (sep (blk q (.cells CB 29 (0, 0))) (sep (blk x (.cells (bcells S).toArray 34 (0, 0))) (sep G8 F)))) by ac_rfl)).stg_no hL) (fun w9 h9 => ⟨_, rfl, hS.step 3 _ (.inl rfl), (show Has st (sep (stg (L 2) (blk rc (.cells CB 29 (0, 0))) (blk rc (.cells zrc 29 (0, 0)))) (sep (stg true (blk ri (.cells (bcells S).toArray 34 (0, 0))) (blk ri (.cells Z 34 (0, 0)))) (sep (blk q (.cells CB 29 (0, 0))) (sep (blk x (.cells (bcells S).toArray 34 (0, 0))) (sep G8 F))))) w9 from ((h9.stg_mk (Q := (blk ri (.cells Z 34 (0, 0)))))).cast (by ac_rfl))⟩)
        intro L u we hL ⟨hS, hH⟩
        have E0 := hS 0 _ rfl (hL 0 (by decide))
        have E1 := hS 1 _ rfl (hL 1 (by decide))
        simp only [hL 2 (by decide), hL 3 (by decide), stg_true, emp_sep] at hH
        simp only [frame_cons, frame_nil, E0, E1, Act.put, List.setIfInBounds_toArray, List.set_cons_zero, List.set_cons_succ]
        clear hL hS E0 E1
        have He := Lib.hid hH
        clear hH
        go_wp2
        refine bodyPost_ret (results_cells2 Tryd.results12 _ _ _ _ 29 34 _ _ _ _ _ _ rfl He.out.blk rfl He.out.second.blk Tryd.underlying29 rfl HCBI.out Tryd.underlying34 rfl HIS.out) rfl ?_
        refine ⟨G8, .slice B8 (N2 + 1) d8, K2 ++ [(Kp.mk S (.slice Ab nb cb) BL)], by rw [HCB.out], ?_, ?_, by rw [HL8.out]; exact HRG.out⟩
        · rw [HPL.out, if_neg (by have := HBG.out; omega), abs_append, ← HGK.out, HTS2.out]; rfl
        · exact He.out.right.right.right.right
end Go.Proofs.YtblknhpafifebaaDoor
