/-
  (*sha.Hash).Sum, and sha.Of.
-/
import Derived.Test.YtblknhpafifebaaDoorShaWrite
import Derived.Test.YtblknhpafifebaaDoorOpn
namespace Go.Proofs.YtblknhpafifebaaDoor
open Go.RowKit Go.Sl Go.Sha
set_option linter.unusedVariables false
set_option linter.unusedSimpArgs false

theorem zeroID : (Tryd.prog.info? 34).map (·.zero) = some (some (.agg (bcells (List.replicate 32 0)).toArray)) := by kernel_rfl
theorem infoID : (Tryd.prog.info? 34).map (·.size) = some 32 := by kernel_rfl
theorem be8_take (n i : Nat) (h : i < 8) : (be8 n).take (i + 1) = (be8 n).take i ++ [UInt8.ofNat (n / 256 ^ (7 - i))] := by
  have hl : i < (be8 n).length := by simp [be8]; exact h
  rw [List.take_succ_eq_append_getElem hl]
  simp [be8]
theorem bytes_set (S : S8) (i : Nat) (h : i < 32) : ((Sha.bytes S).take i ++ List.replicate (32 - i) 0).set i (UInt8.ofNat ((S.list.getD (i / 4) 0).toNat / 2 ^ (24 - 8 * (i % 4)))) = (Sha.bytes S).take (i + 1) ++ List.replicate (32 - (i + 1)) 0 := by
  have hl : ((Sha.bytes S).take i).length = i := by simp [bytes_length]; omega
  have hl2 : i < (Sha.bytes S).length := by rw [bytes_length]; exact h
  rw [List.set_append_right _ _ (by omega), hl, Nat.sub_self, show 32 - i = (32 - (i + 1)) + 1 by omega, List.replicate_succ, List.set_cons_zero, List.take_succ_eq_append_getElem hl2, List.append_assoc]
  simp [Sha.bytes]
theorem bcells_all (l : List UInt8) : (bcells l).toArray.all (·.oneCell') = true := by
  rw [List.all_toArray, List.all_eq_true]
  exact bcells_one l

theorem zeroHash : (Tryd.prog.info? 86).map (·.zero) = some (some (.agg (hcells false ⟨0, 0, 0, 0, 0, 0, 0, 0⟩ (.slice none 0 0) 0))) := by kernel_rfl
theorem hash_new {st : World} {R : HProp} {w : World} {p : Nat} (h : Has st (sep (blk p (.cells (hcells false ⟨0, 0, 0, 0, 0, 0, 0, 0⟩ (.slice none 0 0) 0) 86 (0, 0))) R) w) : Has st (sep (hash p []) R) w :=
  toHash ⟨false, ⟨0, 0, 0, 0, 0, 0, 0, 0⟩, .slice none 0 0⟩ (.inl ⟨rfl, rfl⟩) (h.seen_nil 1).second
/-- the first loop: noughts till 56 -/
def SumA (st : World) (R : HProp) (Y : List UInt8) (z : Nat) (v3 : Value) (wr : World) : Prop :=
  ∃ k A c, k ≤ z ∧ v3 = .slice A (Y.length + k) c ∧ Has st (sep (row 5 1 v3 (Y.length + k) (bcells (Y ++ List.replicate k 0))) R) wr
/-- the second loop: the length -/
def SumB (st : World) (R : HProp) (Y : List UInt8) (N : Nat) (v3 v4 : Value) (wr : World) : Prop :=
  ∃ k A c, k ≤ 8 ∧ v4 = .int .i64 (((8 - k : Nat) : Int) - 1) ∧ v3 = .slice A (Y.length + k) c ∧ Has st (sep (row 5 1 v3 (Y.length + k) (bcells (Y ++ (be8 (8 * N)).take k))) R) wr
/-- the third loop: blocks -/
def SumC (st : World) (R : HProp) (q : Nat) (S : S8) (X : List UInt8) (V : Value) (v5 : Value) (wr : World) : Prop :=
  ∃ j A c, v5 = .slice A (X.length - 64 * j) c ∧ 64 * j ≤ X.length ∧ (∀ w', Rd 1 w' V X.length (bcells X) → Rd 1 w' v5 (X.length - 64 * j) (bcells (X.drop (64 * j)))) ∧
    Has st (sep (wblk q 84 (run S X j).list) (sep (row 5 1 V X.length (bcells X)) R)) wr
/-- the fourth loop: the sum's bytes -/
def SumD (st : World) (R : HProp) (q : Nat) (S : S8) (v : Value) (wr : World) : Prop :=
  ∃ i : Nat, i ≤ 32 ∧ v = .int .i64 i ∧ Has st (sep (blk q (.cells (bcells ((Sha.bytes S).take i ++ List.replicate (32 - i) 0)).toArray 34 (0, 0))) R) wr

set_option maxRecDepth 100000 in
set_option maxHeartbeats 1000000 in
theorem sum_any (st : World) (R : HProp) (p : Nat) (m : List UInt8) (hk : Keys st R) (hst : Start st R) (w : World) (h : Has st (sep (hash p m) R) w) (hmb : m.length ≤ 140737488355000) :
    Calls Tryd.prog 37 #[.pointer (some ⟨p, 0, none⟩)] w fun e w' => e = .returned (.agg (bcells (sha m)).toArray) ∧ Has st (sep (hash p m) R) w' := by
  have HKeys := Lib.hid hk
  have HST := Lib.hid hst
  clear hk hst
  have hll := left_length m
  have HLL : (left m).length < 64 := by omega
  have HLM := Lib.hid hll
  clear hll
  obtain ⟨x, hx, h1⟩ := openHash h
  obtain ⟨Al, cl, hv⟩ := (sees_seen st 1 x.v (left m).length (bcells (left m)) _).form h1.right
  have HV := Lib.hid hv
  have HHX := Lib.hid hx
  have H1 := Lib.hid h1
  clear hv hx h1 h
  go_enter Tryd.func37, Tryd.ntmps37
  go_wp2_with (first
    | (refine wpl_alloc rfl 34 (.agg (bcells (List.replicate 32 0)).toArray) (bcells (List.replicate 32 0)).toArray rfl zeroID rfl H1.out ?_; intro p0 w0 hp0 h0; clear hp0; have c9 : w0.cell? ⟨p, 9, none⟩ = some (.slice Al (left m).length cl) := (h0.second.cell 9).trans (by rw [← HV.out]; rfl); have H0 := Lib.hid h0; clear h0)
    | (go_at_call 43; refine (bclone_any st _ (left m) _ _ H0.out (by rw [← HV.out]; exact (sees_seen st 1 x.v (left m).length (bcells (left m)) _).right.right) (by omega)).mono ?_; rintro e w4 ⟨A4, c4, rfl, h4⟩; have H4 := Lib.hid h4; clear h4 c9)
    | (refine wp_append (v := .slice A4 (left m).length c4) rfl _ _ 30 5 1 1 (.int .u8 0) rfl Tryd.underlying30 infoB rfl (by decide) rfl rfl (H4.out.alloc' _) (Rd.one _ _ _) (by simp; rfl) (by unfold maxLen; omega) (by omega) ?_; intro A6 c6 w6 h6 hnil; clear hnil; have H6 := Lib.hid (h6.cast (show _ = sep (row 5 1 (.slice A6 ((left m).length + 1) c6) ((left m).length + 1) (bcells (left m ++ [128]))) _ by rw [← bcells_append]; rfl)); clear h6))
  obtain ⟨Y, hY⟩ : ∃ Y, Y = left m ++ [128] := ⟨_, rfl⟩
  have hYl : Y.length = (left m).length + 1 := by rw [hY]; simp
  obtain ⟨z, hz⟩ : ∃ z, z = (119 - m.length % 64) % 64 := ⟨_, rfl⟩
  have hz64 : z < 64 := by omega
  have hz1 : (Y.length + z) % 64 = 56 := by have := HLM.out; omega
  have hz2 : ∀ k, k < z → (Y.length + k) % 64 ≠ 56 := fun k hk => by have := HLM.out; omega
  have HYL : Y.length ≤ 64 := by omega
  have HZ1 := Lib.hid hz1
  have HZ2 := Lib.hid hz2
  have HZ := Lib.hid hz
  have HY := Lib.hid hY
  have H7 := Lib.hid (H6.out.cast (show _ = sep (row 5 1 (.slice A6 Y.length c6) Y.length (bcells Y)) (sep (hashBlk p m x) (sep (seenP 1 x.v (left m).length (bcells (left m))) (sep (blk p0 (.cells (bcells (List.replicate 32 0)).toArray 34 (0, 0))) R))) by rw [hYl, hY]; ac_rfl))
  rw [← hYl]
  clear hY hYl hz hz1 hz2 H6 H4 H0
  go_loopw [3] (SumA st (sep (hashBlk p m x) (sep (seenP 1 x.v (left m).length (bcells (left m))) (sep (blk p0 (.cells (bcells (List.replicate 32 0)).toArray 34 (0, 0))) R))) Y z) (fun v _ => 128 - lenOf v)
  case atStart => exact ⟨0, A6, c6, Nat.zero_le _, rfl, H7.out.cast (by simp)⟩
  case round =>
    obtain ⟨k, A, c, hk, rfl, h8⟩ := hrel
    clear H7
    by_cases hlt : k < z
    · have ht := HZ2.out k hlt
      obtain ⟨n, hn⟩ : ∃ n, n = Y.length + k := ⟨_, rfl⟩
      rw [← hn] at h8 ht ⊢
      have htb : cmpZ .neq ((n % 64 : Nat) : Int) 56 = some true := by simp only [cmpZ, Option.some.injEq, bne_iff_ne]; omega
      have hnb : n ≤ 128 := by omega
      have HN := Lib.hid hn
      have HT := Lib.hid htb
      have H8 := Lib.hid h8
      clear ht hn htb h8
      go_wp2_with (first
        | (refine wpList_plain rfl fun _ hk => opw_bin .rem _ _ _ _ .i64 (n : Int) 64 ((n % 64 : Nat) : Int) rfl rfl rfl (bin_rem n 64 (by decide)) (hk _ _ ?_))
        | (refine wpList_plain rfl fun _ hk => opw_cmp .neq _ _ _ _ .i64 ((n % 64 : Nat) : Int) 56 true rfl rfl rfl HT.out (hk _ _ ?_))
        | (refine wp_append (v := .slice A n c) rfl _ _ 30 5 1 1 (.int .u8 0) rfl Tryd.underlying30 infoB rfl (by decide) rfl rfl (H8.out.alloc' _) (Rd.one _ _ _) (by simp; rfl) (by unfold maxLen; omega) (by omega) ?_; intro A9 c9 w9 h9 hnil; clear hnil; have H9 := Lib.hid h9; clear h9))
      have hn := HN.out
      go_roundw
      case rel =>
        refine ⟨k + 1, A9, c9, by omega, by rw [show Y.length + (k + 1) = n + 1 by omega], ?_⟩
        rw [show Y.length + (k + 1) = n + 1 by omega]
        have e : bcells (Y ++ List.replicate k 0) ++ [Value.int .u8 0] = bcells (Y ++ List.replicate (k + 1) 0) :=
          (bcells_append (Y ++ List.replicate k 0) [0]).trans (by rw [List.append_assoc, ← List.replicate_succ'])
        exact H9.out.cast (by rw [e])
      case measure => simp [lenOf]; omega
    · obtain rfl : k = z := by omega
      have hc : cmpZ .neq ((((Y.length + k) % 64 : Nat)) : Int) 56 = some false := by simp only [cmpZ, Option.some.injEq, bne_eq_false_iff_eq]; have := HZ1.out; omega
      obtain ⟨Y2, hY2⟩ : ∃ Y2, Y2 = Y ++ List.replicate k 0 := ⟨_, rfl⟩
      have hYl : Y2.length = Y.length + k := by rw [hY2]; simp
      rw [← hYl] at h8 hc ⊢
      rw [← hY2] at h8
      have hb2 : Y2.length ≤ 128 := by omega
      have HC := Lib.hid hc
      have HY2 := Lib.hid hY2
      have H8 := Lib.hid h8
      clear hY2 hYl hc h8
      go_wp2_with (first
        | (refine wpList_plain rfl fun _ hk => opw_bin .rem _ _ _ _ .i64 (Y2.length : Int) 64 ((Y2.length % 64 : Nat) : Int) rfl rfl rfl (bin_rem Y2.length 64 (by decide)) (hk _ _ ?_))
        | (refine wpList_plain rfl fun _ hk => opw_cmp .neq _ _ _ _ .i64 ((Y2.length % 64 : Nat) : Int) 56 false rfl rfl rfl HC.out (hk _ _ ?_)))
      go_loopw [3, 4] (SumB st (sep (hashBlk p m x) (sep (seenP 1 x.v (left m).length (bcells (left m))) (sep (blk p0 (.cells (bcells (List.replicate 32 0)).toArray 34 (0, 0))) R))) Y2 m.length) (fun v _ _ => 136 - lenOf v)
      case atStart => exact ⟨0, A, c, Nat.zero_le _, rfl, rfl, H8.out.cast (by simp)⟩
      case round =>
        obtain ⟨i, A2, c2, hi, rfl, rfl, h8⟩ := hrel
        clear H8
        by_cases hlt : i < 8
        · obtain ⟨j, hj⟩ : ∃ j, j = 7 - i := ⟨_, rfl⟩
          obtain ⟨n, hn⟩ : ∃ n, n = Y2.length + i := ⟨_, rfl⟩
          rw [← hn] at h8 ⊢
          rw [show ((8 - i : Nat) : Int) - 1 = (j : Int) by omega]
          have hnb : n ≤ 136 := by omega
          have hjb : j ≤ 7 := by omega
          have c10 : wr.cell? ⟨p, 10, none⟩ = some (.int .i64 (m.length : Int)) := h8.second.cell 10
          have hb0 : binZ .mul .u64 (m.length : Int) 8 = some ((m.length * 8 : Nat) : Int) := by
            unfold binZ
            rw [show (m.length : Int) * 8 = ((m.length * 8 : Nat) : Int) by omega, u64_nat _ (by omega)]
          have hb1 := bin_mul 8 j (by omega)
          have hb2' := sh_r .u64 (m.length * 8) (8 * j) (by show 8 * j ≤ 64; omega)
          have HN := Lib.hid hn
          have HJ := Lib.hid hj
          have H8 := Lib.hid h8
          have HB0 := Lib.hid hb0
          have HB1 := Lib.hid hb1
          have HB2 := Lib.hid hb2'
          clear hn hj h8 hb0 hb1 hb2'
          go_wp2_with (first
            | (refine wpList_plain rfl fun _ hk => opw_conv _ _ _ .i64 .u64 (m.length : Int) (m.length : Int) rfl Tryd.underlying3 Tryd.underlying68 rfl (u64_nat _ (by omega)) (hk _ _ ?_))
            | (refine wpList_plain rfl fun _ hk => opw_bin .mul _ _ _ _ .u64 (m.length : Int) 8 ((m.length * 8 : Nat) : Int) rfl rfl rfl HB0.out (hk _ _ ?_))
            | (refine wpList_plain rfl fun _ hk => opw_bin .mul _ _ _ _ .i64 8 (j : Int) ((8 * j : Nat) : Int) rfl rfl rfl HB1.out (hk _ _ ?_))
            | (refine wpList_plain rfl fun _ hk => opw_shift .shr _ _ _ _ .u64 .i64 ((m.length * 8 : Nat) : Int) ((8 * j : Nat) : Int) _ rfl rfl rfl HB2.out (hk _ _ ?_))
            | (refine wpList_plain rfl fun _ hk => opw_conv _ _ _ .u64 .u8 ((m.length * 8 / 2 ^ (8 * j) : Nat) : Int) _ rfl Tryd.underlying68 Tryd.underlying5 rfl (wrap_u8 _) (hk _ _ ?_))
            | (refine wp_append (v := .slice A2 n c2) rfl _ _ 30 5 1 1 (.int .u8 0) rfl Tryd.underlying30 infoB rfl (by decide) rfl rfl (H8.out.alloc' _) (Rd.one _ _ _) (by simp; rfl) (by unfold maxLen; omega) (by omega) ?_; intro A9 c9 w9 h9 hnil; clear hnil; have H9 := Lib.hid h9; clear h9))
          have hn := HN.out
          have hj := HJ.out
          go_roundw
          case rel =>
            refine ⟨i + 1, A9, c9, by omega, by rw [show ((8 - (i + 1) : Nat) : Int) - 1 = (j : Int) - 1 by omega], by rw [show Y2.length + (i + 1) = n + 1 by omega], ?_⟩
            rw [show Y2.length + (i + 1) = n + 1 by omega]
            have e : bcells (Y2 ++ (be8 (8 * m.length)).take i) ++ [Value.int .u8 ((UInt8.ofNat (m.length * 8 / 2 ^ (8 * j))).toNat : Int)] = bcells (Y2 ++ (be8 (8 * m.length)).take (i + 1)) := by
              refine (bcells_append (Y2 ++ (be8 (8 * m.length)).take i) [_]).trans ?_
              rw [be8_take _ _ hlt, ← List.append_assoc, show m.length * 8 / 2 ^ (8 * j) = 8 * m.length / 256 ^ (7 - i) by rw [hj, Nat.mul_comm, show (256 : Nat) = 2 ^ 8 by decide, ← Nat.pow_mul]]
            have e2 : ((m.length : Int) * 8 / 2 ^ (8 * j) % 256) = ((UInt8.ofNat (m.length * 8 / 2 ^ (8 * j))).toNat : Int) := by simp
            exact H9.out.cast (by rw [e2, e])
          case measure => simp [lenOf]; omega
        · obtain rfl : i = 8 := by omega
          obtain ⟨E, hE⟩ : ∃ E, E = Y2 ++ be8 (8 * m.length) := ⟨_, rfl⟩
          have hEl : E.length = Y2.length + 8 := by rw [hE]; simp [be8]
          have hE2 : E = left m ++ tail m.length := by
            rw [hE, HY2.out, HY.out, HZ.out]
            simp [tail]
          have hE64 : E.length % 64 = 0 := by rw [hE2]; exact left_tail m
          rw [← hEl] at h8 ⊢
          rw [show (be8 (8 * m.length)).take 8 = be8 (8 * m.length) from List.take_of_length_le (by simp [be8]), ← hE] at h8
          obtain ⟨S0, hS0⟩ : ∃ S0, S0 = state m := ⟨_, rfl⟩
          have h9 : Has st (sep (hash p m) (sep (row 5 1 (.slice A2 E.length c2) E.length (bcells E)) (sep (blk p0 (.cells (bcells (List.replicate 32 0)).toArray 34 (0, 0))) R))) wr :=
            toHash x HHX.out (h8.cast (by ac_rfl))
          have hnow := fun w' h' => now_any st (sep (row 5 1 (.slice A2 E.length c2) E.length (bcells E)) (sep (blk p0 (.cells (bcells (List.replicate 32 0)).toArray 34 (0, 0))) R)) p m (fun w2 h2 => HST.out w2 h2.right.right) w' h'
          rw [← hS0] at hnow
          have HNow := Lib.hid hnow
          have H9 := Lib.hid h9
          have HE2 := Lib.hid hE2
          have HE64 := Lib.hid hE64
          have HS0 := Lib.hid hS0
          have hEb : E.length ≤ 136 := by omega
          clear h8 h9 hE hEl hE2 hE64 hS0 hnow
          rw [show ((8 - 8 : Nat) : Int) - 1 = -1 by decide]
          go_wp2_with (first
            | (go_at_call 42; refine (HNow.out _ H9.out).mono ?_; rintro e w10 ⟨rfl, h10⟩; have H10 := Lib.hid h10; clear h10)
            | (refine wpl_alloc rfl 84 (.agg (wcells (List.replicate 8 0)).toArray) (wcells (List.replicate 8 0)).toArray rfl zero8 rfl H10.out ?_; intro q w11 hq h11; clear hq; have H11 := Lib.hid h11; clear h11)
            | (refine wpl_storeRow rfl 84 _ _ rfl q (wcells S0.list).toArray rfl rfl 84 (wcells (List.replicate 8 0)).toArray info8 rfl (wcells_all _) H11.out ?_; intro w12 h12; have H12 := Lib.hid h12; clear h12))
          simp [Act.put]
          go_loopw [3] (SumC st (sep (hash p m) (sep (blk p0 (.cells (bcells (List.replicate 32 0)).toArray 34 (0, 0))) R)) q S0 E (.slice A2 E.length c2)) (fun v _ => lenOf v)
          case atStart => exact ⟨0, A2, c2, rfl, Nat.zero_le _, fun w' h => h, H12.out.cast (by simp only [run, wblk]; ac_rfl)⟩
          case round =>
            obtain ⟨j, A3, c3, rfl, hj, hR, h7⟩ := hrel
            have HR := Lib.hid hR
            have hlen : (E.drop (64 * j)).length = E.length - 64 * j := List.length_drop
            obtain ⟨n, hn⟩ : ∃ n, n = E.length - 64 * j := ⟨_, rfl⟩
            obtain ⟨S5, hS5⟩ : ∃ S5, S5 = run S0 E j := ⟨_, rfl⟩
            rw [← hn] at hlen ⊢
            rw [← hS5] at h7
            have hnb : n ≤ 136 := by omega
            have HN := Lib.hid hn
            have HLen := Lib.hid hlen
            have HS5 := Lib.hid hS5
            have h64' : 0 < n → 64 ≤ n := fun h => by have := HE64.out; omega
            clear hR hn hlen hS5 H9 H10 H11 H12
            by_cases h0 : 0 < n
            · have h64 := h64' h0
              clear h64'
              obtain ⟨M, hM⟩ : ∃ M, M = mix S5 (E.drop (64 * j)) := ⟨_, rfl⟩
              have HM : Hid (∀ w', Has st (sep (row 5 1 (.slice A2 E.length c2) E.length (bcells E)) (sep (wblk q 84 S5.list) (sep (hash p m) (sep (blk p0 (.cells (bcells (List.replicate 32 0)).toArray 34 (0, 0))) R)))) w' →
                  Calls Tryd.prog 44 #[.agg (wcells S5.list).toArray, .slice A3 n c3] w' fun e w'' => e = .returned (.agg (wcells M.list).toArray) ∧ Has st (sep (row 5 1 (.slice A2 E.length c2) E.length (bcells E)) (sep (wblk q 84 S5.list) (sep (hash p m) (sep (blk p0 (.cells (bcells (List.replicate 32 0)).toArray 34 (0, 0))) R)))) w'') := Lib.hid fun w' h' => by
                have hsee : Sees st (sep (row 5 1 (.slice A2 E.length c2) E.length (bcells E)) (sep (wblk q 84 S5.list) (sep (hash p m) (sep (blk p0 (.cells (bcells (List.replicate 32 0)).toArray 34 (0, 0))) R)))) 1 (.slice A3 n c3) n (bcells (E.drop (64 * j))) := fun w2 h2 => by
                  have := HR.out w2 (sees_row st _ 1 _ _ _ _ w2 h2)
                  rwa [← HN.out] at this
                have hl := HLen.out
                have := mix_any st _ S5 (E.drop (64 * j)) A3 c3 (by rw [hl]; exact hsee) (by omega) (fun w2 h2 => HKeys.out w2 h2.right.right.right.right) w' h'
                rw [hl, ← hM] at this
                exact this
              have HMM := Lib.hid hM
              have H7 := Lib.hid h7
              have hcap := (HR.out wr (sees_row st _ 1 _ _ _ _ wr h7.right)).le_cap
              rw [← HN.out] at hcap
              clear hM h7
              go_wp2_with (first
                | (refine wpl_loadRow rfl 84 _ rfl q rfl 84 (wcells S5.list).toArray _ _ Tryd.underlying84 rfl info8 H7.out ?_)
                | (go_at_call 44; refine (HM.out _ H7.out.second).mono ?_; rintro e w8 ⟨rfl, h8⟩; have H8 := Lib.hid h8.second; clear h8)
                | (refine wpl_storeRow rfl 84 _ _ rfl q (wcells M.list).toArray rfl rfl 84 (wcells S5.list).toArray info8 rfl (wcells_all _) H8.out ?_; intro w9 h9; have H9 := Lib.hid h9; clear h9)
                | (refine wp_slice rfl 30 5 1 _ _ _ _ rfl Tryd.underlying30 infosz (by decide) (A := A3) (n := n) (cap := c3) (xs := bcells (E.drop (64 * j))) rfl (by rw [HN.out]; exact HR.out _ (sees_row st _ 1 _ _ _ _ _ H9.out.second)) 64 n c3 (SlB.at .i64 64 0) (SlB.out n) (SlB.out c3) (fun h => absurd rfl h) h64 (Nat.le_refl _) hcap.1 (Nat.le_refl _) ?_; intro A' c' hR2; have HR2 := Lib.hid hR2; clear hR2))
              have hn := HN.out
              have e1 : E.length - 64 * (j + 1) = n - 64 := by omega
              have hj2 : 64 * (j + 1) ≤ E.length := by omega
              go_roundw
              case rel =>
                refine ⟨j + 1, A', c', by rw [e1], hj2, fun w' hw => ?_, ?_⟩
                · have := HR2.out w' (by have := HR.out w' hw; rwa [← hn] at this)
                  rw [e1]
                  simp only [Nat.mul_one] at this
                  rw [bcells_drop, List.drop_drop, bcells_take, List.take_of_length_le (by rw [List.length_drop]; omega)] at this
                  exact this
                · have := H9.out
                  rw [HMM.out, HS5.out] at this
                  exact this.cast (by simp only [run, wblk] <;> ac_rfl)
              case measure => (simp [lenOf] <;> omega)
            · have hS : S5 = state (m ++ tail m.length) := by
                rw [HS5.out, HS0.out, state_append, ← HE2.out, show j = E.length / 64 by have := HN.out; omega]
              have hsha : Sha.bytes S5 = Sha.sha m := by rw [hS]; rfl
              have HSha := Lib.hid hsha
              have H7 := Lib.hid h7
              clear h64' hS hsha h7
              go_wp2_with (first
                | (refine wpl_alloc rfl 34 (.agg (bcells (List.replicate 32 0)).toArray) (bcells (List.replicate 32 0)).toArray rfl zeroID rfl H7.out ?_; intro p6 w8 hp6 h8; clear hp6; have H8 := Lib.hid h8; clear h8))
              go_loopw [49] (SumD st (sep (wblk q 84 S5.list) (sep (row 5 1 (.slice A2 E.length c2) E.length (bcells E)) (sep (hash p m) (sep (blk p0 (.cells (bcells (List.replicate 32 0)).toArray 34 (0, 0))) R)))) p6 S5) (fun v _ => 32 - (intOf v).toNat)
              case atStart => exact ⟨0, Nat.zero_le _, rfl, H8.out⟩
              case round =>
                obtain ⟨i, hi, rfl, h8⟩ := hrel
                clear H8 H7
                by_cases hlt : i < 32
                · obtain ⟨d, hd⟩ : ∃ d, d = i / 4 := ⟨_, rfl⟩
                  obtain ⟨r, hr⟩ : ∃ r, r = i % 4 := ⟨_, rfl⟩
                  obtain ⟨e8, he⟩ : ∃ e, e = 8 * r := ⟨_, rfl⟩
                  obtain ⟨f, hf⟩ : ∃ f, f = 24 - e8 := ⟨_, rfl⟩
                  have b1 := bin_quo i 4 (by decide) (by omega)
                  have b2 := bin_rem i 4 (by decide)
                  have b3 := bin_mul 8 r (by omega)
                  have b4 := bin_sub 24 e8 (by omega) (by decide)
                  rw [← hd] at b1
                  rw [← hr] at b2
                  rw [← he] at b3
                  rw [← hf] at b4
                  obtain ⟨X, hX⟩ : ∃ X, X = S5.list.getD d 0 := ⟨_, rfl⟩
                  obtain ⟨Z, hZ⟩ : ∃ Z, Z = X.toNat / 2 ^ f := ⟨_, rfl⟩
                  have b5 := sh_r .u32 X.toNat f (by show f ≤ 32; omega)
                  rw [← hZ] at b5
                  have hd8 : d < 8 := by omega
                  have gX : wr.cell? ⟨q, 0 + d, none⟩ = some (.int .u32 (X.toNat : Int)) := (h8.second.cell (0 + d)).trans (by rw [Nat.zero_add, hX]; exact wcells_getD hd8)
                  have hnx : Sha.bytes S5 = (Sha.bytes S5) := rfl
                  have e0 : ((Sha.bytes S5).take i ++ List.replicate (32 - i) 0).set i (UInt8.ofNat Z) = (Sha.bytes S5).take (i + 1) ++ List.replicate (32 - (i + 1)) 0 := by
                    rw [hZ, hX, hf, he, hr, hd]; exact bytes_set S5 i hlt
                  have hsz : 0 + i < (bcells ((Sha.bytes S5).take i ++ List.replicate (32 - i) 0)).toArray.size := by simp [bcells_length, bytes_length]; omega
                  have HB1 := Lib.hid b1
                  have HB2 := Lib.hid b2
                  have HB3 := Lib.hid b3
                  have HB4 := Lib.hid b4
                  have HB5 := Lib.hid b5
                  have HGX := Lib.hid gX
                  have HE0 := Lib.hid e0
                  have HSZ := Lib.hid hsz
                  have H8 := Lib.hid h8
                  clear hd hr he hf b1 b2 b3 b4 b5 hX hZ gX hnx e0 hsz h8
                  go_wp2_with (((with_reducible refine wpList_plain rfl ?_); intro _ hk; (first
                    | (refine opw_bin .quo _ _ _ _ .i64 (i : Int) 4 (d : Int) rfl rfl rfl HB1.out (hk _ _ ?_))
                    | (refine opw_bin .rem _ _ _ _ .i64 (i : Int) 4 (r : Int) rfl rfl rfl HB2.out (hk _ _ ?_))
                    | (refine opw_bin .mul _ _ _ _ .i64 8 (r : Int) (e8 : Int) rfl rfl rfl HB3.out (hk _ _ ?_))
                    | (refine opw_bin .sub _ _ _ _ .i64 24 (e8 : Int) (f : Int) rfl rfl rfl HB4.out (hk _ _ ?_))
                    | (refine opw_shift .shr _ _ _ _ .u32 .i64 (X.toNat : Int) (f : Int) (Z : Int) rfl rfl rfl HB5.out (hk _ _ ?_))
                    | (refine opw_conv _ _ _ .u32 .u8 (Z : Int) ((UInt8.ofNat Z).toNat : Int) rfl Tryd.underlying70 Tryd.underlying5 rfl (wrap_u8 _) (hk _ _ ?_))
                    | (refine opw_indexArr 84 _ 8 _ _ rfl Tryd.underlying84 info1 q 0 d rfl .i64 rfl hd8 (hk _ _ ?_))
                    | (refine opw_load1 _ _ rfl _ Tryd.underlying70 rfl ⟨q, 0 + d, none⟩ (.int .u32 (X.toNat : Int)) rfl HGX.out (hk _ _ ?_))
                    | (refine opw_indexArr 34 _ 32 _ _ rfl Tryd.underlying34 infosz p6 0 i rfl .i64 rfl hlt (hk _ _ ?_))
                    | (refine opw_store1 5 _ _ rfl infosz p6 (0 + i) (.int .u8 ((UInt8.ofNat Z).toNat : Int)) rfl rfl rfl H8.out HSZ.out (fun w9 h9 => hk _ _ ?_))); simp only [Act.put, List.setIfInBounds_toArray, List.set_cons_zero, List.set_cons_succ]))
                  go_wp2
                  go_roundw
                  case rel => exact ⟨i + 1, by omega, by go_num, h9.cast (by rw [Nat.zero_add, List.setIfInBounds_toArray, show (bcells ((Sha.bytes S5).take i ++ List.replicate (32 - i) 0)).set i (.int .u8 ((UInt8.ofNat Z).toNat : Int)) = bcells ((Sha.bytes S5).take (i + 1) ++ List.replicate (32 - (i + 1)) 0) by rw [← HE0.out]; simp [bcells, bcell, List.map_set]])⟩
                  case measure => simp [intOf]; omega
                · obtain rfl : i = 32 := by omega
                  rw [show (Sha.bytes S5).take 32 ++ List.replicate (32 - 32) 0 = Sha.bytes S5 by simp [List.take_of_length_le, bytes_length]] at h8
                  have hz : (bcells (Sha.bytes S5)).toArray.size = 32 := by simp [bcells_length, bytes_length]
                  have hi32 : (Tryd.prog.info? 34).map (·.size) = some (bcells (Sha.bytes S5)).toArray.size := by rw [hz]; exact infoID
                  have hz2 : (bcells (List.replicate 32 (0 : UInt8))).toArray.size = (bcells (Sha.bytes S5)).toArray.size := by rw [hz]; rfl
                  have HI := Lib.hid hi32
                  have HZ2 := Lib.hid hz2
                  obtain ⟨BS, hBS⟩ : ∃ BS, BS = Sha.bytes S5 := ⟨_, rfl⟩
                  rw [← hBS] at h8 HI HZ2
                  have hfin : Has st (sep (blk p0 (.cells (bcells (List.replicate 32 0)).toArray 34 (0, 0))) (sep (blk p6 (.cells (bcells BS).toArray 34 (0, 0))) (sep (wblk q 84 S5.list) (sep (row 5 1 (.slice A2 E.length c2) E.length (bcells E)) (sep (hash p m) R))))) wr := h8.cast (by simp only [wblk]; ac_rfl)
                  have H8 := Lib.hid h8
                  have HF := Lib.hid hfin
                  have HBS := Lib.hid hBS
                  clear h8 hz hi32 hz2 hBS hfin
                  go_wp2_with (((with_reducible refine wpList_plain rfl ?_); intro _ hk; (first
                    | (refine opw_loadRow 34 _ rfl p6 rfl 34 (bcells BS).toArray _ _ Tryd.underlying34 rfl HI.out H8.out (hk _ _ ?_))
                    | (refine opw_storeRow 34 _ _ rfl p0 (bcells BS).toArray rfl rfl 34 (bcells (List.replicate 32 0)).toArray HI.out HZ2.out (bcells_all _) HF.out (fun w9 h9 => hk _ _ ?_))); simp only [Act.put, List.setIfInBounds_toArray, List.set_cons_zero, List.set_cons_succ]))
                  refine bodyPost_ret (results_cell_row Tryd.results37 _ _ _ 34 _ _ _ rfl h9.blk Tryd.underlying34 rfl HI.out) rfl ?_
                  exact ⟨by rw [HBS.out, HSha.out], h9.right.right.right.right⟩

end Go.Proofs.YtblknhpafifebaaDoor
