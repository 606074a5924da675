/-
  Several texts of this proof in one: ShaSum, Kp, CacheA, CacheB, CacheC, CacheD, Open.
-/
import Derived.Test.YtblknhpafifebaaDoorM3
import Derived.Test.YtblknhpafifebaaDoorM1
import Derived.Test.YtblknhpafifebaaDoorM2
import Derived.Deep.RegionLaw
import Derived.Shelf.RegionOpenPlain
import Derived.Deep.RegionHeld3
import Derived.Test.YtblknhpafifebaaDoorM0
import Derived.ProofKit
import Derived.OpenShut
import Derived.ChangeOld
import Derived.SizedLaws
import Derived.Deep.Slices
import Derived.Deep.Fields
import Derived.ShutString
/-
  (*sha.Hash).Sum, and sha.Of.
-/
namespace Go.Proofs.YtblknhpafifebaaDoor
open Go.RowKit Go.Sl Go.Sha
set_option linter.unusedVariables false
set_option linter.unusedSimpArgs false

theorem zeroID : (Tryd.prog.info? 34).map (·.zero) = some (some (.agg (bcells (List.replicate 32 0)).toArray)) := by kernel_rfl
theorem infoID : (Tryd.prog.info? 34).map (·.size) = some 32 := by kernel_rfl
theorem be8_take (n i : Nat) (h : i < 8) : (be8 n).take (i + 1) = (be8 n).take i ++ [UInt8.ofNat (n / 256 ^ (7 - i))] := by
  have hl : i < (be8 n).length := by simp [be8]; exact h
  rw [List.take_succ_eq_append_getElem hl]
  simp [be8]
theorem bytes_set (S : S8) (i : Nat) (h : i < 32) : ((Sha.bytes S).take i ++ List.replicate (32 - i) 0).set i (UInt8.ofNat ((S.list.getD (i / 4) 0).toNat / 2 ^ (24 - 8 * (i % 4)))) = (Sha.bytes S).take (i + 1) ++ List.replicate (32 - (i + 1)) 0 := by
  have hl : ((Sha.bytes S).take i).length = i := by simp [bytes_length]; omega
  have hl2 : i < (Sha.bytes S).length := by rw [bytes_length]; exact h
  rw [List.set_append_right _ _ (by omega), hl, Nat.sub_self, show 32 - i = (32 - (i + 1)) + 1 by omega, List.replicate_succ, List.set_cons_zero, List.take_succ_eq_append_getElem hl2, List.append_assoc]
  simp [Sha.bytes]
theorem bcells_all (l : List UInt8) : (bcells l).toArray.all (·.oneCell') = true := by
  rw [List.all_toArray, List.all_eq_true]
  exact bcells_one l

theorem zeroHash : (Tryd.prog.info? 86).map (·.zero) = some (some (.agg (hcells false ⟨0, 0, 0, 0, 0, 0, 0, 0⟩ (.slice none 0 0) 0))) := by kernel_rfl
theorem hash_new {st : World} {R : HProp} {w : World} {p : Nat} (h : Has st (sep (blk p (.cells (hcells false ⟨0, 0, 0, 0, 0, 0, 0, 0⟩ (.slice none 0 0) 0) 86 (0, 0))) R) w) : Has st (sep (hash p []) R) w :=
  toHash ⟨false, ⟨0, 0, 0, 0, 0, 0, 0, 0⟩, .slice none 0 0⟩ (.inl ⟨rfl, rfl⟩) (h.seen_nil 1).second
/-- the first loop: noughts till 56 -/
def SumA (st : World) (R : HProp) (Y : List UInt8) (z : Nat) (v3 : Value) (wr : World) : Prop :=
  ∃ k A c, k ≤ z ∧ v3 = .slice A (Y.length + k) c ∧ Has st (sep (row 5 1 v3 (Y.length + k) (bcells (Y ++ List.replicate k 0))) R) wr
/-- the second loop: the length -/
def SumB (st : World) (R : HProp) (Y : List UInt8) (N : Nat) (v3 v4 : Value) (wr : World) : Prop :=
  ∃ k A c, k ≤ 8 ∧ v4 = .int .i64 (((8 - k : Nat) : Int) - 1) ∧ v3 = .slice A (Y.length + k) c ∧ Has st (sep (row 5 1 v3 (Y.length + k) (bcells (Y ++ (be8 (8 * N)).take k))) R) wr
/-- the third loop: blocks -/
def SumC (st : World) (R : HProp) (q : Nat) (S : S8) (X : List UInt8) (V : Value) (v5 : Value) (wr : World) : Prop :=
  ∃ j A c, v5 = .slice A (X.length - 64 * j) c ∧ 64 * j ≤ X.length ∧ (∀ w', Rd 1 w' V X.length (bcells X) → Rd 1 w' v5 (X.length - 64 * j) (bcells (X.drop (64 * j)))) ∧
    Has st (sep (wblk q 84 (run S X j).list) (sep (row 5 1 V X.length (bcells X)) R)) wr
/-- the fourth loop: the sum's bytes -/
def SumD (st : World) (R : HProp) (q : Nat) (S : S8) (v : Value) (wr : World) : Prop :=
  ∃ i : Nat, i ≤ 32 ∧ v = .int .i64 i ∧ Has st (sep (blk q (.cells (bcells ((Sha.bytes S).take i ++ List.replicate (32 - i) 0)).toArray 34 (0, 0))) R) wr

set_option maxRecDepth 100000 in
set_option maxHeartbeats 1000000 in
theorem sum_any (st : World) (R : HProp) (p : Nat) (m : List UInt8) (hk : Keys st R) (hst : Start st R) (w : World) (h : Has st (sep (hash p m) R) w) (hmb : m.length ≤ 140737488355000) :
    Calls Tryd.prog 37 #[.pointer (some ⟨p, 0, none⟩)] w fun e w' => e = .returned (.agg (bcells (sha m)).toArray) ∧ Has st (sep (hash p m) R) w' := by
  have HKeys := Lib.hid hk
  have HST := Lib.hid hst
  clear hk hst
  have hll := left_length m
  have HLL : (left m).length < 64 := by omega
  have HLM := Lib.hid hll
  clear hll
  obtain ⟨x, hx, h1⟩ := openHash h
  obtain ⟨Al, cl, hv⟩ := (sees_seen st 1 x.v (left m).length (bcells (left m)) _).form h1.right
  have HV := Lib.hid hv
  have HHX := Lib.hid hx
  have H1 := Lib.hid h1
  clear hv hx h1 h
  go_enter Tryd.func37, Tryd.ntmps37
  go_wp2_with (first
    | (refine wpl_alloc rfl 34 (.agg (bcells (List.replicate 32 0)).toArray) (bcells (List.replicate 32 0)).toArray rfl zeroID rfl H1.out ?_; intro p0 w0 hp0 h0; clear hp0; have c9 : w0.cell? ⟨p, 9, none⟩ = some (.slice Al (left m).length cl) := (h0.second.cell 9).trans (by rw [← HV.out]; rfl); have H0 := Lib.hid h0; clear h0)
    | (go_at_call 43; refine (bclone_any st _ (left m) _ _ H0.out (by rw [← HV.out]; exact (sees_seen st 1 x.v (left m).length (bcells (left m)) _).right.right) (by omega)).mono ?_; rintro e w4 ⟨A4, c4, rfl, h4⟩; have H4 := Lib.hid h4; clear h4 c9)
    | (refine wp_append (v := .slice A4 (left m).length c4) rfl _ _ 30 5 1 1 (.int .u8 0) rfl Tryd.underlying30 infoB rfl (by decide) rfl rfl (H4.out.alloc' _) (Rd.one _ _ _) (by simp; rfl) (by unfold maxLen; omega) (by omega) ?_; intro A6 c6 w6 h6 hnil; clear hnil; have H6 := Lib.hid (h6.cast (show _ = sep (row 5 1 (.slice A6 ((left m).length + 1) c6) ((left m).length + 1) (bcells (left m ++ [128]))) _ by rw [← bcells_append]; rfl)); clear h6))
  obtain ⟨Y, hY⟩ : ∃ Y, Y = left m ++ [128] := ⟨_, rfl⟩
  have hYl : Y.length = (left m).length + 1 := by rw [hY]; simp
  obtain ⟨z, hz⟩ : ∃ z, z = (119 - m.length % 64) % 64 := ⟨_, rfl⟩
  have hz64 : z < 64 := by omega
  have hz1 : (Y.length + z) % 64 = 56 := by have := HLM.out; omega
  have hz2 : ∀ k, k < z → (Y.length + k) % 64 ≠ 56 := fun k hk => by have := HLM.out; omega
  have HYL : Y.length ≤ 64 := by omega
  have HZ1 := Lib.hid hz1
  have HZ2 := Lib.hid hz2
  have HZ := Lib.hid hz
  have HY := Lib.hid hY
  have H7 := Lib.hid (H6.out.cast (show _ = sep (row 5 1 (.slice A6 Y.length c6) Y.length (bcells Y)) (sep (hashBlk p m x) (sep (seenP 1 x.v (left m).length (bcells (left m))) (sep (blk p0 (.cells (bcells (List.replicate 32 0)).toArray 34 (0, 0))) R))) by rw [hYl, hY]; ac_rfl))
  rw [← hYl]
  clear hY hYl hz hz1 hz2 H6 H4 H0
  go_loopw [3] (SumA st (sep (hashBlk p m x) (sep (seenP 1 x.v (left m).length (bcells (left m))) (sep (blk p0 (.cells (bcells (List.replicate 32 0)).toArray 34 (0, 0))) R))) Y z) (fun v _ => 128 - lenOf v)
  case atStart => exact ⟨0, A6, c6, Nat.zero_le _, rfl, H7.out.cast (by simp)⟩
  case round =>
    obtain ⟨k, A, c, hk, rfl, h8⟩ := hrel
    clear H7
    by_cases hlt : k < z
    · have ht := HZ2.out k hlt
      obtain ⟨n, hn⟩ : ∃ n, n = Y.length + k := ⟨_, rfl⟩
      rw [← hn] at h8 ht ⊢
      have htb : cmpZ .neq ((n % 64 : Nat) : Int) 56 = some true := by simp only [cmpZ, Option.some.injEq, bne_iff_ne]; omega
      have hnb : n ≤ 128 := by omega
      have HN := Lib.hid hn
      have HT := Lib.hid htb
      have H8 := Lib.hid h8
      clear ht hn htb h8
      go_wp2_with (first
        | (refine wpList_plain rfl fun _ hk => opw_bin .rem _ _ _ _ .i64 (n : Int) 64 ((n % 64 : Nat) : Int) rfl rfl rfl (bin_rem n 64 (by decide)) (hk _ _ ?_))
        | (refine wpList_plain rfl fun _ hk => opw_cmp .neq _ _ _ _ .i64 ((n % 64 : Nat) : Int) 56 true rfl rfl rfl HT.out (hk _ _ ?_))
        | (refine wp_append (v := .slice A n c) rfl _ _ 30 5 1 1 (.int .u8 0) rfl Tryd.underlying30 infoB rfl (by decide) rfl rfl (H8.out.alloc' _) (Rd.one _ _ _) (by simp; rfl) (by unfold maxLen; omega) (by omega) ?_; intro A9 c9 w9 h9 hnil; clear hnil; have H9 := Lib.hid h9; clear h9))
      have hn := HN.out
      go_roundw
      case rel =>
        refine ⟨k + 1, A9, c9, by omega, by rw [show Y.length + (k + 1) = n + 1 by omega], ?_⟩
        rw [show Y.length + (k + 1) = n + 1 by omega]
        have e : bcells (Y ++ List.replicate k 0) ++ [Value.int .u8 0] = bcells (Y ++ List.replicate (k + 1) 0) :=
          (bcells_append (Y ++ List.replicate k 0) [0]).trans (by rw [List.append_assoc, ← List.replicate_succ'])
        exact H9.out.cast (by rw [e])
      case measure => simp [lenOf]; omega
    · obtain rfl : k = z := by omega
      have hc : cmpZ .neq ((((Y.length + k) % 64 : Nat)) : Int) 56 = some false := by simp only [cmpZ, Option.some.injEq, bne_eq_false_iff_eq]; have := HZ1.out; omega
      obtain ⟨Y2, hY2⟩ : ∃ Y2, Y2 = Y ++ List.replicate k 0 := ⟨_, rfl⟩
      have hYl : Y2.length = Y.length + k := by rw [hY2]; simp
      rw [← hYl] at h8 hc ⊢
      rw [← hY2] at h8
      have hb2 : Y2.length ≤ 128 := by omega
      have HC := Lib.hid hc
      have HY2 := Lib.hid hY2
      have H8 := Lib.hid h8
      clear hY2 hYl hc h8
      go_wp2_with (first
        | (refine wpList_plain rfl fun _ hk => opw_bin .rem _ _ _ _ .i64 (Y2.length : Int) 64 ((Y2.length % 64 : Nat) : Int) rfl rfl rfl (bin_rem Y2.length 64 (by decide)) (hk _ _ ?_))
        | (refine wpList_plain rfl fun _ hk => opw_cmp .neq _ _ _ _ .i64 ((Y2.length % 64 : Nat) : Int) 56 false rfl rfl rfl HC.out (hk _ _ ?_)))
      go_loopw [3, 4] (SumB st (sep (hashBlk p m x) (sep (seenP 1 x.v (left m).length (bcells (left m))) (sep (blk p0 (.cells (bcells (List.replicate 32 0)).toArray 34 (0, 0))) R))) Y2 m.length) (fun v _ _ => 136 - lenOf v)
      case atStart => exact ⟨0, A, c, Nat.zero_le _, rfl, rfl, H8.out.cast (by simp)⟩
      case round =>
        obtain ⟨i, A2, c2, hi, rfl, rfl, h8⟩ := hrel
        clear H8
        by_cases hlt : i < 8
        · obtain ⟨j, hj⟩ : ∃ j, j = 7 - i := ⟨_, rfl⟩
          obtain ⟨n, hn⟩ : ∃ n, n = Y2.length + i := ⟨_, rfl⟩
          rw [← hn] at h8 ⊢
          rw [show ((8 - i : Nat) : Int) - 1 = (j : Int) by omega]
          have hnb : n ≤ 136 := by omega
          have hjb : j ≤ 7 := by omega
          have c10 : wr.cell? ⟨p, 10, none⟩ = some (.int .i64 (m.length : Int)) := h8.second.cell 10
          have hb0 : binZ .mul .u64 (m.length : Int) 8 = some ((m.length * 8 : Nat) : Int) := by
            unfold binZ
            rw [show (m.length : Int) * 8 = ((m.length * 8 : Nat) : Int) by omega, u64_nat _ (by omega)]
          have hb1 := bin_mul 8 j (by omega)
          have hb2' := sh_r .u64 (m.length * 8) (8 * j) (by show 8 * j ≤ 64; omega)
          have HN := Lib.hid hn
          have HJ := Lib.hid hj
          have H8 := Lib.hid h8
          have HB0 := Lib.hid hb0
          have HB1 := Lib.hid hb1
          have HB2 := Lib.hid hb2'
          clear hn hj h8 hb0 hb1 hb2'
          go_wp2_with (first
            | (refine wpList_plain rfl fun _ hk => opw_conv _ _ _ .i64 .u64 (m.length : Int) (m.length : Int) rfl Tryd.underlying3 Tryd.underlying68 rfl (u64_nat _ (by omega)) (hk _ _ ?_))
            | (refine wpList_plain rfl fun _ hk => opw_bin .mul _ _ _ _ .u64 (m.length : Int) 8 ((m.length * 8 : Nat) : Int) rfl rfl rfl HB0.out (hk _ _ ?_))
            | (refine wpList_plain rfl fun _ hk => opw_bin .mul _ _ _ _ .i64 8 (j : Int) ((8 * j : Nat) : Int) rfl rfl rfl HB1.out (hk _ _ ?_))
            | (refine wpList_plain rfl fun _ hk => opw_shift .shr _ _ _ _ .u64 .i64 ((m.length * 8 : Nat) : Int) ((8 * j : Nat) : Int) _ rfl rfl rfl HB2.out (hk _ _ ?_))
            | (refine wpList_plain rfl fun _ hk => opw_conv _ _ _ .u64 .u8 ((m.length * 8 / 2 ^ (8 * j) : Nat) : Int) _ rfl Tryd.underlying68 Tryd.underlying5 rfl (wrap_u8 _) (hk _ _ ?_))
            | (refine wp_append (v := .slice A2 n c2) rfl _ _ 30 5 1 1 (.int .u8 0) rfl Tryd.underlying30 infoB rfl (by decide) rfl rfl (H8.out.alloc' _) (Rd.one _ _ _) (by simp; rfl) (by unfold maxLen; omega) (by omega) ?_; intro A9 c9 w9 h9 hnil; clear hnil; have H9 := Lib.hid h9; clear h9))
          have hn := HN.out
          have hj := HJ.out
          go_roundw
          case rel =>
            refine ⟨i + 1, A9, c9, by omega, by rw [show ((8 - (i + 1) : Nat) : Int) - 1 = (j : Int) - 1 by omega], by rw [show Y2.length + (i + 1) = n + 1 by omega], ?_⟩
            rw [show Y2.length + (i + 1) = n + 1 by omega]
            have e : bcells (Y2 ++ (be8 (8 * m.length)).take i) ++ [Value.int .u8 ((UInt8.ofNat (m.length * 8 / 2 ^ (8 * j))).toNat : Int)] = bcells (Y2 ++ (be8 (8 * m.length)).take (i + 1)) := by
              refine (bcells_append (Y2 ++ (be8 (8 * m.length)).take i) [_]).trans ?_
              rw [be8_take _ _ hlt, ← List.append_assoc, show m.length * 8 / 2 ^ (8 * j) = 8 * m.length / 256 ^ (7 - i) by rw [hj, Nat.mul_comm, show (256 : Nat) = 2 ^ 8 by decide, ← Nat.pow_mul]]
            have e2 : ((m.length : Int) * 8 / 2 ^ (8 * j) % 256) = ((UInt8.ofNat (m.length * 8 / 2 ^ (8 * j))).toNat : Int) := by simp
            exact H9.out.cast (by rw [e2, e])
          case measure => simp [lenOf]; omega
        · obtain rfl : i = 8 := by omega
          obtain ⟨E, hE⟩ : ∃ E, E = Y2 ++ be8 (8 * m.length) := ⟨_, rfl⟩
          have hEl : E.length = Y2.length + 8 := by rw [hE]; simp [be8]
          have hE2 : E = left m ++ tail m.length := by
            rw [hE, HY2.out, HY.out, HZ.out]
            simp [tail]
          have hE64 : E.length % 64 = 0 := by rw [hE2]; exact left_tail m
          rw [← hEl] at h8 ⊢
          rw [show (be8 (8 * m.length)).take 8 = be8 (8 * m.length) from List.take_of_length_le (by simp [be8]), ← hE] at h8
          obtain ⟨S0, hS0⟩ : ∃ S0, S0 = state m := ⟨_, rfl⟩
          have h9 : Has st (sep (hash p m) (sep (row 5 1 (.slice A2 E.length c2) E.length (bcells E)) (sep (blk p0 (.cells (bcells (List.replicate 32 0)).toArray 34 (0, 0))) R))) wr :=
            toHash x HHX.out (h8.cast (by ac_rfl))
          have hnow := fun w' h' => now_any st (sep (row 5 1 (.slice A2 E.length c2) E.length (bcells E)) (sep (blk p0 (.cells (bcells (List.replicate 32 0)).toArray 34 (0, 0))) R)) p m (fun w2 h2 => HST.out w2 h2.right.right) w' h'
          rw [← hS0] at hnow
          have HNow := Lib.hid hnow
          have H9 := Lib.hid h9
          have HE2 := Lib.hid hE2
          have HE64 := Lib.hid hE64
          have HS0 := Lib.hid hS0
          have hEb : E.length ≤ 136 := by omega
          clear h8 h9 hE hEl hE2 hE64 hS0 hnow
          rw [show ((8 - 8 : Nat) : Int) - 1 = -1 by decide]
          go_wp2_with (first
            | (go_at_call 42; refine (HNow.out _ H9.out).mono ?_; rintro e w10 ⟨rfl, h10⟩; have H10 := Lib.hid h10; clear h10)
            | (refine wpl_alloc rfl 84 (.agg (wcells (List.replicate 8 0)).toArray) (wcells (List.replicate 8 0)).toArray rfl zero8 rfl H10.out ?_; intro q w11 hq h11; clear hq; have H11 := Lib.hid h11; clear h11)
            | (refine wpl_storeRow rfl 84 _ _ rfl q (wcells S0.list).toArray rfl rfl 84 (wcells (List.replicate 8 0)).toArray info8 rfl (wcells_all _) H11.out ?_; intro w12 h12; have H12 := Lib.hid h12; clear h12))
          simp [Act.put]
          go_loopw [3] (SumC st (sep (hash p m) (sep (blk p0 (.cells (bcells (List.replicate 32 0)).toArray 34 (0, 0))) R)) q S0 E (.slice A2 E.length c2)) (fun v _ => lenOf v)
          case atStart => exact ⟨0, A2, c2, rfl, Nat.zero_le _, fun w' h => h, H12.out.cast (by simp only [run, wblk]; ac_rfl)⟩
          case round =>
            obtain ⟨j, A3, c3, rfl, hj, hR, h7⟩ := hrel
            have HR := Lib.hid hR
            have hlen : (E.drop (64 * j)).length = E.length - 64 * j := List.length_drop
            obtain ⟨n, hn⟩ : ∃ n, n = E.length - 64 * j := ⟨_, rfl⟩
            obtain ⟨S5, hS5⟩ : ∃ S5, S5 = run S0 E j := ⟨_, rfl⟩
            rw [← hn] at hlen ⊢
            rw [← hS5] at h7
            have hnb : n ≤ 136 := by omega
            have HN := Lib.hid hn
            have HLen := Lib.hid hlen
            have HS5 := Lib.hid hS5
            have h64' : 0 < n → 64 ≤ n := fun h => by have := HE64.out; omega
            clear hR hn hlen hS5 H9 H10 H11 H12
            by_cases h0 : 0 < n
            · have h64 := h64' h0
              clear h64'
              obtain ⟨M, hM⟩ : ∃ M, M = mix S5 (E.drop (64 * j)) := ⟨_, rfl⟩
              have HM : Hid (∀ w', Has st (sep (row 5 1 (.slice A2 E.length c2) E.length (bcells E)) (sep (wblk q 84 S5.list) (sep (hash p m) (sep (blk p0 (.cells (bcells (List.replicate 32 0)).toArray 34 (0, 0))) R)))) w' →
                  Calls Tryd.prog 44 #[.agg (wcells S5.list).toArray, .slice A3 n c3] w' fun e w'' => e = .returned (.agg (wcells M.list).toArray) ∧ Has st (sep (row 5 1 (.slice A2 E.length c2) E.length (bcells E)) (sep (wblk q 84 S5.list) (sep (hash p m) (sep (blk p0 (.cells (bcells (List.replicate 32 0)).toArray 34 (0, 0))) R)))) w'') := Lib.hid fun w' h' => by
                have hsee : Sees st (sep (row 5 1 (.slice A2 E.length c2) E.length (bcells E)) (sep (wblk q 84 S5.list) (sep (hash p m) (sep (blk p0 (.cells (bcells (List.replicate 32 0)).toArray 34 (0, 0))) R)))) 1 (.slice A3 n c3) n (bcells (E.drop (64 * j))) := fun w2 h2 => by
                  have := HR.out w2 (sees_row st _ 1 _ _ _ _ w2 h2)
                  rwa [← HN.out] at this
                have hl := HLen.out
                have := mix_any st _ S5 (E.drop (64 * j)) A3 c3 (by rw [hl]; exact hsee) (by omega) (fun w2 h2 => HKeys.out w2 h2.right.right.right.right) w' h'
                rw [hl, ← hM] at this
                exact this
              have HMM := Lib.hid hM
              have H7 := Lib.hid h7
              have hcap := (HR.out wr (sees_row st _ 1 _ _ _ _ wr h7.right)).le_cap
              rw [← HN.out] at hcap
              clear hM h7
              go_wp2_with (first
                | (refine wpl_loadRow rfl 84 _ rfl q rfl 84 (wcells S5.list).toArray _ _ Tryd.underlying84 rfl info8 H7.out ?_)
                | (go_at_call 44; refine (HM.out _ H7.out.second).mono ?_; rintro e w8 ⟨rfl, h8⟩; have H8 := Lib.hid h8.second; clear h8)
                | (refine wpl_storeRow rfl 84 _ _ rfl q (wcells M.list).toArray rfl rfl 84 (wcells S5.list).toArray info8 rfl (wcells_all _) H8.out ?_; intro w9 h9; have H9 := Lib.hid h9; clear h9)
                | (refine wp_slice rfl 30 5 1 _ _ _ _ rfl Tryd.underlying30 infosz (by decide) (A := A3) (n := n) (cap := c3) (xs := bcells (E.drop (64 * j))) rfl (by rw [HN.out]; exact HR.out _ (sees_row st _ 1 _ _ _ _ _ H9.out.second)) 64 n c3 (SlB.at .i64 64 0) (SlB.out n) (SlB.out c3) (fun h => absurd rfl h) h64 (Nat.le_refl _) hcap.1 (Nat.le_refl _) ?_; intro A' c' hR2; have HR2 := Lib.hid hR2; clear hR2))
              have hn := HN.out
              have e1 : E.length - 64 * (j + 1) = n - 64 := by omega
              have hj2 : 64 * (j + 1) ≤ E.length := by omega
              go_roundw
              case rel =>
                refine ⟨j + 1, A', c', by rw [e1], hj2, fun w' hw => ?_, ?_⟩
                · have := HR2.out w' (by have := HR.out w' hw; rwa [← hn] at this)
                  rw [e1]
                  simp only [Nat.mul_one] at this
                  rw [bcells_drop, List.drop_drop, bcells_take, List.take_of_length_le (by rw [List.length_drop]; omega)] at this
                  exact this
                · have := H9.out
                  rw [HMM.out, HS5.out] at this
                  exact this.cast (by simp only [run, wblk] <;> ac_rfl)
              case measure => (simp [lenOf] <;> omega)
            · have hS : S5 = state (m ++ tail m.length) := by
                rw [HS5.out, HS0.out, state_append, ← HE2.out, show j = E.length / 64 by have := HN.out; omega]
              have hsha : Sha.bytes S5 = Sha.sha m := by rw [hS]; rfl
              have HSha := Lib.hid hsha
              have H7 := Lib.hid h7
              clear h64' hS hsha h7
              go_wp2_with (first
                | (refine wpl_alloc rfl 34 (.agg (bcells (List.replicate 32 0)).toArray) (bcells (List.replicate 32 0)).toArray rfl zeroID rfl H7.out ?_; intro p6 w8 hp6 h8; clear hp6; have H8 := Lib.hid h8; clear h8))
              go_loopw [49] (SumD st (sep (wblk q 84 S5.list) (sep (row 5 1 (.slice A2 E.length c2) E.length (bcells E)) (sep (hash p m) (sep (blk p0 (.cells (bcells (List.replicate 32 0)).toArray 34 (0, 0))) R)))) p6 S5) (fun v _ => 32 - (intOf v).toNat)
              case atStart => exact ⟨0, Nat.zero_le _, rfl, H8.out⟩
              case round =>
                obtain ⟨i, hi, rfl, h8⟩ := hrel
                clear H8 H7
                by_cases hlt : i < 32
                · obtain ⟨d, hd⟩ : ∃ d, d = i / 4 := ⟨_, rfl⟩
                  obtain ⟨r, hr⟩ : ∃ r, r = i % 4 := ⟨_, rfl⟩
                  obtain ⟨e8, he⟩ : ∃ e, e = 8 * r := ⟨_, rfl⟩
                  obtain ⟨f, hf⟩ : ∃ f, f = 24 - e8 := ⟨_, rfl⟩
                  have b1 := bin_quo i 4 (by decide) (by omega)
                  have b2 := bin_rem i 4 (by decide)
                  have b3 := bin_mul 8 r (by omega)
                  have b4 := bin_sub 24 e8 (by omega) (by decide)
                  rw [← hd] at b1
                  rw [← hr] at b2
                  rw [← he] at b3
                  rw [← hf] at b4
                  obtain ⟨X, hX⟩ : ∃ X, X = S5.list.getD d 0 := ⟨_, rfl⟩
                  obtain ⟨Z, hZ⟩ : ∃ Z, Z = X.toNat / 2 ^ f := ⟨_, rfl⟩
                  have b5 := sh_r .u32 X.toNat f (by show f ≤ 32; omega)
                  rw [← hZ] at b5
                  have hd8 : d < 8 := by omega
                  have gX : wr.cell? ⟨q, 0 + d, none⟩ = some (.int .u32 (X.toNat : Int)) := (h8.second.cell (0 + d)).trans (by rw [Nat.zero_add, hX]; exact wcells_getD hd8)
                  have hnx : Sha.bytes S5 = (Sha.bytes S5) := rfl
                  have e0 : ((Sha.bytes S5).take i ++ List.replicate (32 - i) 0).set i (UInt8.ofNat Z) = (Sha.bytes S5).take (i + 1) ++ List.replicate (32 - (i + 1)) 0 := by
                    rw [hZ, hX, hf, he, hr, hd]; exact bytes_set S5 i hlt
                  have hsz : 0 + i < (bcells ((Sha.bytes S5).take i ++ List.replicate (32 - i) 0)).toArray.size := by simp [bcells_length, bytes_length]; omega
                  have HB1 := Lib.hid b1
                  have HB2 := Lib.hid b2
                  have HB3 := Lib.hid b3
                  have HB4 := Lib.hid b4
                  have HB5 := Lib.hid b5
                  have HGX := Lib.hid gX
                  have HE0 := Lib.hid e0
                  have HSZ := Lib.hid hsz
                  have H8 := Lib.hid h8
                  clear hd hr he hf b1 b2 b3 b4 b5 hX hZ gX hnx e0 hsz h8
                  go_wp2_with (((with_reducible refine wpList_plain rfl ?_); intro _ hk; (first
                    | (refine opw_bin .quo _ _ _ _ .i64 (i : Int) 4 (d : Int) rfl rfl rfl HB1.out (hk _ _ ?_))
                    | (refine opw_bin .rem _ _ _ _ .i64 (i : Int) 4 (r : Int) rfl rfl rfl HB2.out (hk _ _ ?_))
                    | (refine opw_bin .mul _ _ _ _ .i64 8 (r : Int) (e8 : Int) rfl rfl rfl HB3.out (hk _ _ ?_))
                    | (refine opw_bin .sub _ _ _ _ .i64 24 (e8 : Int) (f : Int) rfl rfl rfl HB4.out (hk _ _ ?_))
                    | (refine opw_shift .shr _ _ _ _ .u32 .i64 (X.toNat : Int) (f : Int) (Z : Int) rfl rfl rfl HB5.out (hk _ _ ?_))
                    | (refine opw_conv _ _ _ .u32 .u8 (Z : Int) ((UInt8.ofNat Z).toNat : Int) rfl Tryd.underlying70 Tryd.underlying5 rfl (wrap_u8 _) (hk _ _ ?_))
                    | (refine opw_indexArr 84 _ 8 _ _ rfl Tryd.underlying84 info1 q 0 d rfl .i64 rfl hd8 (hk _ _ ?_))
                    | (refine opw_load1 _ _ rfl _ Tryd.underlying70 rfl ⟨q, 0 + d, none⟩ (.int .u32 (X.toNat : Int)) rfl HGX.out (hk _ _ ?_))
                    | (refine opw_indexArr 34 _ 32 _ _ rfl Tryd.underlying34 infosz p6 0 i rfl .i64 rfl hlt (hk _ _ ?_))
                    | (refine opw_store1 5 _ _ rfl infosz p6 (0 + i) (.int .u8 ((UInt8.ofNat Z).toNat : Int)) rfl rfl rfl H8.out HSZ.out (fun w9 h9 => hk _ _ ?_))); simp only [Act.put, List.setIfInBounds_toArray, List.set_cons_zero, List.set_cons_succ]))
                  go_wp2
                  go_roundw
                  case rel => exact ⟨i + 1, by omega, by go_num, h9.cast (by rw [Nat.zero_add, List.setIfInBounds_toArray, show (bcells ((Sha.bytes S5).take i ++ List.replicate (32 - i) 0)).set i (.int .u8 ((UInt8.ofNat Z).toNat : Int)) = bcells ((Sha.bytes S5).take (i + 1) ++ List.replicate (32 - (i + 1)) 0) by rw [← HE0.out]; simp [bcells, bcell, List.map_set]])⟩
                  case measure => simp [intOf]; omega
                · obtain rfl : i = 32 := by omega
                  rw [show (Sha.bytes S5).take 32 ++ List.replicate (32 - 32) 0 = Sha.bytes S5 by simp [List.take_of_length_le, bytes_length]] at h8
                  have hz : (bcells (Sha.bytes S5)).toArray.size = 32 := by simp [bcells_length, bytes_length]
                  have hi32 : (Tryd.prog.info? 34).map (·.size) = some (bcells (Sha.bytes S5)).toArray.size := by rw [hz]; exact infoID
                  have hz2 : (bcells (List.replicate 32 (0 : UInt8))).toArray.size = (bcells (Sha.bytes S5)).toArray.size := by rw [hz]; rfl
                  have HI := Lib.hid hi32
                  have HZ2 := Lib.hid hz2
                  obtain ⟨BS, hBS⟩ : ∃ BS, BS = Sha.bytes S5 := ⟨_, rfl⟩
                  rw [← hBS] at h8 HI HZ2
                  have hfin : Has st (sep (blk p0 (.cells (bcells (List.replicate 32 0)).toArray 34 (0, 0))) (sep (blk p6 (.cells (bcells BS).toArray 34 (0, 0))) (sep (wblk q 84 S5.list) (sep (row 5 1 (.slice A2 E.length c2) E.length (bcells E)) (sep (hash p m) R))))) wr := h8.cast (by simp only [wblk]; ac_rfl)
                  have H8 := Lib.hid h8
                  have HF := Lib.hid hfin
                  have HBS := Lib.hid hBS
                  clear h8 hz hi32 hz2 hBS hfin
                  go_wp2_with (((with_reducible refine wpList_plain rfl ?_); intro _ hk; (first
                    | (refine opw_loadRow 34 _ rfl p6 rfl 34 (bcells BS).toArray _ _ Tryd.underlying34 rfl HI.out H8.out (hk _ _ ?_))
                    | (refine opw_storeRow 34 _ _ rfl p0 (bcells BS).toArray rfl rfl 34 (bcells (List.replicate 32 0)).toArray HI.out HZ2.out (bcells_all _) HF.out (fun w9 h9 => hk _ _ ?_))); simp only [Act.put, List.setIfInBounds_toArray, List.set_cons_zero, List.set_cons_succ]))
                  refine bodyPost_ret (results_cell_row Tryd.results37 _ _ _ 34 _ _ _ rfl h9.blk Tryd.underlying34 rfl HI.out) rfl ?_
                  exact ⟨by rw [HBS.out, HSha.out], h9.right.right.right.right⟩

end Go.Proofs.YtblknhpafifebaaDoor

/-
  Kept blobs: cells, rows, pieces. No program in sight.
-/
namespace Go.Sl
open Go Go.RowKit
set_option linter.unusedVariables false
set_option linter.unusedSimpArgs false

/-- a kept blob: its sum, where its bytes lie, its bytes -/
structure Kp where
  id : List UInt8
  v : Value
  b : List UInt8
def kc (k : Kp) : List Value := bcells k.id ++ [k.v]
def kcs (K : List Kp) : List Value := K.flatMap kc
def blob (T : TypeId) (k : Kp) : HProp := row T 1 k.v k.b.length (bcells k.b)
def blobs (T : TypeId) : List Kp → HProp
  | [] => emp
  | k :: K => sep (blob T k) (blobs T K)
def Kp.ok (k : Kp) : Prop := k.id.length = 32 ∧ ∃ A c, k.v = .slice A k.b.length c
def tot (K : List Kp) : Nat := (K.map (·.b.length)).sum

theorem kc_length {k : Kp} (h : k.ok) : (kc k).length = 33 := by simp [kc, bcells_length, h.1]
theorem kcs_cons (k : Kp) (K : List Kp) : kcs (k :: K) = kc k ++ kcs K := by simp [kcs]
theorem kcs_append (K L : List Kp) : kcs (K ++ L) = kcs K ++ kcs L := by simp [kcs]
theorem kcs_length : ∀ {K : List Kp}, (∀ k ∈ K, k.ok) → (kcs K).length = K.length * 33
  | [], _ => rfl
  | k :: K, h => by
    rw [kcs_cons, List.length_append, kc_length (h k (by simp)), kcs_length fun x hx => h x (by simp [hx]), List.length_cons]; omega
theorem kcs_drop : ∀ {K : List Kp}, (∀ k ∈ K, k.ok) → ∀ i, (kcs K).drop (i * 33) = kcs (K.drop i)
  | [], _, i => by simp [kcs]
  | k :: K, h, 0 => by simp
  | k :: K, h, i + 1 => by
    rw [kcs_cons, List.drop_succ_cons, ← kcs_drop (fun x hx => h x (by simp [hx])) i, show (i + 1) * 33 = 33 + i * 33 by omega, ← List.drop_drop, ← kc_length (h k (by simp)), List.drop_left]
theorem kcs_take : ∀ {K : List Kp}, (∀ k ∈ K, k.ok) → ∀ i, (kcs K).take (i * 33) = kcs (K.take i)
  | [], _, i => by simp [kcs]
  | k :: K, h, 0 => by simp [kcs]
  | k :: K, h, i + 1 => by
    rw [kcs_cons, List.take_succ_cons, kcs_cons, ← kcs_take (fun x hx => h x (by simp [hx])) i, show (i + 1) * 33 = (kc k).length + i * 33 by rw [kc_length (h k (by simp))]; omega, List.take_length_add_append]
theorem kcs_at {K : List Kp} (h : ∀ k ∈ K, k.ok) {i : Nat} (hi : i < K.length) : ((kcs K).drop (i * 33)).take 33 = kc K[i] := by
  rw [kcs_drop h, List.drop_eq_getElem_cons hi, kcs_cons, ← kc_length (h K[i] (List.getElem_mem hi)), List.take_left]
theorem kcs_cell {K : List Kp} (h : ∀ k ∈ K, k.ok) {i : Nat} (hi : i < K.length) {j : Nat} {u : Value} (hj : (kc K[i])[j]? = some u) : (kcs K)[i * 33 + j]? = some u := by
  rw [← kcs_at h hi] at hj
  have := (List.getElem?_eq_some_iff.1 hj).1
  rw [List.getElem?_take_of_lt (by simp at this; omega), List.getElem?_drop] at hj
  exact hj
theorem kcs_erase {K : List Kp} (h : ∀ k ∈ K, k.ok) (i : Nat) : (kcs K).take (i * 33) ++ (kcs K).drop ((i + 1) * 33) = kcs (K.eraseIdx i) := by
  rw [kcs_take h, kcs_drop h, ← kcs_append, List.eraseIdx_eq_take_drop_succ]
theorem bcells_onecell (l : List UInt8) : ∀ u ∈ bcells l, u.oneCell' = true := by
  intro u hu
  simp only [bcells, List.mem_map] at hu
  obtain ⟨x, _, rfl⟩ := hu
  rfl
theorem kc_one {k : Kp} (h : k.ok) : ∀ u ∈ kc k, u.oneCell' = true := by
  intro u hu
  obtain ⟨_, A, c, hv⟩ := h
  rcases List.mem_append.1 hu with hu | hu
  · exact bcells_onecell _ u hu
  · rw [List.mem_singleton] at hu; rw [hu, hv]; rfl
theorem kcs_one {K : List Kp} (h : ∀ k ∈ K, k.ok) : ∀ u ∈ kcs K, u.oneCell' = true := by
  intro u hu
  obtain ⟨k, hk, hu⟩ := List.mem_flatMap.1 hu
  exact kc_one (h k hk) u hu
theorem ok_erase {K : List Kp} (h : ∀ k ∈ K, k.ok) (i : Nat) : ∀ k ∈ K.eraseIdx i, k.ok := fun k hk => h k (List.mem_of_mem_eraseIdx hk)
theorem ok_append {K : List Kp} (h : ∀ k ∈ K, k.ok) {k : Kp} (hk : k.ok) : ∀ x ∈ K ++ [k], x.ok := by
  intro x hx
  rcases List.mem_append.1 hx with hx | hx
  · exact h x hx
  · rw [List.mem_singleton] at hx; rw [hx]; exact hk
theorem blobs_at (T : TypeId) : ∀ (K : List Kp) (i : Nat) (hi : i < K.length), blobs T K = sep (blob T K[i]) (blobs T (K.eraseIdx i))
  | k :: K, 0, _ => rfl
  | k :: K, i + 1, hi => by
    have hi' : i < K.length := by simpa using hi
    show sep (blob T k) (blobs T K) = sep (blob T K[i]) (sep (blob T k) (blobs T (K.eraseIdx i)))
    rw [blobs_at T K i hi', sep_left_comm]
theorem blobs_snoc (T : TypeId) (k : Kp) : ∀ K : List Kp, blobs T (K ++ [k]) = sep (blob T k) (blobs T K)
  | [] => rfl
  | x :: K => by
    show sep (blob T x) (blobs T (K ++ [k])) = sep (blob T k) (sep (blob T x) (blobs T K))
    rw [blobs_snoc T k K, sep_left_comm]
theorem blobs_set (T : TypeId) : ∀ (K : List Kp) (i : Nat) (hi : i < K.length) (k : Kp), blobs T (K.set i k) = sep (blob T k) (blobs T (K.eraseIdx i))
  | x :: K, 0, _, k => rfl
  | x :: K, i + 1, hi, k => by
    show sep (blob T x) (blobs T (K.set i k)) = sep (blob T k) (sep (blob T x) (blobs T (K.eraseIdx i)))
    rw [blobs_set T K i (by simpa using hi) k, sep_left_comm]
theorem tot_erase : ∀ (K : List Kp) (i : Nat) (hi : i < K.length), tot (K.eraseIdx i) + K[i].b.length = tot K
  | k :: K, 0, _ => by simp [tot]; omega
  | k :: K, i + 1, hi => by
    have hi' : i < K.length := by simpa using hi
    have := tot_erase K i hi'
    simp [tot] at this ⊢; omega
theorem tot_snoc (K : List Kp) (k : Kp) : tot (K ++ [k]) = tot K + k.b.length := by simp [tot]
theorem tot_le_at (K : List Kp) (i : Nat) (hi : i < K.length) : K[i].b.length ≤ tot K := by have := tot_erase K i hi; omega
/-- the place of a sum -/
def place (id : List UInt8) (K : List Kp) : Option Nat := K.findIdx? fun k => k.id == id
def placeZ (id : List UInt8) (K : List Kp) : Int := match place id K with | some i => (i : Int) | none => -1
theorem place_lt {id : List UInt8} {K : List Kp} {i : Nat} (h : place id K = some i) : i < K.length := by
  unfold place at h
  exact (List.findIdx?_eq_some_iff_findIdx_eq.1 h).1
theorem place_id {id : List UInt8} {K : List Kp} {i : Nat} (h : place id K = some i) : (K[i]'(place_lt h)).id = id := by
  have := List.findIdx?_eq_some_iff_getElem.1 h
  obtain ⟨h1, h2, _⟩ := this
  exact eq_of_beq h2
end Go.Sl

/-
  cache: find, take, keep.
-/
namespace Go.Proofs.YtblknhpafifebaaDoor
open Go.RowKit Go.Sl Go.Sha
set_option linter.unusedVariables false
set_option linter.unusedSimpArgs false
set_option maxRecDepth 100000

theorem infoK : (Tryd.prog.info? 75).map (·.size) = some 33 := by kernel_rfl
def zeroKc : List Value := bcells (List.replicate 32 0) ++ [.slice none 0 0]
theorem infoK3 : (Tryd.prog.info? 75).map (fun i => (i.zero, i.size, i.bytes)) = some (some (.agg zeroKc.toArray), 33, 56) := by kernel_rfl
theorem rowK : (TypeDesc.struct (Tryd.prog.fieldsOf 75)).isRow = true := rfl

set_option maxHeartbeats 1000000 in
/-- the closure of find -/
theorem same_any (st : World) (R : HProp) (q : Nat) (id : List UInt8) (k : Kp) (w : World) (h : Has st (sep (blk q (.cells (bcells id).toArray 34 (0, 0))) R) w) (hid : id.length = 32) (hk : k.ok) :
    Calls Tryd.prog 39 #[.agg (kc k).toArray, .pointer (some ⟨q, 0, none⟩)] w fun e w' => e = .returned (.bool (k.id == id)) ∧ Has st (sep (blk q (.cells (bcells id).toArray 34 (0, 0))) R) w' := by
  have h32 : (Tryd.prog.info? 34).map (·.size) = some (bcells k.id).length := by rw [bcells_length, hk.1]; exact infoID
  have h32' : (Tryd.prog.info? 34).map (·.size) = some (bcells id).length := by rw [bcells_length, hid]; exact infoID
  have hcs : (((kc k).toArray).toList.drop 0).take (bcells k.id).length = bcells k.id := by simp [kc]
  have hcs' : (((bcells id).toArray).toList.drop 0).take (bcells id).length = bcells id := by simp
  have hkl := hk.1
  have H1 := Lib.hid h32
  have H2 := Lib.hid h32'
  have H3 := Lib.hid hcs
  have H4 := Lib.hid hcs'
  have H5 := Lib.hid hkl
  have H6 := Lib.hid hid
  have HH := Lib.hid h
  obtain ⟨X, hX⟩ : ∃ X, X = k.id := ⟨_, rfl⟩
  obtain ⟨Y, hY⟩ : ∃ Y, Y = kc k := ⟨_, rfl⟩
  rw [← hX] at H1 H3 H5 ⊢
  rw [← hY] at H3 ⊢
  clear h32 h32' hcs hcs' hkl hid h hk hX hY
  go_enter Tryd.func39, Tryd.ntmps39
  go_wp2_with ((with_reducible refine wpList_plain rfl ?_); intro _ hk; (first
    | (refine opw_box 75 (.agg Y.toArray) Y.toArray rfl rfl rfl HH.out (fun p w1 hp h1 => hk _ _ ?_); clear hp; have HX := Lib.hid h1; clear h1)
    | (refine opw_field 75 _ 0 0 rfl (by kernel_rfl) p 0 rfl (hk _ _ ?_))
    | (refine opw_loadMid 34 _ rfl p 0 rfl (bcells X) _ Tryd.underlying34 rfl H1.out HX.out H3.out (hk _ _ ?_))
    | (refine opw_loadMid 34 _ rfl q 0 rfl (bcells id) _ Tryd.underlying34 rfl H2.out HX.out.second H4.out (hk _ _ ?_))
    | (refine opw_eqRow 34 _ 5 32 _ _ X id Tryd.underlying34 Tryd.underlying5 info1 (by kernel_rfl) H5.out H6.out rfl rfl rfl _ rfl (hk _ _ ?_))); simp only [Act.put, List.setIfInBounds_toArray, List.set_cons_zero, List.set_cons_succ])
  go_ret
  exact ⟨rfl, HX.out.right⟩

theorem placeZ_at {id : List UInt8} {K : List Kp} {i : Nat} (hi : i < K.length) (h : (K[i].id == id) = true) (hp : ∀ j (hj : j < i), (K[j].id == id) = false) : placeZ id K = (i : Int) := by
  have : place id K = some i := by
    unfold place
    rw [List.findIdx?_eq_some_iff_getElem]
    exact ⟨hi, h, fun j hj => by simpa using hp j hj⟩
  rw [placeZ, this]
theorem placeZ_none {id : List UInt8} {K : List Kp} (hp : ∀ j (hj : j < K.length), (K[j].id == id) = false) : placeZ id K = -1 := by
  have : place id K = none := by
    unfold place
    rw [List.findIdx?_eq_none_iff]
    intro x hx
    obtain ⟨j, hj, rfl⟩ := List.mem_iff_getElem.1 hx
    exact hp j hj
  rw [placeZ, this]
/-- the loop of IndexFunc -/
def IndexRel (st : World) (R : HProp) (id : List UInt8) (K : List Kp) (v8 : Value) (wr : World) : Prop :=
  ∃ i : Nat, i ≤ K.length ∧ v8 = .int .i64 (i : Int) ∧ Hid (∀ j (hj : j < K.length), j < i → (K[j].id == id) = false) ∧ Has st R wr

set_option maxHeartbeats 1000000 in
theorem index_any (st : World) (R : HProp) (q : Nat) (v : Value) (id : List UInt8) (K : List Kp) (w : World) (h : Has st (sep (blk q (.cells (bcells id).toArray 34 (0, 0))) R) w) (hs : Sees st R 33 v K.length (kcs K)) (hid : id.length = 32) (hok : ∀ k ∈ K, k.ok) (hlen : K.length ≤ 1000000) :
    Calls Tryd.prog 38 #[v, .func (.func 39) #[] #[.pointer (some ⟨q, 0, none⟩)]] w fun e w' => e = .returned (.int .i64 (placeZ id K)) ∧ Has st (sep (blk q (.cells (bcells id).toArray 34 (0, 0))) R) w' := by
  obtain ⟨A, c, rfl⟩ := hs.form h.right
  have HS := Lib.hid hs
  have HI := Lib.hid hid
  have HO := Lib.hid hok
  clear hs hid hok
  go_enter Tryd.func38, Tryd.ntmps38
  go_wp2
  go_loopw [5, 8] (fun _ v8 wr => IndexRel st (sep (blk q (.cells (bcells id).toArray 34 (0, 0))) R) id K v8 wr) (fun _ v8 _ => K.length - (intOf v8).toNat)
  case atStart => exact ⟨0, Nat.zero_le _, rfl, by intro j hj h0; omega, h⟩
  case round =>
    obtain ⟨i, hi, rfl, HA, h⟩ := hrel
    by_cases hlt : i < K.length
    · obtain ⟨g, off, rfl, hcell⟩ := (HS.out _ h.right).at (by omega)
      have hk : K[i].ok := HO.out _ (List.getElem_mem hlt)
      have hkl : (Tryd.prog.info? 75).map (·.size) = some (kc K[i]).length := by rw [kc_length hk]; exact infoK
      have hld : Hid (∀ j u, (kc K[i])[j]? = some u → wr.cell? ⟨g, off + i * 33 + j, none⟩ = some u) := Lib.hid fun j u hj => by
        rw [Nat.add_assoc]; exact hcell _ u (kcs_cell HO.out hlt hj)
      have H1 := Lib.hid hkl
      have HK := Lib.hid hk
      have HH := Lib.hid h
      obtain ⟨Y, hY⟩ : ∃ Y, Y = kc K[i] := ⟨_, rfl⟩
      have HC : Hid (∀ w, Has st (sep (blk q (.cells (bcells id).toArray 34 (0, 0))) R) w → Calls Tryd.prog 39 #[.agg Y.toArray, .pointer (some ⟨q, 0, none⟩)] w fun e w' => e = .returned (.bool (K[i].id == id)) ∧ Has st (sep (blk q (.cells (bcells id).toArray 34 (0, 0))) R) w') :=
        Lib.hid fun w hw => by rw [hY]; exact same_any st R q id K[i] w hw HI.out hk
      rw [← hY] at H1 hld
      obtain ⟨F, hF⟩ : ∃ F, F = (K[i].id == id) := ⟨_, rfl⟩
      rw [← hF] at HC
      clear hkl hcell hk h hY
      have HF := Lib.hid hF
      clear hF
      cases F
      · go_wp2_with (first
          | (go_at_call 39; refine (HC.out _ HH.out).mono ?_; rintro e w1 ⟨rfl, h1⟩; have HX := Lib.hid h1; clear h1)
          | ((with_reducible refine wpList_plain rfl ?_); intro _ hk; (first
            | (refine opw_indexN 62 75 33 _ _ rfl Tryd.underlying62 infoK g off K.length c i rfl .i64 rfl hlt (hk _ _ ?_))
            | (refine wp_load_mid 75 _ rfl g (off + i * 33) rfl Y _ hld.out Tryd.underlying75 rfl H1.out (hk _ _ ?_))); simp only [Act.put, List.setIfInBounds_toArray, List.set_cons_zero, List.set_cons_succ]))
        go_roundw
        case rel =>
          refine ⟨i + 1, by omega, by go_num, ?_, HX.out⟩
          intro j hj hji
          rcases Nat.lt_or_ge j i with h' | h'
          · exact HA.out j hj h'
          · obtain rfl : j = i := by omega
            exact HF.out.symm
        case measure => simp [intOf]; omega
      · go_wp2_with (first
          | (go_at_call 39; refine (HC.out _ HH.out).mono ?_; rintro e w1 ⟨rfl, h1⟩; have HX := Lib.hid h1; clear h1)
          | ((with_reducible refine wpList_plain rfl ?_); intro _ hk; (first
            | (refine opw_indexN 62 75 33 _ _ rfl Tryd.underlying62 infoK g off K.length c i rfl .i64 rfl hlt (hk _ _ ?_))
            | (refine wp_load_mid 75 _ rfl g (off + i * 33) rfl Y _ hld.out Tryd.underlying75 rfl H1.out (hk _ _ ?_))); simp only [Act.put, List.setIfInBounds_toArray, List.set_cons_zero, List.set_cons_succ]))
        go_ret
        exact ⟨by rw [placeZ_at hlt HF.out.symm fun j hj => HA.out j (by omega) hj]; rfl, HX.out⟩
    · go_wp2
      go_ret
      obtain rfl : i = K.length := by omega
      exact ⟨by rw [placeZ_none fun j hj => HA.out j hj hj]; rfl, h⟩
end Go.Proofs.YtblknhpafifebaaDoor

/-
  slices.Delete of kept blobs.
-/
namespace Go.Proofs.YtblknhpafifebaaDoor
open Go.RowKit Go.Sl Go.Sha
set_option linter.unusedVariables false
set_option linter.unusedSimpArgs false
set_option maxRecDepth 100000

theorem zeroVK (w : World) : (zeroValue 75).run Tryd.prog w = .ok (.agg zeroKc.toArray) w := by kernel_rfl
theorem zeroK_one : ∀ v ∈ (Value.agg zeroKc.toArray).cells.toList, v.oneCell' = true := by
  intro v hv
  have hv' : v ∈ zeroKc := by simpa [Value.cells] using hv
  rcases List.mem_append.1 hv' with hv' | hv'
  · exact bcells_onecell _ v hv'
  · rw [List.mem_singleton] at hv'; rw [hv']; rfl
set_option maxHeartbeats 2000000 in
theorem delete_any (st : World) (R : HProp) (g n cap i j M : Nat) (xs : List Value) (w : World) (h : Has st (sep (row 75 33 (.slice (some ⟨g, 0, none⟩) n cap) n xs) R) w) (hij : i < j) (hjn : j ≤ n) (hM : i + (n - j) = M) (h1 : ∀ u ∈ xs, u.oneCell' = true) :
    Calls Tryd.prog 40 #[.slice (some ⟨g, 0, none⟩) n cap, .int .i64 (i : Int), .int .i64 (j : Int)] w fun e w' => e = .returned (.slice (some ⟨g, 0, none⟩) M cap) ∧
      Has st (sep (row 75 33 (.slice (some ⟨g, 0, none⟩) M cap) M (xs.take (i * 33) ++ xs.drop (j * 33))) R) w' := by
  obtain ⟨cur, hnc, hcm, _⟩ := h.row_open
  have hic : i ≤ cap := by omega
  have hjc : j ≤ cap := by omega
  have hil : i ≤ j := by omega
  have hne : ¬ (i = j) := by omega
  have hcm' : cap ≤ 9223372036854775807 := by unfold maxLen at hcm; omega
  have hMn : M ≤ n := by omega
  have hMc : ¬ cap = M := by omega
  have HH := Lib.hid h
  have H1 := Lib.hid h1
  have HM := Lib.hid hM
  obtain ⟨A, hA, hAj⟩ : ∃ A : Addr, (if cap = j then some (⟨g, 0, none⟩ : Addr) else some ⟨g, j * 33, none⟩) = some A ∧ Hid (j < n → A = ⟨g, j * 33, none⟩) := by
    by_cases hc : cap = j
    · exact ⟨⟨g, 0, none⟩, by simp [hc], fun h' => by omega⟩
    · exact ⟨⟨g, j * 33, none⟩, by simp [hc], fun _ => rfl⟩
  have HS : Hid (subA 33 (some ⟨g, 0, none⟩) M cap = some ⟨g, M * 33, none⟩) := Lib.hid (by simp [subA, hMc, addr_add])
  have hkm : M + (n - M) ≤ n := by omega
  clear h h1 hcm hM
  go_enter Tryd.func40, Tryd.ntmps40
  go_wp2_with fail
  go_region_law (refine step_delete rfl (.tmp 22) (.tmp 25) 62 75 33 rfl Tryd.underlying62 infoK M HM.out hil hjn (by simp [Act.eval, Act.put]) (ad := A) (cap - j) (by simp [Act.eval, Act.put, hA]) hAj.out HH.out.drew H1.out ?_; intro w2 ys hyl hyt h2; have HY := Lib.hid hyt; have H2 := Lib.hid h2; clear hyt h2 hyl)
  go_wp2_with ((with_reducible refine wpList_plain rfl ?_); intro _ hk; (first
    | (refine opw_slC 62 75 33 _ _ _ rfl Tryd.underlying62 infoK (A := some ⟨g, 0, none⟩) (n := M) (cap := cap) rfl (by omega) M n (.inr ⟨.i64, rfl⟩) (.inr ⟨.i64, rfl⟩) (by omega) (by omega) (hk _ _ ?_))
    | (refine opw_clear _ 62 75 33 _ rfl Tryd.underlying62 zeroVK rfl zeroK_one (g := g) (n := n) (cap := cap) (k := M) (m := n - M) (A := subA 33 (some ⟨g, 0, none⟩) M cap) (cap - M) rfl (fun _ => HS.out) hkm H2.out (fun w3 zs _ hzt h3 => hk _ _ ?_); have H3 := Lib.hid h3; have HZ := Lib.hid hzt; clear h3 hzt)); simp only [Act.put, List.setIfInBounds_toArray, List.set_cons_zero, List.set_cons_succ])
  go_ret
  refine ⟨rfl, ?_⟩
  have h4 := H3.out.row_cut M hMn
  rw [HZ.out, HY.out] at h4
  exact h4
end Go.Proofs.YtblknhpafifebaaDoor

/-
  cache: the piece; find, take, keep.
-/
namespace Go.Proofs.YtblknhpafifebaaDoor
open Go.RowKit Go.Sl Go.Sha
set_option linter.unusedVariables false
set_option linter.unusedSimpArgs false
set_option maxRecDepth 100000

/-- the cells of a Cache -/
def ccells (v : Value) (lim : Int) (n : Nat) : Array Value := #[v, .int .i64 lim, .int .i64 (n : Int)]
/-- a Cache in memory that holds K, its own -/
def cacheP (p : Nat) (K : List Kp) (lim : Int) : HProp := ex fun v => sep (blk p (.cells (ccells v lim (tot K)) 64 (0, 0))) (sep (row 75 33 v K.length (kcs K)) (blobs 5 K))
theorem openCache {st : World} {R : HProp} {w : World} {p : Nat} {K : List Kp} {lim : Int} (h : Has st (sep (cacheP p K lim) R) w) :
    ∃ A c, Has st (sep (blk p (.cells (ccells (.slice A K.length c) lim (tot K)) 64 (0, 0))) (sep (row 75 33 (.slice A K.length c) K.length (kcs K)) (sep (blobs 5 K) R))) w := by
  obtain ⟨v, h1⟩ := h.exL
  have h2 := h1.flat3
  obtain ⟨A, c, rfl⟩ := h2.second.row_slice
  exact ⟨A, c, h2⟩
theorem toCache {st : World} {R : HProp} {w : World} {p : Nat} {K : List Kp} {lim : Int} (v : Value) (h : Has st (sep (blk p (.cells (ccells v lim (tot K)) 64 (0, 0))) (sep (row 75 33 v K.length (kcs K)) (sep (blobs 5 K) R))) w) :
    Has st (sep (cacheP p K lim) R) w := Has.ofEx v (h.cast (by ac_rfl))

set_option maxHeartbeats 1000000 in
theorem find_any (st : World) (R : HProp) (p : Nat) (K : List Kp) (lim : Int) (id : List UInt8) (w : World) (h : Has st (sep (cacheP p K lim) R) w) (hid : id.length = 32) (hok : ∀ k ∈ K, k.ok) (hlen : K.length ≤ 1000000) :
    Calls Tryd.prog 31 #[.pointer (some ⟨p, 0, none⟩), .agg (bcells id).toArray] w fun e w' => e = .returned (.int .i64 (placeZ id K)) ∧ Has st (sep (cacheP p K lim) R) w' := by
  obtain ⟨A, c, h1⟩ := openCache h
  have HH := Lib.hid h1
  have HC : Hid (∀ q w, Has st (sep (blk q (.cells (bcells id).toArray 34 (0, 0))) (sep (blk p (.cells (ccells (.slice A K.length c) lim (tot K)) 64 (0, 0))) (sep (row 75 33 (.slice A K.length c) K.length (kcs K)) (sep (blobs 5 K) R)))) w →
      Calls Tryd.prog 38 #[.slice A K.length c, .func (.func 39) #[] #[.pointer (some ⟨q, 0, none⟩)]] w fun e w' => e = .returned (.int .i64 (placeZ id K)) ∧ Has st (sep (cacheP p K lim) R) w') :=
    Lib.hid fun q w hw => (index_any st _ q (.slice A K.length c) id K w hw (sees_row st _ 33 _ _ _ _).right hid hok hlen).mono fun e w' h' => ⟨h'.1, toCache _ h'.2.right⟩
  clear h h1 hid hok hlen
  obtain ⟨N, hN⟩ : ∃ N, N = K.length := ⟨_, rfl⟩
  go_enter Tryd.func31, Tryd.ntmps31
  go_wp2_with (first
    | (go_at_call 38; refine (HC.out q _ HX.out).mono ?_; rintro e w1 ⟨rfl, h1⟩; have HE := Lib.hid h1; clear h1)
    | ((with_reducible refine wpList_plain rfl ?_); intro _ hk; (first
      | (refine opw_box 34 (.agg (bcells id).toArray) (bcells id).toArray rfl rfl rfl HH.out (fun q w1 hp h1 => hk _ _ ?_); clear hp; have HX := Lib.hid h1; clear h1)
      | (refine opw_field 64 _ 0 0 rfl (by kernel_rfl) p 0 rfl (hk _ _ ?_))
      | (refine opw_load1 62 _ rfl _ Tryd.underlying62 rfl ⟨p, 0, none⟩ (.slice A K.length c) rfl (HX.out.second.cell 0) (hk _ _ ?_))); simp only [Act.put, List.setIfInBounds_toArray, List.set_cons_zero, List.set_cons_succ]))
  go_ret
  exact ⟨rfl, HE.out⟩

theorem infoKz : (Tryd.prog.info? 75).map (·.zero) = some (some (.agg zeroKc.toArray)) := by kernel_rfl
theorem zeroKc_size : zeroKc.toArray.size = 33 := rfl
theorem all_one {l : List Value} (h : ∀ u ∈ l, u.oneCell' = true) : l.toArray.all (·.oneCell') = true := by
  simpa using h
theorem kc_cell {k : Kp} (h : k.ok) : (kc k)[32]? = some k.v := by
  rw [kc, List.getElem?_append_right (by rw [bcells_length, h.1]; exact Nat.le_refl _), bcells_length, h.1]; rfl

set_option maxHeartbeats 2000000 in
theorem take_any (st : World) (R : HProp) (p : Nat) (K : List Kp) (lim : Int) (i : Nat) (hi : i < K.length) (w : World) (h : Has st (sep (cacheP p K lim) R) w) (hok : ∀ k ∈ K, k.ok) (hlen : K.length ≤ 1000000) (htot : tot K ≤ 1000000000) :
    Calls Tryd.prog 32 #[.pointer (some ⟨p, 0, none⟩), .int .i64 (i : Int)] w fun e w' => e = .returned (.agg (kc K[i]).toArray) ∧ Has st (sep (cacheP p (K.eraseIdx i) lim) (sep (blob 5 K[i]) R)) w' := by
  obtain ⟨A, c, h1⟩ := openCache h
  obtain ⟨g, rfl⟩ := h1.second.row_at33 hi
  have hk := hok _ (List.getElem_mem hi)
  obtain ⟨B, d, hv⟩ := hk.2
  obtain ⟨M, hM⟩ : ∃ M, M = K.length - 1 := ⟨_, rfl⟩
  have hlen' : (K.eraseIdx i).length = M := by rw [List.length_eraseIdx_of_lt hi, hM]
  have HH := Lib.hid h1
  obtain ⟨Y, hY⟩ : ∃ Y, Y = kc K[i] := ⟨_, rfl⟩
  have hYl : Y.length = 33 := by rw [hY, kc_length hk]
  have hY1 : ∀ u ∈ Y, u.oneCell' = true := by rw [hY]; exact kc_one hk
  have hcellY : ∀ j u, Y[j]? = some u → (kcs K)[i * 33 + j]? = some u := by rw [hY]; exact fun j u => kcs_cell hok hi
  have hY32 : Y[32]? = some (.slice B K[i].b.length d) := by rw [hY, kc_cell hk, hv]
  obtain ⟨L, hL⟩ : ∃ L, L = K[i].b.length := ⟨_, rfl⟩
  rw [← hL] at hY32
  obtain ⟨T, hT⟩ : ∃ T, T = tot K := ⟨_, rfl⟩
  have hTL : T = tot (K.eraseIdx i) + L := by rw [hT, hL]; exact (tot_erase K i hi).symm
  have hLT : L ≤ T := by omega
  have hTb : T ≤ 9223372036854775807 := by omega
  have hsz : (Tryd.prog.info? 75).map (·.size) = some Y.length := by rw [hYl]; exact infoK
  have hsz2 : (Tryd.prog.info? 75).map (·.size) = some Y.toArray.size := by simp only [List.size_toArray]; exact hsz
  have hold : zeroKc.toArray.size = Y.toArray.size := by rw [zeroKc_size]; simp only [List.size_toArray]; exact hYl.symm
  have HSZ := Lib.hid hsz
  have HSZ2 := Lib.hid hsz2
  have HOLD := Lib.hid hold
  have HY1 := Lib.hid hY1
  have HYC := Lib.hid hcellY
  have HY32 := Lib.hid hY32
  have HKO := Lib.hid hok
  obtain ⟨XS, hXS⟩ : ∃ XS, XS = kcs K := ⟨_, rfl⟩
  obtain ⟨BL, hBL⟩ : ∃ BL, BL = blobs 5 K := ⟨_, rfl⟩
  obtain ⟨N, hN⟩ : ∃ N, N = K.length := ⟨_, rfl⟩
  rw [← hXS, ← hBL, ← hN, ← hT] at HH
  rw [← hXS] at HYC
  have hiN : i < N := by omega
  have HWR : Hid (((i + 1 : Nat) : Int) = (i : Int) + 1) := Lib.hid (by omega)
  have HMN : Hid (i + (N - (i + 1)) = M) := Lib.hid (by omega)
  have HX1 : Hid (∀ u ∈ XS, u.oneCell' = true) := Lib.hid (by rw [hXS]; exact kcs_one hok)
  have HEND : Hid (∀ w (v : Value), Has st (sep (blk p (.cells (ccells v lim (T - L)) 64 (0, 0))) (sep (row 75 33 v M (XS.take (i * 33) ++ XS.drop ((i + 1) * 33))) (sep BL R))) w → Has st (sep (cacheP p (K.eraseIdx i) lim) (sep (blob 5 K[i]) R)) w) :=
    Lib.hid fun w v hw => toCache v (by
      rw [hXS, kcs_erase hok, hBL, blobs_at _ K i hi, ← hlen', show T - L = tot (K.eraseIdx i) by omega] at hw
      exact hw.cast (by ac_rfl))
  obtain ⟨Z, hZ⟩ : ∃ Z, Z = zeroKc.toArray := ⟨_, rfl⟩
  have HZI : Hid ((Tryd.prog.info? 75).map (·.zero) = some (some (.agg Z))) := Lib.hid (by rw [hZ]; exact infoKz)
  rw [← hZ] at HOLD
  rw [← hY]
  clear h h1 hok htot hk hv hM hlen' hY hYl hY1 hcellY hY32 hL hT hTL hsz hsz2 hold hXS hBL hN hZ
  go_enter Tryd.func32, Tryd.ntmps32
  go_wp2_with (first
    | (go_at_call 40; have hq := delete_any st _ g N c i (i + 1) M XS _ H2.out.fourth (by omega) (by omega) HMN.out HX1.out; rw [HWR.out] at hq; (with_reducible refine hq.mono ?_); clear hq; rintro e w3 ⟨rfl, h3⟩; have H3 := Lib.hid h3; clear h3)
    | ((with_reducible refine wpList_plain rfl ?_); intro _ hk; (first
      | (refine opw_alloc 75 (.agg Z) Z rfl HZI.out rfl HH.out (fun r w0 hp h0 => hk _ _ ?_); clear hp; have H0 := Lib.hid h0; clear h0 HH)
      | (refine opw_alloc 75 (.agg Z) Z rfl HZI.out rfl H0.out (fun q w1 hp h1 => hk _ _ ?_); clear hp; have H1 := Lib.hid h1; clear h1)
      | (refine opw_field 64 _ 0 0 rfl (by kernel_rfl) p 0 rfl (hk _ _ ?_))
      | (refine opw_load1 62 _ rfl _ Tryd.underlying62 rfl ⟨p, 0, none⟩ (.slice (some ⟨g, 0, none⟩) N c) rfl (H2.out.third.cell 0) (hk _ _ ?_))
      | (refine opw_load1 62 _ rfl _ Tryd.underlying62 rfl ⟨p, 0, none⟩ (.slice (some ⟨g, 0, none⟩) N c) rfl (H0.out.second.cell 0) (hk _ _ ?_))
      | (refine opw_indexN 62 75 33 _ _ rfl Tryd.underlying62 infoK g 0 N c i rfl .i64 rfl hiN (hk _ _ ?_))
      | (refine wp_load_mid 75 _ rfl g (0 + i * 33) rfl Y _ (fun j u hu => by rw [Nat.zero_add]; exact H0.out.third.row_cell (HYC.out j u hu)) Tryd.underlying75 rfl HSZ.out (hk _ _ ?_))
      | (refine opw_storeRow 75 _ _ rfl q Y.toArray rfl rfl 75 Z HSZ2.out HOLD.out (all_one HY1.out) H1.out (fun w2 h2 => hk _ _ ?_); have H2 := Lib.hid h2; clear h2)
      | (refine opw_bin .add _ _ _ _ .i64 (i : Int) 1 ((i + 1 : Nat) : Int) rfl rfl rfl (bin_add i 1 (by omega)) (hk _ _ ?_))
      | (refine opw_store1 62 _ _ rfl (by kernel_rfl) p 0 (.slice (some ⟨g, 0, none⟩) M c) rfl rfl rfl H3.out.fourth (by simp [ccells]) (fun w4 h4 => hk _ _ ?_); have H4 := Lib.hid h4; clear h4)); simp only [Act.put, List.setIfInBounds_toArray, List.set_cons_zero, List.set_cons_succ]))
  have h4 := H4.out
  have hsc : (ccells (.slice (some ⟨g, 0, none⟩) N c) lim T).setIfInBounds 0 (.slice (some ⟨g, 0, none⟩) M c) = ccells (.slice (some ⟨g, 0, none⟩) M c) lim T := rfl
  rw [hsc] at h4
  have c2 : w4.cell? ⟨p, 2, none⟩ = some (.int .i64 (T : Int)) := h4.cell 2
  have c32 : w4.cell? ⟨q, 32, none⟩ = some (.slice B L d) := (h4.third.cell 32).trans (by simpa using HY32.out)
  have f2 : w4.frozen? ⟨p, 2, none⟩ = false := h4.free 2
  have H5 := Lib.hid h4
  clear H0 H1 H2 H3 H4 h4 hsc
  go_region
  have h6 := (H5.out.set 2 (.int .i64 ((T : Int) - (L : Int)))).drew
  generalize (w4.setCell ⟨p, 2, none⟩ (.int .i64 ((T : Int) - (L : Int)))).drew = w5 at h6 ⊢
  have hsc : (ccells (.slice (some ⟨g, 0, none⟩) M c) lim T).setIfInBounds 2 (.int .i64 ((T : Int) - (L : Int))) = ccells (.slice (some ⟨g, 0, none⟩) M c) lim (T - L) := by
    rw [← Int.ofNat_sub hLT]; rfl
  rw [hsc] at h6
  have hcs : (Y.toArray.toList.drop 0).take Y.length = Y := by simp
  have HCS := Lib.hid hcs
  have H6 := Lib.hid h6
  clear h6 hsc H5 c2 c32 f2 hcs
  go_wp2_with ((with_reducible refine wpList_plain rfl ?_); intro _ hk; (first
    | (refine opw_loadMid 75 _ rfl q 0 rfl Y _ Tryd.underlying75 rfl HSZ.out H6.out.third HCS.out (hk _ _ ?_))
    | (refine opw_storeRow 75 _ _ rfl r Y.toArray rfl rfl 75 Z HSZ2.out HOLD.out (all_one HY1.out) H6.out.fourth (fun w9 h9 => hk _ _ ?_))); simp only [Act.put, List.setIfInBounds_toArray, List.set_cons_zero, List.set_cons_succ])
  refine bodyPost_ret (results_cell_row Tryd.results32 _ _ _ 75 _ _ _ rfl h9.blk Tryd.underlying75 rfl HSZ2.out) rfl ?_
  exact ⟨rfl, HEND.out _ _ (h9.right.cast (show _ = sep (blk q (.cells Y.toArray 75 (0, 0))) (sep (blk p (.cells (ccells (.slice (some ⟨g, 0, none⟩) M c) lim (T - L)) 64 (0, 0))) (sep (row 75 33 (.slice (some ⟨g, 0, none⟩) M c) M (XS.take (i * 33) ++ XS.drop ((i + 1) * 33))) (sep BL R))) by ac_rfl)).right⟩
end Go.Proofs.YtblknhpafifebaaDoor

/-
  cache: keep, Len, Size, Wipe, New.
-/
namespace Go.Proofs.YtblknhpafifebaaDoor
open Go.RowKit Go.Sl Go.Sha
set_option linter.unusedVariables false
set_option linter.unusedSimpArgs false
set_option maxRecDepth 100000

theorem infoK2 : (Tryd.prog.info? 75).map (fun i => (i.zero, i.size)) = some (some (.agg zeroKc.toArray), 33) := by kernel_rfl
theorem infoSl : (Tryd.prog.info? 62).map (·.size) = some 1 := by kernel_rfl
theorem zeroK_size : (Value.agg zeroKc.toArray).cells.size = 33 := rfl
set_option maxHeartbeats 2000000 in
theorem keep_any (st : World) (R : HProp) (p : Nat) (K : List Kp) (lim : Int) (k : Kp) (w : World) (h : Has st (sep (cacheP p K lim) (sep (blob 5 k) R)) w) (hok : ∀ k ∈ K, k.ok) (hk : k.ok) (hlen : K.length ≤ 1000000) (htot : tot K ≤ 1000000000) (hkl : k.b.length ≤ 1000000000) :
    Calls Tryd.prog 33 #[.pointer (some ⟨p, 0, none⟩), .agg (kc k).toArray] w fun e w' => e = .returned (.tuple #[]) ∧ Has st (sep (cacheP p (K ++ [k]) lim) R) w' := by
  obtain ⟨A, c, h1⟩ := openCache h
  obtain ⟨B, d, hv⟩ := hk.2
  have HH := Lib.hid h1
  obtain ⟨Y, hY⟩ : ∃ Y, Y = kc k := ⟨_, rfl⟩
  have hYl : Y.length = 33 := by rw [hY, kc_length hk]
  have hY1 : ∀ u ∈ Y, u.oneCell' = true := by rw [hY]; exact kc_one hk
  have hY32 : Y[32]? = some (.slice B k.b.length d) := by rw [hY, kc_cell hk, hv]
  have hsz : (Tryd.prog.info? 75).map (·.size) = some Y.length := by rw [hYl]; exact infoK
  have htk : (Y.toArray.toList.drop 0).take Y.length = Y := by simp
  obtain ⟨T, hT⟩ : ∃ T, T = tot K := ⟨_, rfl⟩
  obtain ⟨N, hN⟩ : ∃ N, N = K.length := ⟨_, rfl⟩
  obtain ⟨Q, hQ⟩ : ∃ Q, Q = k.b.length := ⟨_, rfl⟩
  obtain ⟨XS, hXS⟩ : ∃ XS, XS = kcs K := ⟨_, rfl⟩
  obtain ⟨BB, hBB⟩ : ∃ BB, BB = sep (blobs 5 K) (sep (blob 5 k) R) := ⟨_, rfl⟩
  have HEND : Hid (∀ w (v : Value), Has st (sep (blk p (.cells (ccells v lim (T + Q)) 64 (0, 0))) (sep (row 75 33 v (N + 1) (XS ++ Y)) BB)) w → Has st (sep (cacheP p (K ++ [k]) lim) R) w) :=
    Lib.hid fun w v hw => toCache v (by
      rw [tot_snoc, ← hT, ← hQ, List.length_append, List.length_singleton, ← hN, kcs_append, blobs_snoc, ← hXS, show kcs [k] = Y by rw [hY]; simp [kcs]]
      rw [hBB] at hw
      exact hw.cast (by ac_rfl))
  rw [← hY]
  rw [← hN] at hlen
  rw [← hT] at htot
  rw [← hQ] at hkl hY32
  rw [← hT, ← hN, ← hXS, ← hBB] at HH
  have HY1 := Lib.hid hY1
  have HYL := Lib.hid hYl
  have HSZ := Lib.hid hsz
  have HTK := Lib.hid htk
  have HY32 := Lib.hid hY32
  clear h h1 hok hk hv hY hYl hY1 hY32 hsz htk hT hN hQ hXS hBB
  go_enter Tryd.func33, Tryd.ntmps33
  go_wp2_with ((with_reducible refine wpList_plain rfl ?_); intro _ hk; (first
      | (refine opw_box 75 (.agg Y.toArray) Y.toArray rfl rfl rfl HH.out (fun q w1 hp h1 => hk _ _ ?_); clear hp; have HX := Lib.hid h1; clear h1)); simp only [Act.put, List.setIfInBounds_toArray, List.set_cons_zero, List.set_cons_succ])
  refine wp_region_inv3 (fun L u w' => Slots (fun kk => ([some (.pointer (some ⟨p, 0, none⟩)), some (.pointer (some ⟨p, 0, none⟩)), some (.pointer (some ⟨p, 0, none⟩)), some (.pointer (some ⟨p, 0, none⟩)), some (.slice A N c), some (.agg Y.toArray), none, none, some (.pointer (some ⟨p, 0, none⟩)), some (.pointer (some ⟨p, 0, none⟩)), none] : List (Option Value)).getD kk none) L u ∧ Has st (sep (stg (L 6) (row 75 33 (u 6) 1 Y) emp) (sep (stg (L 7) (row 75 33 (u 7) (N + 1) (XS ++ Y)) (row 75 33 (.slice A N c) N XS)) (sep (stg (L 10) (blk p (.cells (ccells (u 7) lim T) 64 (0, 0))) (blk p (.cells (ccells (.slice A N c) lim T) 64 (0, 0)))) (sep (blk q (.cells Y.toArray 75 (0, 0))) BB)))) w') (by kernel_rfl) (by decide +kernel) (by decide +kernel) (by kernel_rfl) (by kernel_rfl) (fun u => ⟨Slots.start _ u, (show Has st (sep (stg false (row 75 33 (u 6) 1 Y) emp) (sep (stg false (row 75 33 (u 7) (N + 1) (XS ++ Y)) (row 75 33 (.slice A N c) N XS)) (sep (stg false (blk p (.cells (ccells (u 7) lim T) 64 (0, 0))) (blk p (.cells (ccells (.slice A N c) lim T) 64 (0, 0)))) (sep (blk q (.cells Y.toArray 75 (0, 0))) BB)))) _ from HX.out.drew.cast (by simp only [stg_no, emp_sep]; ac_rfl))⟩) ?_ ?_
  · refine ⟨?_, ?_, ?_, ?_, ?_, ?_, ?_, ?_, ?_, ?_, ?_, trivial⟩
    · refine RegStep3.plain rfl ?_; rintro L u w1 bA hL hW hD hU ⟨hS, hH⟩ hin hout; exact opw_move _ _ (.inl rfl) ((hout 0 (by kernel_rfl)).trans (by kernel_rfl)) ⟨_, rfl, hS.step 0 _ (.inr rfl), hH⟩
    · refine RegStep3.plain rfl ?_; rintro L u w1 bA hL hW hD hU ⟨hS, hH⟩ hin hout; exact opw_move _ _ (.inl rfl) ((hout 0 (by kernel_rfl)).trans (by kernel_rfl)) ⟨_, rfl, hS.step 1 _ (.inr rfl), hH⟩
    · refine RegStep3.plain rfl ?_; rintro L u w1 bA hL hW hD hU ⟨hS, hH⟩ hin hout; exact opw_nilCheck _ _ rfl ((hin 1 5 rfl).trans (hS 1 _ rfl (hW.of 1 (by decide)))) ⟨_, rfl, hS.step 2 _ (.inr rfl), hH⟩
    · refine RegStep3.plain rfl ?_; rintro L u w1 bA hL hW hD hU ⟨hS, hH⟩ hin hout; exact opw_field _ _ _ 0 rfl (by kernel_rfl) (p) (0) ((hin 2 6 rfl).trans (hS 2 _ rfl (hW.of 2 (by decide)))) ⟨_, rfl, hS.step 3 _ (.inr rfl), hH⟩
    · refine RegStep3.plain rfl ?_; rintro L u w1 bA hL hW hD hU ⟨hS, hH⟩ hin hout; exact opw_load1 _ _ rfl _ Tryd.underlying62 rfl _ _ ((hin 3 7 rfl).trans (hS 3 _ rfl (hW.of 3 (by decide)))) ((((hH.cast (show _ = sep (stg (L 10) (blk p (.cells (ccells (u 7) lim T) 64 (0, 0))) (blk p (.cells (ccells (.slice A N c) lim T) 64 (0, 0)))) (sep (stg (L 6) (row 75 33 (u 6) 1 Y) emp) (sep (stg (L 7) (row 75 33 (u 7) (N + 1) (XS ++ Y)) (row 75 33 (.slice A N c) N XS)) (sep (blk q (.cells Y.toArray 75 (0, 0))) BB))) by ac_rfl)).stg_no (hD.nots 11 10 4 hL (by decide +kernel)))).cell 0) ⟨_, rfl, hS.step 4 _ (.inr rfl), hH⟩
    · refine RegStep3.plain rfl ?_; rintro L u w1 bA hL hW hD hU ⟨hS, hH⟩ hin hout; exact opw_loadMid _ _ rfl q (0) ((hout 3 (by kernel_rfl)).trans (by kernel_rfl)) Y _ Tryd.underlying75 rfl HSZ.out ((hH.right.right.right)) HTK.out ⟨_, rfl, hS.step 5 _ (.inr rfl), hH⟩
    · refine RegStep3.plain rfl ?_; rintro L u w1 bA hL hW hD hU ⟨hS, hH⟩ hin hout; exact opw_row1 _ 75 33 (.agg zeroKc.toArray) _ (.agg Y.toArray) Y rfl Tryd.underlying62 infoK2 zeroK_size (by decide) (by decide) ((hin 5 9 rfl).trans (hS 5 _ rfl (hW.of 5 (by decide)))) rfl HYL.out (hH.stg_no hL).noEmp (fun v4 w4 h4 => ⟨_, rfl, hS.step 6 _ (.inl rfl), (show Has st (sep (stg true (row 75 33 v4 1 Y) emp) (sep (stg (L 7) (row 75 33 (u 7) (N + 1) (XS ++ Y)) (row 75 33 (.slice A N c) N XS)) (sep (stg (L 10) (blk p (.cells (ccells (u 7) lim T) 64 (0, 0))) (blk p (.cells (ccells (.slice A N c) lim T) 64 (0, 0)))) (sep (blk q (.cells Y.toArray 75 (0, 0))) BB)))) w4 from ((h4.stg_mk (Q := emp))).cast (by ac_rfl))⟩)
    · refine RegStep3.plain rfl ?_; rintro L u w1 bA hL hW hD hU ⟨hS, hH⟩ hin hout; exact op_append _ _ _ 75 33 56 (.agg zeroKc.toArray) rfl Tryd.underlying62 infoK3 rfl (by decide) ((hin 4 8 rfl).trans (hS 4 _ rfl (hW.of 4 (by decide)))) (hin 6 10 rfl) ((hH.cast (show _ = sep (stg (L 7) (row 75 33 (u 7) (N + 1) (XS ++ Y)) (row 75 33 (.slice A N c) N XS)) (sep (stg (L 6) (row 75 33 (u 6) 1 Y) emp) (sep (stg (L 10) (blk p (.cells (ccells (u 7) lim T) 64 (0, 0))) (blk p (.cells (ccells (.slice A N c) lim T) 64 (0, 0)))) (sep (blk q (.cells Y.toArray 75 (0, 0))) BB))) by ac_rfl)).stg_no hL) (Rd.of_row ((hH.stg_yes (hW.far (i := 7) hD rfl 11 6 (by decide +kernel)))).ownsRow) HY1.out (by unfold maxLen; omega) (by omega) (fun A4 c4 w4 h4 => ⟨_, rfl, hS.step 7 _ (.inl rfl), (show Has st (sep (stg (L 6) (row 75 33 (u 6) 1 Y) emp) (sep (stg true (row 75 33 (.slice A4 (N + 1) c4) (N + 1) (XS ++ Y)) (row 75 33 (.slice A N c) N XS)) (sep (stg (L 10) (blk p (.cells (ccells (.slice A4 (N + 1) c4) lim T) 64 (0, 0))) (blk p (.cells (ccells (.slice A N c) lim T) 64 (0, 0)))) (sep (blk q (.cells Y.toArray 75 (0, 0))) BB)))) w4 from ((h4.stg_mk (Q := (row 75 33 (.slice A N c) N XS)))).cast (by rw [stg_eq (hD.nots 11 10 7 hL (by decide +kernel)) (blk p (.cells (ccells (u 7) lim T) 64 (0, 0))) (blk p (.cells (ccells (.slice A4 (N + 1) c4) lim T) 64 (0, 0)))]; ac_rfl))⟩)
    · refine RegStep3.plain rfl ?_; rintro L u w1 bA hL hW hD hU ⟨hS, hH⟩ hin hout; exact opw_nilCheck _ _ rfl ((hin 0 4 rfl).trans (hS 0 _ rfl (hW.of 0 (by decide)))) ⟨_, rfl, hS.step 8 _ (.inr rfl), hH⟩
    · refine RegStep3.plain rfl ?_; rintro L u w1 bA hL hW hD hU ⟨hS, hH⟩ hin hout; exact opw_field _ _ _ 0 rfl (by kernel_rfl) (p) (0) ((hin 8 12 rfl).trans (hS 8 _ rfl (hW.of 8 (by decide)))) ⟨_, rfl, hS.step 9 _ (.inr rfl), hH⟩
    · refine RegStep3.plain rfl ?_; rintro L u w1 bA hL hW hD hU ⟨hS, hH⟩ hin hout; exact opw_store1 _ _ _ rfl infoSl p 0 (u 7) ((hin 9 13 rfl).trans (hS 9 _ rfl (hW.of 9 (by decide)))) (hin 7 11 rfl) (row_one (((hH.cast (show _ = sep (stg (L 7) (row 75 33 (u 7) (N + 1) (XS ++ Y)) (row 75 33 (.slice A N c) N XS)) (sep (stg (L 6) (row 75 33 (u 6) 1 Y) emp) (sep (stg (L 10) (blk p (.cells (ccells (u 7) lim T) 64 (0, 0))) (blk p (.cells (ccells (.slice A N c) lim T) 64 (0, 0)))) (sep (blk q (.cells Y.toArray 75 (0, 0))) BB))) by ac_rfl)).stg_yes (hW.far (i := 10) hD rfl 11 7 (by decide +kernel))))) ((hH.cast (show _ = sep (stg (L 10) (blk p (.cells (ccells (u 7) lim T) 64 (0, 0))) (blk p (.cells (ccells (.slice A N c) lim T) 64 (0, 0)))) (sep (stg (L 6) (row 75 33 (u 6) 1 Y) emp) (sep (stg (L 7) (row 75 33 (u 7) (N + 1) (XS ++ Y)) (row 75 33 (.slice A N c) N XS)) (sep (blk q (.cells Y.toArray 75 (0, 0))) BB))) by ac_rfl)).stg_no hL) (by simp [ccells]) (fun w4 h4 => ⟨_, rfl, hS.step 10 _ (.inl rfl), (show Has st (sep (stg (L 6) (row 75 33 (u 6) 1 Y) emp) (sep (stg (L 7) (row 75 33 (u 7) (N + 1) (XS ++ Y)) (row 75 33 (.slice A N c) N XS)) (sep (stg true (blk p (.cells (ccells (u 7) lim T) 64 (0, 0))) (blk p (.cells (ccells (.slice A N c) lim T) 64 (0, 0)))) (sep (blk q (.cells Y.toArray 75 (0, 0))) BB)))) w4 from ((h4.stg_mk (Q := (blk p (.cells (ccells (.slice A N c) lim T) 64 (0, 0)))))).cast (by ac_rfl))⟩)
  intro L u w3 hL ⟨hS, hH⟩
  have E0 := hS 0 _ rfl (hL 0 (by decide))
  have E1 := hS 1 _ rfl (hL 1 (by decide))
  have E2 := hS 2 _ rfl (hL 2 (by decide))
  have E3 := hS 3 _ rfl (hL 3 (by decide))
  have E4 := hS 4 _ rfl (hL 4 (by decide))
  have E5 := hS 5 _ rfl (hL 5 (by decide))
  have E8 := hS 8 _ rfl (hL 8 (by decide))
  have E9 := hS 9 _ rfl (hL 9 (by decide))
  simp only [hL 6 (by decide), hL 7 (by decide), hL 10 (by decide), stg_true, emp_sep] at hH
  simp only [frame_cons, frame_nil, E0, E1, E2, E3, E4, E5, E8, E9, Act.put, List.setIfInBounds_toArray, List.set_cons_zero, List.set_cons_succ]
  clear hL hS E0 E1 E2 E3 E4 E5 E8 E9
  generalize u 6 = u6 at hH ⊢
  generalize u 7 = u7 at hH ⊢
  have H3 := Lib.hid hH
  clear hH HX HH
  have h3 : Has st (sep (blk p (.cells (ccells u7 lim T) 64 (0, 0))) (sep (row 75 33 u7 (N + 1) (XS ++ Y)) (sep (blk q (.cells Y.toArray 75 (0, 0))) BB))) w3 := (H3.out.cast (show _ = sep (row 75 33 u6 1 Y) (sep (blk p (.cells (ccells u7 lim T) 64 (0, 0))) (sep (row 75 33 u7 (N + 1) (XS ++ Y)) (sep (blk q (.cells Y.toArray 75 (0, 0))) BB))) by ac_rfl)).right
  have c2 : w3.cell? ⟨p, 2, none⟩ = some (.int .i64 (T : Int)) := h3.cell 2
  have c32 : w3.cell? ⟨q, 32, none⟩ = some (.slice B Q d) := (h3.third.cell 32).trans (by simpa using HY32.out)
  have f2 : w3.frozen? ⟨p, 2, none⟩ = false := h3.free 2
  have H4 := Lib.hid h3
  clear h3 H3
  go_wp2_with fail
  go_region
  have h6 := (H4.out.set 2 (.int .i64 ((T : Int) + (Q : Int)))).drew
  generalize (w3.setCell ⟨p, 2, none⟩ (.int .i64 ((T : Int) + (Q : Int)))).drew = w5 at h6 ⊢
  have hsc : (ccells u7 lim T).setIfInBounds 2 (.int .i64 ((T : Int) + (Q : Int))) = ccells u7 lim (T + Q) := by
    rw [← Int.natCast_add]; rfl
  rw [hsc] at h6
  go_end0
  exact ⟨rfl, HEND.out _ _ ((h6.cast (show _ = sep (blk q (.cells Y.toArray 75 (0, 0))) (sep (blk p (.cells (ccells u7 lim (T + Q)) 64 (0, 0))) (sep (row 75 33 u7 (N + 1) (XS ++ Y)) BB)) by ac_rfl)).right)⟩

set_option maxHeartbeats 1000000 in
theorem len_any (st : World) (R : HProp) (p : Nat) (K : List Kp) (lim : Int) (w : World) (h : Has st (sep (cacheP p K lim) R) w) :
    Calls Tryd.prog 22 #[.pointer (some ⟨p, 0, none⟩)] w fun e w' => e = .returned (.int .i64 (K.length : Int)) ∧ Has st (sep (cacheP p K lim) R) w' := by
  obtain ⟨A, c, h1⟩ := openCache h
  have c0 : w.cell? ⟨p, 0, none⟩ = some (.slice A K.length c) := h1.cell 0
  have HH := Lib.hid h
  clear h h1
  go_enter Tryd.func22, Tryd.ntmps22
  go_wp2
  go_ret
  exact ⟨rfl, HH.out⟩
set_option maxHeartbeats 1000000 in
theorem csize_any (st : World) (R : HProp) (p : Nat) (K : List Kp) (lim : Int) (w : World) (h : Has st (sep (cacheP p K lim) R) w) :
    Calls Tryd.prog 23 #[.pointer (some ⟨p, 0, none⟩)] w fun e w' => e = .returned (.int .i64 (tot K : Int)) ∧ Has st (sep (cacheP p K lim) R) w' := by
  obtain ⟨A, c, h1⟩ := openCache h
  have c2 : w.cell? ⟨p, 2, none⟩ = some (.int .i64 (tot K : Int)) := h1.cell 2
  have HH := Lib.hid h
  clear h h1
  go_enter Tryd.func23, Tryd.ntmps23
  go_wp2
  go_ret
  exact ⟨rfl, HH.out⟩
set_option maxHeartbeats 1000000 in
theorem wipe_any (st : World) (R : HProp) (p : Nat) (K : List Kp) (lim : Int) (w : World) (h : Has st (sep (cacheP p K lim) R) w) :
    Calls Tryd.prog 19 #[.pointer (some ⟨p, 0, none⟩)] w fun e w' => e = .returned (.tuple #[]) ∧ Has st (sep (cacheP p [] lim) R) w' := by
  obtain ⟨A, c, h1⟩ := openCache h
  have f0 : w.frozen? ⟨p, 0, none⟩ = false := h1.free 0
  have f2 : w.frozen? ⟨p, 2, none⟩ = false := h1.free 2
  have c0 := h1.cell 0
  have c2 := h1.cell 2
  simp only [ccells, List.getElem?_toArray, List.getElem?_cons_zero, List.getElem?_cons_succ] at c0 c2
  have HH := Lib.hid h1
  clear h h1
  go_enter Tryd.func19, Tryd.ntmps19
  go_wp2
  go_end0
  have h2 := (HH.out.set 0 (.slice none 0 0)).set 2 (.int .i64 0)
  refine ⟨rfl, toCache (.slice none 0 0) ?_⟩
  have h3 : Has st (sep (blk p (.cells (ccells (.slice none 0 0) lim (tot [])) 64 (0, 0))) R) _ := (h2.cast (show _ = sep (row 75 33 (.slice A K.length c) K.length (kcs K)) (sep (blobs 5 K) (sep (blk p (.cells (ccells (.slice none 0 0) lim (tot [])) 64 (0, 0))) R)) by
    rw [show ((ccells (.slice A K.length c) lim (tot K)).setIfInBounds 0 (.slice none 0 0)).setIfInBounds 2 (.int .i64 0) = ccells (.slice none 0 0) lim (tot []) from rfl]; ac_rfl)).right.right
  exact ((h3.row_nil 75 33).ofEmp.cast (by show _ = sep _ (sep _ (sep emp R)); ac_rfl))
set_option maxHeartbeats 1000000 in
theorem cnew_any (st : World) (R : HProp) (lim : Int) (w : World) (h : Has st R w) (hl : -9223372036854775808 ≤ lim ∧ lim ≤ 9223372036854775807) :
    Calls Tryd.prog 10 #[.int .i64 lim] w fun e w' => ∃ p, e = .returned (.pointer (some ⟨p, 0, none⟩)) ∧ Has st (sep (cacheP p [] (max lim 0)) R) w' := by
  have HH := Lib.hid h
  clear h
  go_enter Tryd.func10, Tryd.ntmps10
  go_wp2
  all_goals go_ret
  all_goals refine ⟨w.heap.size, rfl, toCache (.slice none 0 0) ?_⟩
  all_goals first | rw [show max lim 0 = lim by omega] | rw [show max lim 0 = 0 by omega]
  all_goals exact (((HH.out.alloc _).row_nil 75 33).ofEmp.cast (by show _ = sep _ (sep _ (sep emp R)); ac_rfl))
end Go.Proofs.YtblknhpafifebaaDoor

/-
  How the arguments of a statement read in memory: from the form's own reading to what the walks take. And the row's frame, whatever the arguments.
-/
namespace Go.Sl
open Go Go.RowKit Go.ChangeShapes Go.WideShapes Go.ChangeAt Go.Deep
set_option linter.unusedVariables false
set_option linter.unusedSimpArgs false

/-- what reads so at the beginning reads so as long as that memory is held -/
theorem sees_old {W : World} {size : Nat} {v : Value} {n : Nat} {xs : List Value} (h : Rd size W v n xs) : Sees W (old W) size v n xs := by
  intro w hw
  obtain ⟨hl, a, cap, rfl, hnc, hcm, hx⟩ := h
  refine ⟨hl, a, cap, rfl, hnc, hcm, ?_⟩
  rcases hx with hx | ⟨ad, rfl, hc⟩
  · exact .inl hx
  · refine .inr ⟨ad, rfl, fun j u hu => ?_⟩
    obtain ⟨h1, h2⟩ := hc j u hu
    refine ⟨h1, ?_⟩
    have hb := hw.old_below
    exact (hb.cell (p := ⟨ad.block, ad.off + j, none⟩) (World.block_lt_of_cell? W _ h2)).trans h2

section
variable {H : Type} {enc : TypeId × Value → H} {P : Program} {W : World} {base : Nat} {spare : Nat → Bool} {held : Bool}

theorem addr_at {w : World} {a : Addr} {j : Nat} {u : Value} (h : w.cell? (a.add j) = some u) : a.spot = none ∨ j ≠ 0 ∧ a.spot ≠ none := by
  by_cases h0 : a.spot = none
  · exact .inl h0
  · right
    refine ⟨?_, h0⟩
    rintro rfl
    exact h0 (World.cell?_spot h)

/-- bytes -/
theorem open_bytes {t e : TypeId} {fuel : Nat} {cs : List Value} {x : DataW H × List MemPlace} (ht : P.underlying t = some (.slice e)) (he : P.underlying e = some (.int .u8)) (hc : P.cellsOf e = 1)
    (h : DataW.trod enc P W base (fun _ => true) held fuel t cs = some x) : ∃ (A : Option Addr) (c : Nat) (l : List UInt8), cs = [.slice A l.length c] ∧ Sees W (old W) 1 (.slice A l.length c) l.length (bcells l) := by
  rcases open_ints ht he hc h with ⟨rfl, _⟩ | ⟨a, len, cap, zs, rfl, _, hl, hm, hz, _, hcell, hwz⟩
  · exact ⟨none, 0, [], rfl, sees_old (Rd.nil 1 W)⟩
  · simp only [if_true] at hz
    have hlen : ((zs.take len).map fun z => UInt8.ofNat z.toNat).length = len := by simp; omega
    refine ⟨some a, cap, (zs.take len).map fun z => UInt8.ofNat z.toNat, by rw [hlen], ?_⟩
    rw [hlen]
    refine sees_old ⟨by rw [bcells_length, hlen]; omega, some a, cap, rfl, hl, hm, ?_⟩
    right
    refine ⟨a, rfl, fun j u hu => ?_⟩
    have hj : j < len := by have := (List.getElem?_eq_some_iff.1 hu).1; rwa [bcells_length, hlen] at this
    have h0 := hcell 0 (by omega)
    have hsp : a.spot = none := by
      have := World.cell?_spot h0
      simpa [Addr.add] using this
    refine ⟨hsp, ?_⟩
    have hcj := hcell j (by omega)
    obtain ⟨b, off, sp⟩ := a
    simp only at hsp
    subst hsp
    rw [addr_add] at hcj
    rw [hcj, ← hu]
    have hw := hwz (zs.getD j 0) (by rw [List.getD_eq_getElem?_getD, List.getElem?_eq_getElem (by omega)]; exact List.getElem_mem _)
    have hb : 0 ≤ zs.getD j 0 ∧ zs.getD j 0 ≤ 255 := by simpa [Lit.wf, IntKind.min, IntKind.max, IntKind.signed, IntKind.bits] using hw
    have hg : zs.getD j 0 = zs[j]'(by omega) := by rw [List.getD_eq_getElem?_getD, List.getElem?_eq_getElem (by omega)]; rfl
    rw [hg] at hb ⊢
    simp only [bcells, List.map_map, List.getElem?_map, List.getElem?_take_of_lt hj, List.getElem?_eq_getElem (show j < zs.length by omega), Option.map_some, Function.comp, bcell]
    congr 2
    rw [UInt8.toNat_ofNat']
    omega

/-- numbers -/
theorem open_nums {t e : TypeId} {fuel : Nat} {cs : List Value} {x : DataW H × List MemPlace} (ht : P.underlying t = some (.slice e)) (he : P.underlying e = some (.int .i64)) (hc : P.cellsOf e = 1)
    (h : DataW.trod enc P W base (fun _ => true) held fuel t cs = some x) : ∃ (A : Option Addr) (c : Nat) (l : List Int), cs = [.slice A l.length c] ∧ Sees W (old W) 1 (.slice A l.length c) l.length (icells l) := by
  rcases open_ints ht he hc h with ⟨rfl, _⟩ | ⟨a, len, cap, zs, rfl, _, hl, hm, hz, _, hcell, hwz⟩
  · exact ⟨none, 0, [], rfl, sees_old (Rd.nil 1 W)⟩
  · simp only [if_true] at hz
    have hlen : (zs.take len).length = len := by simp; omega
    refine ⟨some a, cap, zs.take len, by rw [hlen], ?_⟩
    rw [hlen]
    refine sees_old ⟨by rw [icells_length, hlen]; omega, some a, cap, rfl, hl, hm, ?_⟩
    right
    refine ⟨a, rfl, fun j u hu => ?_⟩
    have hj : j < len := by have := (List.getElem?_eq_some_iff.1 hu).1; rwa [icells_length, hlen] at this
    have h0 := hcell 0 (by omega)
    have hsp : a.spot = none := by
      have := World.cell?_spot h0
      simpa [Addr.add] using this
    refine ⟨hsp, ?_⟩
    have hcj := hcell j (by omega)
    obtain ⟨b, off, sp⟩ := a
    simp only at hsp
    subst hsp
    rw [addr_add] at hcj
    rw [hcj, ← hu]
    have hg : zs.getD j 0 = zs[j]'(by omega) := by rw [List.getD_eq_getElem?_getD, List.getElem?_eq_getElem (by omega)]; rfl
    rw [hg]
    simp [icells, List.getElem?_take_of_lt hj, List.getElem?_eq_getElem (show j < zs.length by omega)]

/-- a slice of anything: its cells -/
theorem open_cells {t e : TypeId} {size fuel : Nat} {cs : List Value} {x : DataW H × List MemPlace} (ht : P.underlying t = some (.slice e)) (hc : P.cellsOf e = size) (hsz : 0 < size)
    (h : DataW.trod enc P W base (fun _ => true) held fuel t cs = some x) : ∃ (A : Option Addr) (n c : Nat) (vs : List Value), cs = [.slice A n c] ∧ Sees W (old W) size (.slice A n c) n vs ∧
      ∀ i, i < n → ∃ cs' m y, DataW.trod enc P W base (fun _ => true) held m e cs' = some y ∧ cs'.length = size ∧ ∀ j, j < size → vs[i * size + j]? = cs'[j]? := by
  rcases open_slice ht h with ⟨rfl, _⟩ | ⟨a, len, cap, m, n, D, Pl, rfl, _, hl, hm, hmm, _, hx⟩
  · exact ⟨none, 0, 0, [], rfl, sees_old (Rd.nil size W), fun i hi => absurd hi (by omega)⟩
  · simp only [if_true] at hmm
    subst hmm
    rw [hc] at hx
    have hx' : ∀ i, i < len → ∃ cs', (cs'.length = size ∧ ∀ j, j < size → W.cell? ((a.add (i * size)).add j) = cs'[j]?) ∧ DataW.trod enc P W base (fun _ => true) held n e cs' = some (D i, Pl i) := fun i hi => by
      obtain ⟨cs', h1, h2⟩ := hx i (by omega)
      obtain ⟨_, h3, h4⟩ := World.cells?_some h1
      exact ⟨cs', ⟨h3, h4⟩, h2⟩
    obtain ⟨F, hF⟩ : ∃ F : Nat → List Value, ∀ i, i < len → ((F i).length = size ∧ ∀ j, j < size → W.cell? ((a.add (i * size)).add j) = (F i)[j]?) ∧ DataW.trod enc P W base (fun _ => true) held n e (F i) = some (D i, Pl i) :=
      ⟨fun i => if hi : i < len then (hx' i hi).choose else [], fun i hi => by simp only [dif_pos hi]; exact (hx' i hi).choose_spec⟩
    have hlenF : ∀ k, k ≤ len → ((List.range k).flatMap F).length = k * size := by
      intro k
      induction k with
      | zero => intro _; simp
      | succ k ih =>
        intro hk
        rw [List.range_succ, List.flatMap_append, List.length_append, ih (by omega)]
        simp only [List.flatMap_cons, List.flatMap_nil, List.append_nil]
        rw [(hF k (by omega)).1.1, Nat.add_mul, Nat.one_mul]
    have hget : ∀ k, k ≤ len → ∀ i, i < k → ∀ j, j < size → ((List.range k).flatMap F)[i * size + j]? = (F i)[j]? := by
      intro k
      induction k with
      | zero => intro _ i hi; omega
      | succ k ih =>
        intro hk i hi j hj
        rw [List.range_succ, List.flatMap_append]
        simp only [List.flatMap_cons, List.flatMap_nil, List.append_nil]
        by_cases hik : i < k
        · rw [List.getElem?_append_left]
          · exact ih (by omega) i hik j hj
          · rw [hlenF k (by omega)]
            calc i * size + j < i * size + size := by omega
              _ = (i + 1) * size := by rw [Nat.add_mul, Nat.one_mul]
              _ ≤ k * size := Nat.mul_le_mul_right _ (by omega)
        · obtain rfl : i = k := by omega
          rw [List.getElem?_append_right (by rw [hlenF i (by omega)]; omega), hlenF i (by omega)]
          congr 1
          omega
    refine ⟨some a, len, m, (List.range len).flatMap F, rfl, sees_old ⟨hlenF len (Nat.le_refl _), some a, m, rfl, hl, hm, .inr ⟨a, rfl, fun j u hu => ?_⟩⟩, fun i hi => ⟨F i, n, _, (hF i hi).2, (hF i hi).1.1, fun j hj => hget len (Nat.le_refl _) i hi j hj⟩⟩
    have hj : j < len * size := by have := (List.getElem?_eq_some_iff.1 hu).1; rwa [hlenF len (Nat.le_refl _)] at this
    have hlen0 : 0 < len := by
      rcases Nat.eq_zero_or_pos len with h0 | h0
      · subst h0; omega
      · exact h0
    have hsp : a.spot = none := by
      have h0 := (hF 0 hlen0).1.2 0 hsz
      have h1 : (F 0)[0]? = some ((F 0)[0]'(by rw [(hF 0 hlen0).1.1]; exact hsz)) := List.getElem?_eq_getElem _
      rw [h1] at h0
      have := World.cell?_spot h0
      simpa [Addr.add] using this
    obtain ⟨b, off, sp⟩ := a
    simp only at hsp
    subst hsp
    refine ⟨rfl, ?_⟩
    have hdiv : j / size < len := by rw [Nat.div_lt_iff_lt_mul hsz]; exact hj
    have hmod := Nat.mod_lt j hsz
    have e1 : j / size * size + j % size = j := Nat.div_add_mod' j size
    have h1 := hget len (Nat.le_refl _) (j / size) hdiv (j % size) hmod
    rw [e1, hu] at h1
    have h2 := (hF (j / size) hdiv).1.2 (j % size) hmod
    rw [addr_add, addr_add, Nat.add_assoc, e1, ← h1] at h2
    exact h2

/-- a struct's fields -/
theorem open_field {t : TypeId} {fs : Array Field} {fuel : Nat} {cs : List Value} {x : DataW H × List MemPlace} (ht : P.underlying t = some (.struct fs)) (h : DataW.trod enc P W base spare held fuel t cs = some x) (i : Nat) (f : Field) (hf : fs[i]? = some f) :
    ∃ m y, DataW.trod enc P W base spare held m f.type ((cs.drop f.offset).take (P.cellsOf f.type)) = some y := by
  obtain ⟨xs, n, _, _, _, hlen, hg⟩ := DataW.trod_struct ht h
  have hlt : i < xs.length := by rw [hlen]; exact (Array.getElem?_eq_some_iff.1 hf).1
  refine ⟨n, xs[i], ?_⟩
  rw [hg i f hf]
  exact List.getElem?_eq_getElem hlt
theorem one_cell {cs : List Value} {k : Nat} {v : Value} (h : (cs.drop k).take 1 = [v]) : cs[k]? = some v := by
  have h1 : ((cs.drop k).take 1)[0]? = some v := by rw [h]; rfl
  rw [List.getElem?_take_of_lt (by decide), List.getElem?_drop] at h1
  simpa using h1
/-- an integer field at place k -/
theorem open_int_at {t : TypeId} {k : IntKind} {fuel j : Nat} {cs : List Value} {x : DataW H × List MemPlace} (ht : P.underlying t = some (.int k)) (h : DataW.trod enc P W base spare held fuel t ((cs.drop j).take 1) = some x) :
    ∃ n, cs[j]? = some (.int k n) ∧ (Lit.int k n).wf = true := by
  obtain ⟨n, h1, _, hw⟩ := DataW.trod_int ht h
  exact ⟨n, one_cell h1, hw⟩
/-- a choice for each of finitely many -/
theorem choose_list {α : Type} {n : Nat} {p : Nat → α → Prop} (h : ∀ i, i < n → ∃ a, p i a) : ∃ l : List α, l.length = n ∧ ∀ (i : Nat) (hi : i < l.length), p i l[i] := by
  induction n with
  | zero => exact ⟨[], rfl, fun i hi => absurd hi (by simp)⟩
  | succ n ih =>
    obtain ⟨l, hl, hp⟩ := ih fun i hi => h i (by omega)
    obtain ⟨a, ha⟩ := h n (by omega)
    refine ⟨l ++ [a], by simp [hl], fun i hi => ?_⟩
    by_cases hin : i < l.length
    · rw [List.getElem_append_left hin]; exact hp i hin
    · obtain rfl : i = n := by simp at hi; omega
      rw [List.getElem_append_right (by omega)]
      simpa using ha
end

theorem nat_u64 {a : Int} (h : (Lit.int .u64 a).wf = true) : ∃ n : Nat, a = n ∧ n ≤ 18446744073709551615 := by
  have hb : 0 ≤ a ∧ a ≤ 18446744073709551615 := by simpa [Lit.wf, IntKind.min, IntKind.max, IntKind.signed, IntKind.bits] using h
  exact ⟨a.toNat, by omega, by omega⟩
theorem nat_u32 {a : Int} (h : (Lit.int .u32 a).wf = true) : ∃ n : UInt32, a = n.toNat := by
  have hb : 0 ≤ a ∧ a ≤ 4294967295 := by simpa [Lit.wf, IntKind.min, IntKind.max, IntKind.signed, IntKind.bits] using h
  exact ⟨UInt32.ofNat a.toNat, by rw [UInt32.toNat_ofNat']; omega⟩
theorem nat_u8 {a : Int} (h : (Lit.int .u8 a).wf = true) : ∃ n : UInt8, a = n.toNat := by
  have hb : 0 ≤ a ∧ a ≤ 255 := by simpa [Lit.wf, IntKind.min, IntKind.max, IntKind.signed, IntKind.bits] using h
  exact ⟨UInt8.ofNat a.toNat, by rw [UInt8.toNat_ofNat']; omega⟩
theorem int_i64 {a : Int} (h : (Lit.int .i64 a).wf = true) : -9223372036854775808 ≤ a ∧ a ≤ 9223372036854775807 := by
  simpa [Lit.wf, IntKind.min, IntKind.max, IntKind.signed, IntKind.bits] using h
theorem str_le {s : ByteArray} (h : s.data.toList.length ≤ maxLen) : s.size ≤ 9223372036854775807 := by
  simp only [Array.length_toList] at h
  unfold maxLen at h
  exact Nat.le_trans h (by decide)
theorem Sees.Trod_below {W w : World} (h : Has W (old W) w) : Below W.heap.size W w := h.old_below
end Go.Sl
