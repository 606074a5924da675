/-
  coldstorelaw04.SealBursts.
-/
import Derived.Test.YtbiacehmfbopfaaVsto
namespace Go.Proofs.Ytbiacehmfbopfaa
open Go.RowKit Go.Sl Go.Crc
set_option linter.unusedVariables false
set_option linter.unusedSimpArgs false
def BurI (st : World) (R : HProp) (g n c : Nat) (S : List UInt8) (a x : Nat) (v : Value) (w : World) : Prop := ∃ (i : Nat) (T : List UInt8), i ≤ 32 ∧ v = .int .i64 ((i : Nat) : Int) ∧ Hid (T = burst S a x i) ∧ Has st (sep (row 5 1 (.slice (some ⟨g, 0, none⟩) n c) n (bcells T)) R) w
set_option maxRecDepth 100000 in
set_option maxHeartbeats 4000000 in
theorem bursts_law (st : World) (R : HProp) (k : UInt8) (b : List UInt8) (A : Option Addr) (c : Nat) (hs : Sees st R 1 (.slice A b.length c) b.length (bcells b)) (z : Int) (X : UInt32) (w : World) (h : Has st R w) :
    Calls Try.prog 4 #[.int .u8 (k.toNat : Int), .slice A b.length c, .int .i64 z, .int .u32 (X.toNat : Int)] w fun e w' => e = .returned (.bool true) ∧ Has st R w' := by
  obtain ⟨Φ0, e0⟩ : ∃ X, X = R := ⟨_, rfl⟩
  rw [← e0] at h hs ⊢
  clear e0
  have C0 := Lib.hid h
  have SB := Lib.hid hs
  clear h hs
  by_cases hb3 : b.length ≤ 300
  · have HZ1 : Hid (cmpZ .gtr (b.length : Int) 300 = some false) := Lib.hid (by simp only [cmpZ]; simp; omega)
    obtain ⟨S, hS⟩ : ∃ S, S = sealB k b := ⟨_, rfl⟩
    obtain ⟨n, hn⟩ : ∃ n, n = S.length := ⟨_, rfl⟩
    have hSl : n = b.length + 5 := by rw [hn, hS, sealB_length]
    obtain ⟨x, hx⟩ : ∃ x, x = X.toNat := ⟨_, rfl⟩
    rw [← hx]
    have hxl : x < 4294967296 := by rw [hx]; exact X.toNat_lt
    obtain ⟨z1, hz1⟩ : ∃ z1 : Nat, (z1 : Int) = z % 16777216 := ⟨(z % 16777216).toNat, by omega⟩
    obtain ⟨n4, hn4⟩ : ∃ n4, n4 = n - 4 := ⟨_, rfl⟩
    obtain ⟨n8, hn8⟩ : ∃ n8, n8 = 8 * n4 := ⟨_, rfl⟩
    obtain ⟨M, hM⟩ : ∃ M, M = n8 + 1 := ⟨_, rfl⟩
    obtain ⟨a, ha⟩ : ∃ a, a = z1 % M := ⟨_, rfl⟩
    have haM : a + 32 ≤ 8 * n := by have := Nat.mod_lt z1 (show M > 0 by omega); omega
    have b1 : bits .and .i64 z 16777215 = (z1 : Int) := by rw [hz1]; exact i64_and24 z
    have b2 : binZ .sub .i64 (n : Int) 4 = some (n4 : Int) := by rw [hn4]; exact bin_sub n 4 (by omega) (by omega)
    have b3 : binZ .mul .i64 8 (n4 : Int) = some (n8 : Int) := by rw [hn8]; exact bin_mul 8 n4 (by omega)
    have b4 : binZ .add .i64 (n8 : Int) 1 = some (M : Int) := by rw [hM]; exact bin_add n8 1 (by omega)
    have b5 : binZ .rem .i64 (z1 : Int) (M : Int) = some (a : Int) := by rw [ha]; exact bin_rem z1 M (by omega)
    have HSE : Hid (∀ Φ w, Has st Φ w → Sees st Φ 1 (.slice A b.length c) b.length (bcells b) → Calls Try.prog 12 #[.int .u8 (k.toNat : Int), .slice A b.length c] w fun e w' => ∃ A c, e = .returned (.slice A n c) ∧ Has st (sep (row 5 1 (.slice A n c) n (bcells S)) Φ) w') := Lib.hid fun Φ w h hs => by rw [hn, hS]; exact seal_any st Φ k b _ w h hs (by omega)
    have hTl : ∀ i, (burst S a x i).length = n := fun i => by rw [burst_length, hn]
    have hn400 : n ≤ 400 := by omega
    have hn0 : 0 < n := by omega
    have B1 := Lib.hid b1
    have B2 := Lib.hid b2
    have B3 := Lib.hid b3
    have B4 := Lib.hid b4
    have B5 := Lib.hid b5
    have HTL := Lib.hid hTl
    have HS := Lib.hid hS
    have HX := Lib.hid hx
    have HSL := Lib.hid hSl
    clear hS hn hSl hx hz1 hn4 hn8 hM ha b1 b2 b3 b4 b5 hTl
    go_enter Try.func4, Try.ntmps4
    go_wp2_with (first
      | (have _k := C1; go_at_call 12; refine (HSE.out _ _ C1.out (SB.out.widen (fun w h => (U1.out _ h)))).mono ?_; rintro e w9 ⟨As, cs, rfl, h9⟩; obtain ⟨gs, rfl⟩ := h9.row_at (by omega); obtain ⟨Φ2, e2⟩ : ∃ X : HProp, X = Φ1 := ⟨_, rfl⟩; rw [← e2] at h9; have U2 : Hid (∀ w, Has st Φ2 w → Has st Φ1 w) := Lib.hid (by rw [e2]; exact fun w h => h); have C2 := Lib.hid h9; clear h9 e2)
      | (have _k := C0; go_at_call 9; refine (alive_any st Φ0 _ C0.out).mono ?_; rintro e w9 ⟨rfl, h9⟩; obtain ⟨Φ1, e1⟩ : ∃ X : HProp, X = Φ0 := ⟨_, rfl⟩; rw [← e1] at h9; have U1 : Hid (∀ w, Has st Φ1 w → Has st Φ0 w) := Lib.hid (by rw [e1]; exact fun w h => h); have C1 := Lib.hid h9; clear h9 e1)
      | ((first | (with_reducible refine wpList_plain rfl ?_) | ((with_reducible refine wpList_yes _ _ rfl ?_ ?_); (focus rfl))); intro _ hk; (first
        | (refine opw_len _ _ _ Try.underlying22 A b.length c rfl rfl (hk _ _ ?_))
        | (refine opw_len _ _ _ Try.underlying22 (some ⟨gs, 0, none⟩) n cs rfl rfl (hk _ _ ?_))
        | (refine opw_cmp .gtr _ _ _ _ .i64 (b.length : Int) 300 false rfl rfl rfl HZ1.out (hk _ _ ?_))
        | (refine opw_bits .and _ _ _ _ .i64 z 16777215 (z1 : Int) (.inl rfl) rfl rfl rfl B1.out (hk _ _ ?_))
        | (refine opw_bin .sub _ _ _ _ .i64 (n : Int) 4 (n4 : Int) rfl rfl rfl B2.out (hk _ _ ?_))
        | (refine opw_bin .mul _ _ _ _ .i64 8 (n4 : Int) (n8 : Int) rfl rfl rfl B3.out (hk _ _ ?_))
        | (refine opw_bin .add _ _ _ _ .i64 (n8 : Int) 1 (M : Int) rfl rfl rfl B4.out (hk _ _ ?_))
        | (refine opw_bin .rem _ _ _ _ .i64 (z1 : Int) (M : Int) (a : Int) rfl rfl rfl B5.out (hk _ _ ?_))); simp only [Act.put, List.setIfInBounds_toArray, List.set_cons_zero, List.set_cons_succ]))
    go_loopw [29] (BurI st Φ2 gs n cs S a x) (fun v _ => 32 - (intOf v).toNat)
    case atStart => exact ⟨0, S, Nat.zero_le _, rfl, Lib.hid rfl, C2.out⟩
    case round =>
      obtain ⟨i, T, hi, rfl, HT, h3⟩ := hrel
      have hTn : T.length = n := by rw [HT.out]; exact HTL.out i
      have HTN := Lib.hid hTn
      clear hTn
      by_cases hlt : i < 32
      · obtain ⟨y, hy⟩ : ∃ y, y = x / 2 ^ i := ⟨_, rfl⟩
        have hyl : y < 4294967296 := by rw [hy]; exact Nat.lt_of_le_of_lt (Nat.div_le_self _ _) hxl
        obtain ⟨β, hβ⟩ : ∃ β, β = y % 2 := ⟨_, rfl⟩
        have d1 : shZ .shr .u32 (x : Int) (i : Int) = some (y : Int) := by rw [hy]; exact sh_r .u32 x i (by show i ≤ 32; omega)
        have d2 : bits .and .u32 (y : Int) 1 = (β : Int) := by rw [hβ]; exact and1 y hyl
        have D1 := Lib.hid d1
        have D2 := Lib.hid d2
        have HY := Lib.hid hy
        have HB := Lib.hid hβ
        clear hy hβ d1 d2
        by_cases hβ1 : β = 1
        ·
          have D3 : Hid (cmpZ .eql (β : Int) 1 = some true) := Lib.hid (by simp only [cmpZ]; simp; omega)
          have hT' : burst S a x (i + 1) = flip T (a + i) := by rw [HT.out]; show (if _ then _ else _) = _; rw [← HY.out, ← HB.out, if_pos hβ1]
          have HT' := Lib.hid hT'
          clear hβ1 hT'
          obtain ⟨cur, r1, r2, r3, r4, h4⟩ := h3.row_open
          rw [Nat.mul_one] at r4 r3
          have hjn : (a + i) / 8 < n := by omega
          obtain ⟨q, hq⟩ : ∃ q, q = T.getD ((a + i) / 8) 0 := ⟨_, rfl⟩
          have hcv : cur[0 + (a + i) / 8]? = some (.int .u8 (q.toNat : Int)) := by
            have e1 : (bcells T)[(a + i) / 8]? = some (.int .u8 (q.toNat : Int)) := by
              rw [hq]; exact bgetD (by rw [HTN.out]; exact hjn)
            rw [← r4, List.getElem?_take_of_lt hjn] at e1
            rw [Nat.zero_add]
            simpa using e1
          have hsz : 0 + (a + i) / 8 < cur.size := by omega
          have HCV : Hid (∀ w, Has st (sep (blk gs (.cells cur 5 (0, 0))) Φ2) w → w.cell? ⟨gs, 0 + (a + i) / 8, none⟩ = some (.int .u8 (q.toNat : Int))) := Lib.hid fun w h => by rw [h.cell]; exact hcv
          have HQ := Lib.hid hq
          have R3 := Lib.hid r3
          have R4 := Lib.hid r4
          have H4 := Lib.hid h4
          have ha8 : a ≤ 8 * 400 := by omega
          clear h3 hq hcv r3 r4 h4
          go_wp2_with (first
            | (fail)
            | ((first | (with_reducible refine wpList_plain rfl ?_) | ((with_reducible refine wpList_yes _ _ rfl ?_ ?_); (focus rfl))); intro _ hk; (first
              | (refine opw_shift .shr _ _ _ _ .u32 .i64 (x : Int) (i : Int) (y : Int) rfl rfl rfl D1.out (hk _ _ ?_))
              | (refine opw_bits .and _ _ _ _ .u32 (y : Int) 1 (β : Int) (.inl rfl) rfl rfl rfl D2.out (hk _ _ ?_))
              | (refine opw_cmp .eql _ _ _ _ .u32 (β : Int) 1 true rfl rfl rfl D3.out (hk _ _ ?_))); simp only [Act.put, List.setIfInBounds_toArray, List.set_cons_zero, List.set_cons_succ]))
          refine wp_region_inv3 (fun L u w' => Slots (fun kk => ([some (.slice (some ⟨gs, 0, none⟩) n cs), some (.int .i64 ((a : Nat) : Int)), some (.int .i64 ((i : Nat) : Int)), some (.int .i64 (((a + i) : Nat) : Int)), some (.int .i64 ((((a + i) / 8) : Nat) : Int)), some (.pointer (some ⟨gs, 0 + ((a + i) / 8), none⟩)), some (.int .u8 ((q).toNat : Int)), some (.int .i64 ((a : Nat) : Int)), some (.int .i64 ((i : Nat) : Int)), some (.int .i64 (((a + i) : Nat) : Int)), some (.int .i64 ((((a + i) % 8) : Nat) : Int)), some (.int .u8 ((((1 : UInt8) <<< UInt8.ofNat ((a + i) % 8))).toNat : Int)), some (.int .u8 (((q ^^^ ((1 : UInt8) <<< UInt8.ofNat ((a + i) % 8)))).toNat : Int)), some (.pointer (some ⟨gs, 0 + ((a + i) / 8), none⟩)), none] : List (Option Value)).getD kk none) L u ∧ Has st (sep (vsto (L 14) gs cur (cur.setIfInBounds (0 + (a + i) / 8) (.int .u8 ((q ^^^ ((1 : UInt8) <<< UInt8.ofNat ((a + i) % 8))).toNat : Int))) 5) Φ2) w') (by kernel_rfl) (by decide +kernel) (by decide +kernel) (by kernel_rfl) (by kernel_rfl) (fun u => ⟨Slots.start _ u, H4.out.drew.vsto_start⟩) ?_ ?_
          · refine ⟨?_, ?_, ?_, ?_, ?_, ?_, ?_, ?_, ?_, ?_, ?_, ?_, ?_, ?_, ?_, trivial⟩
            · refine RegStep3.plain rfl ?_; rintro L u w1 bA hL hW hD hU ⟨hS, hH⟩ hin hout; exact opw_move _ _ (.inl rfl) ((hout 9 (by kernel_rfl)).trans (by kernel_rfl)) ⟨_, rfl, hS.step 0 _ (.inr rfl), hH⟩
            · refine RegStep3.plain rfl ?_; rintro L u w1 bA hL hW hD hU ⟨hS, hH⟩ hin hout; exact opw_move _ _ (.inl rfl) ((hout 2 (by kernel_rfl)).trans (by kernel_rfl)) ⟨_, rfl, hS.step 1 _ (.inr rfl), hH⟩
            · refine RegStep3.plain rfl ?_; rintro L u w1 bA hL hW hD hU ⟨hS, hH⟩ hin hout; exact opw_move _ _ (.inl rfl) ((hout 10 (by kernel_rfl)).trans (by kernel_rfl)) ⟨_, rfl, hS.step 2 _ (.inr rfl), hH⟩
            · refine RegStep3.plain rfl ?_; rintro L u w1 bA hL hW hD hU ⟨hS, hH⟩ hin hout; exact opw_bin .add _ _ _ _ .i64 _ _ _ rfl ((hin 1 38 rfl).trans (hS 1 _ rfl (hW.of 1 (by decide)))) ((hin 2 39 rfl).trans (hS 2 _ rfl (hW.of 2 (by decide)))) (bin_add (a) (i) (by omega)) ⟨_, rfl, hS.step 3 _ (.inr rfl), hH⟩
            · refine RegStep3.plain rfl ?_; rintro L u w1 bA hL hW hD hU ⟨hS, hH⟩ hin hout; exact opw_bin .quo _ _ _ _ .i64 _ _ _ rfl ((hin 3 40 rfl).trans (hS 3 _ rfl (hW.of 3 (by decide)))) rfl (bin_quo ((a + i)) (8) (by decide) (by omega)) ⟨_, rfl, hS.step 4 _ (.inr rfl), hH⟩
            · refine RegStep3.plain rfl ?_; rintro L u w1 bA hL hW hD hU ⟨hS, hH⟩ hin hout; exact opw_indexSl _ _ _ _ rfl Try.underlying22 sizeB (gs) (0) (n) (cs) (((a + i) / 8)) ((hin 0 37 rfl).trans (hS 0 _ rfl (hW.of 0 (by decide)))) _ ((hin 4 41 rfl).trans (hS 4 _ rfl (hW.of 4 (by decide)))) hjn ⟨_, rfl, hS.step 5 _ (.inr rfl), hH⟩
            · refine RegStep3.plain rfl ?_; rintro L u w1 bA hL hW hD hU ⟨hS, hH⟩ hin hout; exact opw_load1 _ _ rfl _ Try.underlying5 rfl _ _ ((hin 5 42 rfl).trans (hS 5 _ rfl (hW.of 5 (by decide)))) (HCV.out _ (hH.vsto_old (hD.nots 4 14 6 hL (by decide +kernel)))) ⟨_, rfl, hS.step 6 _ (.inr rfl), hH⟩
            · refine RegStep3.plain rfl ?_; rintro L u w1 bA hL hW hD hU ⟨hS, hH⟩ hin hout; exact opw_move _ _ (.inl rfl) ((hout 2 (by kernel_rfl)).trans (by kernel_rfl)) ⟨_, rfl, hS.step 7 _ (.inr rfl), hH⟩
            · refine RegStep3.plain rfl ?_; rintro L u w1 bA hL hW hD hU ⟨hS, hH⟩ hin hout; exact opw_move _ _ (.inl rfl) ((hout 10 (by kernel_rfl)).trans (by kernel_rfl)) ⟨_, rfl, hS.step 8 _ (.inr rfl), hH⟩
            · refine RegStep3.plain rfl ?_; rintro L u w1 bA hL hW hD hU ⟨hS, hH⟩ hin hout; exact opw_bin .add _ _ _ _ .i64 _ _ _ rfl ((hin 7 44 rfl).trans (hS 7 _ rfl (hW.of 7 (by decide)))) ((hin 8 45 rfl).trans (hS 8 _ rfl (hW.of 8 (by decide)))) (bin_add (a) (i) (by omega)) ⟨_, rfl, hS.step 9 _ (.inr rfl), hH⟩
            · refine RegStep3.plain rfl ?_; rintro L u w1 bA hL hW hD hU ⟨hS, hH⟩ hin hout; exact opw_bin .rem _ _ _ _ .i64 _ _ _ rfl ((hin 9 46 rfl).trans (hS 9 _ rfl (hW.of 9 (by decide)))) rfl (bin_rem ((a + i)) (8) (by decide)) ⟨_, rfl, hS.step 10 _ (.inr rfl), hH⟩
            · refine RegStep3.plain rfl ?_; rintro L u w1 bA hL hW hD hU ⟨hS, hH⟩ hin hout; exact opw_shift .shl _ _ _ _ .u8 .i64 _ _ _ rfl rfl ((hin 10 47 rfl).trans (hS 10 _ rfl (hW.of 10 (by decide)))) (shl8 ((a + i) % 8) (by omega)) ⟨_, rfl, hS.step 11 _ (.inr rfl), hH⟩
            · refine RegStep3.plain rfl ?_; rintro L u w1 bA hL hW hD hU ⟨hS, hH⟩ hin hout; exact opw_bits .xor _ _ _ _ .u8 _ _ _ (.inr (.inr rfl)) rfl ((hin 6 43 rfl).trans (hS 6 _ rfl (hW.of 6 (by decide)))) ((hin 11 48 rfl).trans (hS 11 _ rfl (hW.of 11 (by decide)))) (xor8 _ _) ⟨_, rfl, hS.step 12 _ (.inr rfl), hH⟩
            · refine RegStep3.plain rfl ?_; rintro L u w1 bA hL hW hD hU ⟨hS, hH⟩ hin hout; exact opw_indexSl _ _ _ _ rfl Try.underlying22 sizeB (gs) (0) (n) (cs) (((a + i) / 8)) ((hin 0 37 rfl).trans (hS 0 _ rfl (hW.of 0 (by decide)))) _ ((hin 4 41 rfl).trans (hS 4 _ rfl (hW.of 4 (by decide)))) hjn ⟨_, rfl, hS.step 13 _ (.inr rfl), hH⟩
            · refine RegStep3.plain rfl ?_; rintro L u w1 bA hL hW hD hU ⟨hS, hH⟩ hin hout; exact opw_store1 5 _ _ rfl sizeB gs (0 + (a + i) / 8) (.int .u8 (((q ^^^ ((1 : UInt8) <<< UInt8.ofNat ((a + i) % 8)))).toNat : Int)) ((hin 13 50 rfl).trans (hS 13 _ rfl (hW.of 13 (by decide)))) ((hin 12 49 rfl).trans (hS 12 _ rfl (hW.of 12 (by decide)))) rfl (hH.vsto_old hL) hsz (fun w9 h9 => ⟨_, rfl, hS.step 14 _ (.inl rfl), (show Has st (sep (vsto true gs cur (cur.setIfInBounds (0 + (a + i) / 8) (.int .u8 ((q ^^^ ((1 : UInt8) <<< UInt8.ofNat ((a + i) % 8))).toNat : Int))) 5) Φ2) w9 from (Has.vsto_mk (old := cur) h9).cast (by ac_rfl))⟩)
          intro L u w8 hL ⟨hS, hH⟩
          have h5 := Has.vsto_new hH (hL 14 (by decide))
          simp only [frame_cons, frame_nil, Act.put, List.setIfInBounds_toArray, List.set_cons_zero, List.set_cons_succ]
          have h6 : Has st (sep (row 5 1 (.slice (some ⟨gs, 0, none⟩) n cs) n (bcells (flip T (a + i)))) Φ2) w8 := by
            refine h5.row_of_blk 1 n cs r1 r2 (by rw [Array.size_setIfInBounds, R3.out, Nat.mul_one]) ?_
            rw [Array.toList_setIfInBounds, List.take_set, Nat.mul_one, R4.out, Nat.zero_add]
            unfold flip
            rw [← HQ.out]
            simp [bcells, bcell, List.map_set]
          have H6 := Lib.hid h6
          clear hL hS hH h5 h6
          go_wp2
          go_roundw
          case rel =>
            have hrel2 : BurI st Φ2 gs n cs S a x (.int .i64 ((i : Int) + 1)) w8 := ⟨i + 1, flip T (a + i), by omega, by go_num, Lib.hid HT'.out.symm, H6.out⟩
            first | exact hrel2 | ((repeat apply Exists.intro); exact ⟨hrel2, rfl⟩)
          case measure => simp [intOf]; omega
        ·
          have D3 : Hid (cmpZ .eql (β : Int) 1 = some false) := Lib.hid (by simp only [cmpZ]; simp; omega)
          have hT' : burst S a x (i + 1) = T := by rw [HT.out]; show (if _ then _ else _) = _; rw [← HY.out, ← HB.out, if_neg hβ1]
          have HT' := Lib.hid hT'
          clear hβ1 hT'
          have H4 := Lib.hid h3
          clear h3
          go_wp2_with (first
            | (fail)
            | ((first | (with_reducible refine wpList_plain rfl ?_) | ((with_reducible refine wpList_yes _ _ rfl ?_ ?_); (focus rfl))); intro _ hk; (first
              | (refine opw_shift .shr _ _ _ _ .u32 .i64 (x : Int) (i : Int) (y : Int) rfl rfl rfl D1.out (hk _ _ ?_))
              | (refine opw_bits .and _ _ _ _ .u32 (y : Int) 1 (β : Int) (.inl rfl) rfl rfl rfl D2.out (hk _ _ ?_))
              | (refine opw_cmp .eql _ _ _ _ .u32 (β : Int) 1 false rfl rfl rfl D3.out (hk _ _ ?_))); simp only [Act.put, List.setIfInBounds_toArray, List.set_cons_zero, List.set_cons_succ]))
          go_wp2
          go_roundw
          case rel =>
            have hrel2 : BurI st Φ2 gs n cs S a x (.int .i64 ((i : Int) + 1)) wr := ⟨i + 1, T, by omega, by go_num, Lib.hid HT'.out.symm, H4.out⟩
            first | exact hrel2 | ((repeat apply Exists.intro); exact ⟨hrel2, rfl⟩)
          case measure => simp [intOf]; omega
      · obtain rfl : i = 32 := by omega
        have HC := Lib.hid h3
        clear h3
        by_cases hx0 : x = 0
        ·
          have hun : unsealR k T = (b, 0) := by
            rw [HT.out, HS.out, hx0, burst_nought, unseal_seal, if_pos rfl]
            
          have HUN : Hid (∀ Φ A c w, Has st Φ w → Sees st Φ 1 (.slice A n c) n (bcells T) → Calls Try.prog 10 #[.int .u8 (k.toNat : Int), .slice A n c] w fun e w' => ∃ A c, e = .returned (.tuple #[.slice A b.length c, .int .i64 0]) ∧ Has st (sep (row 5 1 (.slice A b.length c) b.length (bcells b)) Φ) w') := Lib.hid fun Φ A c w h hs => by
            have e := HTN.out
            rw [← e] at hs ⊢
            have := unseal_any st Φ k T A c w h hs (by omega)
            rw [hun] at this
            exact this
          have HX0 : Hid (cmpZ .eql (x : Int) 0 = some true) := Lib.hid (by simp only [cmpZ]; simp; omega)
          clear hun hx0
          go_wp2_with (first
            | (have _k := HD; go_at_call 15; refine (same_self b _ _ _ _ _ (sees_row st _ 1 _ _ _ _ _ HD.out) ((SB.out.widen (fun w h => (U1.out _ (U2.out _ h)))) _ HD.out.right.right)).mono ?_; rintro e w9 ⟨rfl, rfl⟩)
            | (go_at_call 10; refine (HUN.out _ _ _ _ HC.out (sees_row st _ 1 _ _ _ _)).mono ?_; rintro e w9 ⟨Ax, cx, rfl, h9⟩; have HD := Lib.hid h9; clear h9)
            | ((first | (with_reducible refine wpList_plain rfl ?_) | ((with_reducible refine wpList_yes _ _ rfl ?_ ?_); (focus rfl))); intro _ hk; (first
              | (refine opw_cmp .eql _ _ _ _ .u32 (x : Int) 0 true rfl rfl rfl HX0.out (hk _ _ ?_))); simp only [Act.put, List.setIfInBounds_toArray, List.set_cons_zero, List.set_cons_succ]))
          go_ret
          exact ⟨rfl, (U1.out _ (U2.out _ HD.out.right.right))⟩
        ·
          have hun : unsealR k T = (([] : List UInt8), 36) := by
            rw [HT.out, HS.out, HX.out]
            exact burst_unsealed k k b a X (by have := HSL.out; omega) (fun e => hx0 (by rw [HX.out, e]; rfl))
          have HUN : Hid (∀ Φ A c w, Has st Φ w → Sees st Φ 1 (.slice A n c) n (bcells T) → Calls Try.prog 10 #[.int .u8 (k.toNat : Int), .slice A n c] w fun e w' => ∃ A c, e = .returned (.tuple #[.slice A 0 c, .int .i64 36]) ∧ Has st (sep (row 5 1 (.slice A 0 c) 0 (bcells ([] : List UInt8))) Φ) w') := Lib.hid fun Φ A c w h hs => by
            have e := HTN.out
            rw [← e] at hs ⊢
            have := unseal_any st Φ k T A c w h hs (by omega)
            rw [hun] at this
            exact this
          have HX0 : Hid (cmpZ .eql (x : Int) 0 = some false) := Lib.hid (by simp only [cmpZ]; simp; omega)
          clear hun hx0
          go_wp2_with (first
            | (go_at_call 10; refine (HUN.out _ _ _ _ HC.out (sees_row st _ 1 _ _ _ _)).mono ?_; rintro e w9 ⟨Ax, cx, rfl, h9⟩; have HD := Lib.hid h9; clear h9)
            | ((first | (with_reducible refine wpList_plain rfl ?_) | ((with_reducible refine wpList_yes _ _ rfl ?_ ?_); (focus rfl))); intro _ hk; (first
              | (refine opw_cmp .eql _ _ _ _ .u32 (x : Int) 0 false rfl rfl rfl HX0.out (hk _ _ ?_))); simp only [Act.put, List.setIfInBounds_toArray, List.set_cons_zero, List.set_cons_succ]))
          go_ret
          exact ⟨rfl, (U1.out _ (U2.out _ HD.out.right.right))⟩
  · have HZ1 : Hid (cmpZ .gtr (b.length : Int) 300 = some true) := Lib.hid (by simp only [cmpZ]; simp; omega)
    clear hb3
    go_enter Try.func4, Try.ntmps4
    go_wp2_with (first
      | (have _k := C0; go_at_call 9; refine (alive_any st Φ0 _ C0.out).mono ?_; rintro e w9 ⟨rfl, h9⟩; obtain ⟨Φ1, e1⟩ : ∃ X : HProp, X = Φ0 := ⟨_, rfl⟩; rw [← e1] at h9; have U1 : Hid (∀ w, Has st Φ1 w → Has st Φ0 w) := Lib.hid (by rw [e1]; exact fun w h => h); have C1 := Lib.hid h9; clear h9 e1)
      | ((first | (with_reducible refine wpList_plain rfl ?_) | ((with_reducible refine wpList_yes _ _ rfl ?_ ?_); (focus rfl))); intro _ hk; (first
        | (refine opw_len _ _ _ Try.underlying22 A b.length c rfl rfl (hk _ _ ?_))
        | (refine opw_cmp .gtr _ _ _ _ .i64 (b.length : Int) 300 true rfl rfl rfl HZ1.out (hk _ _ ?_))); simp only [Act.put, List.setIfInBounds_toArray, List.set_cons_zero, List.set_cons_succ]))
    go_ret
    exact ⟨rfl, (U1.out _ C1.out)⟩
end Go.Proofs.Ytbiacehmfbopfaa
