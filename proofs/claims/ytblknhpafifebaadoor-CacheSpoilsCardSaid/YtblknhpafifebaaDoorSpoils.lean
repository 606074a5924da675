/-
  coldstorelaw14.CacheSpoils: the walk.
-/
import Derived.Test.YtblknhpafifebaaDoorSpoilsLaw
import Derived.Test.YtblknhpafifebaaDoorRefShaOf
namespace Go.Proofs.YtblknhpafifebaaDoor
open Go Go.RowKit Go.Sl Go.Sha
set_option linter.unusedVariables false
set_option linter.unusedSimpArgs false
set_option maxRecDepth 100000

set_option maxHeartbeats 8000000 in
theorem spoils_any (st : World) (R : HProp) (hk : Keys st R) (hst : Start st R) (AL : List UInt8) (Aa : Option Addr) (ca : Nat) (hsa : Sees st R 1 (.slice Aa AL.length ca) AL.length (bcells AL)) (BL : List UInt8) (Ab : Option Addr) (cb : Nat) (hsb : Sees st R 1 (.slice Ab BL.length cb) BL.length (bcells BL)) (bit : Int) (w : World) (h : Has st R w) :
    Calls Tryd.prog 7 #[.slice Aa AL.length ca, .slice Ab BL.length cb, .int .i64 bit] w fun e w' => e = .returned (.bool true) ∧ Has st R w' := by
  have HAV : Hid (∀ w, Has st R w → Calls Tryd.prog 8 #[] w fun e w' => e = .returned (.bool true) ∧ Has st R w') := Lib.hid fun w h => alive_any st R hk hst w h
  have HH := Lib.hid h
  have HSA := Lib.hid hsa
  have HSB := Lib.hid hsb
  obtain ⟨n, hn⟩ : ∃ n, n = AL.length := ⟨_, rfl⟩
  obtain ⟨m, hm⟩ : ∃ m, m = BL.length := ⟨_, rfl⟩
  rw [← hn] at HSA ⊢
  rw [← hm] at HSB ⊢
  have HN := Lib.hid hn
  have HM := Lib.hid hm
  clear hn hm h hsa hsb
  by_cases h0 : n = 0
  · have Z1 : Hid (cmpZ .eql (n : Int) 0 = some true) := Lib.hid (by rw [h0]; rfl)
    clear h0 HN HM HSA HSB
    go_enter Tryd.func7, Tryd.ntmps7
    go_wp2_with (first
      | (go_at_call 8; refine (HAV.out _ HH.out).mono ?_; rintro e w9 ⟨rfl, h9⟩; have H0 := Lib.hid h9; clear h9)
      | ((first | (with_reducible refine wpList_plain rfl ?_) | ((with_reducible refine wpList_yes _ _ rfl ?_ ?_); (focus rfl))); intro _ hk; (first
        | (refine opw_cmp .eql _ _ _ _ .i64 (n : Int) 0 true rfl rfl rfl Z1.out (hk _ _ ?_))); simp only [Act.put, List.setIfInBounds_toArray, List.set_cons_zero, List.set_cons_succ]))
    go_ret
    exact ⟨rfl, H0.out⟩
  have Z1 : Hid (cmpZ .eql (n : Int) 0 = some false) := Lib.hid (by simp only [cmpZ]; congr 1; simpa using h0)
  by_cases h1 : 100 < n
  · have Z2 : Hid (cmpZ .gtr (n : Int) 100 = some true) := Lib.hid (by show some (decide ((n : Int) > 100)) = some true; rw [decide_eq_true (by omega)])
    clear h0 h1 HN HM HSA HSB
    go_enter Tryd.func7, Tryd.ntmps7
    go_wp2_with (first
      | (go_at_call 8; refine (HAV.out _ HH.out).mono ?_; rintro e w9 ⟨rfl, h9⟩; have H0 := Lib.hid h9; clear h9)
      | ((first | (with_reducible refine wpList_plain rfl ?_) | ((with_reducible refine wpList_yes _ _ rfl ?_ ?_); (focus rfl))); intro _ hk; (first
        | (refine opw_cmp .eql _ _ _ _ .i64 (n : Int) 0 false rfl rfl rfl Z1.out (hk _ _ ?_))
        | (refine opw_cmp .gtr _ _ _ _ .i64 (n : Int) 100 true rfl rfl rfl Z2.out (hk _ _ ?_))); simp only [Act.put, List.setIfInBounds_toArray, List.set_cons_zero, List.set_cons_succ]))
    go_ret
    exact ⟨rfl, H0.out⟩
  have Z2 : Hid (cmpZ .gtr (n : Int) 100 = some false) := Lib.hid (by show some (decide ((n : Int) > 100)) = some false; rw [decide_eq_false (by omega)])
  by_cases h2 : 100 < m
  · have Z3 : Hid (cmpZ .gtr (m : Int) 100 = some true) := Lib.hid (by show some (decide ((m : Int) > 100)) = some true; rw [decide_eq_true (by omega)])
    clear h0 h1 h2 HN HM HSA HSB
    go_enter Tryd.func7, Tryd.ntmps7
    go_wp2_with (first
      | (go_at_call 8; refine (HAV.out _ HH.out).mono ?_; rintro e w9 ⟨rfl, h9⟩; have H0 := Lib.hid h9; clear h9)
      | ((first | (with_reducible refine wpList_plain rfl ?_) | ((with_reducible refine wpList_yes _ _ rfl ?_ ?_); (focus rfl))); intro _ hk; (first
        | (refine opw_cmp .eql _ _ _ _ .i64 (n : Int) 0 false rfl rfl rfl Z1.out (hk _ _ ?_))
        | (refine opw_cmp .gtr _ _ _ _ .i64 (n : Int) 100 false rfl rfl rfl Z2.out (hk _ _ ?_))
        | (refine opw_cmp .gtr _ _ _ _ .i64 (m : Int) 100 true rfl rfl rfl Z3.out (hk _ _ ?_))); simp only [Act.put, List.setIfInBounds_toArray, List.set_cons_zero, List.set_cons_succ]))
    go_ret
    exact ⟨rfl, H0.out⟩
  have Z3 : Hid (cmpZ .gtr (m : Int) 100 = some false) := Lib.hid (by show some (decide ((m : Int) > 100)) = some false; rw [decide_eq_false (by omega)])
  have HSM : Hid (∀ w, Has st R w → Calls Tryd.prog 16 #[.slice Aa n ca, .slice Ab m cb] w fun e w' => e = .returned (.bool (AL == BL)) ∧ w = w') := Lib.hid fun w h => sameB_any AL BL n m _ _ w (HSA.out w h) (HSB.out w h)
  by_cases h3 : (AL == BL) = true
  · rw [h3] at HSM
    clear h0 h1 h2 h3 HN HM HSA HSB
    go_enter Tryd.func7, Tryd.ntmps7
    go_wp2_with (first
      | (go_at_call 8; refine (HAV.out _ HH.out).mono ?_; rintro e w9 ⟨rfl, h9⟩; have H0 := Lib.hid h9; clear h9)
      | (have _k := H0; go_at_call 16; refine (HSM.out _ H0.out).mono ?_; rintro e w9 ⟨rfl, rfl⟩)
      | ((first | (with_reducible refine wpList_plain rfl ?_) | ((with_reducible refine wpList_yes _ _ rfl ?_ ?_); (focus rfl))); intro _ hk; (first
        | (refine opw_cmp .eql _ _ _ _ .i64 (n : Int) 0 false rfl rfl rfl Z1.out (hk _ _ ?_))
        | (refine opw_cmp .gtr _ _ _ _ .i64 (n : Int) 100 false rfl rfl rfl Z2.out (hk _ _ ?_))
        | (refine opw_cmp .gtr _ _ _ _ .i64 (m : Int) 100 false rfl rfl rfl Z3.out (hk _ _ ?_))); simp only [Act.put, List.setIfInBounds_toArray, List.set_cons_zero, List.set_cons_succ]))
    go_ret
    exact ⟨rfl, H0.out⟩
  have h3' : (AL == BL) = false := by simpa using h3
  rw [h3'] at HSM
  have hn0 : AL.length ≠ 0 := by rw [← HN.out]; exact h0
  have hn1 : AL.length ≤ 100 := by rw [← HN.out]; omega
  have hm1 : BL.length ≤ 100 := by rw [← HM.out]; omega
  obtain ⟨X, hX⟩ : ∃ X, X = sha AL := ⟨_, rfl⟩
  obtain ⟨Y, hY⟩ : ∃ Y, Y = sha BL := ⟨_, rfl⟩
  have lX : X.length = 32 := by rw [hX]; exact sha_length _
  have lY : Y.length = 32 := by rw [hY]; exact sha_length _
  obtain ⟨L1, hL1⟩ : ∃ L : CL, L = [(X, AL)] := ⟨_, rfl⟩
  obtain ⟨L2, hL2⟩ : ∃ L : CL, L = putL 1000 L1 Y BL := ⟨_, rfl⟩
  obtain ⟨N8, hN8⟩ : ∃ N8, N8 = 8 * n := ⟨_, rfl⟩
  have hzn := Int.emod_nonneg bit (by decide : (65536 : Int) ≠ 0)
  have hzl := Int.emod_lt_of_pos bit (by decide : (0 : Int) < 65536)
  obtain ⟨z, hz⟩ : ∃ z : Nat, (z : Int) = bit % 65536 := ⟨(bit % 65536).toNat, by omega⟩
  obtain ⟨j, hj⟩ : ∃ j, j = z % N8 := ⟨_, rfl⟩
  have hNp : 0 < N8 := by omega
  have hn100 : n ≤ 100 := by omega
  have hm100 : m ≤ 100 := by omega
  have hNb : N8 ≤ 800 := by omega
  have hjN : j < N8 := by rw [hj]; exact Nat.mod_lt _ hNp
  have hj8 : j / 8 < n := by omega
  have hzb : z < 65536 := by omega
  obtain ⟨TL, hTL⟩ : ∃ T, T = Sl.flip AL j := ⟨_, rfl⟩
  obtain ⟨WS, hWS⟩ : ∃ S, S = sha TL := ⟨_, rfl⟩
  have lW : WS.length = 32 := by rw [hWS]; exact sha_length _
  have hTLn : TL.length = n := by rw [hTL, flip_length, HN.out]
  have HNW := Lib.hid (newC (st := st) (R := R) (lim := 1000) (l2 := 1000) (by decide) (by decide))
  have HP1 := Lib.hid (putC (st := st) (R := R) (lim := 1000) (L := []) (L' := L1) (b := AL) (S := X) hk hst hX (by rw [hL1]; exact (sp1 X AL hn1).symm) (by simp) (by simp [totL]) (by omega) (by decide))
  have HP2 := Lib.hid (putC (st := st) (R := R) (lim := 1000) (L := L1) (L' := L2) (b := BL) (S := Y) hk hst hY hL2 (by rw [hL1]; simp) (by rw [hL1]; simp [totL]; omega) (by omega) (by decide))
  have HIX : Hid ((Tryd.prog.info? 34).map (·.size) = some (bcells X).toArray.size) := Lib.hid (by rw [List.size_toArray, bcells_length, lX]; exact infoID)
  have HIY : Hid ((Tryd.prog.info? 34).map (·.size) = some (bcells Y).toArray.size) := Lib.hid (by rw [List.size_toArray, bcells_length, lY]; exact infoID)
  have HJX : Hid ((Tryd.prog.info? 34).map (·.size) = some (bcells X).length) := Lib.hid (by rw [bcells_length, lX]; exact infoID)
  have HJY : Hid ((Tryd.prog.info? 34).map (·.size) = some (bcells Y).length) := Lib.hid (by rw [bcells_length, lY]; exact infoID)
  have HTX : Hid (((bcells X).toArray.toList.drop 0).take (bcells X).length = bcells X) := Lib.hid (by simp)
  have HTY : Hid (((bcells Y).toArray.toList.drop 0).take (bcells Y).length = bcells Y) := Lib.hid (by simp)
  have HLX := Lib.hid lX
  have HLY := Lib.hid lY
  have HLW := Lib.hid lW
  obtain ⟨Z, hZ⟩ : ∃ Z, Z = (bcells (List.replicate 32 (0 : UInt8))).toArray := ⟨_, rfl⟩
  have HZI : Hid ((Tryd.prog.info? 34).map (·.zero) = some (some (.agg Z))) := Lib.hid (by rw [hZ]; exact zeroID)
  have HOX : Hid (Z.size = (bcells X).toArray.size) := Lib.hid (by rw [hZ]; simp [bcells_length, lX])
  have HOY : Hid (Z.size = (bcells Y).toArray.size) := Lib.hid (by rw [hZ]; simp [bcells_length, lY])
  have E1 : Hid (bits .and .i64 bit 65535 = (z : Int)) := Lib.hid (by rw [i64_and16, hz])
  have E2 : Hid (binZ .mul .i64 8 (n : Int) = some (N8 : Int)) := Lib.hid (by rw [hN8]; exact bin_mul 8 n (by omega))
  have E3 : Hid (binZ .rem .i64 (z : Int) (N8 : Int) = some (j : Int)) := Lib.hid (by rw [hj]; exact bin_rem z N8 hNp)
  obtain ⟨OLD, hOLD⟩ : ∃ OLD, OLD = AL.getD (j / 8) 0 := ⟨_, rfl⟩
  obtain ⟨SH, hSHd⟩ : ∃ SH : UInt8, SH = (1 : UInt8) <<< UInt8.ofNat (j % 8) := ⟨_, rfl⟩
  obtain ⟨NEW, hNEW⟩ : ∃ NEW, NEW = OLD ^^^ SH := ⟨_, rfl⟩
  have HOLD : Hid ((bcells AL)[j / 8]? = some (.int .u8 (OLD.toNat : Int))) := Lib.hid (by rw [hOLD]; exact bgetD (by rw [← HN.out]; exact hj8))
  have HFL : Hid ((bcells AL).set (j / 8) (.int .u8 (NEW.toNat : Int)) = bcells TL) := Lib.hid (by rw [bcells_put, hNEW, hOLD, hSHd, hTL]; rfl)
  have HXO : Hid (bits .xor .u8 (OLD.toNat : Int) (SH.toNat : Int) = (NEW.toNat : Int)) := Lib.hid (by rw [hNEW]; exact xor8 _ _)
  have HSH : Hid (shZ .shl .u8 1 ((j % 8 : Nat) : Int) = some (SH.toNat : Int)) := Lib.hid (by rw [hSHd]; exact shl8 _ (by omega))
  have HSF : Hid (∀ F w, (∀ w, Has st F w → Has st R w) → ∀ A c, Sees st F 1 (.slice A n c) n (bcells TL) → Has st F w → Calls Tryd.prog 11 #[.slice A n c] w fun e w' => e = .returned (.agg (bcells WS).toArray) ∧ Has st F w') := Lib.hid fun F w hF A c hs hw => by
    rw [hWS]; rw [← hTLn] at hs ⊢
    exact refOf_any st F TL _ w hw hs (by omega)
  clear hzn hzl hz hj hOLD hSHd hNEW hZ h0 h1 h2 h3 h3'
  by_cases hXY : (X == Y) = true
  · have ZXY : Hid ((X == Y) = true) := Lib.hid hXY
    clear hXY hL2 hL1 hX hY hTL hWS lX lY lW hN8 hTLn hn0 hn1 hm1 hk hst
    go_enter Tryd.func7, Tryd.ntmps7
    go_wp2_with (first
      | (have _k := C1; go_at_call 13; have hq := HP2.out _ _ (.slice Ab m cb) _ (fun w h => h) (by rw [← HM.out]; exact HSB.out) C1.out; (with_reducible refine hq.mono ?_); clear hq; rintro e w9 ⟨rfl, h9⟩; have C2 := Lib.hid h9; clear h9)
      | (have _k := C0; go_at_call 13; have hq := HP1.out _ _ (.slice Aa n ca) _ (fun w h => h) (by rw [← HN.out]; exact HSA.out) C0.out; (with_reducible refine hq.mono ?_); clear hq; rintro e w9 ⟨rfl, h9⟩; have C1 := Lib.hid h9; clear h9)
      | (have _k := H0; go_at_call 10; refine (HNW.out _ H0.out).mono ?_; rintro e w9 ⟨p, rfl, h9⟩; have C0 := Lib.hid h9; clear h9)
      | (have _k := H0; go_at_call 16; refine (HSM.out _ H0.out).mono ?_; rintro e w9 ⟨rfl, rfl⟩)
      | (go_at_call 8; refine (HAV.out _ HH.out).mono ?_; rintro e w9 ⟨rfl, h9⟩; have H0 := Lib.hid h9; clear h9)
      | ((first | (with_reducible refine wpList_plain rfl ?_) | ((with_reducible refine wpList_yes _ _ rfl ?_ ?_); (focus rfl))); intro _ hk; (first
        | (refine opw_cmp .eql _ _ _ _ .i64 (n : Int) 0 false rfl rfl rfl Z1.out (hk _ _ ?_))
        | (refine opw_cmp .gtr _ _ _ _ .i64 (n : Int) 100 false rfl rfl rfl Z2.out (hk _ _ ?_))
        | (refine opw_cmp .gtr _ _ _ _ .i64 (m : Int) 100 false rfl rfl rfl Z3.out (hk _ _ ?_))
        | (have _k := C2; refine opw_alloc 34 (.agg Z) Z rfl HZI.out rfl C2.out (fun ix w9 hp h9 => hk _ _ ?_); clear hp; have A0 := Lib.hid h9; clear h9)
        | (have _k := A0; refine opw_alloc 34 (.agg Z) Z rfl HZI.out rfl A0.out (fun iy w9 hp h9 => hk _ _ ?_); clear hp; have A1 := Lib.hid h9; clear h9)
        | (have _k := A1; refine opw_storeRow 34 _ _ rfl ix (bcells X).toArray rfl rfl 34 Z HIX.out HOX.out (bcells_all _) A1.out.second (fun w9 h9 => hk _ _ ?_); have T1 := Lib.hid h9.second; clear h9)
        | (have _k := T1; refine opw_storeRow 34 _ _ rfl iy (bcells Y).toArray rfl rfl 34 Z HIY.out HOY.out (bcells_all _) T1.out (fun w9 h9 => hk _ _ ?_); have T2 := Lib.hid (h9.cast (show _ = sep (cacheA p L2 1000) (sep (blk ix (.cells (bcells X).toArray 34 (0, 0))) (sep (blk iy (.cells (bcells Y).toArray 34 (0, 0))) R)) by ac_rfl)); clear h9)
        | (have _k := T2; refine opw_row0 30 5 1 rfl Tryd.underlying30 infosz T2.out (fun v9 w9 h9 => hk _ _ ?_); have U0 := Lib.hid h9; clear h9)
        | (have _k := U0; refine op_append _ _ 30 5 1 1 (.int .u8 0) rfl Tryd.underlying30 infoB rfl (by decide) rfl rfl U0.out (HSA.out _ U0.out.right.right.right.right) (bcells_one AL) (by unfold maxLen; omega) (by omega) (fun At ct w9 h9 => hk _ _ ?_); rw [List.nil_append] at h9; rw [Nat.zero_add] at h9 ⊢; obtain ⟨gt, rfl⟩ := h9.row_at (by omega); have U1 := Lib.hid h9; clear h9)
        | (refine opw_bits .and _ _ _ _ .i64 bit 65535 (z : Int) (.inl rfl) rfl rfl rfl E1.out (hk _ _ ?_))
        | (refine opw_bin .mul _ _ _ _ .i64 8 (n : Int) (N8 : Int) rfl rfl rfl E2.out (hk _ _ ?_))
        | (refine opw_bin .rem _ _ _ _ .i64 (z : Int) (N8 : Int) (j : Int) rfl rfl rfl E3.out (hk _ _ ?_))); simp only [Act.put, List.setIfInBounds_toArray, List.set_cons_zero, List.set_cons_succ]))
    refine wp_region_inv3 (fun L u w' => Slots (fun kk => ([some (.slice (some ⟨gt, 0, none⟩) n ct), some (.int .i64 ((j : Nat) : Int)), some (.int .i64 (((j / 8) : Nat) : Int)), some (.pointer (some ⟨gt, j / 8, none⟩)), some (.int .u8 ((OLD).toNat : Int)), some (.int .i64 ((j : Nat) : Int)), some (.int .i64 (((j % 8) : Nat) : Int)), some (.int .u8 ((SH).toNat : Int)), some (.int .u8 ((NEW).toNat : Int)), some (.pointer (some ⟨gt, j / 8, none⟩)), none] : List (Option Value)).getD kk none) L u ∧ Has st (sep (stg (L 10) (row 5 1 (.slice (some ⟨gt, 0, none⟩) n ct) n (bcells TL)) (row 5 1 (.slice (some ⟨gt, 0, none⟩) n ct) n (bcells AL))) (sep (cacheA p L2 1000) (sep (blk ix (.cells (bcells X).toArray 34 (0, 0))) (sep (blk iy (.cells (bcells Y).toArray 34 (0, 0))) R)))) w') (by kernel_rfl) (by decide +kernel) (by decide +kernel) (by kernel_rfl) (by kernel_rfl) (fun u => ⟨Slots.start _ u, (show Has st (sep (stg false (row 5 1 (.slice (some ⟨gt, 0, none⟩) n ct) n (bcells TL)) (row 5 1 (.slice (some ⟨gt, 0, none⟩) n ct) n (bcells AL))) (sep (cacheA p L2 1000) (sep (blk ix (.cells (bcells X).toArray 34 (0, 0))) (sep (blk iy (.cells (bcells Y).toArray 34 (0, 0))) R)))) _ from U1.out.drew.cast (by first | (simp only [stg_no, emp_sep]; done) | (simp only [stg_no, emp_sep]; ac_rfl)))⟩) ?_ ?_
    · refine ⟨?_, ?_, ?_, ?_, ?_, ?_, ?_, ?_, ?_, ?_, ?_, trivial⟩
      · refine RegStep3.plain rfl ?_; rintro L u w1 bA hL hW hD hU ⟨hS, hH⟩ hin hout; exact opw_move _ _ (.inl rfl) ((hout 10 (by kernel_rfl)).trans (by kernel_rfl)) ⟨_, rfl, hS.step 0 _ (.inr rfl), hH⟩
      · refine RegStep3.plain rfl ?_; rintro L u w1 bA hL hW hD hU ⟨hS, hH⟩ hin hout; exact opw_move _ _ (.inl rfl) ((hout 11 (by kernel_rfl)).trans (by kernel_rfl)) ⟨_, rfl, hS.step 1 _ (.inr rfl), hH⟩
      · refine RegStep3.plain rfl ?_; rintro L u w1 bA hL hW hD hU ⟨hS, hH⟩ hin hout; exact opw_bin .quo _ _ _ _ .i64 _ _ _ rfl ((hin 1 60 rfl).trans (hS 1 _ rfl (hW.of 1 (by decide)))) rfl (bin_quo (j) (8) (by decide) (by omega)) ⟨_, rfl, hS.step 2 _ (.inr rfl), hH⟩
      · refine RegStep3.plain rfl ?_; rintro L u w1 bA hL hW hD hU ⟨hS, hH⟩ hin hout; exact opw_index0 _ _ _ _ rfl Tryd.underlying30 infosz gt n ct (j / 8) ((hin 0 59 rfl).trans (hS 0 _ rfl (hW.of 0 (by decide)))) .i64 ((hin 2 61 rfl).trans (hS 2 _ rfl (hW.of 2 (by decide)))) hj8 ⟨_, rfl, hS.step 3 _ (.inr rfl), hH⟩
      · refine RegStep3.plain rfl ?_; rintro L u w1 bA hL hW hD hU ⟨hS, hH⟩ hin hout; exact opw_load1 _ _ rfl _ Tryd.underlying5 rfl _ _ ((hin 3 62 rfl).trans (hS 3 _ rfl (hW.of 3 (by decide)))) (row_cell ((hH.stg_no (hD.nots 11 10 4 hL (by decide +kernel)))) HOLD.out) ⟨_, rfl, hS.step 4 _ (.inr rfl), hH⟩
      · refine RegStep3.plain rfl ?_; rintro L u w1 bA hL hW hD hU ⟨hS, hH⟩ hin hout; exact opw_move _ _ (.inl rfl) ((hout 11 (by kernel_rfl)).trans (by kernel_rfl)) ⟨_, rfl, hS.step 5 _ (.inr rfl), hH⟩
      · refine RegStep3.plain rfl ?_; rintro L u w1 bA hL hW hD hU ⟨hS, hH⟩ hin hout; exact opw_bin .rem _ _ _ _ .i64 _ _ _ rfl ((hin 5 64 rfl).trans (hS 5 _ rfl (hW.of 5 (by decide)))) rfl (bin_rem (j) (8) (by decide)) ⟨_, rfl, hS.step 6 _ (.inr rfl), hH⟩
      · refine RegStep3.plain rfl ?_; rintro L u w1 bA hL hW hD hU ⟨hS, hH⟩ hin hout; exact opw_shift .shl _ _ _ _ .u8 .i64 _ _ _ rfl rfl ((hin 6 65 rfl).trans (hS 6 _ rfl (hW.of 6 (by decide)))) HSH.out ⟨_, rfl, hS.step 7 _ (.inr rfl), hH⟩
      · refine RegStep3.plain rfl ?_; rintro L u w1 bA hL hW hD hU ⟨hS, hH⟩ hin hout; exact opw_bits .xor _ _ _ _ .u8 _ _ _ (.inr (.inr rfl)) rfl ((hin 4 63 rfl).trans (hS 4 _ rfl (hW.of 4 (by decide)))) ((hin 7 66 rfl).trans (hS 7 _ rfl (hW.of 7 (by decide)))) HXO.out ⟨_, rfl, hS.step 8 _ (.inr rfl), hH⟩
      · refine RegStep3.plain rfl ?_; rintro L u w1 bA hL hW hD hU ⟨hS, hH⟩ hin hout; exact opw_index0 _ _ _ _ rfl Tryd.underlying30 infosz gt n ct (j / 8) ((hin 0 59 rfl).trans (hS 0 _ rfl (hW.of 0 (by decide)))) .i64 ((hin 2 61 rfl).trans (hS 2 _ rfl (hW.of 2 (by decide)))) hj8 ⟨_, rfl, hS.step 9 _ (.inr rfl), hH⟩
      · refine RegStep3.plain rfl ?_; rintro L u w1 bA hL hW hD hU ⟨hS, hH⟩ hin hout; exact opw_storeSl _ _ _ rfl infosz gt (j / 8) (.int .u8 (NEW.toNat : Int)) ((hin 9 68 rfl).trans (hS 9 _ rfl (hW.of 9 (by decide)))) ((hin 8 67 rfl).trans (hS 8 _ rfl (hW.of 8 (by decide)))) rfl (hH.stg_no hL) hj8 (fun w4 h4 => ⟨_, rfl, hS.step 10 _ (.inl rfl), (show Has st (sep (stg true (row 5 1 (.slice (some ⟨gt, 0, none⟩) n ct) n (bcells TL)) (row 5 1 (.slice (some ⟨gt, 0, none⟩) n ct) n (bcells AL))) (sep (cacheA p L2 1000) (sep (blk ix (.cells (bcells X).toArray 34 (0, 0))) (sep (blk iy (.cells (bcells Y).toArray 34 (0, 0))) R)))) w4 from (((h4.cast (by rw [HFL.out])).stg_mk (Q := (row 5 1 (.slice (some ⟨gt, 0, none⟩) n ct) n (bcells AL))))).cast (by ac_rfl))⟩)
    intro L u wu hL ⟨hS, hH⟩
    have E0 := hS 0 _ rfl (hL 0 (by decide))
    have E1 := hS 1 _ rfl (hL 1 (by decide))
    have E2 := hS 2 _ rfl (hL 2 (by decide))
    have E3 := hS 3 _ rfl (hL 3 (by decide))
    have E4 := hS 4 _ rfl (hL 4 (by decide))
    have E5 := hS 5 _ rfl (hL 5 (by decide))
    have E6 := hS 6 _ rfl (hL 6 (by decide))
    have E7 := hS 7 _ rfl (hL 7 (by decide))
    have E8 := hS 8 _ rfl (hL 8 (by decide))
    have E9 := hS 9 _ rfl (hL 9 (by decide))
    simp only [hL 10 (by decide), stg_true, emp_sep] at hH
    simp only [frame_cons, frame_nil, E0, E1, E2, E3, E4, E5, E6, E7, E8, E9, Act.put, List.setIfInBounds_toArray, List.set_cons_zero, List.set_cons_succ]
    clear hL hS E0 E1 E2 E3 E4 E5 E6 E7 E8 E9
    have Hu := Lib.hid hH
    clear hH U1 U0 T1 T2 A0 A1 C0 C1 C2
    go_wp2_with fail
    refine wp_region_inv3 (fun L u w' => Slots (fun kk => ([some (.agg (bcells X).toArray), some (.agg (bcells Y).toArray), some (.bool true), some (.bool true), some undef, some undef, some undef, some undef, some (.bool true)] : List (Option Value)).getD kk none) L u ∧ Has st (sep (row 5 1 (.slice (some ⟨gt, 0, none⟩) n ct) n (bcells TL)) (sep (cacheA p L2 1000) (sep (blk ix (.cells (bcells X).toArray 34 (0, 0))) (sep (blk iy (.cells (bcells Y).toArray 34 (0, 0))) R)))) w') (by kernel_rfl) (by decide +kernel) (by decide +kernel) (by kernel_rfl) (by kernel_rfl) (fun u => ⟨Slots.start _ u, Hu.out.drew⟩) ?_ ?_
    · refine ⟨?_, ?_, ?_, ?_, ?_, ?_, ?_, ?_, ?_, trivial⟩
      · refine RegStep3.plain rfl ?_; rintro L u w1 bA hL hW hD hU ⟨hS, hH⟩ hin hout; exact opw_loadMid _ _ rfl ix (0) ((hout 8 (by kernel_rfl)).trans (by kernel_rfl)) (bcells X) _ Tryd.underlying34 rfl HJX.out hH.third HTX.out ⟨_, rfl, hS.step 0 _ (.inr rfl), hH⟩
      · refine RegStep3.plain rfl ?_; rintro L u w1 bA hL hW hD hU ⟨hS, hH⟩ hin hout; exact opw_loadMid _ _ rfl iy (0) ((hout 9 (by kernel_rfl)).trans (by kernel_rfl)) (bcells Y) _ Tryd.underlying34 rfl HJY.out hH.fourth HTY.out ⟨_, rfl, hS.step 1 _ (.inr rfl), hH⟩
      · refine RegStep3.plain rfl ?_; rintro L u w1 bA hL hW hD hU ⟨hS, hH⟩ hin hout; exact opw_eqRow _ _ 5 32 _ _ X Y Tryd.underlying34 Tryd.underlying5 infosz (by kernel_rfl) HLX.out HLY.out rfl ((hin 0 69 rfl).trans (hS 0 _ rfl (hW.of 0 (by decide)))) ((hin 1 70 rfl).trans (hS 1 _ rfl (hW.of 1 (by decide)))) true ZXY.out ⟨_, rfl, hS.step 2 _ (.inr rfl), hH⟩
      · refine RegStep3.plain rfl ?_; rintro L u w1 bA hL hW hD hU ⟨hS, hH⟩ hin hout; exact opw_move _ _ (.inl rfl) ((hin 2 71 rfl).trans (hS 2 _ rfl (hW.of 2 (by decide)))) ⟨_, rfl, hS.step 3 _ (.inr rfl), hH⟩
      · refine RegStep3.no 3 false rfl ?_; rintro L u w1 hL hW hD ⟨hS, hH⟩; exact ⟨hS 3 _ rfl (hW.of 3 (by decide)), hS.step 4 _ (.inr rfl), hH⟩
      · refine RegStep3.no 3 false rfl ?_; rintro L u w1 hL hW hD ⟨hS, hH⟩; exact ⟨hS 3 _ rfl (hW.of 3 (by decide)), hS.step 5 _ (.inr rfl), hH⟩
      · refine RegStep3.no 3 false rfl ?_; rintro L u w1 hL hW hD ⟨hS, hH⟩; exact ⟨hS 3 _ rfl (hW.of 3 (by decide)), hS.step 6 _ (.inr rfl), hH⟩
      · refine RegStep3.no 3 false rfl ?_; rintro L u w1 hL hW hD ⟨hS, hH⟩; exact ⟨hS 3 _ rfl (hW.of 3 (by decide)), hS.step 7 _ (.inr rfl), hH⟩
      · refine RegStep3.plain rfl ?_; rintro L u w1 bA hL hW hD hU ⟨hS, hH⟩ hin hout; exact opw_pickT _ _ _ _ rfl ((hin 3 72 rfl).trans (hS 3 _ rfl (hW.of 3 (by decide)))) rfl ⟨_, rfl, hS.step 8 _ (.inr rfl), hH⟩
    intro L u wv hL ⟨hS, hH⟩
    have E0 := hS 0 _ rfl (hL 0 (by decide))
    have E1 := hS 1 _ rfl (hL 1 (by decide))
    have E2 := hS 2 _ rfl (hL 2 (by decide))
    have E3 := hS 3 _ rfl (hL 3 (by decide))
    have E4 := hS 4 _ rfl (hL 4 (by decide))
    have E5 := hS 5 _ rfl (hL 5 (by decide))
    have E6 := hS 6 _ rfl (hL 6 (by decide))
    have E7 := hS 7 _ rfl (hL 7 (by decide))
    have E8 := hS 8 _ rfl (hL 8 (by decide))
    simp only [frame_cons, frame_nil, E0, E1, E2, E3, E4, E5, E6, E7, E8, Act.put, List.setIfInBounds_toArray, List.set_cons_zero, List.set_cons_succ]
    clear hL hS E0 E1 E2 E3 E4 E5 E6 E7 E8
    have Hv := Lib.hid hH
    clear hH Hu
    go_wp2
    go_ret
    exact ⟨rfl, Hv.out.right.right.right.right⟩
  · have hXY' : (X == Y) = false := by simpa using hXY
    have ZXY : Hid ((X == Y) = false) := Lib.hid hXY'
    by_cases hWX : (WS == X) = true
    · have ZWX : Hid ((WS == X) = true) := Lib.hid hWX
      clear hXY hXY' hWX hL2 hL1 hX hY hTL hWS lX lY lW hN8 hTLn hn0 hn1 hm1 hk hst
      go_enter Tryd.func7, Tryd.ntmps7
      go_wp2_with (first
        | (have _k := C1; go_at_call 13; have hq := HP2.out _ _ (.slice Ab m cb) _ (fun w h => h) (by rw [← HM.out]; exact HSB.out) C1.out; (with_reducible refine hq.mono ?_); clear hq; rintro e w9 ⟨rfl, h9⟩; have C2 := Lib.hid h9; clear h9)
        | (have _k := C0; go_at_call 13; have hq := HP1.out _ _ (.slice Aa n ca) _ (fun w h => h) (by rw [← HN.out]; exact HSA.out) C0.out; (with_reducible refine hq.mono ?_); clear hq; rintro e w9 ⟨rfl, h9⟩; have C1 := Lib.hid h9; clear h9)
        | (have _k := H0; go_at_call 10; refine (HNW.out _ H0.out).mono ?_; rintro e w9 ⟨p, rfl, h9⟩; have C0 := Lib.hid h9; clear h9)
        | (have _k := H0; go_at_call 16; refine (HSM.out _ H0.out).mono ?_; rintro e w9 ⟨rfl, rfl⟩)
        | (go_at_call 8; refine (HAV.out _ HH.out).mono ?_; rintro e w9 ⟨rfl, h9⟩; have H0 := Lib.hid h9; clear h9)
        | ((first | (with_reducible refine wpList_plain rfl ?_) | ((with_reducible refine wpList_yes _ _ rfl ?_ ?_); (focus rfl))); intro _ hk; (first
          | (refine opw_cmp .eql _ _ _ _ .i64 (n : Int) 0 false rfl rfl rfl Z1.out (hk _ _ ?_))
          | (refine opw_cmp .gtr _ _ _ _ .i64 (n : Int) 100 false rfl rfl rfl Z2.out (hk _ _ ?_))
          | (refine opw_cmp .gtr _ _ _ _ .i64 (m : Int) 100 false rfl rfl rfl Z3.out (hk _ _ ?_))
          | (have _k := C2; refine opw_alloc 34 (.agg Z) Z rfl HZI.out rfl C2.out (fun ix w9 hp h9 => hk _ _ ?_); clear hp; have A0 := Lib.hid h9; clear h9)
          | (have _k := A0; refine opw_alloc 34 (.agg Z) Z rfl HZI.out rfl A0.out (fun iy w9 hp h9 => hk _ _ ?_); clear hp; have A1 := Lib.hid h9; clear h9)
          | (have _k := A1; refine opw_storeRow 34 _ _ rfl ix (bcells X).toArray rfl rfl 34 Z HIX.out HOX.out (bcells_all _) A1.out.second (fun w9 h9 => hk _ _ ?_); have T1 := Lib.hid h9.second; clear h9)
          | (have _k := T1; refine opw_storeRow 34 _ _ rfl iy (bcells Y).toArray rfl rfl 34 Z HIY.out HOY.out (bcells_all _) T1.out (fun w9 h9 => hk _ _ ?_); have T2 := Lib.hid (h9.cast (show _ = sep (cacheA p L2 1000) (sep (blk ix (.cells (bcells X).toArray 34 (0, 0))) (sep (blk iy (.cells (bcells Y).toArray 34 (0, 0))) R)) by ac_rfl)); clear h9)
          | (have _k := T2; refine opw_row0 30 5 1 rfl Tryd.underlying30 infosz T2.out (fun v9 w9 h9 => hk _ _ ?_); have U0 := Lib.hid h9; clear h9)
          | (have _k := U0; refine op_append _ _ 30 5 1 1 (.int .u8 0) rfl Tryd.underlying30 infoB rfl (by decide) rfl rfl U0.out (HSA.out _ U0.out.right.right.right.right) (bcells_one AL) (by unfold maxLen; omega) (by omega) (fun At ct w9 h9 => hk _ _ ?_); rw [List.nil_append] at h9; rw [Nat.zero_add] at h9 ⊢; obtain ⟨gt, rfl⟩ := h9.row_at (by omega); have U1 := Lib.hid h9; clear h9)
          | (refine opw_bits .and _ _ _ _ .i64 bit 65535 (z : Int) (.inl rfl) rfl rfl rfl E1.out (hk _ _ ?_))
          | (refine opw_bin .mul _ _ _ _ .i64 8 (n : Int) (N8 : Int) rfl rfl rfl E2.out (hk _ _ ?_))
          | (refine opw_bin .rem _ _ _ _ .i64 (z : Int) (N8 : Int) (j : Int) rfl rfl rfl E3.out (hk _ _ ?_))); simp only [Act.put, List.setIfInBounds_toArray, List.set_cons_zero, List.set_cons_succ]))
      refine wp_region_inv3 (fun L u w' => Slots (fun kk => ([some (.slice (some ⟨gt, 0, none⟩) n ct), some (.int .i64 ((j : Nat) : Int)), some (.int .i64 (((j / 8) : Nat) : Int)), some (.pointer (some ⟨gt, j / 8, none⟩)), some (.int .u8 ((OLD).toNat : Int)), some (.int .i64 ((j : Nat) : Int)), some (.int .i64 (((j % 8) : Nat) : Int)), some (.int .u8 ((SH).toNat : Int)), some (.int .u8 ((NEW).toNat : Int)), some (.pointer (some ⟨gt, j / 8, none⟩)), none] : List (Option Value)).getD kk none) L u ∧ Has st (sep (stg (L 10) (row 5 1 (.slice (some ⟨gt, 0, none⟩) n ct) n (bcells TL)) (row 5 1 (.slice (some ⟨gt, 0, none⟩) n ct) n (bcells AL))) (sep (cacheA p L2 1000) (sep (blk ix (.cells (bcells X).toArray 34 (0, 0))) (sep (blk iy (.cells (bcells Y).toArray 34 (0, 0))) R)))) w') (by kernel_rfl) (by decide +kernel) (by decide +kernel) (by kernel_rfl) (by kernel_rfl) (fun u => ⟨Slots.start _ u, (show Has st (sep (stg false (row 5 1 (.slice (some ⟨gt, 0, none⟩) n ct) n (bcells TL)) (row 5 1 (.slice (some ⟨gt, 0, none⟩) n ct) n (bcells AL))) (sep (cacheA p L2 1000) (sep (blk ix (.cells (bcells X).toArray 34 (0, 0))) (sep (blk iy (.cells (bcells Y).toArray 34 (0, 0))) R)))) _ from U1.out.drew.cast (by first | (simp only [stg_no, emp_sep]; done) | (simp only [stg_no, emp_sep]; ac_rfl)))⟩) ?_ ?_
      · refine ⟨?_, ?_, ?_, ?_, ?_, ?_, ?_, ?_, ?_, ?_, ?_, trivial⟩
        · refine RegStep3.plain rfl ?_; rintro L u w1 bA hL hW hD hU ⟨hS, hH⟩ hin hout; exact opw_move _ _ (.inl rfl) ((hout 10 (by kernel_rfl)).trans (by kernel_rfl)) ⟨_, rfl, hS.step 0 _ (.inr rfl), hH⟩
        · refine RegStep3.plain rfl ?_; rintro L u w1 bA hL hW hD hU ⟨hS, hH⟩ hin hout; exact opw_move _ _ (.inl rfl) ((hout 11 (by kernel_rfl)).trans (by kernel_rfl)) ⟨_, rfl, hS.step 1 _ (.inr rfl), hH⟩
        · refine RegStep3.plain rfl ?_; rintro L u w1 bA hL hW hD hU ⟨hS, hH⟩ hin hout; exact opw_bin .quo _ _ _ _ .i64 _ _ _ rfl ((hin 1 60 rfl).trans (hS 1 _ rfl (hW.of 1 (by decide)))) rfl (bin_quo (j) (8) (by decide) (by omega)) ⟨_, rfl, hS.step 2 _ (.inr rfl), hH⟩
        · refine RegStep3.plain rfl ?_; rintro L u w1 bA hL hW hD hU ⟨hS, hH⟩ hin hout; exact opw_index0 _ _ _ _ rfl Tryd.underlying30 infosz gt n ct (j / 8) ((hin 0 59 rfl).trans (hS 0 _ rfl (hW.of 0 (by decide)))) .i64 ((hin 2 61 rfl).trans (hS 2 _ rfl (hW.of 2 (by decide)))) hj8 ⟨_, rfl, hS.step 3 _ (.inr rfl), hH⟩
        · refine RegStep3.plain rfl ?_; rintro L u w1 bA hL hW hD hU ⟨hS, hH⟩ hin hout; exact opw_load1 _ _ rfl _ Tryd.underlying5 rfl _ _ ((hin 3 62 rfl).trans (hS 3 _ rfl (hW.of 3 (by decide)))) (row_cell ((hH.stg_no (hD.nots 11 10 4 hL (by decide +kernel)))) HOLD.out) ⟨_, rfl, hS.step 4 _ (.inr rfl), hH⟩
        · refine RegStep3.plain rfl ?_; rintro L u w1 bA hL hW hD hU ⟨hS, hH⟩ hin hout; exact opw_move _ _ (.inl rfl) ((hout 11 (by kernel_rfl)).trans (by kernel_rfl)) ⟨_, rfl, hS.step 5 _ (.inr rfl), hH⟩
        · refine RegStep3.plain rfl ?_; rintro L u w1 bA hL hW hD hU ⟨hS, hH⟩ hin hout; exact opw_bin .rem _ _ _ _ .i64 _ _ _ rfl ((hin 5 64 rfl).trans (hS 5 _ rfl (hW.of 5 (by decide)))) rfl (bin_rem (j) (8) (by decide)) ⟨_, rfl, hS.step 6 _ (.inr rfl), hH⟩
        · refine RegStep3.plain rfl ?_; rintro L u w1 bA hL hW hD hU ⟨hS, hH⟩ hin hout; exact opw_shift .shl _ _ _ _ .u8 .i64 _ _ _ rfl rfl ((hin 6 65 rfl).trans (hS 6 _ rfl (hW.of 6 (by decide)))) HSH.out ⟨_, rfl, hS.step 7 _ (.inr rfl), hH⟩
        · refine RegStep3.plain rfl ?_; rintro L u w1 bA hL hW hD hU ⟨hS, hH⟩ hin hout; exact opw_bits .xor _ _ _ _ .u8 _ _ _ (.inr (.inr rfl)) rfl ((hin 4 63 rfl).trans (hS 4 _ rfl (hW.of 4 (by decide)))) ((hin 7 66 rfl).trans (hS 7 _ rfl (hW.of 7 (by decide)))) HXO.out ⟨_, rfl, hS.step 8 _ (.inr rfl), hH⟩
        · refine RegStep3.plain rfl ?_; rintro L u w1 bA hL hW hD hU ⟨hS, hH⟩ hin hout; exact opw_index0 _ _ _ _ rfl Tryd.underlying30 infosz gt n ct (j / 8) ((hin 0 59 rfl).trans (hS 0 _ rfl (hW.of 0 (by decide)))) .i64 ((hin 2 61 rfl).trans (hS 2 _ rfl (hW.of 2 (by decide)))) hj8 ⟨_, rfl, hS.step 9 _ (.inr rfl), hH⟩
        · refine RegStep3.plain rfl ?_; rintro L u w1 bA hL hW hD hU ⟨hS, hH⟩ hin hout; exact opw_storeSl _ _ _ rfl infosz gt (j / 8) (.int .u8 (NEW.toNat : Int)) ((hin 9 68 rfl).trans (hS 9 _ rfl (hW.of 9 (by decide)))) ((hin 8 67 rfl).trans (hS 8 _ rfl (hW.of 8 (by decide)))) rfl (hH.stg_no hL) hj8 (fun w4 h4 => ⟨_, rfl, hS.step 10 _ (.inl rfl), (show Has st (sep (stg true (row 5 1 (.slice (some ⟨gt, 0, none⟩) n ct) n (bcells TL)) (row 5 1 (.slice (some ⟨gt, 0, none⟩) n ct) n (bcells AL))) (sep (cacheA p L2 1000) (sep (blk ix (.cells (bcells X).toArray 34 (0, 0))) (sep (blk iy (.cells (bcells Y).toArray 34 (0, 0))) R)))) w4 from (((h4.cast (by rw [HFL.out])).stg_mk (Q := (row 5 1 (.slice (some ⟨gt, 0, none⟩) n ct) n (bcells AL))))).cast (by ac_rfl))⟩)
      intro L u wu hL ⟨hS, hH⟩
      have E0 := hS 0 _ rfl (hL 0 (by decide))
      have E1 := hS 1 _ rfl (hL 1 (by decide))
      have E2 := hS 2 _ rfl (hL 2 (by decide))
      have E3 := hS 3 _ rfl (hL 3 (by decide))
      have E4 := hS 4 _ rfl (hL 4 (by decide))
      have E5 := hS 5 _ rfl (hL 5 (by decide))
      have E6 := hS 6 _ rfl (hL 6 (by decide))
      have E7 := hS 7 _ rfl (hL 7 (by decide))
      have E8 := hS 8 _ rfl (hL 8 (by decide))
      have E9 := hS 9 _ rfl (hL 9 (by decide))
      simp only [hL 10 (by decide), stg_true, emp_sep] at hH
      simp only [frame_cons, frame_nil, E0, E1, E2, E3, E4, E5, E6, E7, E8, E9, Act.put, List.setIfInBounds_toArray, List.set_cons_zero, List.set_cons_succ]
      clear hL hS E0 E1 E2 E3 E4 E5 E6 E7 E8 E9
      have Hu := Lib.hid hH
      clear hH U1 U0 T1 T2 A0 A1 C0 C1 C2
      go_wp2_with fail
      refine wp_region_inv3 (fun L u w' => Slots (fun kk => ([some (.agg (bcells X).toArray), some (.agg (bcells Y).toArray), some (.bool false), some (.bool false), some (.slice (some ⟨gt, 0, none⟩) n ct), some (.agg (bcells WS).toArray), some (.agg (bcells X).toArray), some (.bool true), some (.bool true)] : List (Option Value)).getD kk none) L u ∧ Has st (sep (row 5 1 (.slice (some ⟨gt, 0, none⟩) n ct) n (bcells TL)) (sep (cacheA p L2 1000) (sep (blk ix (.cells (bcells X).toArray 34 (0, 0))) (sep (blk iy (.cells (bcells Y).toArray 34 (0, 0))) R)))) w') (by kernel_rfl) (by decide +kernel) (by decide +kernel) (by kernel_rfl) (by kernel_rfl) (fun u => ⟨Slots.start _ u, Hu.out.drew⟩) ?_ ?_
      · refine ⟨?_, ?_, ?_, ?_, ?_, ?_, ?_, ?_, ?_, trivial⟩
        · refine RegStep3.plain rfl ?_; rintro L u w1 bA hL hW hD hU ⟨hS, hH⟩ hin hout; exact opw_loadMid _ _ rfl ix (0) ((hout 8 (by kernel_rfl)).trans (by kernel_rfl)) (bcells X) _ Tryd.underlying34 rfl HJX.out hH.third HTX.out ⟨_, rfl, hS.step 0 _ (.inr rfl), hH⟩
        · refine RegStep3.plain rfl ?_; rintro L u w1 bA hL hW hD hU ⟨hS, hH⟩ hin hout; exact opw_loadMid _ _ rfl iy (0) ((hout 9 (by kernel_rfl)).trans (by kernel_rfl)) (bcells Y) _ Tryd.underlying34 rfl HJY.out hH.fourth HTY.out ⟨_, rfl, hS.step 1 _ (.inr rfl), hH⟩
        · refine RegStep3.plain rfl ?_; rintro L u w1 bA hL hW hD hU ⟨hS, hH⟩ hin hout; exact opw_eqRow _ _ 5 32 _ _ X Y Tryd.underlying34 Tryd.underlying5 infosz (by kernel_rfl) HLX.out HLY.out rfl ((hin 0 69 rfl).trans (hS 0 _ rfl (hW.of 0 (by decide)))) ((hin 1 70 rfl).trans (hS 1 _ rfl (hW.of 1 (by decide)))) false ZXY.out ⟨_, rfl, hS.step 2 _ (.inr rfl), hH⟩
        · refine RegStep3.plain rfl ?_; rintro L u w1 bA hL hW hD hU ⟨hS, hH⟩ hin hout; exact opw_move _ _ (.inl rfl) ((hin 2 71 rfl).trans (hS 2 _ rfl (hW.of 2 (by decide)))) ⟨_, rfl, hS.step 3 _ (.inr rfl), hH⟩
        · refine RegStep3.yes 3 false rfl (fun L u w1 hW hI => hI.1 3 _ rfl (hW.of 3 (by decide))) ?_; rintro L u w1 bA hL hW hD hU ⟨hS, hH⟩ hin hout; exact opw_move _ _ (.inl rfl) ((hout 10 (by kernel_rfl)).trans (by kernel_rfl)) ⟨_, rfl, hS.step 4 _ (.inr rfl), hH⟩
        · refine RegStep3.yes 3 false rfl (fun L u w1 hW hI => hI.1 3 _ rfl (hW.of 3 (by decide))) ?_; rintro L u w1 bA hL hW hD hU ⟨hS, hH⟩ hin hout; exact opw_call_ret _ _ _ [(.slice (some ⟨gt, 0, none⟩) n ct)] rfl (by kernel_rfl) (list2 ((hin 4 73 rfl).trans (hS 4 _ rfl (hW.of 4 (by decide)))) rfl) (HSF.out _ w1 (fun w h => h.right.right.right.right) _ _ (fun w h => Rd.of_row h.ownsRow) hH) (fun e w2 he => by obtain ⟨rfl, h2⟩ := he; exact ⟨_, rfl, _, rfl, hS.step 5 _ (.inr rfl), h2⟩)
        · refine RegStep3.yes 3 false rfl (fun L u w1 hW hI => hI.1 3 _ rfl (hW.of 3 (by decide))) ?_; rintro L u w1 bA hL hW hD hU ⟨hS, hH⟩ hin hout; exact opw_loadMid _ _ rfl ix (0) ((hout 8 (by kernel_rfl)).trans (by kernel_rfl)) (bcells X) _ Tryd.underlying34 rfl HJX.out hH.third HTX.out ⟨_, rfl, hS.step 6 _ (.inr rfl), hH⟩
        · refine RegStep3.yes 3 false rfl (fun L u w1 hW hI => hI.1 3 _ rfl (hW.of 3 (by decide))) ?_; rintro L u w1 bA hL hW hD hU ⟨hS, hH⟩ hin hout; exact opw_eqRow _ _ 5 32 _ _ WS X Tryd.underlying34 Tryd.underlying5 infosz (by kernel_rfl) HLW.out HLX.out rfl ((hin 5 74 rfl).trans (hS 5 _ rfl (hW.of 5 (by decide)))) ((hin 6 75 rfl).trans (hS 6 _ rfl (hW.of 6 (by decide)))) true ZWX.out ⟨_, rfl, hS.step 7 _ (.inr rfl), hH⟩
        · refine RegStep3.plain rfl ?_; rintro L u w1 bA hL hW hD hU ⟨hS, hH⟩ hin hout; exact opw_pickF _ _ _ _ rfl ((hin 3 72 rfl).trans (hS 3 _ rfl (hW.of 3 (by decide)))) ((hin 7 76 rfl).trans (hS 7 _ rfl (hW.of 7 (by decide)))) ⟨_, rfl, hS.step 8 _ (.inr rfl), hH⟩
      intro L u wv hL ⟨hS, hH⟩
      have E0 := hS 0 _ rfl (hL 0 (by decide))
      have E1 := hS 1 _ rfl (hL 1 (by decide))
      have E2 := hS 2 _ rfl (hL 2 (by decide))
      have E3 := hS 3 _ rfl (hL 3 (by decide))
      have E4 := hS 4 _ rfl (hL 4 (by decide))
      have E5 := hS 5 _ rfl (hL 5 (by decide))
      have E6 := hS 6 _ rfl (hL 6 (by decide))
      have E7 := hS 7 _ rfl (hL 7 (by decide))
      have E8 := hS 8 _ rfl (hL 8 (by decide))
      simp only [frame_cons, frame_nil, E0, E1, E2, E3, E4, E5, E6, E7, E8, Act.put, List.setIfInBounds_toArray, List.set_cons_zero, List.set_cons_succ]
      clear hL hS E0 E1 E2 E3 E4 E5 E6 E7 E8
      have Hv := Lib.hid hH
      clear hH Hu
      go_wp2
      go_ret
      exact ⟨rfl, Hv.out.right.right.right.right⟩
    · have hWX' : (WS == X) = false := by simpa using hWX
      have ZWX : Hid ((WS == X) = false) := Lib.hid hWX'
      have hYX : (Y == X) = false := by rw [beq_comm8]; exact hXY'
      have hL2' : L2 = [(X, AL), (Y, BL)] := by rw [hL2, hL1]; exact sp2 X Y AL BL hXY' hn1 hm1
      have hjA : j < 8 * AL.length := by rw [← HN.out]; omega
      have hb1 : (j : Int) % ((8 * AL.length : Nat) : Int) = (j : Int) := by rw [← Int.natCast_emod, Nat.mod_eq_of_lt hjA]
      have hb2 : ((j : Int) - (N8 : Int)) % ((8 * TL.length : Nat) : Int) = (j : Int) := by
        rw [hTLn, ← hN8, Int.sub_emod, Int.emod_self, Int.sub_zero, Int.emod_emod_of_dvd _ (Int.dvd_refl _), ← Int.natCast_emod, Nat.mod_eq_of_lt hjN]
      have hff : Sl.flip TL j = AL := by rw [hTL]; exact flip_flip AL j hjA
      obtain ⟨L3, hL3⟩ : ∃ L : CL, L = [(X, TL), (Y, BL)] := ⟨_, rfl⟩
      obtain ⟨L5, hL5⟩ : ∃ L : CL, L = [(Y, BL), (X, AL)] := ⟨_, rfl⟩
      obtain ⟨L6, hL6⟩ : ∃ L : CL, L = [(Y, BL), (X, TL)] := ⟨_, rfl⟩
      obtain ⟨L7, hL7⟩ : ∃ L : CL, L = [(Y, BL)] := ⟨_, rfl⟩
      have tAL : AL.length ≤ 100 := hn1
      have tTL : TL.length ≤ 100 := by rw [hTLn, HN.out]; exact hn1
      have HS1 := Lib.hid (spoilC (st := st) (lim := 1000) (L := L2) (L' := L3) (id := X) (bit := (j : Int)) (ok := true) lX (by rw [hL2', hL3, hTL]; exact sp3 X Y AL BL j j hn0 hb1) (by rw [hL2']; simp) (by rw [hL2']; simp [totL]; omega))
      have HS2 := Lib.hid (spoilC (st := st) (lim := 1000) (L := L3) (L' := L2) (id := X) (bit := (j : Int) - (N8 : Int)) (ok := true) lX (by rw [hL2', hL3]; have := sp3 X Y TL BL ((j : Int) - (N8 : Int)) j (by omega) hb2; rw [hff] at this; exact this) (by rw [hL3]; simp) (by rw [hL3]; simp [totL]; omega))
      have HG1 := Lib.hid (getC (st := st) (R := R) (lim := 1000) (L := L2) (L' := L5) (id := X) (g := AL) (ok := true) hk hst lX (by rw [hL2', hL5]; exact sp4 X Y AL BL (by rw [hX]; simp)) (by rw [hL2']; simp) (by rw [hL2']; simp [totL]; omega))
      have HS3 := Lib.hid (spoilC (st := st) (lim := 1000) (L := L5) (L' := L6) (id := X) (bit := (j : Int)) (ok := true) lX (by rw [hL5, hL6, hTL]; exact sp3' X Y AL BL j j hYX hn0 hb1) (by rw [hL5]; simp) (by rw [hL5]; simp [totL]; omega))
      have HG2 := Lib.hid (getC (st := st) (R := R) (lim := 1000) (L := L6) (L' := L7) (id := X) (g := []) (ok := false) hk hst lX (by rw [hL6, hL7]; exact sp5 X Y TL BL hYX (by rw [← hWS]; exact hWX')) (by rw [hL6]; simp) (by rw [hL6]; simp [totL]; omega))
      have HG3 := Lib.hid (getC (st := st) (R := R) (lim := 1000) (L := L7) (L' := L7) (id := X) (g := []) (ok := false) hk hst lX (by rw [hL7]; exact sp6 X Y BL hYX) (by rw [hL7]; simp) (by rw [hL7]; simp [totL]; omega))
      have HG4 := Lib.hid (getC (st := st) (R := R) (lim := 1000) (L := L7) (L' := L7) (id := Y) (g := BL) (ok := true) hk hst lY (by rw [hL7]; exact sp7 Y BL (by rw [hY]; simp)) (by rw [hL7]; simp) (by rw [hL7]; simp [totL]; omega))
      have HLE := Lib.hid (lenC (st := st) (lim := 1000) (L := L7) (n := 1) (by rw [hL7]; rfl))
      have HSZ := Lib.hid (sizeC (st := st) (lim := 1000) (L := L7) (n := m) (by rw [hL7, HM.out]; simp [totL]))
      have HSA2 : Hid (∀ F w A c, Has st (sep (row 5 1 (.slice A AL.length c) AL.length (bcells AL)) (sep F R)) w → Calls Tryd.prog 16 #[.slice A AL.length c, .slice Aa n ca] w fun e w' => e = .returned (.bool true) ∧ w = w') := Lib.hid fun F w A c hw => by
        have := sameB_any AL AL _ _ _ _ w (Rd.of_row hw.ownsRow) (HSA.out w hw.right.right)
        rw [beq_self_eq_true] at this; exact this
      have HSB2 : Hid (∀ F w A c, Has st (sep (row 5 1 (.slice A BL.length c) BL.length (bcells BL)) (sep F R)) w → Calls Tryd.prog 16 #[.slice A BL.length c, .slice Ab m cb] w fun e w' => e = .returned (.bool true) ∧ w = w') := Lib.hid fun F w A c hw => by
        have := sameB_any BL BL _ _ _ _ w (Rd.of_row hw.ownsRow) (HSB.out w hw.right.right)
        rw [beq_self_eq_true] at this; exact this
      have E4 : Hid (binZ .sub .i64 (j : Int) (N8 : Int) = some ((j : Int) - (N8 : Int))) := Lib.hid (by show some (IntKind.i64.wrap _) = _; rw [IntWalk.i64_in _ ⟨by omega, by omega⟩])
      have ZMM : Hid (cmpZ .eql (m : Int) (m : Int) = some true) := Lib.hid (by simp [cmpZ])
      have E2b := E2
      clear hXY hXY' hWX hWX' hYX hL2 hL2' hL1 hX hY hTL hWS lX lY lW hN8 hTLn hn0 hn1 hm1 hk hst hjA hb1 hb2 hff hL3 hL5 hL6 hL7 tAL tTL
      go_enter Tryd.func7, Tryd.ntmps7
      go_wp2_with (first
        | (have _k := C1; go_at_call 13; have hq := HP2.out _ _ (.slice Ab m cb) _ (fun w h => h) (by rw [← HM.out]; exact HSB.out) C1.out; (with_reducible refine hq.mono ?_); clear hq; rintro e w9 ⟨rfl, h9⟩; have C2 := Lib.hid h9; clear h9)
        | (have _k := C0; go_at_call 13; have hq := HP1.out _ _ (.slice Aa n ca) _ (fun w h => h) (by rw [← HN.out]; exact HSA.out) C0.out; (with_reducible refine hq.mono ?_); clear hq; rintro e w9 ⟨rfl, h9⟩; have C1 := Lib.hid h9; clear h9)
        | (have _k := H0; go_at_call 10; refine (HNW.out _ H0.out).mono ?_; rintro e w9 ⟨p, rfl, h9⟩; have C0 := Lib.hid h9; clear h9)
        | (have _k := H0; go_at_call 16; refine (HSM.out _ H0.out).mono ?_; rintro e w9 ⟨rfl, rfl⟩)
        | (go_at_call 8; refine (HAV.out _ HH.out).mono ?_; rintro e w9 ⟨rfl, h9⟩; have H0 := Lib.hid h9; clear h9)
        | ((first | (with_reducible refine wpList_plain rfl ?_) | ((with_reducible refine wpList_yes _ _ rfl ?_ ?_); (focus rfl))); intro _ hk; (first
          | (refine opw_cmp .eql _ _ _ _ .i64 (n : Int) 0 false rfl rfl rfl Z1.out (hk _ _ ?_))
          | (refine opw_cmp .gtr _ _ _ _ .i64 (n : Int) 100 false rfl rfl rfl Z2.out (hk _ _ ?_))
          | (refine opw_cmp .gtr _ _ _ _ .i64 (m : Int) 100 false rfl rfl rfl Z3.out (hk _ _ ?_))
          | (have _k := C2; refine opw_alloc 34 (.agg Z) Z rfl HZI.out rfl C2.out (fun ix w9 hp h9 => hk _ _ ?_); clear hp; have A0 := Lib.hid h9; clear h9)
          | (have _k := A0; refine opw_alloc 34 (.agg Z) Z rfl HZI.out rfl A0.out (fun iy w9 hp h9 => hk _ _ ?_); clear hp; have A1 := Lib.hid h9; clear h9)
          | (have _k := A1; refine opw_storeRow 34 _ _ rfl ix (bcells X).toArray rfl rfl 34 Z HIX.out HOX.out (bcells_all _) A1.out.second (fun w9 h9 => hk _ _ ?_); have T1 := Lib.hid h9.second; clear h9)
          | (have _k := T1; refine opw_storeRow 34 _ _ rfl iy (bcells Y).toArray rfl rfl 34 Z HIY.out HOY.out (bcells_all _) T1.out (fun w9 h9 => hk _ _ ?_); have T2 := Lib.hid (h9.cast (show _ = sep (cacheA p L2 1000) (sep (blk ix (.cells (bcells X).toArray 34 (0, 0))) (sep (blk iy (.cells (bcells Y).toArray 34 (0, 0))) R)) by ac_rfl)); clear h9)
          | (have _k := T2; refine opw_row0 30 5 1 rfl Tryd.underlying30 infosz T2.out (fun v9 w9 h9 => hk _ _ ?_); have U0 := Lib.hid h9; clear h9)
          | (have _k := U0; refine op_append _ _ 30 5 1 1 (.int .u8 0) rfl Tryd.underlying30 infoB rfl (by decide) rfl rfl U0.out (HSA.out _ U0.out.right.right.right.right) (bcells_one AL) (by unfold maxLen; omega) (by omega) (fun At ct w9 h9 => hk _ _ ?_); rw [List.nil_append] at h9; rw [Nat.zero_add] at h9 ⊢; obtain ⟨gt, rfl⟩ := h9.row_at (by omega); have U1 := Lib.hid h9; clear h9)
          | (refine opw_bits .and _ _ _ _ .i64 bit 65535 (z : Int) (.inl rfl) rfl rfl rfl E1.out (hk _ _ ?_))
          | (refine opw_bin .mul _ _ _ _ .i64 8 (n : Int) (N8 : Int) rfl rfl rfl E2.out (hk _ _ ?_))
          | (refine opw_bin .rem _ _ _ _ .i64 (z : Int) (N8 : Int) (j : Int) rfl rfl rfl E3.out (hk _ _ ?_))); simp only [Act.put, List.setIfInBounds_toArray, List.set_cons_zero, List.set_cons_succ]))
      refine wp_region_inv3 (fun L u w' => Slots (fun kk => ([some (.slice (some ⟨gt, 0, none⟩) n ct), some (.int .i64 ((j : Nat) : Int)), some (.int .i64 (((j / 8) : Nat) : Int)), some (.pointer (some ⟨gt, j / 8, none⟩)), some (.int .u8 ((OLD).toNat : Int)), some (.int .i64 ((j : Nat) : Int)), some (.int .i64 (((j % 8) : Nat) : Int)), some (.int .u8 ((SH).toNat : Int)), some (.int .u8 ((NEW).toNat : Int)), some (.pointer (some ⟨gt, j / 8, none⟩)), none] : List (Option Value)).getD kk none) L u ∧ Has st (sep (stg (L 10) (row 5 1 (.slice (some ⟨gt, 0, none⟩) n ct) n (bcells TL)) (row 5 1 (.slice (some ⟨gt, 0, none⟩) n ct) n (bcells AL))) (sep (cacheA p L2 1000) (sep (blk ix (.cells (bcells X).toArray 34 (0, 0))) (sep (blk iy (.cells (bcells Y).toArray 34 (0, 0))) R)))) w') (by kernel_rfl) (by decide +kernel) (by decide +kernel) (by kernel_rfl) (by kernel_rfl) (fun u => ⟨Slots.start _ u, (show Has st (sep (stg false (row 5 1 (.slice (some ⟨gt, 0, none⟩) n ct) n (bcells TL)) (row 5 1 (.slice (some ⟨gt, 0, none⟩) n ct) n (bcells AL))) (sep (cacheA p L2 1000) (sep (blk ix (.cells (bcells X).toArray 34 (0, 0))) (sep (blk iy (.cells (bcells Y).toArray 34 (0, 0))) R)))) _ from U1.out.drew.cast (by first | (simp only [stg_no, emp_sep]; done) | (simp only [stg_no, emp_sep]; ac_rfl)))⟩) ?_ ?_
      · refine ⟨?_, ?_, ?_, ?_, ?_, ?_, ?_, ?_, ?_, ?_, ?_, trivial⟩
        · refine RegStep3.plain rfl ?_; rintro L u w1 bA hL hW hD hU ⟨hS, hH⟩ hin hout; exact opw_move _ _ (.inl rfl) ((hout 10 (by kernel_rfl)).trans (by kernel_rfl)) ⟨_, rfl, hS.step 0 _ (.inr rfl), hH⟩
        · refine RegStep3.plain rfl ?_; rintro L u w1 bA hL hW hD hU ⟨hS, hH⟩ hin hout; exact opw_move _ _ (.inl rfl) ((hout 11 (by kernel_rfl)).trans (by kernel_rfl)) ⟨_, rfl, hS.step 1 _ (.inr rfl), hH⟩
        · refine RegStep3.plain rfl ?_; rintro L u w1 bA hL hW hD hU ⟨hS, hH⟩ hin hout; exact opw_bin .quo _ _ _ _ .i64 _ _ _ rfl ((hin 1 60 rfl).trans (hS 1 _ rfl (hW.of 1 (by decide)))) rfl (bin_quo (j) (8) (by decide) (by omega)) ⟨_, rfl, hS.step 2 _ (.inr rfl), hH⟩
        · refine RegStep3.plain rfl ?_; rintro L u w1 bA hL hW hD hU ⟨hS, hH⟩ hin hout; exact opw_index0 _ _ _ _ rfl Tryd.underlying30 infosz gt n ct (j / 8) ((hin 0 59 rfl).trans (hS 0 _ rfl (hW.of 0 (by decide)))) .i64 ((hin 2 61 rfl).trans (hS 2 _ rfl (hW.of 2 (by decide)))) hj8 ⟨_, rfl, hS.step 3 _ (.inr rfl), hH⟩
        · refine RegStep3.plain rfl ?_; rintro L u w1 bA hL hW hD hU ⟨hS, hH⟩ hin hout; exact opw_load1 _ _ rfl _ Tryd.underlying5 rfl _ _ ((hin 3 62 rfl).trans (hS 3 _ rfl (hW.of 3 (by decide)))) (row_cell ((hH.stg_no (hD.nots 11 10 4 hL (by decide +kernel)))) HOLD.out) ⟨_, rfl, hS.step 4 _ (.inr rfl), hH⟩
        · refine RegStep3.plain rfl ?_; rintro L u w1 bA hL hW hD hU ⟨hS, hH⟩ hin hout; exact opw_move _ _ (.inl rfl) ((hout 11 (by kernel_rfl)).trans (by kernel_rfl)) ⟨_, rfl, hS.step 5 _ (.inr rfl), hH⟩
        · refine RegStep3.plain rfl ?_; rintro L u w1 bA hL hW hD hU ⟨hS, hH⟩ hin hout; exact opw_bin .rem _ _ _ _ .i64 _ _ _ rfl ((hin 5 64 rfl).trans (hS 5 _ rfl (hW.of 5 (by decide)))) rfl (bin_rem (j) (8) (by decide)) ⟨_, rfl, hS.step 6 _ (.inr rfl), hH⟩
        · refine RegStep3.plain rfl ?_; rintro L u w1 bA hL hW hD hU ⟨hS, hH⟩ hin hout; exact opw_shift .shl _ _ _ _ .u8 .i64 _ _ _ rfl rfl ((hin 6 65 rfl).trans (hS 6 _ rfl (hW.of 6 (by decide)))) HSH.out ⟨_, rfl, hS.step 7 _ (.inr rfl), hH⟩
        · refine RegStep3.plain rfl ?_; rintro L u w1 bA hL hW hD hU ⟨hS, hH⟩ hin hout; exact opw_bits .xor _ _ _ _ .u8 _ _ _ (.inr (.inr rfl)) rfl ((hin 4 63 rfl).trans (hS 4 _ rfl (hW.of 4 (by decide)))) ((hin 7 66 rfl).trans (hS 7 _ rfl (hW.of 7 (by decide)))) HXO.out ⟨_, rfl, hS.step 8 _ (.inr rfl), hH⟩
        · refine RegStep3.plain rfl ?_; rintro L u w1 bA hL hW hD hU ⟨hS, hH⟩ hin hout; exact opw_index0 _ _ _ _ rfl Tryd.underlying30 infosz gt n ct (j / 8) ((hin 0 59 rfl).trans (hS 0 _ rfl (hW.of 0 (by decide)))) .i64 ((hin 2 61 rfl).trans (hS 2 _ rfl (hW.of 2 (by decide)))) hj8 ⟨_, rfl, hS.step 9 _ (.inr rfl), hH⟩
        · refine RegStep3.plain rfl ?_; rintro L u w1 bA hL hW hD hU ⟨hS, hH⟩ hin hout; exact opw_storeSl _ _ _ rfl infosz gt (j / 8) (.int .u8 (NEW.toNat : Int)) ((hin 9 68 rfl).trans (hS 9 _ rfl (hW.of 9 (by decide)))) ((hin 8 67 rfl).trans (hS 8 _ rfl (hW.of 8 (by decide)))) rfl (hH.stg_no hL) hj8 (fun w4 h4 => ⟨_, rfl, hS.step 10 _ (.inl rfl), (show Has st (sep (stg true (row 5 1 (.slice (some ⟨gt, 0, none⟩) n ct) n (bcells TL)) (row 5 1 (.slice (some ⟨gt, 0, none⟩) n ct) n (bcells AL))) (sep (cacheA p L2 1000) (sep (blk ix (.cells (bcells X).toArray 34 (0, 0))) (sep (blk iy (.cells (bcells Y).toArray 34 (0, 0))) R)))) w4 from (((h4.cast (by rw [HFL.out])).stg_mk (Q := (row 5 1 (.slice (some ⟨gt, 0, none⟩) n ct) n (bcells AL))))).cast (by ac_rfl))⟩)
      intro L u wu hL ⟨hS, hH⟩
      have E0 := hS 0 _ rfl (hL 0 (by decide))
      have E1 := hS 1 _ rfl (hL 1 (by decide))
      have E2 := hS 2 _ rfl (hL 2 (by decide))
      have E3 := hS 3 _ rfl (hL 3 (by decide))
      have E4 := hS 4 _ rfl (hL 4 (by decide))
      have E5 := hS 5 _ rfl (hL 5 (by decide))
      have E6 := hS 6 _ rfl (hL 6 (by decide))
      have E7 := hS 7 _ rfl (hL 7 (by decide))
      have E8 := hS 8 _ rfl (hL 8 (by decide))
      have E9 := hS 9 _ rfl (hL 9 (by decide))
      simp only [hL 10 (by decide), stg_true, emp_sep] at hH
      simp only [frame_cons, frame_nil, E0, E1, E2, E3, E4, E5, E6, E7, E8, E9, Act.put, List.setIfInBounds_toArray, List.set_cons_zero, List.set_cons_succ]
      clear hL hS E0 E1 E2 E3 E4 E5 E6 E7 E8 E9
      have Hu := Lib.hid hH
      clear hH U1 U0 T1 T2 A0 A1 C0 C1 C2
      go_wp2_with fail
      refine wp_region_inv3 (fun L u w' => Slots (fun kk => ([some (.agg (bcells X).toArray), some (.agg (bcells Y).toArray), some (.bool false), some (.bool false), some (.slice (some ⟨gt, 0, none⟩) n ct), some (.agg (bcells WS).toArray), some (.agg (bcells X).toArray), some (.bool false), some (.bool false)] : List (Option Value)).getD kk none) L u ∧ Has st (sep (row 5 1 (.slice (some ⟨gt, 0, none⟩) n ct) n (bcells TL)) (sep (cacheA p L2 1000) (sep (blk ix (.cells (bcells X).toArray 34 (0, 0))) (sep (blk iy (.cells (bcells Y).toArray 34 (0, 0))) R)))) w') (by kernel_rfl) (by decide +kernel) (by decide +kernel) (by kernel_rfl) (by kernel_rfl) (fun u => ⟨Slots.start _ u, Hu.out.drew⟩) ?_ ?_
      · refine ⟨?_, ?_, ?_, ?_, ?_, ?_, ?_, ?_, ?_, trivial⟩
        · refine RegStep3.plain rfl ?_; rintro L u w1 bA hL hW hD hU ⟨hS, hH⟩ hin hout; exact opw_loadMid _ _ rfl ix (0) ((hout 8 (by kernel_rfl)).trans (by kernel_rfl)) (bcells X) _ Tryd.underlying34 rfl HJX.out hH.third HTX.out ⟨_, rfl, hS.step 0 _ (.inr rfl), hH⟩
        · refine RegStep3.plain rfl ?_; rintro L u w1 bA hL hW hD hU ⟨hS, hH⟩ hin hout; exact opw_loadMid _ _ rfl iy (0) ((hout 9 (by kernel_rfl)).trans (by kernel_rfl)) (bcells Y) _ Tryd.underlying34 rfl HJY.out hH.fourth HTY.out ⟨_, rfl, hS.step 1 _ (.inr rfl), hH⟩
        · refine RegStep3.plain rfl ?_; rintro L u w1 bA hL hW hD hU ⟨hS, hH⟩ hin hout; exact opw_eqRow _ _ 5 32 _ _ X Y Tryd.underlying34 Tryd.underlying5 infosz (by kernel_rfl) HLX.out HLY.out rfl ((hin 0 69 rfl).trans (hS 0 _ rfl (hW.of 0 (by decide)))) ((hin 1 70 rfl).trans (hS 1 _ rfl (hW.of 1 (by decide)))) false ZXY.out ⟨_, rfl, hS.step 2 _ (.inr rfl), hH⟩
        · refine RegStep3.plain rfl ?_; rintro L u w1 bA hL hW hD hU ⟨hS, hH⟩ hin hout; exact opw_move _ _ (.inl rfl) ((hin 2 71 rfl).trans (hS 2 _ rfl (hW.of 2 (by decide)))) ⟨_, rfl, hS.step 3 _ (.inr rfl), hH⟩
        · refine RegStep3.yes 3 false rfl (fun L u w1 hW hI => hI.1 3 _ rfl (hW.of 3 (by decide))) ?_; rintro L u w1 bA hL hW hD hU ⟨hS, hH⟩ hin hout; exact opw_move _ _ (.inl rfl) ((hout 10 (by kernel_rfl)).trans (by kernel_rfl)) ⟨_, rfl, hS.step 4 _ (.inr rfl), hH⟩
        · refine RegStep3.yes 3 false rfl (fun L u w1 hW hI => hI.1 3 _ rfl (hW.of 3 (by decide))) ?_; rintro L u w1 bA hL hW hD hU ⟨hS, hH⟩ hin hout; exact opw_call_ret _ _ _ [(.slice (some ⟨gt, 0, none⟩) n ct)] rfl (by kernel_rfl) (list2 ((hin 4 73 rfl).trans (hS 4 _ rfl (hW.of 4 (by decide)))) rfl) (HSF.out _ w1 (fun w h => h.right.right.right.right) _ _ (fun w h => Rd.of_row h.ownsRow) hH) (fun e w2 he => by obtain ⟨rfl, h2⟩ := he; exact ⟨_, rfl, _, rfl, hS.step 5 _ (.inr rfl), h2⟩)
        · refine RegStep3.yes 3 false rfl (fun L u w1 hW hI => hI.1 3 _ rfl (hW.of 3 (by decide))) ?_; rintro L u w1 bA hL hW hD hU ⟨hS, hH⟩ hin hout; exact opw_loadMid _ _ rfl ix (0) ((hout 8 (by kernel_rfl)).trans (by kernel_rfl)) (bcells X) _ Tryd.underlying34 rfl HJX.out hH.third HTX.out ⟨_, rfl, hS.step 6 _ (.inr rfl), hH⟩
        · refine RegStep3.yes 3 false rfl (fun L u w1 hW hI => hI.1 3 _ rfl (hW.of 3 (by decide))) ?_; rintro L u w1 bA hL hW hD hU ⟨hS, hH⟩ hin hout; exact opw_eqRow _ _ 5 32 _ _ WS X Tryd.underlying34 Tryd.underlying5 infosz (by kernel_rfl) HLW.out HLX.out rfl ((hin 5 74 rfl).trans (hS 5 _ rfl (hW.of 5 (by decide)))) ((hin 6 75 rfl).trans (hS 6 _ rfl (hW.of 6 (by decide)))) false ZWX.out ⟨_, rfl, hS.step 7 _ (.inr rfl), hH⟩
        · refine RegStep3.plain rfl ?_; rintro L u w1 bA hL hW hD hU ⟨hS, hH⟩ hin hout; exact opw_pickF _ _ _ _ rfl ((hin 3 72 rfl).trans (hS 3 _ rfl (hW.of 3 (by decide)))) ((hin 7 76 rfl).trans (hS 7 _ rfl (hW.of 7 (by decide)))) ⟨_, rfl, hS.step 8 _ (.inr rfl), hH⟩
      intro L u wv hL ⟨hS, hH⟩
      have E0 := hS 0 _ rfl (hL 0 (by decide))
      have E1 := hS 1 _ rfl (hL 1 (by decide))
      have E2 := hS 2 _ rfl (hL 2 (by decide))
      have E3 := hS 3 _ rfl (hL 3 (by decide))
      have E4 := hS 4 _ rfl (hL 4 (by decide))
      have E5 := hS 5 _ rfl (hL 5 (by decide))
      have E6 := hS 6 _ rfl (hL 6 (by decide))
      have E7 := hS 7 _ rfl (hL 7 (by decide))
      have E8 := hS 8 _ rfl (hL 8 (by decide))
      simp only [frame_cons, frame_nil, E0, E1, E2, E3, E4, E5, E6, E7, E8, Act.put, List.setIfInBounds_toArray, List.set_cons_zero, List.set_cons_succ]
      clear hL hS E0 E1 E2 E3 E4 E5 E6 E7 E8
      have Hv := Lib.hid hH
      clear hH Hu
      go_wp2_with fail
      refine wp_region_inv3 (fun L u w' => Slots (fun kk => ([some (.pointer (some ⟨p, 0, none⟩)), some (.agg (bcells X).toArray), some (.int .i64 ((j : Nat) : Int)), some (.bool true), some (.pointer (some ⟨p, 0, none⟩)), some (.agg (bcells X).toArray), some (.int .i64 ((j : Nat) : Int)), some (.slice Aa n ca), some (.int .i64 ((n : Nat) : Int)), some (.int .i64 (N8 : Int)), some (.int .i64 ((j : Int) - (N8 : Int))), some (.bool true), some (.bool true), some (.bool true)] : List (Option Value)).getD kk none) L u ∧ Has st (sep (stg (L 11) (cacheA p L2 1000) (stg (L 3) (cacheA p L3 1000) (cacheA p L2 1000))) (sep (row 5 1 (.slice (some ⟨gt, 0, none⟩) n ct) n (bcells TL)) (sep (blk ix (.cells (bcells X).toArray 34 (0, 0))) (sep (blk iy (.cells (bcells Y).toArray 34 (0, 0))) R)))) w') (by kernel_rfl) (by decide +kernel) (by decide +kernel) (by kernel_rfl) (by kernel_rfl) (fun u => ⟨Slots.start _ u, (show Has st (sep (stg false (cacheA p L2 1000) (stg false (cacheA p L3 1000) (cacheA p L2 1000))) (sep (row 5 1 (.slice (some ⟨gt, 0, none⟩) n ct) n (bcells TL)) (sep (blk ix (.cells (bcells X).toArray 34 (0, 0))) (sep (blk iy (.cells (bcells Y).toArray 34 (0, 0))) R)))) _ from Hv.out.drew.cast (by first | (simp only [stg_no, emp_sep]; done) | (simp only [stg_no, emp_sep]; ac_rfl)))⟩) ?_ ?_
      · refine ⟨?_, ?_, ?_, ?_, ?_, ?_, ?_, ?_, ?_, ?_, ?_, ?_, ?_, ?_, trivial⟩
        · refine RegStep3.plain rfl ?_; rintro L u w1 bA hL hW hD hU ⟨hS, hH⟩ hin hout; exact opw_move _ _ (.inl rfl) ((hout 7 (by kernel_rfl)).trans (by kernel_rfl)) ⟨_, rfl, hS.step 0 _ (.inr rfl), hH⟩
        · refine RegStep3.plain rfl ?_; rintro L u w1 bA hL hW hD hU ⟨hS, hH⟩ hin hout; exact opw_loadMid _ _ rfl ix (0) ((hout 8 (by kernel_rfl)).trans (by kernel_rfl)) (bcells X) _ Tryd.underlying34 rfl HJX.out ((hH.right)).second HTX.out ⟨_, rfl, hS.step 1 _ (.inr rfl), hH⟩
        · refine RegStep3.plain rfl ?_; rintro L u w1 bA hL hW hD hU ⟨hS, hH⟩ hin hout; exact opw_move _ _ (.inl rfl) ((hout 11 (by kernel_rfl)).trans (by kernel_rfl)) ⟨_, rfl, hS.step 2 _ (.inr rfl), hH⟩
        · refine RegStep3.plain rfl ?_; rintro L u w1 bA hL hW hD hU ⟨hS, hH⟩ hin hout; exact opw_call_ret _ _ _ [(.pointer (some ⟨p, 0, none⟩)), (.agg (bcells X).toArray), (.int .i64 ((j : Nat) : Int))] rfl (by kernel_rfl) (list2 ((hin 0 78 rfl).trans (hS 0 _ rfl (hW.of 0 (by decide)))) (list2 ((hin 1 79 rfl).trans (hS 1 _ rfl (hW.of 1 (by decide)))) (list2 ((hin 2 80 rfl).trans (hS 2 _ rfl (hW.of 2 (by decide)))) rfl))) (HS1.out _ _ _ ((hH.stg_no (hD.nots 14 11 3 hL (by decide +kernel))).stg_no hL)) (fun e w2 he => by obtain ⟨rfl, h2⟩ := he; exact ⟨_, rfl, _, rfl, hS.step 3 _ (.inr rfl), (show Has st (sep (stg (L 11) (cacheA p L2 1000) (stg true (cacheA p L3 1000) (cacheA p L2 1000))) (sep (row 5 1 (.slice (some ⟨gt, 0, none⟩) n ct) n (bcells TL)) (sep (blk ix (.cells (bcells X).toArray 34 (0, 0))) (sep (blk iy (.cells (bcells Y).toArray 34 (0, 0))) R)))) w2 from (((h2.stg_mk (Q := (cacheA p L2 1000))).stg_false (P := (cacheA p L2 1000)) (hD.nots 14 11 3 hL (by decide +kernel)))).cast (by ac_rfl))⟩)
        · refine RegStep3.plain rfl ?_; rintro L u w1 bA hL hW hD hU ⟨hS, hH⟩ hin hout; exact opw_move _ _ (.inl rfl) ((hout 7 (by kernel_rfl)).trans (by kernel_rfl)) ⟨_, rfl, hS.step 4 _ (.inr rfl), hH⟩
        · refine RegStep3.plain rfl ?_; rintro L u w1 bA hL hW hD hU ⟨hS, hH⟩ hin hout; exact opw_loadMid _ _ rfl ix (0) ((hout 8 (by kernel_rfl)).trans (by kernel_rfl)) (bcells X) _ Tryd.underlying34 rfl HJX.out ((hH.right)).second HTX.out ⟨_, rfl, hS.step 5 _ (.inr rfl), hH⟩
        · refine RegStep3.plain rfl ?_; rintro L u w1 bA hL hW hD hU ⟨hS, hH⟩ hin hout; exact opw_move _ _ (.inl rfl) ((hout 11 (by kernel_rfl)).trans (by kernel_rfl)) ⟨_, rfl, hS.step 6 _ (.inr rfl), hH⟩
        · refine RegStep3.plain rfl ?_; rintro L u w1 bA hL hW hD hU ⟨hS, hH⟩ hin hout; exact opw_move _ _ (.inl rfl) ((hout 0 (by kernel_rfl)).trans (by kernel_rfl)) ⟨_, rfl, hS.step 7 _ (.inr rfl), hH⟩
        · refine RegStep3.plain rfl ?_; rintro L u w1 bA hL hW hD hU ⟨hS, hH⟩ hin hout; exact opw_len _ _ _ Tryd.underlying30 Aa (n) ca rfl ((hin 7 85 rfl).trans (hS 7 _ rfl (hW.of 7 (by decide)))) ⟨_, rfl, hS.step 8 _ (.inr rfl), hH⟩
        · refine RegStep3.plain rfl ?_; rintro L u w1 bA hL hW hD hU ⟨hS, hH⟩ hin hout; exact opw_bin .mul _ _ _ _ .i64 _ _ _ rfl rfl ((hin 8 86 rfl).trans (hS 8 _ rfl (hW.of 8 (by decide)))) E2.out ⟨_, rfl, hS.step 9 _ (.inr rfl), hH⟩
        · refine RegStep3.plain rfl ?_; rintro L u w1 bA hL hW hD hU ⟨hS, hH⟩ hin hout; exact opw_bin .sub _ _ _ _ .i64 _ _ _ rfl ((hin 6 84 rfl).trans (hS 6 _ rfl (hW.of 6 (by decide)))) ((hin 9 87 rfl).trans (hS 9 _ rfl (hW.of 9 (by decide)))) E4.out ⟨_, rfl, hS.step 10 _ (.inr rfl), hH⟩
        · refine RegStep3.plain rfl ?_; rintro L u w1 bA hL hW hD hU ⟨hS, hH⟩ hin hout; exact opw_call_ret _ _ _ [(.pointer (some ⟨p, 0, none⟩)), (.agg (bcells X).toArray), (.int .i64 ((j : Int) - (N8 : Int)))] rfl (by kernel_rfl) (list2 ((hin 4 82 rfl).trans (hS 4 _ rfl (hW.of 4 (by decide)))) (list2 ((hin 5 83 rfl).trans (hS 5 _ rfl (hW.of 5 (by decide)))) (list2 ((hin 10 88 rfl).trans (hS 10 _ rfl (hW.of 10 (by decide)))) rfl))) (HS2.out _ _ _ ((hH.stg_no hL).stg_yes (hW.far (i := 11) hD rfl 14 3 (by decide +kernel)))) (fun e w2 he => by obtain ⟨rfl, h2⟩ := he; exact ⟨_, rfl, _, rfl, hS.step 11 _ (.inr rfl), (show Has st (sep (stg true (cacheA p L2 1000) (stg (L 3) (cacheA p L3 1000) (cacheA p L2 1000))) (sep (row 5 1 (.slice (some ⟨gt, 0, none⟩) n ct) n (bcells TL)) (sep (blk ix (.cells (bcells X).toArray 34 (0, 0))) (sep (blk iy (.cells (bcells Y).toArray 34 (0, 0))) R)))) w2 from ((h2.stg_mk (Q := (stg (L 3) (cacheA p L3 1000) (cacheA p L2 1000))))).cast (by ac_rfl))⟩)
        · refine RegStep3.plain rfl ?_; rintro L u w1 bA hL hW hD hU ⟨hS, hH⟩ hin hout; exact opw_move _ _ (.inr rfl) ((hin 3 81 rfl).trans (hS 3 _ rfl (hW.of 3 (by decide)))) ⟨_, rfl, hS.step 12 _ (.inr rfl), hH⟩
        · refine RegStep3.plain rfl ?_; rintro L u w1 bA hL hW hD hU ⟨hS, hH⟩ hin hout; exact opw_move _ _ (.inr rfl) ((hin 11 89 rfl).trans (hS 11 _ rfl (hW.of 11 (by decide)))) ⟨_, rfl, hS.step 13 _ (.inr rfl), hH⟩
      intro L u ws hL ⟨hS, hH⟩
      have E0 := hS 0 _ rfl (hL 0 (by decide))
      have E1 := hS 1 _ rfl (hL 1 (by decide))
      have E2 := hS 2 _ rfl (hL 2 (by decide))
      have E3 := hS 3 _ rfl (hL 3 (by decide))
      have E4 := hS 4 _ rfl (hL 4 (by decide))
      have E5 := hS 5 _ rfl (hL 5 (by decide))
      have E6 := hS 6 _ rfl (hL 6 (by decide))
      have E7 := hS 7 _ rfl (hL 7 (by decide))
      have E8 := hS 8 _ rfl (hL 8 (by decide))
      have E9 := hS 9 _ rfl (hL 9 (by decide))
      have E10 := hS 10 _ rfl (hL 10 (by decide))
      have E11 := hS 11 _ rfl (hL 11 (by decide))
      have E12 := hS 12 _ rfl (hL 12 (by decide))
      have E13 := hS 13 _ rfl (hL 13 (by decide))
      simp only [hL 3 (by decide), hL 11 (by decide), stg_true, emp_sep] at hH
      simp only [frame_cons, frame_nil, E0, E1, E2, E3, E4, E5, E6, E7, E8, E9, E10, E11, E12, E13, Act.put, List.setIfInBounds_toArray, List.set_cons_zero, List.set_cons_succ]
      clear hL hS E0 E1 E2 E3 E4 E5 E6 E7 E8 E9 E10 E11 E12 E13
      generalize u 3 = u3 at hH ⊢
      generalize u 11 = u11 at hH ⊢
      have Hs := Lib.hid hH
      clear hH Hv
      have Y0 : Hid (Has st (sep (cacheA p L2 1000) (sep (blk ix (.cells (bcells X).toArray 34 (0, 0))) (sep (blk iy (.cells (bcells Y).toArray 34 (0, 0))) R))) ws) := Lib.hid (Hs.out.cast (show _ = sep (row 5 1 (.slice (some ⟨gt, 0, none⟩) n ct) n (bcells TL)) (sep (cacheA p L2 1000) (sep (blk ix (.cells (bcells X).toArray 34 (0, 0))) (sep (blk iy (.cells (bcells Y).toArray 34 (0, 0))) R))) by ac_rfl)).right
      clear Hs
      go_wp2_with (first
        | (have _k := Y6; go_at_call 23; refine (HSZ.out _ _ _ Y6.out).mono ?_; rintro e w9 ⟨rfl, h9⟩; have Y7 := Lib.hid h9; clear h9)
        | (have _k := Y5; go_at_call 22; refine (HLE.out _ _ _ Y5.out).mono ?_; rintro e w9 ⟨rfl, h9⟩; have Y6 := Lib.hid h9; clear h9)
        | (have _k := Y5; go_at_call 16; have hq := HSB2.out (sep (cacheA p L7 1000) (sep (row 5 1 (.slice A1 AL.length c1) AL.length (bcells AL)) (sep (blk ix (.cells (bcells X).toArray 34 (0, 0))) (blk iy (.cells (bcells Y).toArray 34 (0, 0)))))) _ A4 c4 (Y5.out.cast (by ac_rfl)); (with_reducible refine hq.mono ?_); clear hq; rintro e w9 ⟨rfl, rfl⟩)
        | (have _k := Y5; go_at_call 16; have hq := HSA2.out (sep (cacheA p L7 1000) (sep (row 5 1 (.slice A4 BL.length c4) BL.length (bcells BL)) (sep (blk ix (.cells (bcells X).toArray 34 (0, 0))) (blk iy (.cells (bcells Y).toArray 34 (0, 0)))))) _ A1 c1 (Y5.out.cast (by ac_rfl)); (with_reducible refine hq.mono ?_); clear hq; rintro e w9 ⟨rfl, rfl⟩)
        | (have _k := Y4; go_at_call 15; refine (HG4.out _ _ _ (fun w h => h.right.right.right) Y4.out).mono ?_; rintro e w9 ⟨A4, c4, rfl, h9⟩; have Y5 := Lib.hid h9.second; clear h9)
        | (have _k := Y3; go_at_call 15; refine (HG3.out _ _ _ (fun w h => h.right.right.right) Y3.out).mono ?_; rintro e w9 ⟨A3, c3, rfl, h9⟩; have Y4 := Lib.hid h9.right; clear h9)
        | (have _k := Y2; go_at_call 15; refine (HG2.out _ _ _ (fun w h => h.right.right.right) Y2.out).mono ?_; rintro e w9 ⟨A2, c2, rfl, h9⟩; have Y3 := Lib.hid h9.right; clear h9)
        | (have _k := Y1; go_at_call 18; refine (HS3.out _ _ _ Y1.out).mono ?_; rintro e w9 ⟨rfl, h9⟩; have Y2 := Lib.hid h9; clear h9)
        | (have _k := Y0; go_at_call 15; refine (HG1.out _ _ _ (fun w h => h.right.right) Y0.out).mono ?_; rintro e w9 ⟨A1, c1, rfl, h9⟩; have Y1 := Lib.hid h9.second; clear h9)
        | ((first | (with_reducible refine wpList_plain rfl ?_) | ((with_reducible refine wpList_yes _ _ rfl ?_ ?_); (focus rfl))); intro _ hk; (first
          | (have _k := Y4; refine opw_loadMid 34 _ rfl iy 0 rfl (bcells Y) _ Tryd.underlying34 rfl HJY.out Y4.out.fourth HTY.out (hk _ _ ?_))
          | (have _k := Y3; refine opw_loadMid 34 _ rfl ix 0 rfl (bcells X) _ Tryd.underlying34 rfl HJX.out Y3.out.third HTX.out (hk _ _ ?_))
          | (have _k := Y2; refine opw_loadMid 34 _ rfl ix 0 rfl (bcells X) _ Tryd.underlying34 rfl HJX.out Y2.out.third HTX.out (hk _ _ ?_))
          | (have _k := Y1; refine opw_loadMid 34 _ rfl ix 0 rfl (bcells X) _ Tryd.underlying34 rfl HJX.out Y1.out.third HTX.out (hk _ _ ?_))
          | (have _k := Y0; refine opw_loadMid 34 _ rfl ix 0 rfl (bcells X) _ Tryd.underlying34 rfl HJX.out Y0.out.second HTX.out (hk _ _ ?_))
          | (refine opw_cmp .eql _ _ _ _ .i64 (m : Int) (m : Int) true rfl rfl rfl ZMM.out (hk _ _ ?_))); simp only [Act.put, List.setIfInBounds_toArray, List.set_cons_zero, List.set_cons_succ]))
      go_ret
      exact ⟨rfl, Y7.out.right.right.right.right.right⟩
end Go.Proofs.YtblknhpafifebaaDoor
