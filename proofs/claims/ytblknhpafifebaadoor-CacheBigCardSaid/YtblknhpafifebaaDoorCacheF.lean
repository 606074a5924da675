/-
  cache: Get.
-/
import Derived.Test.YtblknhpafifebaaDoorCacheE
namespace Go.Proofs.YtblknhpafifebaaDoor
open Go.RowKit Go.Sl Go.Sha
set_option linter.unusedVariables false
set_option linter.unusedSimpArgs false
set_option maxRecDepth 100000

theorem infoSlB : (Tryd.prog.info? 30).map (·.size) = some 1 := by kernel_rfl
/-- behind Get: what is kept, what is got, whether -/
def getK (id : List UInt8) (K : List Kp) : List Kp × List UInt8 × Bool :=
  match place id K with
  | none => (K, [], false)
  | some i => match K[i]? with
    | none => (K, [], false)
    | some k => if sha k.b == id then (K.eraseIdx i ++ [k], k.b, true) else (K.eraseIdx i, [], false)
theorem sees_kept (st : World) (R : HProp) (p : Nat) (K : List Kp) (k : Kp) (lim : Int) : Sees st (sep (cacheP p (K ++ [k]) lim) R) 1 k.v k.b.length (bcells k.b) := by
  intro w h
  obtain ⟨A, c, h1⟩ := openCache h
  rw [blobs_snoc] at h1
  exact Rd.of_row (h1.right.right.assoc.ownsRow)

set_option maxHeartbeats 4000000 in
theorem get_any (st : World) (R : HProp) (p : Nat) (K : List Kp) (lim : Int) (id : List UInt8) (w : World) (h : Has st (sep (cacheP p K lim) R) w) (hk : Keys st R) (hst : Start st R) (hid : id.length = 32)
    (hok : ∀ k ∈ K, k.ok) (hlen : K.length ≤ 100000) (htot : tot K ≤ 100000000) :
    Calls Tryd.prog 15 #[.pointer (some ⟨p, 0, none⟩), .agg (bcells id).toArray] w fun e w' => ∃ V, e = .returned (.tuple #[V, .bool (getK id K).2.2]) ∧ Has st (sep (row 5 1 V (getK id K).2.1.length (bcells (getK id K).2.1)) (sep (cacheP p (getK id K).1 lim) R)) w' := by
  have HFI : Hid (∀ F w, Has st (sep (cacheP p K lim) F) w → Calls Tryd.prog 31 #[.pointer (some ⟨p, 0, none⟩), .agg (bcells id).toArray] w fun e w' => e = .returned (.int .i64 (placeZ id K)) ∧ Has st (sep (cacheP p K lim) F) w') :=
    Lib.hid fun F w hw => find_any st F p K lim id w hw hid hok (by omega)
  have hbi : (Tryd.prog.info? 34).map (·.size) = some (bcells id).length := by rw [bcells_length, hid]; exact infoID
  have HBI := Lib.hid hbi
  have HID := Lib.hid hid
  have HH := Lib.hid h
  have HOK := Lib.hid hok
  have HKY := Lib.hid hk
  have HST := Lib.hid hst
  have HTI : Hid (((bcells id).toArray.toList.drop 0).take (bcells id).length = bcells id) := Lib.hid (by simp)
  clear h hk hst hid hok hbi
  cases hpl : place id K with
  | none =>
    have hpz : placeZ id K = -1 := by rw [placeZ, hpl]
    rw [hpz] at HFI
    have hget : getK id K = (K, [], false) := by unfold getK; rw [hpl]
    rw [hget]
    clear hpz hget hpl
    go_enter Tryd.func15, Tryd.ntmps15
    go_wp2_with (first
      | (go_at_call 31; refine (HFI.out _ _ H0.out).mono ?_; rintro e w1 ⟨rfl, h1⟩; have H1 := Lib.hid h1; clear h1)
      | ((first | (with_reducible refine wpList_plain rfl ?_) | ((with_reducible refine wpList_yes _ _ rfl ?_ ?_); (focus rfl))); intro _ hk; (first
        | (refine opw_box 34 (.agg (bcells id).toArray) (bcells id).toArray rfl rfl rfl HH.out (fun r w0 hp h0 => hk _ _ ?_); clear hp; have H0 := Lib.hid h0.second; clear h0)
        | (refine opw_loadMid 34 _ rfl r 0 rfl (bcells id) _ Tryd.underlying34 rfl HBI.out H0.out.second HTI.out (hk _ _ ?_))); simp only [Act.put, List.setIfInBounds_toArray, List.set_cons_zero, List.set_cons_succ]))
    refine bodyPost_ret (results_tmp2 Tryd.results15 _ _ _) rfl ?_
    exact ⟨.slice none 0 0, rfl, ((H1.out.second.right).row_nil 5 1)⟩
  | some i =>
    have hpz : placeZ id K = (i : Int) := by rw [placeZ, hpl]
    rw [hpz] at HFI
    have hi := place_lt hpl
    have hkk : K[i].ok := HOK.out _ (List.getElem_mem hi)
    have hget : getK id K = if sha K[i].b == id then (K.eraseIdx i ++ [K[i]], K[i].b, true) else (K.eraseIdx i, [], false) := by unfold getK; rw [hpl]; simp only [List.getElem?_eq_getElem hi]
    rw [hget]
    obtain ⟨k, hkd⟩ : ∃ k, k = K[i] := ⟨_, rfl⟩
    obtain ⟨K1, hK1⟩ : ∃ K1, K1 = K.eraseIdx i := ⟨_, rfl⟩
    have htk : tot K1 + k.b.length = tot K := by rw [hK1, hkd]; exact tot_erase K i hi
    have hl1 : K1.length ≤ 100000 := by rw [hK1]; have := List.length_eraseIdx_le K i; omega
    have HTA : Hid (∀ F w, Has st (sep (cacheP p K lim) F) w → Calls Tryd.prog 32 #[.pointer (some ⟨p, 0, none⟩), .int .i64 (i : Int)] w fun e w' => e = .returned (.agg (kc k).toArray) ∧ Has st (sep (cacheP p K1 lim) (sep (blob 5 k) F)) w') :=
      Lib.hid fun F w hw => by rw [hkd, hK1]; exact take_any st F p K lim i hi w hw HOK.out (by omega) (by omega)
    have hok1 : ∀ x ∈ K1, x.ok := by rw [hK1]; exact ok_erase HOK.out i
    rw [← hkd] at hkk
    rw [← hkd, ← hK1]
    have HOK1 := Lib.hid hok1
    have HKO := Lib.hid hkk
    obtain ⟨B, d, hv⟩ := hkk.2
    obtain ⟨S, hS⟩ : ∃ S, S = sha k.b := ⟨_, rfl⟩
    have hS32 : S.length = 32 := by rw [hS]; exact sha_length _
    obtain ⟨Y, hY⟩ : ∃ Y, Y = kc k := ⟨_, rfl⟩
    obtain ⟨n, hn⟩ : ∃ n, n = k.b.length := ⟨_, rfl⟩
    rw [← hn] at hv htk
    have hY32 : Y[32]? = some (.slice B n d) := by rw [hY, kc_cell HKO.out, hv]
    have HKE : Hid (∀ F w, Has st (sep (cacheP p K1 lim) (sep (blob 5 k) F)) w → Calls Tryd.prog 33 #[.pointer (some ⟨p, 0, none⟩), .agg Y.toArray] w fun e w' => e = .returned (.tuple #[]) ∧ Has st (sep (cacheP p (K1 ++ [k]) lim) F) w') :=
      Lib.hid fun F w hw => by rw [hY]; exact keep_any st F p K1 lim k w hw HOK1.out HKO.out (by omega) (by omega) (by omega)
    have HSH : Hid (∀ F w, (∀ w, Has st F w → Has st R w) → Sees st F 1 k.v k.b.length (bcells k.b) → Has st F w → Calls Tryd.prog 29 #[.slice B n d] w fun e w' => e = .returned (.agg (bcells S).toArray) ∧ Has st F w') :=
      Lib.hid fun F w hF hs hw => by rw [hS, ← hv]; exact shaOf_any st F k.b _ (fun w h => HKY.out w (hF w h)) (fun w h => HST.out w (hF w h)) w hw hs (by omega)
    have HCL : Hid (∀ F w, Sees st F 1 k.v k.b.length (bcells k.b) → Has st F w → Calls Tryd.prog 30 #[.slice B n d] w fun e w' => ∃ A c, e = .returned (.slice A n c) ∧ Has st (sep (row 5 1 (.slice A n c) k.b.length (bcells k.b)) F) w') :=
      Lib.hid fun F w hs hw => by rw [← hv, hn]; exact clone_any st F k.b _ w hw hs (by omega)
    rw [← hY] at HTA
    rw [← hS]
    have HYK := Lib.hid hY
    have HYS := Lib.hid (show Y.length = 33 by rw [hY, kc_length HKO.out])
    have HY1 := Lib.hid (show ∀ u ∈ Y, u.oneCell' = true by rw [hY]; exact kc_one HKO.out)
    have HY32 := Lib.hid hY32
    have HS32 := Lib.hid hS32
    have HZI := Lib.hid infoKz
    obtain ⟨Z, hZ⟩ : ∃ Z, Z = zeroKc.toArray := ⟨_, rfl⟩
    rw [← hZ] at HZI
    have HZ33 := Lib.hid (show Z.size = 33 by rw [hZ]; rfl)
    clear hpz hpl hget hkk hkd hK1 htk hok1 hv hS hS32 hY hY32 hn hZ hl1
    by_cases hcmp : (S == id) = true
    · have HZ : Hid ((!(S == id)) = false) := Lib.hid (by rw [hcmp]; rfl)
      rw [if_pos hcmp]
      go_enter Tryd.func15, Tryd.ntmps15
      go_wp2_with (first
        | (go_at_call 31; refine (HFI.out _ _ H0.out).mono ?_; rintro e w1 ⟨rfl, h1⟩; have H1 := Lib.hid h1; clear h1)
        | (go_at_call 32; refine (HTA.out _ _ H1.out).mono ?_; rintro e w2 ⟨rfl, h2⟩; have H2 := Lib.hid h2; clear h2)
        | ((first | (with_reducible refine wpList_plain rfl ?_) | ((with_reducible refine wpList_yes _ _ rfl ?_ ?_); (focus rfl))); intro _ hk; (first
          | (refine opw_box 34 (.agg (bcells id).toArray) (bcells id).toArray rfl rfl rfl HH.out (fun r w0 hp h0 => hk _ _ ?_); clear hp; have H0 := Lib.hid h0.second; clear h0)
          | (refine opw_loadMid 34 _ rfl r 0 rfl (bcells id) _ Tryd.underlying34 rfl HBI.out H0.out.second HTI.out (hk _ _ ?_))
          | (refine opw_alloc 75 (.agg Z) Z rfl HZI.out rfl H2.out (fun q w3 hp h3 => hk _ _ ?_); clear hp; have H3 := Lib.hid h3; clear h3)
          | (refine opw_storeRow 75 _ _ rfl q Y.toArray rfl rfl 75 Z (by simp only [List.size_toArray, HYS.out]; exact infoK) (by simp only [List.size_toArray, HYS.out]; exact HZ33.out) (all_one HY1.out) H3.out (fun w4 h4 => hk _ _ ?_); have H4 := Lib.hid h4; clear h4)); simp only [Act.put, List.setIfInBounds_toArray, List.set_cons_zero, List.set_cons_succ]))
      refine wp_region_inv3 (fun L u w' => Slots (fun kk => ([some (.pointer (some ⟨q, 32, none⟩)), some (.slice B n d), some (.agg (bcells S).toArray), some (.agg (bcells id).toArray), some (.bool false)] : List (Option Value)).getD kk none) L u ∧ Has st (sep (blk q (.cells Y.toArray 75 (0, 0))) (sep (cacheP p K1 lim) (sep (blob 5 k) (sep (blk r (.cells (bcells id).toArray 34 (0, 0))) R)))) w') (by kernel_rfl) (by decide +kernel) (by decide +kernel) (by kernel_rfl) (by kernel_rfl) (fun u => ⟨Slots.start _ u, H4.out.drew⟩) ?_ ?_
      · refine ⟨?_, ?_, ?_, ?_, ?_, trivial⟩
        · refine RegStep3.plain rfl ?_; rintro L u w1 bA hL hW hD hU ⟨hS, hH⟩ hin hout; exact opw_field _ _ _ 32 rfl (by kernel_rfl) (q) (0) ((hout 7 (by kernel_rfl)).trans (by kernel_rfl)) ⟨_, rfl, hS.step 0 _ (.inr rfl), hH⟩
        · refine RegStep3.plain rfl ?_; rintro L u w1 bA hL hW hD hU ⟨hS, hH⟩ hin hout; exact opw_load1 _ _ rfl _ Tryd.underlying30 rfl _ _ ((hin 0 16 rfl).trans (hS 0 _ rfl (hW.of 0 (by decide)))) ((hH.cell 32).trans (by simpa using HY32.out)) ⟨_, rfl, hS.step 1 _ (.inr rfl), hH⟩
        · refine RegStep3.plain rfl ?_; rintro L u w1 bA hL hW hD hU ⟨hS, hH⟩ hin hout; exact opw_call_ret _ _ _ [(.slice B n d)] rfl (by kernel_rfl) (list2 ((hin 1 17 rfl).trans (hS 1 _ rfl (hW.of 1 (by decide)))) rfl) (HSH.out _ w1 (fun w h => h.right.right.right.right) (fun w h => Rd.of_row (h.third.ownsRow)) hH) (fun e w2 he => by obtain ⟨rfl, h2⟩ := he; exact ⟨_, rfl, _, rfl, hS.step 2 _ (.inr rfl), h2⟩)
        · refine RegStep3.plain rfl ?_; rintro L u w1 bA hL hW hD hU ⟨hS, hH⟩ hin hout; exact opw_loadMid _ _ rfl r (0) ((hout 3 (by kernel_rfl)).trans (by kernel_rfl)) (bcells id) _ Tryd.underlying34 rfl HBI.out hH.fourth HTI.out ⟨_, rfl, hS.step 3 _ (.inr rfl), hH⟩
        · refine RegStep3.plain rfl ?_; rintro L u w1 bA hL hW hD hU ⟨hS, hH⟩ hin hout; exact opw_neRow _ _ 5 32 _ _ S id Tryd.underlying34 Tryd.underlying5 infosz (by kernel_rfl) HS32.out HID.out rfl ((hin 2 18 rfl).trans (hS 2 _ rfl (hW.of 2 (by decide)))) ((hin 3 19 rfl).trans (hS 3 _ rfl (hW.of 3 (by decide)))) false HZ.out ⟨_, rfl, hS.step 4 _ (.inr rfl), hH⟩
      intro L u w5 hL ⟨hS, hH⟩
      have E0 := hS 0 _ rfl (hL 0 (by decide))
      have E1 := hS 1 _ rfl (hL 1 (by decide))
      have E2 := hS 2 _ rfl (hL 2 (by decide))
      have E3 := hS 3 _ rfl (hL 3 (by decide))
      have E4 := hS 4 _ rfl (hL 4 (by decide))
      simp only [frame_cons, frame_nil, E0, E1, E2, E3, E4, Act.put, List.setIfInBounds_toArray, List.set_cons_zero, List.set_cons_succ]
      clear hL hS E0 E1 E2 E3 E4
      have H5 := Lib.hid hH
      clear hH
      go_wp2_with (first
        | (go_at_call 33; refine (HKE.out _ _ (H5.out.cast (show _ = sep (cacheP p K1 lim) (sep (blob 5 k) (sep (blk q (.cells Y.toArray 75 (0, 0))) (sep (blk r (.cells (bcells id).toArray 34 (0, 0))) R))) by ac_rfl))).mono ?_; rintro e w6 ⟨rfl, h6⟩; have H6 := Lib.hid h6; clear h6)
        | (go_at_call 30; refine (HCL.out _ _ (sees_kept st _ p K1 k lim) H6.out).mono ?_; rintro e w7 ⟨A7, c7, rfl, h7⟩; have H7 := Lib.hid h7; clear h7)
        | ((first | (with_reducible refine wpList_plain rfl ?_) | ((with_reducible refine wpList_yes _ _ rfl ?_ ?_); (focus rfl))); intro _ hk; (first
          | (refine opw_loadMid 75 _ rfl q 0 rfl Y _ Tryd.underlying75 rfl (by rw [HYS.out]; exact infoK) H5.out (by simp) (hk _ _ ?_))
          | (refine opw_field 75 _ 1 32 rfl (by kernel_rfl) q 0 rfl (hk _ _ ?_))
          | (have _k := H6; refine opw_load1 30 _ rfl _ Tryd.underlying30 rfl ⟨q, 0 + 32, none⟩ (.slice B n d) rfl ((H6.out.second.cell 32).trans (by simpa using HY32.out)) (hk _ _ ?_))); simp only [Act.put, List.setIfInBounds_toArray, List.set_cons_zero, List.set_cons_succ]))
      refine bodyPost_ret (results_tmp2 Tryd.results15 _ _ _) rfl ?_
      exact ⟨.slice A7 n c7, rfl, H7.out.monoL (fun _ h => h) |>.cast (show _ = sep (blk q (.cells Y.toArray 75 (0, 0))) (sep (blk r (.cells (bcells id).toArray 34 (0, 0))) (sep (row 5 1 (.slice A7 n c7) k.b.length (bcells k.b)) (sep (cacheP p (K1 ++ [k]) lim) R))) by ac_rfl) |>.right |>.right⟩
    · have HZ : Hid ((!(S == id)) = true) := Lib.hid (by simpa using hcmp)
      rw [if_neg hcmp]
      go_enter Tryd.func15, Tryd.ntmps15
      go_wp2_with (first
        | (go_at_call 31; refine (HFI.out _ _ H0.out).mono ?_; rintro e w1 ⟨rfl, h1⟩; have H1 := Lib.hid h1; clear h1)
        | (go_at_call 32; refine (HTA.out _ _ H1.out).mono ?_; rintro e w2 ⟨rfl, h2⟩; have H2 := Lib.hid h2; clear h2)
        | ((first | (with_reducible refine wpList_plain rfl ?_) | ((with_reducible refine wpList_yes _ _ rfl ?_ ?_); (focus rfl))); intro _ hk; (first
          | (refine opw_box 34 (.agg (bcells id).toArray) (bcells id).toArray rfl rfl rfl HH.out (fun r w0 hp h0 => hk _ _ ?_); clear hp; have H0 := Lib.hid h0.second; clear h0)
          | (refine opw_loadMid 34 _ rfl r 0 rfl (bcells id) _ Tryd.underlying34 rfl HBI.out H0.out.second HTI.out (hk _ _ ?_))
          | (refine opw_alloc 75 (.agg Z) Z rfl HZI.out rfl H2.out (fun q w3 hp h3 => hk _ _ ?_); clear hp; have H3 := Lib.hid h3; clear h3)
          | (refine opw_storeRow 75 _ _ rfl q Y.toArray rfl rfl 75 Z (by simp only [List.size_toArray, HYS.out]; exact infoK) (by simp only [List.size_toArray, HYS.out]; exact HZ33.out) (all_one HY1.out) H3.out (fun w4 h4 => hk _ _ ?_); have H4 := Lib.hid h4; clear h4)); simp only [Act.put, List.setIfInBounds_toArray, List.set_cons_zero, List.set_cons_succ]))
      refine wp_region_inv3 (fun L u w' => Slots (fun kk => ([some (.pointer (some ⟨q, 32, none⟩)), some (.slice B n d), some (.agg (bcells S).toArray), some (.agg (bcells id).toArray), some (.bool true)] : List (Option Value)).getD kk none) L u ∧ Has st (sep (blk q (.cells Y.toArray 75 (0, 0))) (sep (cacheP p K1 lim) (sep (blob 5 k) (sep (blk r (.cells (bcells id).toArray 34 (0, 0))) R)))) w') (by kernel_rfl) (by decide +kernel) (by decide +kernel) (by kernel_rfl) (by kernel_rfl) (fun u => ⟨Slots.start _ u, H4.out.drew⟩) ?_ ?_
      · refine ⟨?_, ?_, ?_, ?_, ?_, trivial⟩
        · refine RegStep3.plain rfl ?_; rintro L u w1 bA hL hW hD hU ⟨hS, hH⟩ hin hout; exact opw_field _ _ _ 32 rfl (by kernel_rfl) (q) (0) ((hout 7 (by kernel_rfl)).trans (by kernel_rfl)) ⟨_, rfl, hS.step 0 _ (.inr rfl), hH⟩
        · refine RegStep3.plain rfl ?_; rintro L u w1 bA hL hW hD hU ⟨hS, hH⟩ hin hout; exact opw_load1 _ _ rfl _ Tryd.underlying30 rfl _ _ ((hin 0 16 rfl).trans (hS 0 _ rfl (hW.of 0 (by decide)))) ((hH.cell 32).trans (by simpa using HY32.out)) ⟨_, rfl, hS.step 1 _ (.inr rfl), hH⟩
        · refine RegStep3.plain rfl ?_; rintro L u w1 bA hL hW hD hU ⟨hS, hH⟩ hin hout; exact opw_call_ret _ _ _ [(.slice B n d)] rfl (by kernel_rfl) (list2 ((hin 1 17 rfl).trans (hS 1 _ rfl (hW.of 1 (by decide)))) rfl) (HSH.out _ w1 (fun w h => h.right.right.right.right) (fun w h => Rd.of_row (h.third.ownsRow)) hH) (fun e w2 he => by obtain ⟨rfl, h2⟩ := he; exact ⟨_, rfl, _, rfl, hS.step 2 _ (.inr rfl), h2⟩)
        · refine RegStep3.plain rfl ?_; rintro L u w1 bA hL hW hD hU ⟨hS, hH⟩ hin hout; exact opw_loadMid _ _ rfl r (0) ((hout 3 (by kernel_rfl)).trans (by kernel_rfl)) (bcells id) _ Tryd.underlying34 rfl HBI.out hH.fourth HTI.out ⟨_, rfl, hS.step 3 _ (.inr rfl), hH⟩
        · refine RegStep3.plain rfl ?_; rintro L u w1 bA hL hW hD hU ⟨hS, hH⟩ hin hout; exact opw_neRow _ _ 5 32 _ _ S id Tryd.underlying34 Tryd.underlying5 infosz (by kernel_rfl) HS32.out HID.out rfl ((hin 2 18 rfl).trans (hS 2 _ rfl (hW.of 2 (by decide)))) ((hin 3 19 rfl).trans (hS 3 _ rfl (hW.of 3 (by decide)))) true HZ.out ⟨_, rfl, hS.step 4 _ (.inr rfl), hH⟩
      intro L u w5 hL ⟨hS, hH⟩
      have E0 := hS 0 _ rfl (hL 0 (by decide))
      have E1 := hS 1 _ rfl (hL 1 (by decide))
      have E2 := hS 2 _ rfl (hL 2 (by decide))
      have E3 := hS 3 _ rfl (hL 3 (by decide))
      have E4 := hS 4 _ rfl (hL 4 (by decide))
      simp only [frame_cons, frame_nil, E0, E1, E2, E3, E4, Act.put, List.setIfInBounds_toArray, List.set_cons_zero, List.set_cons_succ]
      clear hL hS E0 E1 E2 E3 E4
      have H5 := Lib.hid hH
      clear hH
      go_wp2
      refine bodyPost_ret (results_tmp2 Tryd.results15 _ _ _) rfl ?_
      exact ⟨.slice none 0 0, rfl, ((H5.out.cast (show _ = sep (blk q (.cells Y.toArray 75 (0, 0))) (sep (blob 5 k) (sep (blk r (.cells (bcells id).toArray 34 (0, 0))) (sep (cacheP p K1 lim) R))) by ac_rfl)).right.right.right).row_nil 5 1⟩
end Go.Proofs.YtblknhpafifebaaDoor
