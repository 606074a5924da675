/-
  Several texts of this proof in one: CacheF, Flip, CacheG, CacheH, CacheI, Lists14, BigLaw, Row3, Ops14.
-/
import Derived.Test.YtblknhpafifebaaDoorM5
import Derived.Test.YtblknhpafifebaaDoorM2
import Derived.Test.YtblknhpafifebaaDoorM4
import Derived.Test.YtblknhpafifebaaDoorRows
import Derived.Test.YtblknhpafifebaaDoorM3
import Derived.ProofKit
import Derived.LaidMore
import Derived.OpenShut
/-
  cache: Get.
-/
namespace Go.Proofs.YtblknhpafifebaaDoor
open Go.RowKit Go.Sl Go.Sha
set_option linter.unusedVariables false
set_option linter.unusedSimpArgs false
set_option maxRecDepth 100000

theorem infoSlB : (Tryd.prog.info? 30).map (·.size) = some 1 := by kernel_rfl
/-- behind Get: what is kept, what is got, whether -/
def getK (id : List UInt8) (K : List Kp) : List Kp × List UInt8 × Bool :=
  match place id K with
  | none => (K, [], false)
  | some i => match K[i]? with
    | none => (K, [], false)
    | some k => if sha k.b == id then (K.eraseIdx i ++ [k], k.b, true) else (K.eraseIdx i, [], false)
theorem sees_kept (st : World) (R : HProp) (p : Nat) (K : List Kp) (k : Kp) (lim : Int) : Sees st (sep (cacheP p (K ++ [k]) lim) R) 1 k.v k.b.length (bcells k.b) := by
  intro w h
  obtain ⟨A, c, h1⟩ := openCache h
  rw [blobs_snoc] at h1
  exact Rd.of_row (h1.right.right.assoc.ownsRow)

set_option maxHeartbeats 4000000 in
theorem get_any (st : World) (R : HProp) (p : Nat) (K : List Kp) (lim : Int) (id : List UInt8) (w : World) (h : Has st (sep (cacheP p K lim) R) w) (hk : Keys st R) (hst : Start st R) (hid : id.length = 32)
    (hok : ∀ k ∈ K, k.ok) (hlen : K.length ≤ 100000) (htot : tot K ≤ 100000000) :
    Calls Tryd.prog 15 #[.pointer (some ⟨p, 0, none⟩), .agg (bcells id).toArray] w fun e w' => ∃ V, e = .returned (.tuple #[V, .bool (getK id K).2.2]) ∧ Has st (sep (row 5 1 V (getK id K).2.1.length (bcells (getK id K).2.1)) (sep (cacheP p (getK id K).1 lim) R)) w' := by
  have HFI : Hid (∀ F w, Has st (sep (cacheP p K lim) F) w → Calls Tryd.prog 31 #[.pointer (some ⟨p, 0, none⟩), .agg (bcells id).toArray] w fun e w' => e = .returned (.int .i64 (placeZ id K)) ∧ Has st (sep (cacheP p K lim) F) w') :=
    Lib.hid fun F w hw => find_any st F p K lim id w hw hid hok (by omega)
  have hbi : (Tryd.prog.info? 34).map (·.size) = some (bcells id).length := by rw [bcells_length, hid]; exact infoID
  have HBI := Lib.hid hbi
  have HID := Lib.hid hid
  have HH := Lib.hid h
  have HOK := Lib.hid hok
  have HKY := Lib.hid hk
  have HST := Lib.hid hst
  have HTI : Hid (((bcells id).toArray.toList.drop 0).take (bcells id).length = bcells id) := Lib.hid (by simp)
  clear h hk hst hid hok hbi
  cases hpl : place id K with
  | none =>
    have hpz : placeZ id K = -1 := by rw [placeZ, hpl]
    rw [hpz] at HFI
    have hget : getK id K = (K, [], false) := by unfold getK; rw [hpl]
    rw [hget]
    clear hpz hget hpl
    go_enter Tryd.func15, Tryd.ntmps15
    go_wp2_with (first
      | (go_at_call 31; refine (HFI.out _ _ H0.out).mono ?_; rintro e w1 ⟨rfl, h1⟩; have H1 := Lib.hid h1; clear h1)
      | ((first | (with_reducible refine wpList_plain rfl ?_) | ((with_reducible refine wpList_yes _ _ rfl ?_ ?_); (focus rfl))); intro _ hk; (first
        | (refine opw_box 34 (.agg (bcells id).toArray) (bcells id).toArray rfl rfl rfl HH.out (fun r w0 hp h0 => hk _ _ ?_); clear hp; have H0 := Lib.hid h0.second; clear h0)
        | (refine opw_loadMid 34 _ rfl r 0 rfl (bcells id) _ Tryd.underlying34 rfl HBI.out H0.out.second HTI.out (hk _ _ ?_))); simp only [Act.put, List.setIfInBounds_toArray, List.set_cons_zero, List.set_cons_succ]))
    refine bodyPost_ret (results_tmp2 Tryd.results15 _ _ _) rfl ?_
    exact ⟨.slice none 0 0, rfl, ((H1.out.second.right).row_nil 5 1)⟩
  | some i =>
    have hpz : placeZ id K = (i : Int) := by rw [placeZ, hpl]
    rw [hpz] at HFI
    have hi := place_lt hpl
    have hkk : K[i].ok := HOK.out _ (List.getElem_mem hi)
    have hget : getK id K = if sha K[i].b == id then (K.eraseIdx i ++ [K[i]], K[i].b, true) else (K.eraseIdx i, [], false) := by unfold getK; rw [hpl]; simp only [List.getElem?_eq_getElem hi]
    rw [hget]
    obtain ⟨k, hkd⟩ : ∃ k, k = K[i] := ⟨_, rfl⟩
    obtain ⟨K1, hK1⟩ : ∃ K1, K1 = K.eraseIdx i := ⟨_, rfl⟩
    have htk : tot K1 + k.b.length = tot K := by rw [hK1, hkd]; exact tot_erase K i hi
    have hl1 : K1.length ≤ 100000 := by rw [hK1]; have := List.length_eraseIdx_le K i; omega
    have HTA : Hid (∀ F w, Has st (sep (cacheP p K lim) F) w → Calls Tryd.prog 32 #[.pointer (some ⟨p, 0, none⟩), .int .i64 (i : Int)] w fun e w' => e = .returned (.agg (kc k).toArray) ∧ Has st (sep (cacheP p K1 lim) (sep (blob 5 k) F)) w') :=
      Lib.hid fun F w hw => by rw [hkd, hK1]; exact take_any st F p K lim i hi w hw HOK.out (by omega) (by omega)
    have hok1 : ∀ x ∈ K1, x.ok := by rw [hK1]; exact ok_erase HOK.out i
    rw [← hkd] at hkk
    rw [← hkd, ← hK1]
    have HOK1 := Lib.hid hok1
    have HKO := Lib.hid hkk
    obtain ⟨B, d, hv⟩ := hkk.2
    obtain ⟨S, hS⟩ : ∃ S, S = sha k.b := ⟨_, rfl⟩
    have hS32 : S.length = 32 := by rw [hS]; exact sha_length _
    obtain ⟨Y, hY⟩ : ∃ Y, Y = kc k := ⟨_, rfl⟩
    obtain ⟨n, hn⟩ : ∃ n, n = k.b.length := ⟨_, rfl⟩
    rw [← hn] at hv htk
    have hY32 : Y[32]? = some (.slice B n d) := by rw [hY, kc_cell HKO.out, hv]
    have HKE : Hid (∀ F w, Has st (sep (cacheP p K1 lim) (sep (blob 5 k) F)) w → Calls Tryd.prog 33 #[.pointer (some ⟨p, 0, none⟩), .agg Y.toArray] w fun e w' => e = .returned (.tuple #[]) ∧ Has st (sep (cacheP p (K1 ++ [k]) lim) F) w') :=
      Lib.hid fun F w hw => by rw [hY]; exact keep_any st F p K1 lim k w hw HOK1.out HKO.out (by omega) (by omega) (by omega)
    have HSH : Hid (∀ F w, (∀ w, Has st F w → Has st R w) → Sees st F 1 k.v k.b.length (bcells k.b) → Has st F w → Calls Tryd.prog 29 #[.slice B n d] w fun e w' => e = .returned (.agg (bcells S).toArray) ∧ Has st F w') :=
      Lib.hid fun F w hF hs hw => by rw [hS, ← hv]; exact shaOf_any st F k.b _ (fun w h => HKY.out w (hF w h)) (fun w h => HST.out w (hF w h)) w hw hs (by omega)
    have HCL : Hid (∀ F w, Sees st F 1 k.v k.b.length (bcells k.b) → Has st F w → Calls Tryd.prog 30 #[.slice B n d] w fun e w' => ∃ A c, e = .returned (.slice A n c) ∧ Has st (sep (row 5 1 (.slice A n c) k.b.length (bcells k.b)) F) w') :=
      Lib.hid fun F w hs hw => by rw [← hv, hn]; exact clone_any st F k.b _ w hw hs (by omega)
    rw [← hY] at HTA
    rw [← hS]
    have HYK := Lib.hid hY
    have HYS := Lib.hid (show Y.length = 33 by rw [hY, kc_length HKO.out])
    have HY1 := Lib.hid (show ∀ u ∈ Y, u.oneCell' = true by rw [hY]; exact kc_one HKO.out)
    have HY32 := Lib.hid hY32
    have HS32 := Lib.hid hS32
    have HZI := Lib.hid infoKz
    obtain ⟨Z, hZ⟩ : ∃ Z, Z = zeroKc.toArray := ⟨_, rfl⟩
    rw [← hZ] at HZI
    have HZ33 := Lib.hid (show Z.size = 33 by rw [hZ]; rfl)
    clear hpz hpl hget hkk hkd hK1 htk hok1 hv hS hS32 hY hY32 hn hZ hl1
    by_cases hcmp : (S == id) = true
    · have HZ : Hid ((!(S == id)) = false) := Lib.hid (by rw [hcmp]; rfl)
      rw [if_pos hcmp]
      go_enter Tryd.func15, Tryd.ntmps15
      go_wp2_with (first
        | (go_at_call 31; refine (HFI.out _ _ H0.out).mono ?_; rintro e w1 ⟨rfl, h1⟩; have H1 := Lib.hid h1; clear h1)
        | (go_at_call 32; refine (HTA.out _ _ H1.out).mono ?_; rintro e w2 ⟨rfl, h2⟩; have H2 := Lib.hid h2; clear h2)
        | ((first | (with_reducible refine wpList_plain rfl ?_) | ((with_reducible refine wpList_yes _ _ rfl ?_ ?_); (focus rfl))); intro _ hk; (first
          | (refine opw_box 34 (.agg (bcells id).toArray) (bcells id).toArray rfl rfl rfl HH.out (fun r w0 hp h0 => hk _ _ ?_); clear hp; have H0 := Lib.hid h0.second; clear h0)
          | (refine opw_loadMid 34 _ rfl r 0 rfl (bcells id) _ Tryd.underlying34 rfl HBI.out H0.out.second HTI.out (hk _ _ ?_))
          | (refine opw_alloc 75 (.agg Z) Z rfl HZI.out rfl H2.out (fun q w3 hp h3 => hk _ _ ?_); clear hp; have H3 := Lib.hid h3; clear h3)
          | (refine opw_storeRow 75 _ _ rfl q Y.toArray rfl rfl 75 Z (by simp only [List.size_toArray, HYS.out]; exact infoK) (by simp only [List.size_toArray, HYS.out]; exact HZ33.out) (all_one HY1.out) H3.out (fun w4 h4 => hk _ _ ?_); have H4 := Lib.hid h4; clear h4)); simp only [Act.put, List.setIfInBounds_toArray, List.set_cons_zero, List.set_cons_succ]))
      refine wp_region_inv3 (fun L u w' => Slots (fun kk => ([some (.pointer (some ⟨q, 32, none⟩)), some (.slice B n d), some (.agg (bcells S).toArray), some (.agg (bcells id).toArray), some (.bool false)] : List (Option Value)).getD kk none) L u ∧ Has st (sep (blk q (.cells Y.toArray 75 (0, 0))) (sep (cacheP p K1 lim) (sep (blob 5 k) (sep (blk r (.cells (bcells id).toArray 34 (0, 0))) R)))) w') (by kernel_rfl) (by decide +kernel) (by decide +kernel) (by kernel_rfl) (by kernel_rfl) (fun u => ⟨Slots.start _ u, H4.out.drew⟩) ?_ ?_
      · refine ⟨?_, ?_, ?_, ?_, ?_, trivial⟩
        · refine RegStep3.plain rfl ?_; rintro L u w1 bA hL hW hD hU ⟨hS, hH⟩ hin hout; exact opw_field _ _ _ 32 rfl (by kernel_rfl) (q) (0) ((hout 7 (by kernel_rfl)).trans (by kernel_rfl)) ⟨_, rfl, hS.step 0 _ (.inr rfl), hH⟩
        · refine RegStep3.plain rfl ?_; rintro L u w1 bA hL hW hD hU ⟨hS, hH⟩ hin hout; exact opw_load1 _ _ rfl _ Tryd.underlying30 rfl _ _ ((hin 0 16 rfl).trans (hS 0 _ rfl (hW.of 0 (by decide)))) ((hH.cell 32).trans (by simpa using HY32.out)) ⟨_, rfl, hS.step 1 _ (.inr rfl), hH⟩
        · refine RegStep3.plain rfl ?_; rintro L u w1 bA hL hW hD hU ⟨hS, hH⟩ hin hout; exact opw_call_ret _ _ _ [(.slice B n d)] rfl (by kernel_rfl) (list2 ((hin 1 17 rfl).trans (hS 1 _ rfl (hW.of 1 (by decide)))) rfl) (HSH.out _ w1 (fun w h => h.right.right.right.right) (fun w h => Rd.of_row (h.third.ownsRow)) hH) (fun e w2 he => by obtain ⟨rfl, h2⟩ := he; exact ⟨_, rfl, _, rfl, hS.step 2 _ (.inr rfl), h2⟩)
        · refine RegStep3.plain rfl ?_; rintro L u w1 bA hL hW hD hU ⟨hS, hH⟩ hin hout; exact opw_loadMid _ _ rfl r (0) ((hout 3 (by kernel_rfl)).trans (by kernel_rfl)) (bcells id) _ Tryd.underlying34 rfl HBI.out hH.fourth HTI.out ⟨_, rfl, hS.step 3 _ (.inr rfl), hH⟩
        · refine RegStep3.plain rfl ?_; rintro L u w1 bA hL hW hD hU ⟨hS, hH⟩ hin hout; exact opw_neRow _ _ 5 32 _ _ S id Tryd.underlying34 Tryd.underlying5 infosz (by kernel_rfl) HS32.out HID.out rfl ((hin 2 18 rfl).trans (hS 2 _ rfl (hW.of 2 (by decide)))) ((hin 3 19 rfl).trans (hS 3 _ rfl (hW.of 3 (by decide)))) false HZ.out ⟨_, rfl, hS.step 4 _ (.inr rfl), hH⟩
      intro L u w5 hL ⟨hS, hH⟩
      have E0 := hS 0 _ rfl (hL 0 (by decide))
      have E1 := hS 1 _ rfl (hL 1 (by decide))
      have E2 := hS 2 _ rfl (hL 2 (by decide))
      have E3 := hS 3 _ rfl (hL 3 (by decide))
      have E4 := hS 4 _ rfl (hL 4 (by decide))
      simp only [frame_cons, frame_nil, E0, E1, E2, E3, E4, Act.put, List.setIfInBounds_toArray, List.set_cons_zero, List.set_cons_succ]
      clear hL hS E0 E1 E2 E3 E4
      have H5 := Lib.hid hH
      clear hH
      go_wp2_with (first
        | (go_at_call 33; refine (HKE.out _ _ (H5.out.cast (show _ = sep (cacheP p K1 lim) (sep (blob 5 k) (sep (blk q (.cells Y.toArray 75 (0, 0))) (sep (blk r (.cells (bcells id).toArray 34 (0, 0))) R))) by ac_rfl))).mono ?_; rintro e w6 ⟨rfl, h6⟩; have H6 := Lib.hid h6; clear h6)
        | (go_at_call 30; refine (HCL.out _ _ (sees_kept st _ p K1 k lim) H6.out).mono ?_; rintro e w7 ⟨A7, c7, rfl, h7⟩; have H7 := Lib.hid h7; clear h7)
        | ((first | (with_reducible refine wpList_plain rfl ?_) | ((with_reducible refine wpList_yes _ _ rfl ?_ ?_); (focus rfl))); intro _ hk; (first
          | (refine opw_loadMid 75 _ rfl q 0 rfl Y _ Tryd.underlying75 rfl (by rw [HYS.out]; exact infoK) H5.out (by simp) (hk _ _ ?_))
          | (refine opw_field 75 _ 1 32 rfl (by kernel_rfl) q 0 rfl (hk _ _ ?_))
          | (have _k := H6; refine opw_load1 30 _ rfl _ Tryd.underlying30 rfl ⟨q, 0 + 32, none⟩ (.slice B n d) rfl ((H6.out.second.cell 32).trans (by simpa using HY32.out)) (hk _ _ ?_))); simp only [Act.put, List.setIfInBounds_toArray, List.set_cons_zero, List.set_cons_succ]))
      refine bodyPost_ret (results_tmp2 Tryd.results15 _ _ _) rfl ?_
      exact ⟨.slice A7 n c7, rfl, H7.out.monoL (fun _ h => h) |>.cast (show _ = sep (blk q (.cells Y.toArray 75 (0, 0))) (sep (blk r (.cells (bcells id).toArray 34 (0, 0))) (sep (row 5 1 (.slice A7 n c7) k.b.length (bcells k.b)) (sep (cacheP p (K1 ++ [k]) lim) R))) by ac_rfl) |>.right |>.right⟩
    · have HZ : Hid ((!(S == id)) = true) := Lib.hid (by simpa using hcmp)
      rw [if_neg hcmp]
      go_enter Tryd.func15, Tryd.ntmps15
      go_wp2_with (first
        | (go_at_call 31; refine (HFI.out _ _ H0.out).mono ?_; rintro e w1 ⟨rfl, h1⟩; have H1 := Lib.hid h1; clear h1)
        | (go_at_call 32; refine (HTA.out _ _ H1.out).mono ?_; rintro e w2 ⟨rfl, h2⟩; have H2 := Lib.hid h2; clear h2)
        | ((first | (with_reducible refine wpList_plain rfl ?_) | ((with_reducible refine wpList_yes _ _ rfl ?_ ?_); (focus rfl))); intro _ hk; (first
          | (refine opw_box 34 (.agg (bcells id).toArray) (bcells id).toArray rfl rfl rfl HH.out (fun r w0 hp h0 => hk _ _ ?_); clear hp; have H0 := Lib.hid h0.second; clear h0)
          | (refine opw_loadMid 34 _ rfl r 0 rfl (bcells id) _ Tryd.underlying34 rfl HBI.out H0.out.second HTI.out (hk _ _ ?_))
          | (refine opw_alloc 75 (.agg Z) Z rfl HZI.out rfl H2.out (fun q w3 hp h3 => hk _ _ ?_); clear hp; have H3 := Lib.hid h3; clear h3)
          | (refine opw_storeRow 75 _ _ rfl q Y.toArray rfl rfl 75 Z (by simp only [List.size_toArray, HYS.out]; exact infoK) (by simp only [List.size_toArray, HYS.out]; exact HZ33.out) (all_one HY1.out) H3.out (fun w4 h4 => hk _ _ ?_); have H4 := Lib.hid h4; clear h4)); simp only [Act.put, List.setIfInBounds_toArray, List.set_cons_zero, List.set_cons_succ]))
      refine wp_region_inv3 (fun L u w' => Slots (fun kk => ([some (.pointer (some ⟨q, 32, none⟩)), some (.slice B n d), some (.agg (bcells S).toArray), some (.agg (bcells id).toArray), some (.bool true)] : List (Option Value)).getD kk none) L u ∧ Has st (sep (blk q (.cells Y.toArray 75 (0, 0))) (sep (cacheP p K1 lim) (sep (blob 5 k) (sep (blk r (.cells (bcells id).toArray 34 (0, 0))) R)))) w') (by kernel_rfl) (by decide +kernel) (by decide +kernel) (by kernel_rfl) (by kernel_rfl) (fun u => ⟨Slots.start _ u, H4.out.drew⟩) ?_ ?_
      · refine ⟨?_, ?_, ?_, ?_, ?_, trivial⟩
        · refine RegStep3.plain rfl ?_; rintro L u w1 bA hL hW hD hU ⟨hS, hH⟩ hin hout; exact opw_field _ _ _ 32 rfl (by kernel_rfl) (q) (0) ((hout 7 (by kernel_rfl)).trans (by kernel_rfl)) ⟨_, rfl, hS.step 0 _ (.inr rfl), hH⟩
        · refine RegStep3.plain rfl ?_; rintro L u w1 bA hL hW hD hU ⟨hS, hH⟩ hin hout; exact opw_load1 _ _ rfl _ Tryd.underlying30 rfl _ _ ((hin 0 16 rfl).trans (hS 0 _ rfl (hW.of 0 (by decide)))) ((hH.cell 32).trans (by simpa using HY32.out)) ⟨_, rfl, hS.step 1 _ (.inr rfl), hH⟩
        · refine RegStep3.plain rfl ?_; rintro L u w1 bA hL hW hD hU ⟨hS, hH⟩ hin hout; exact opw_call_ret _ _ _ [(.slice B n d)] rfl (by kernel_rfl) (list2 ((hin 1 17 rfl).trans (hS 1 _ rfl (hW.of 1 (by decide)))) rfl) (HSH.out _ w1 (fun w h => h.right.right.right.right) (fun w h => Rd.of_row (h.third.ownsRow)) hH) (fun e w2 he => by obtain ⟨rfl, h2⟩ := he; exact ⟨_, rfl, _, rfl, hS.step 2 _ (.inr rfl), h2⟩)
        · refine RegStep3.plain rfl ?_; rintro L u w1 bA hL hW hD hU ⟨hS, hH⟩ hin hout; exact opw_loadMid _ _ rfl r (0) ((hout 3 (by kernel_rfl)).trans (by kernel_rfl)) (bcells id) _ Tryd.underlying34 rfl HBI.out hH.fourth HTI.out ⟨_, rfl, hS.step 3 _ (.inr rfl), hH⟩
        · refine RegStep3.plain rfl ?_; rintro L u w1 bA hL hW hD hU ⟨hS, hH⟩ hin hout; exact opw_neRow _ _ 5 32 _ _ S id Tryd.underlying34 Tryd.underlying5 infosz (by kernel_rfl) HS32.out HID.out rfl ((hin 2 18 rfl).trans (hS 2 _ rfl (hW.of 2 (by decide)))) ((hin 3 19 rfl).trans (hS 3 _ rfl (hW.of 3 (by decide)))) true HZ.out ⟨_, rfl, hS.step 4 _ (.inr rfl), hH⟩
      intro L u w5 hL ⟨hS, hH⟩
      have E0 := hS 0 _ rfl (hL 0 (by decide))
      have E1 := hS 1 _ rfl (hL 1 (by decide))
      have E2 := hS 2 _ rfl (hL 2 (by decide))
      have E3 := hS 3 _ rfl (hL 3 (by decide))
      have E4 := hS 4 _ rfl (hL 4 (by decide))
      simp only [frame_cons, frame_nil, E0, E1, E2, E3, E4, Act.put, List.setIfInBounds_toArray, List.set_cons_zero, List.set_cons_succ]
      clear hL hS E0 E1 E2 E3 E4
      have H5 := Lib.hid hH
      clear hH
      go_wp2
      refine bodyPost_ret (results_tmp2 Tryd.results15 _ _ _) rfl ?_
      exact ⟨.slice none 0 0, rfl, ((H5.out.cast (show _ = sep (blk q (.cells Y.toArray 75 (0, 0))) (sep (blob 5 k) (sep (blk r (.cells (bcells id).toArray 34 (0, 0))) (sep (cacheP p K1 lim) R))) by ac_rfl)).right.right.right).row_nil 5 1⟩
end Go.Proofs.YtblknhpafifebaaDoor

/-
  Stores into a row; a bit is turned.
-/
namespace Go.Sl
open Go Go.RowKit
set_option linter.unusedVariables false
set_option linter.unusedSimpArgs false
theorem opw_storeSl {P : Program} {o : Oper} {a : Act} {w : World} {K : Act → World → Prop} {Q : Exit → Act → World → Prop} {st : World} (t : TypeId) (x y : Operand) (ho : o.op = .store t x y) (hi : (P.info? t).map (·.size) = some 1) (g j : Nat) (v : Value) (hx : a.eval x = .pointer (some ⟨g, j, none⟩)) (hy : a.eval y = v) (hv : v.oneCell' = true)
    {E : TypeId} {n c : Nat} {xs : List Value} {R : HProp} (h : Has st (sep (row E 1 (.slice (some ⟨g, 0, none⟩) n c) n xs) R) w) (hj : j < n)
    (hK : ∀ w', Has st (sep (row E 1 (.slice (some ⟨g, 0, none⟩) n c) n (xs.set j v)) R) w' → K (a.put o.dst undef) w') : o.wp P a w K Q := by
  obtain ⟨cur, h1, h2, h3, h4, h5⟩ := h.row_open
  refine opw_store1 t x y ho hi g j v hx hy hv h5 (by rw [h3]; omega) fun w' h6 => hK w' ?_
  refine h6.row_of_blk 1 n c h1 h2 (by rw [Array.size_setIfInBounds]; exact h3) ?_
  rw [Array.toList_setIfInBounds, List.take_set, h4]
theorem opw_index0 {P : Program} {o : Oper} {a : Act} {w : World} {K : Act → World → Prop} {Q : Exit → Act → World → Prop} (T e : TypeId) (x ix : Operand) (ho : o.op = .indexAddr T x ix) (hu : P.underlying T = some (.slice e)) (hsz : (P.info? e).map (·.size) = some 1) (g n c j : Nat) (hx : a.eval x = .slice (some ⟨g, 0, none⟩) n c)
    (k : IntKind) (hix : a.eval ix = .int k (j : Int)) (hj : j < n) (hK : K (a.put o.dst (.pointer (some ⟨g, j, none⟩))) w) : o.wp P a w K Q :=
  opw_indexSl T e x ix ho hu hsz g 0 n c j hx k hix hj (by rw [Nat.zero_add]; exact hK)
theorem row_cell {st : World} {E : TypeId} {g n c : Nat} {xs : List Value} {R : HProp} {w : World} (h : Has st (sep (row E 1 (.slice (some ⟨g, 0, none⟩) n c) n xs) R) w) {j : Nat} {u : Value} (hj : xs[j]? = some u) : w.cell? ⟨g, j, none⟩ = some u := by
  have := (sees_row st E 1 _ n xs R w h).cell hj
  rwa [Nat.zero_add] at this
theorem shl8 (r : Nat) (h : r < 8) : shZ .shl .u8 1 (r : Int) = some ((((1 : UInt8) <<< (UInt8.ofNat r)).toNat : Nat) : Int) := by
  have : ∀ r : Fin 8, shZ .shl .u8 1 ((r.val : Nat) : Int) = some ((((1 : UInt8) <<< (UInt8.ofNat r.val)).toNat : Nat) : Int) := by decide +kernel
  exact this ⟨r, h⟩
theorem xor8 (a b : UInt8) : bits .xor .u8 (a.toNat : Int) (b.toNat : Int) = ((a ^^^ b).toNat : Int) := by
  have e1 : ∀ a : UInt8, BitVec.ofInt IntKind.u8.bits (a.toNat : Int) = a.toBitVec := fun a => by
    apply BitVec.eq_of_toNat_eq
    rw [BitVec.toNat_ofInt]
    show ((a.toNat : Int) % ((2 ^ 8 : Nat) : Int)).toNat = a.toNat
    have := a.toNat_lt
    omega
  unfold bits
  simp only [e1]
  have := (a ^^^ b).toNat_lt
  show IntKind.u8.wrap (((a ^^^ b).toNat : Nat) : Int) = _
  generalize (a ^^^ b).toNat = n at this ⊢
  simp [IntKind.wrap, IntKind.signed, IntKind.bits]
  omega
theorem bgetD {l : List UInt8} {j : Nat} (hj : j < l.length) : (bcells l)[j]? = some (.int .u8 ((l.getD j 0).toNat : Int)) := by
  simp [bcells, bcell, List.getD_eq_getElem?_getD, hj]

def flip (l : List UInt8) (p : Nat) : List UInt8 := l.set (p / 8) (l.getD (p / 8) 0 ^^^ ((1 : UInt8) <<< UInt8.ofNat (p % 8)))
theorem flip_length (l : List UInt8) (p : Nat) : (flip l p).length = l.length := by simp [flip]
theorem bcells_put (l : List UInt8) (j : Nat) (x : UInt8) : (bcells l).set j (.int .u8 (x.toNat : Int)) = bcells (l.set j x) := by
  simp only [bcells, List.map_set]; rfl
theorem mod_go (x : Int) (n : Nat) (hn : 0 < n) : (x.tmod n + n).tmod n = ((x % n).toNat : Int) := by
  have hn' : (0 : Int) < n := by omega
  have h1 := Int.emod_nonneg x (by omega : (n : Int) ≠ 0)
  have h2 := Int.emod_lt_of_pos x hn'
  have h3 : x.tmod n = x % n ∨ x.tmod n = x % n - n := by
    rw [Int.tmod_eq_emod]
    split
    · left; omega
    · right; omega
  rcases h3 with h3 | h3
  · rw [h3, Int.tmod_eq_emod_of_nonneg (by omega), Int.add_emod_right, Int.emod_emod_of_dvd x (Int.dvd_refl _)]; omega
  · rw [h3, show x % n - n + n = x % n by omega, Int.tmod_eq_emod_of_nonneg h1, Int.emod_emod_of_dvd x (Int.dvd_refl _)]; omega
end Go.Sl

/-
  cache: Spoil.
-/
namespace Go.Proofs.YtblknhpafifebaaDoor
open Go.RowKit Go.Sl Go.Sha
set_option linter.unusedVariables false
set_option linter.unusedSimpArgs false
set_option maxRecDepth 100000

/-- behind Spoil: what is kept, whether -/
def spoilK (id : List UInt8) (bit : Int) (K : List Kp) : List Kp × Bool :=
  match place id K with
  | none => (K, false)
  | some i => match K[i]? with
    | none => (K, false)
    | some k => if k.b.length = 0 then (K, false) else (K.set i ⟨k.id, k.v, Sl.flip k.b (bit % ((8 * k.b.length : Nat) : Int)).toNat⟩, true)
theorem kcs_set {K : List Kp} {i : Nat} (hi : i < K.length) (b : List UInt8) : kcs (K.set i ⟨K[i].id, K[i].v, b⟩) = kcs K := by
  unfold kcs
  rw [List.flatMap_def, List.flatMap_def, List.map_set]
  congr 1
  apply List.ext_getElem (by simp)
  intro j h1 h2
  rw [List.getElem_set]
  split
  · rename_i e; subst e; simp [kc]
  · rfl
theorem tot_set : ∀ (K : List Kp) (i : Nat) (hi : i < K.length) (k : Kp), k.b.length = K[i].b.length → tot (K.set i k) = tot K
  | x :: K, 0, _, k, h => by simp [tot] at h ⊢; exact h
  | x :: K, i + 1, hi, k, h => by
    have hi' : i < K.length := by simpa using hi
    have := tot_set K i hi' k (by simpa using h)
    simp [tot] at this ⊢; exact this

set_option maxHeartbeats 1000000 in
theorem spoil_any (st : World) (R : HProp) (p : Nat) (K : List Kp) (lim : Int) (id : List UInt8) (bit : Int) (w : World) (h : Has st (sep (cacheP p K lim) R) w) (hid : id.length = 32)
    (hok : ∀ k ∈ K, k.ok) (hlen : K.length ≤ 100000) (htot : tot K ≤ 100000000) :
    Calls Tryd.prog 18 #[.pointer (some ⟨p, 0, none⟩), .agg (bcells id).toArray, .int .i64 bit] w fun e w' => e = .returned (.bool (spoilK id bit K).2) ∧ Has st (sep (cacheP p (spoilK id bit K).1 lim) R) w' := by
  have HFI : Hid (∀ F w, Has st (sep (cacheP p K lim) F) w → Calls Tryd.prog 31 #[.pointer (some ⟨p, 0, none⟩), .agg (bcells id).toArray] w fun e w' => e = .returned (.int .i64 (placeZ id K)) ∧ Has st (sep (cacheP p K lim) F) w') :=
    Lib.hid fun F w hw => find_any st F p K lim id w hw hid hok (by omega)
  have hbi : (Tryd.prog.info? 34).map (·.size) = some (bcells id).length := by rw [bcells_length, hid]; exact infoID
  have HBI := Lib.hid hbi
  have HH := Lib.hid h
  have HOK := Lib.hid hok
  have HTI : Hid (((bcells id).toArray.toList.drop 0).take (bcells id).length = bcells id) := Lib.hid (by simp)
  clear h hid hok hbi
  cases hpl : place id K with
  | none =>
    have hpz : placeZ id K = -1 := by rw [placeZ, hpl]
    rw [hpz] at HFI
    have hget : spoilK id bit K = (K, false) := by unfold spoilK; rw [hpl]
    rw [hget]
    clear hpz hget hpl
    go_enter Tryd.func18, Tryd.ntmps18
    go_wp2_with (first
      | (go_at_call 31; refine (HFI.out _ _ H0.out).mono ?_; rintro e w1 ⟨rfl, h1⟩; have H1 := Lib.hid h1; clear h1)
      | ((first | (with_reducible refine wpList_plain rfl ?_) | ((with_reducible refine wpList_yes _ _ rfl ?_ ?_); (focus rfl))); intro _ hk; (first
        | (refine opw_box 34 (.agg (bcells id).toArray) (bcells id).toArray rfl rfl rfl HH.out (fun r w0 hp h0 => hk _ _ ?_); clear hp; have H0 := Lib.hid h0.second; clear h0)
        | (refine opw_loadMid 34 _ rfl r 0 rfl (bcells id) _ Tryd.underlying34 rfl HBI.out H0.out.second HTI.out (hk _ _ ?_))); simp only [Act.put, List.setIfInBounds_toArray, List.set_cons_zero, List.set_cons_succ]))
    refine bodyPost_ret (results_tmp Tryd.results18 _ _ _) rfl ?_
    exact ⟨rfl, H1.out.drop2⟩
  | some i =>
    have hpz : placeZ id K = (i : Int) := by rw [placeZ, hpl]
    rw [hpz] at HFI
    have hi := place_lt hpl
    have hkk : K[i].ok := HOK.out _ (List.getElem_mem hi)
    obtain ⟨B, d, hv⟩ := hkk.2
    have hcell : (kcs K)[i * 33 + 32]? = some (.slice B K[i].b.length d) := kcs_cell HOK.out hi (by rw [kc_cell hkk, hv])
    have hget : spoilK id bit K = if K[i].b.length = 0 then (K, false) else (K.set i ⟨K[i].id, K[i].v, Sl.flip K[i].b (bit % ((8 * K[i].b.length : Nat) : Int)).toNat⟩, true) := by unfold spoilK; rw [hpl]; simp only [List.getElem?_eq_getElem hi]
    rw [hget]
    obtain ⟨n, hn⟩ : ∃ n, n = K[i].b.length := ⟨_, rfl⟩
    have hnt : n ≤ 100000000 := by have := tot_le_at K i hi; omega
    rw [← hn] at hcell ⊢
    have HCE := Lib.hid hcell
    clear hpz hpl hget hcell
    by_cases hn0 : n = 0
    · rw [if_pos hn0]
      have HZ : Hid (cmpZ .eql (n : Int) 0 = some true) := Lib.hid (by rw [hn0]; rfl)
      clear hn hv hkk hnt hn0
      go_enter Tryd.func18, Tryd.ntmps18
      go_wp2_with (first
        | (go_at_call 31; refine (HFI.out _ _ H0.out).mono ?_; rintro e w1 ⟨rfl, h1⟩; obtain ⟨Ac, c, h1⟩ := openCache h1; obtain ⟨g, rfl⟩ := h1.second.row_at33 hi; have H1 := Lib.hid h1; clear h1)
        | ((first | (with_reducible refine wpList_plain rfl ?_) | ((with_reducible refine wpList_yes _ _ rfl ?_ ?_); (focus rfl))); intro _ hk; (first
          | (refine opw_box 34 (.agg (bcells id).toArray) (bcells id).toArray rfl rfl rfl HH.out (fun r w0 hp h0 => hk _ _ ?_); clear hp; have H0 := Lib.hid h0.second; clear h0)
          | (refine opw_loadMid 34 _ rfl r 0 rfl (bcells id) _ Tryd.underlying34 rfl HBI.out H0.out.second HTI.out (hk _ _ ?_))
          | (have _k := H1; refine opw_load1 62 _ rfl _ Tryd.underlying62 rfl ⟨p, 0, none⟩ (.slice (some ⟨g, 0, none⟩) K.length c) rfl (H1.out.cell 0) (hk _ _ ?_))
          | (have _k := H1; refine opw_indexN 62 75 33 _ _ rfl Tryd.underlying62 infoK g 0 K.length c i rfl .i64 rfl hi (hk _ _ ?_))
          | (have _k := H1; refine opw_field 75 _ 1 32 rfl (by kernel_rfl) g (0 + i * 33) rfl (hk _ _ ?_))
          | (have _k := H1; refine opw_load1 30 _ rfl _ Tryd.underlying30 rfl ⟨g, 0 + i * 33 + 32, none⟩ (.slice B n d) rfl (by rw [Nat.zero_add]; exact H1.out.second.row_cell HCE.out) (hk _ _ ?_))
          | (refine opw_cmp .eql _ _ _ _ .i64 (n : Int) 0 true rfl rfl rfl HZ.out (hk _ _ ?_))); simp only [Act.put, List.setIfInBounds_toArray, List.set_cons_zero, List.set_cons_succ]))
      refine bodyPost_ret (results_tmp Tryd.results18 _ _ _) rfl ?_
      exact ⟨rfl, (toCache _ (H1.out.cast (show _ = sep (blk p (.cells (ccells (.slice (some ⟨g, 0, none⟩) K.length c) lim (tot K)) 64 (0, 0))) (sep (row 75 33 (.slice (some ⟨g, 0, none⟩) K.length c) K.length (kcs K)) (sep (blobs 5 K) (sep (blk r (.cells (bcells id).toArray 34 (0, 0))) R))) by ac_rfl))).drop2⟩
    · rw [if_neg hn0]
      obtain ⟨N8, hN8⟩ : ∃ N8, N8 = 8 * n := ⟨_, rfl⟩
      obtain ⟨a, ha⟩ : ∃ a, a = (bit % (N8 : Int)).toNat := ⟨_, rfl⟩
      have hNp : 0 < N8 := by omega
      have haN : a < N8 := by
        have h1 := Int.emod_nonneg bit (by omega : (N8 : Int) ≠ 0)
        have h2 := Int.emod_lt_of_pos bit (by omega : (0 : Int) < N8)
        omega
      have ha8 : a / 8 < n := by omega
      have hNb : N8 ≤ 800000000 := by omega
      obtain ⟨r1, hr1⟩ : ∃ r1, r1 = bit.tmod (N8 : Int) := ⟨_, rfl⟩
      have hr1b : -(N8 : Int) < r1 ∧ r1 < N8 := by
        have h1 := Int.emod_nonneg bit (by omega : (N8 : Int) ≠ 0)
        have h2 := Int.emod_lt_of_pos bit (by omega : (0 : Int) < N8)
        rw [hr1, Int.tmod_eq_emod]
        split <;> omega
      have e0 : binZ .mul .i64 8 (n : Int) = some (N8 : Int) := by rw [hN8]; exact bin_mul 8 n (by omega)
      have e1 : binZ .rem .i64 bit (N8 : Int) = some r1 := by rw [hr1]; show (if (N8 : Int) = 0 then none else some _) = _; rw [if_neg (by omega)]
      have e2 : binZ .add .i64 r1 (N8 : Int) = some (r1 + N8) := by show some (IntKind.i64.wrap _) = _; rw [IntWalk.i64_in _ ⟨by omega, by omega⟩]
      have e3 : binZ .rem .i64 (r1 + N8) (N8 : Int) = some (a : Int) := by show (if (N8 : Int) = 0 then none else some _) = _; rw [if_neg (by omega), hr1, mod_go bit N8 hNp, ha]
      have H1e := Lib.hid e0
      have H2e := Lib.hid e1
      have H3e := Lib.hid e2
      have H4e := Lib.hid e3
      have HCZ : Hid (cmpZ .eql (n : Int) 0 = some false) := Lib.hid (by simp only [cmpZ]; congr 1; simpa using hn0)
      obtain ⟨b, hb⟩ : ∃ b, b = K[i].b := ⟨_, rfl⟩
      have HBL : Hid (blobs 5 K = sep (row 5 1 (.slice B n d) n (bcells b)) (blobs 5 (K.eraseIdx i))) := Lib.hid (by rw [blobs_at _ K i hi]; show sep (row _ 1 K[i].v _ _) _ = _; rw [hv, hb, hn])
      have hlb : b.length = n := by rw [hb, hn]
      obtain ⟨OLD, hOLD⟩ : ∃ OLD, OLD = b.getD (a / 8) 0 := ⟨_, rfl⟩
      obtain ⟨NEW, hNEW⟩ : ∃ NEW, NEW = OLD ^^^ ((1 : UInt8) <<< UInt8.ofNat (a % 8)) := ⟨_, rfl⟩
      have HOLD : Hid ((bcells b)[a / 8]? = some (.int .u8 (OLD.toNat : Int))) := Lib.hid (by rw [hOLD]; exact bgetD (by omega))
      have HFL : Hid ((bcells b).set (a / 8) (.int .u8 (NEW.toNat : Int)) = bcells (Sl.flip b a)) := Lib.hid (by rw [bcells_put, hNEW, hOLD]; rfl)
      have HXO : Hid (bits .xor .u8 (OLD.toNat : Int) (((1 : UInt8) <<< UInt8.ofNat (a % 8)).toNat : Int) = (NEW.toNat : Int)) := Lib.hid (by rw [hNEW]; exact xor8 _ _)
      have HSH : Hid (shZ .shl .u8 1 ((a % 8 : Nat) : Int) = some ((((1 : UInt8) <<< UInt8.ofNat (a % 8)).toNat : Nat) : Int)) := Lib.hid (shl8 _ (by omega))
      obtain ⟨SH, hSHd⟩ : ∃ SH : UInt8, SH = (1 : UInt8) <<< UInt8.ofNat (a % 8) := ⟨_, rfl⟩
      rw [← hSHd] at HXO HSH
      have HEND : Hid (∀ w (c : Nat) (g : Nat), Has st (sep (row 5 1 (.slice B n d) n (bcells (Sl.flip b a))) (sep (blk p (.cells (ccells (.slice (some ⟨g, 0, none⟩) K.length c) lim (tot K)) 64 (0, 0))) (sep (row 75 33 (.slice (some ⟨g, 0, none⟩) K.length c) K.length (kcs K)) (sep (blobs 5 (K.eraseIdx i)) R)))) w →
          Has st (sep (cacheP p (K.set i ⟨K[i].id, K[i].v, Sl.flip K[i].b (bit % (N8 : Int)).toNat⟩) lim) R) w) := Lib.hid fun w c g hw => toCache (.slice (some ⟨g, 0, none⟩) K.length c) (by
            rw [kcs_set hi, List.length_set, tot_set K i hi _ (by show (Sl.flip _ _).length = _; rw [flip_length]), blobs_set _ K i hi, ← ha, ← hb]
            have e : blob 5 ⟨K[i].id, K[i].v, Sl.flip b a⟩ = row 5 1 (.slice B n d) n (bcells (Sl.flip b a)) := by
              show row _ 1 K[i].v (Sl.flip b a).length _ = _
              rw [flip_length, hv, ← hn, hlb]
            rw [e]
            exact hw.cast (by ac_rfl))
      rw [← hN8]
      obtain ⟨KL, hKL⟩ : ∃ KL, KL = K.length := ⟨_, rfl⟩
      clear hn hv hkk hN8 ha hr1 e0 e1 e2 e3 hb hOLD hNEW hSHd hKL
      go_enter Tryd.func18, Tryd.ntmps18
      go_wp2_with (first
        | (go_at_call 31; refine (HFI.out _ _ H0.out).mono ?_; rintro e w1 ⟨rfl, h1⟩; obtain ⟨Ac, c, h1⟩ := openCache h1; obtain ⟨g, rfl⟩ := h1.second.row_at33 hi; rw [HBL.out] at h1; obtain ⟨g2, rfl⟩ := (h1.third.assoc.cast (show _ = sep (row 5 1 (.slice B n d) n (bcells b)) _ from rfl)).row_at33 ha8; have H1 := Lib.hid h1; clear h1)
        | ((first | (with_reducible refine wpList_plain rfl ?_) | ((with_reducible refine wpList_yes _ _ rfl ?_ ?_); (focus rfl))); intro _ hk; (first
          | (refine opw_box 34 (.agg (bcells id).toArray) (bcells id).toArray rfl rfl rfl HH.out (fun r w0 hp h0 => hk _ _ ?_); clear hp; have H0 := Lib.hid h0.second; clear h0)
          | (refine opw_loadMid 34 _ rfl r 0 rfl (bcells id) _ Tryd.underlying34 rfl HBI.out H0.out.second HTI.out (hk _ _ ?_))
          | (have _k := H1; refine opw_load1 62 _ rfl _ Tryd.underlying62 rfl ⟨p, 0, none⟩ (.slice (some ⟨g, 0, none⟩) K.length c) rfl (H1.out.cell 0) (hk _ _ ?_))
          | (have _k := H1; refine opw_indexN 62 75 33 _ _ rfl Tryd.underlying62 infoK g 0 K.length c i rfl .i64 rfl hi (hk _ _ ?_))
          | (have _k := H1; refine opw_field 75 _ 1 32 rfl (by kernel_rfl) g (0 + i * 33) rfl (hk _ _ ?_))
          | (have _k := H1; refine opw_load1 30 _ rfl _ Tryd.underlying30 rfl ⟨g, 0 + i * 33 + 32, none⟩ (.slice (some ⟨g2, 0, none⟩) n d) rfl (by rw [Nat.zero_add]; exact H1.out.second.row_cell HCE.out) (hk _ _ ?_))
          | (refine opw_cmp .eql _ _ _ _ .i64 (n : Int) 0 false rfl rfl rfl HCZ.out (hk _ _ ?_))
          | (refine opw_bin .mul _ _ _ _ .i64 8 (n : Int) (N8 : Int) rfl rfl rfl H1e.out (hk _ _ ?_))
          | (refine opw_bin .rem _ _ _ _ .i64 bit (N8 : Int) r1 rfl rfl rfl H2e.out (hk _ _ ?_))
          | (refine opw_bin .add _ _ _ _ .i64 r1 (N8 : Int) (r1 + N8) rfl rfl rfl H3e.out (hk _ _ ?_))
          | (refine opw_bin .rem _ _ _ _ .i64 (r1 + N8) (N8 : Int) (a : Int) rfl rfl rfl H4e.out (hk _ _ ?_))); simp only [Act.put, List.setIfInBounds_toArray, List.set_cons_zero, List.set_cons_succ]))
      refine wp_region_inv3 (fun L u w' => Slots (fun kk => ([some (.pointer (some ⟨p, 0, none⟩)), some (.pointer (some ⟨p, 0, none⟩)), some (.pointer (some ⟨p, 0, none⟩)), some (.slice (some ⟨g, 0, none⟩) K.length c), some (.int .i64 ((i : Nat) : Int)), some (.pointer (some ⟨g, 0 + i * 33, none⟩)), some (.pointer (some ⟨g, 0 + i * 33 + 32, none⟩)), some (.slice (some ⟨g2, 0, none⟩) n d), some (.int .i64 ((a : Nat) : Int)), some (.int .i64 (((a / 8) : Nat) : Int)), some (.pointer (some ⟨g2, a / 8, none⟩)), some (.int .u8 ((OLD).toNat : Int)), some (.int .i64 ((a : Nat) : Int)), some (.int .i64 (((a % 8) : Nat) : Int)), some (.int .u8 ((SH).toNat : Int)), some (.int .u8 ((NEW).toNat : Int)), some (.pointer (some ⟨g2, a / 8, none⟩)), none] : List (Option Value)).getD kk none) L u ∧ Has st (sep (stg (L 17) (row 5 1 (.slice (some ⟨g2, 0, none⟩) n d) n (bcells (Sl.flip b a))) (row 5 1 (.slice (some ⟨g2, 0, none⟩) n d) n (bcells b))) (sep (blk p (.cells (ccells (.slice (some ⟨g, 0, none⟩) K.length c) lim (tot K)) 64 (0, 0))) (sep (row 75 33 (.slice (some ⟨g, 0, none⟩) K.length c) K.length (kcs K)) (sep (blobs 5 (K.eraseIdx i)) (sep (blk r (.cells (bcells id).toArray 34 (0, 0))) R))))) w') (by kernel_rfl) (by decide +kernel) (by decide +kernel) (by kernel_rfl) (by kernel_rfl) (fun u => ⟨Slots.start _ u, (show Has st (sep (stg false (row 5 1 (.slice (some ⟨g2, 0, none⟩) n d) n (bcells (Sl.flip b a))) (row 5 1 (.slice (some ⟨g2, 0, none⟩) n d) n (bcells b))) (sep (blk p (.cells (ccells (.slice (some ⟨g, 0, none⟩) K.length c) lim (tot K)) 64 (0, 0))) (sep (row 75 33 (.slice (some ⟨g, 0, none⟩) K.length c) K.length (kcs K)) (sep (blobs 5 (K.eraseIdx i)) (sep (blk r (.cells (bcells id).toArray 34 (0, 0))) R))))) _ from H1.out.drew.cast (by simp only [stg_no, emp_sep]; ac_rfl))⟩) ?_ ?_
      · refine ⟨?_, ?_, ?_, ?_, ?_, ?_, ?_, ?_, ?_, ?_, ?_, ?_, ?_, ?_, ?_, ?_, ?_, ?_, trivial⟩
        · refine RegStep3.plain rfl ?_; rintro L u w1 bA hL hW hD hU ⟨hS, hH⟩ hin hout; exact opw_move _ _ (.inl rfl) ((hout 0 (by kernel_rfl)).trans (by kernel_rfl)) ⟨_, rfl, hS.step 0 _ (.inr rfl), hH⟩
        · refine RegStep3.plain rfl ?_; rintro L u w1 bA hL hW hD hU ⟨hS, hH⟩ hin hout; exact opw_nilCheck _ _ rfl ((hin 0 44 rfl).trans (hS 0 _ rfl (hW.of 0 (by decide)))) ⟨_, rfl, hS.step 1 _ (.inr rfl), hH⟩
        · refine RegStep3.plain rfl ?_; rintro L u w1 bA hL hW hD hU ⟨hS, hH⟩ hin hout; exact opw_field _ _ _ 0 rfl (by kernel_rfl) (p) (0) ((hin 1 45 rfl).trans (hS 1 _ rfl (hW.of 1 (by decide)))) ⟨_, rfl, hS.step 2 _ (.inr rfl), hH⟩
        · refine RegStep3.plain rfl ?_; rintro L u w1 bA hL hW hD hU ⟨hS, hH⟩ hin hout; exact opw_load1 _ _ rfl _ Tryd.underlying62 rfl _ _ ((hin 2 46 rfl).trans (hS 2 _ rfl (hW.of 2 (by decide)))) (((hH.right)).cell 0) ⟨_, rfl, hS.step 3 _ (.inr rfl), hH⟩
        · refine RegStep3.plain rfl ?_; rintro L u w1 bA hL hW hD hU ⟨hS, hH⟩ hin hout; exact opw_move _ _ (.inl rfl) ((hout 7 (by kernel_rfl)).trans (by kernel_rfl)) ⟨_, rfl, hS.step 4 _ (.inr rfl), hH⟩
        · refine RegStep3.plain rfl ?_; rintro L u w1 bA hL hW hD hU ⟨hS, hH⟩ hin hout; exact opw_indexN _ _ 33 _ _ rfl Tryd.underlying62 infoK g 0 K.length c i ((hin 3 47 rfl).trans (hS 3 _ rfl (hW.of 3 (by decide)))) .i64 ((hin 4 48 rfl).trans (hS 4 _ rfl (hW.of 4 (by decide)))) hi ⟨_, rfl, hS.step 5 _ (.inr rfl), hH⟩
        · refine RegStep3.plain rfl ?_; rintro L u w1 bA hL hW hD hU ⟨hS, hH⟩ hin hout; exact opw_field _ _ _ 32 rfl (by kernel_rfl) g (0 + i * 33) ((hin 5 49 rfl).trans (hS 5 _ rfl (hW.of 5 (by decide)))) ⟨_, rfl, hS.step 6 _ (.inr rfl), hH⟩
        · refine RegStep3.plain rfl ?_; rintro L u w1 bA hL hW hD hU ⟨hS, hH⟩ hin hout; exact opw_load1 _ _ rfl _ Tryd.underlying30 rfl _ _ ((hin 6 50 rfl).trans (hS 6 _ rfl (hW.of 6 (by decide)))) ((by rw [Nat.zero_add]; exact ((hH.right)).second.row_cell HCE.out)) ⟨_, rfl, hS.step 7 _ (.inr rfl), hH⟩
        · refine RegStep3.plain rfl ?_; rintro L u w1 bA hL hW hD hU ⟨hS, hH⟩ hin hout; exact opw_move _ _ (.inl rfl) ((hout 9 (by kernel_rfl)).trans (by kernel_rfl)) ⟨_, rfl, hS.step 8 _ (.inr rfl), hH⟩
        · refine RegStep3.plain rfl ?_; rintro L u w1 bA hL hW hD hU ⟨hS, hH⟩ hin hout; exact opw_bin .quo _ _ _ _ .i64 _ _ _ rfl ((hin 8 52 rfl).trans (hS 8 _ rfl (hW.of 8 (by decide)))) rfl (bin_quo (a) (8) (by decide) (by omega)) ⟨_, rfl, hS.step 9 _ (.inr rfl), hH⟩
        · refine RegStep3.plain rfl ?_; rintro L u w1 bA hL hW hD hU ⟨hS, hH⟩ hin hout; exact opw_index0 _ _ _ _ rfl Tryd.underlying30 infosz g2 n d (a / 8) ((hin 7 51 rfl).trans (hS 7 _ rfl (hW.of 7 (by decide)))) .i64 ((hin 9 53 rfl).trans (hS 9 _ rfl (hW.of 9 (by decide)))) ha8 ⟨_, rfl, hS.step 10 _ (.inr rfl), hH⟩
        · refine RegStep3.plain rfl ?_; rintro L u w1 bA hL hW hD hU ⟨hS, hH⟩ hin hout; exact opw_load1 _ _ rfl _ Tryd.underlying5 rfl _ _ ((hin 10 54 rfl).trans (hS 10 _ rfl (hW.of 10 (by decide)))) (row_cell ((hH.stg_no (hD.nots 18 17 11 hL (by decide +kernel)))) HOLD.out) ⟨_, rfl, hS.step 11 _ (.inr rfl), hH⟩
        · refine RegStep3.plain rfl ?_; rintro L u w1 bA hL hW hD hU ⟨hS, hH⟩ hin hout; exact opw_move _ _ (.inl rfl) ((hout 9 (by kernel_rfl)).trans (by kernel_rfl)) ⟨_, rfl, hS.step 12 _ (.inr rfl), hH⟩
        · refine RegStep3.plain rfl ?_; rintro L u w1 bA hL hW hD hU ⟨hS, hH⟩ hin hout; exact opw_bin .rem _ _ _ _ .i64 _ _ _ rfl ((hin 12 56 rfl).trans (hS 12 _ rfl (hW.of 12 (by decide)))) rfl (bin_rem (a) (8) (by decide)) ⟨_, rfl, hS.step 13 _ (.inr rfl), hH⟩
        · refine RegStep3.plain rfl ?_; rintro L u w1 bA hL hW hD hU ⟨hS, hH⟩ hin hout; exact opw_shift .shl _ _ _ _ .u8 .i64 _ _ _ rfl rfl ((hin 13 57 rfl).trans (hS 13 _ rfl (hW.of 13 (by decide)))) HSH.out ⟨_, rfl, hS.step 14 _ (.inr rfl), hH⟩
        · refine RegStep3.plain rfl ?_; rintro L u w1 bA hL hW hD hU ⟨hS, hH⟩ hin hout; exact opw_bits .xor _ _ _ _ .u8 _ _ _ (.inr (.inr rfl)) rfl ((hin 11 55 rfl).trans (hS 11 _ rfl (hW.of 11 (by decide)))) ((hin 14 58 rfl).trans (hS 14 _ rfl (hW.of 14 (by decide)))) HXO.out ⟨_, rfl, hS.step 15 _ (.inr rfl), hH⟩
        · refine RegStep3.plain rfl ?_; rintro L u w1 bA hL hW hD hU ⟨hS, hH⟩ hin hout; exact opw_index0 _ _ _ _ rfl Tryd.underlying30 infosz g2 n d (a / 8) ((hin 7 51 rfl).trans (hS 7 _ rfl (hW.of 7 (by decide)))) .i64 ((hin 9 53 rfl).trans (hS 9 _ rfl (hW.of 9 (by decide)))) ha8 ⟨_, rfl, hS.step 16 _ (.inr rfl), hH⟩
        · refine RegStep3.plain rfl ?_; rintro L u w1 bA hL hW hD hU ⟨hS, hH⟩ hin hout; exact opw_storeSl _ _ _ rfl infosz g2 (a / 8) (.int .u8 (NEW.toNat : Int)) ((hin 16 60 rfl).trans (hS 16 _ rfl (hW.of 16 (by decide)))) ((hin 15 59 rfl).trans (hS 15 _ rfl (hW.of 15 (by decide)))) rfl (hH.stg_no hL) ha8 (fun w4 h4 => ⟨_, rfl, hS.step 17 _ (.inl rfl), (show Has st (sep (stg true (row 5 1 (.slice (some ⟨g2, 0, none⟩) n d) n (bcells (Sl.flip b a))) (row 5 1 (.slice (some ⟨g2, 0, none⟩) n d) n (bcells b))) (sep (blk p (.cells (ccells (.slice (some ⟨g, 0, none⟩) K.length c) lim (tot K)) 64 (0, 0))) (sep (row 75 33 (.slice (some ⟨g, 0, none⟩) K.length c) K.length (kcs K)) (sep (blobs 5 (K.eraseIdx i)) (sep (blk r (.cells (bcells id).toArray 34 (0, 0))) R))))) w4 from (((h4.cast (by rw [HFL.out])).stg_mk (Q := (row 5 1 (.slice (some ⟨g2, 0, none⟩) n d) n (bcells b))))).cast (by ac_rfl))⟩)
      intro L u w5 hL ⟨hS, hH⟩
      have E0 := hS 0 _ rfl (hL 0 (by decide))
      have E1 := hS 1 _ rfl (hL 1 (by decide))
      have E2 := hS 2 _ rfl (hL 2 (by decide))
      have E3 := hS 3 _ rfl (hL 3 (by decide))
      have E4 := hS 4 _ rfl (hL 4 (by decide))
      have E5 := hS 5 _ rfl (hL 5 (by decide))
      have E6 := hS 6 _ rfl (hL 6 (by decide))
      have E7 := hS 7 _ rfl (hL 7 (by decide))
      have E8 := hS 8 _ rfl (hL 8 (by decide))
      have E9 := hS 9 _ rfl (hL 9 (by decide))
      have E10 := hS 10 _ rfl (hL 10 (by decide))
      have E11 := hS 11 _ rfl (hL 11 (by decide))
      have E12 := hS 12 _ rfl (hL 12 (by decide))
      have E13 := hS 13 _ rfl (hL 13 (by decide))
      have E14 := hS 14 _ rfl (hL 14 (by decide))
      have E15 := hS 15 _ rfl (hL 15 (by decide))
      have E16 := hS 16 _ rfl (hL 16 (by decide))
      simp only [hL 17 (by decide), stg_true, emp_sep] at hH
      simp only [frame_cons, frame_nil, E0, E1, E2, E3, E4, E5, E6, E7, E8, E9, E10, E11, E12, E13, E14, E15, E16, Act.put, List.setIfInBounds_toArray, List.set_cons_zero, List.set_cons_succ]
      clear hL hS E0 E1 E2 E3 E4 E5 E6 E7 E8 E9 E10 E11 E12 E13 E14 E15 E16
      have H5 := Lib.hid hH
      clear hH
      go_wp2
      refine bodyPost_ret (results_tmp Tryd.results18 _ _ _) rfl ?_
      exact ⟨rfl, HEND.out _ c g (H5.out.cast (show _ = sep (blk r (.cells (bcells id).toArray 34 (0, 0))) (sep (row 5 1 (.slice (some ⟨g2, 0, none⟩) n d) n (bcells (Sl.flip b a))) (sep (blk p (.cells (ccells (.slice (some ⟨g, 0, none⟩) K.length c) lim (tot K)) 64 (0, 0))) (sep (row 75 33 (.slice (some ⟨g, 0, none⟩) K.length c) K.length (kcs K)) (sep (blobs 5 (K.eraseIdx i)) R)))) by ac_rfl)).right⟩
end Go.Proofs.YtblknhpafifebaaDoor

/-
  cache: what it holds, told of sums and bytes alone.
-/
namespace Go.Proofs.YtblknhpafifebaaDoor
open Go Go.RowKit Go.Sl Go.Sha
set_option linter.unusedVariables false
set_option linter.unusedSimpArgs false
set_option maxRecDepth 100000

/-- a row of kept blobs: sums and bytes -/
abbrev CL := List (List UInt8 × List UInt8)
def absK (K : List Kp) : CL := K.map fun k => (k.id, k.b)
def totL (L : CL) : Nat := (L.map (·.2.length)).sum
def placeL (id : List UInt8) (L : CL) : Option Nat := L.findIdx? fun k => k.1 == id
def dropL (id : List UInt8) (L : CL) : CL := match placeL id L with | some i => L.eraseIdx i | none => L
def trimL (lim : Int) (n : Nat) : CL → CL
  | [] => []
  | k :: L => if lim < ((totL (k :: L) + n : Nat) : Int) then trimL lim n L else k :: L
def putL (lim : Int) (L : CL) (id b : List UInt8) : CL := if lim < (b.length : Int) then dropL id L else trimL lim b.length (dropL id L) ++ [(id, b)]
def getL (id : List UInt8) (L : CL) : CL × List UInt8 × Bool :=
  match placeL id L with
  | none => (L, [], false)
  | some i => match L[i]? with
    | none => (L, [], false)
    | some k => if sha k.2 == id then (L.eraseIdx i ++ [k], k.2, true) else (L.eraseIdx i, [], false)
def spoilL (id : List UInt8) (bit : Int) (L : CL) : CL × Bool :=
  match placeL id L with
  | none => (L, false)
  | some i => match L[i]? with
    | none => (L, false)
    | some k => if k.2.length = 0 then (L, false) else (L.set i (k.1, Sl.flip k.2 (bit % ((8 * k.2.length : Nat) : Int)).toNat), true)

theorem abs_length (K : List Kp) : (absK K).length = K.length := by simp [absK]
theorem abs_tot (K : List Kp) : totL (absK K) = tot K := by simp [absK, totL, tot, Function.comp_def]
theorem abs_place (id : List UInt8) (K : List Kp) : placeL id (absK K) = place id K := by
  unfold placeL place absK
  rw [List.findIdx?_map]; rfl
theorem abs_erase (K : List Kp) (i : Nat) : absK (K.eraseIdx i) = (absK K).eraseIdx i := by
  unfold absK; rw [List.eraseIdx_eq_take_drop_succ, List.eraseIdx_eq_take_drop_succ, List.map_append, List.map_take, List.map_drop]
theorem abs_append (K M : List Kp) : absK (K ++ M) = absK K ++ absK M := by simp [absK]
theorem abs_get (K : List Kp) (i : Nat) : (absK K)[i]? = K[i]?.map fun k => (k.id, k.b) := by simp [absK]
theorem abs_drop (id : List UInt8) (K : List Kp) : absK (dropK id K) = dropL id (absK K) := by
  unfold dropK dropL
  rw [abs_place]
  cases place id K with
  | none => rfl
  | some i => exact abs_erase K i
theorem abs_trim (lim : Int) (n : Nat) : ∀ K : List Kp, absK (trimK lim n K) = trimL lim n (absK K)
  | [] => rfl
  | k :: K => by
    have e : absK (k :: K) = (k.id, k.b) :: absK K := rfl
    rw [trimK, e, trimL, ← e, abs_tot]
    split
    · exact abs_trim lim n K
    · rfl
theorem abs_put (lim : Int) (K : List Kp) (k : Kp) : absK (putK lim K k) = putL lim (absK K) k.id k.b := by
  unfold putK putL
  split
  · exact abs_drop _ _
  · rw [abs_append, abs_trim, abs_drop]; rfl
theorem abs_getK (id : List UInt8) (K : List Kp) : absK (getK id K).1 = (getL id (absK K)).1 ∧ (getK id K).2 = (getL id (absK K)).2 := by
  unfold getK getL
  rw [abs_place]
  cases place id K with
  | none => exact ⟨rfl, rfl⟩
  | some i =>
    simp only [abs_get]
    cases K[i]? with
    | none => exact ⟨rfl, rfl⟩
    | some k =>
      simp only [Option.map_some]
      split
      · exact ⟨by rw [abs_append, abs_erase]; rfl, rfl⟩
      · exact ⟨abs_erase _ _, rfl⟩
theorem abs_spoil (id : List UInt8) (bit : Int) (K : List Kp) : absK (spoilK id bit K).1 = (spoilL id bit (absK K)).1 ∧ (spoilK id bit K).2 = (spoilL id bit (absK K)).2 := by
  unfold spoilK spoilL
  rw [abs_place]
  cases place id K with
  | none => exact ⟨rfl, rfl⟩
  | some i =>
    simp only [abs_get]
    cases K[i]? with
    | none => exact ⟨rfl, rfl⟩
    | some k =>
      simp only [Option.map_some]
      split
      · exact ⟨rfl, rfl⟩
      · exact ⟨by simp [absK, List.map_set], rfl⟩
theorem ok_trim {lim : Int} {n : Nat} : ∀ {K : List Kp}, (∀ k ∈ K, k.ok) → ∀ k ∈ trimK lim n K, k.ok
  | [], h => h
  | x :: K, h => by
    rw [trimK]
    split
    · exact ok_trim fun k hk => h k (by simp [hk])
    · exact h
theorem ok_put {lim : Int} {K : List Kp} {k : Kp} (h : ∀ k ∈ K, k.ok) (hk : k.ok) : ∀ x ∈ putK lim K k, x.ok := by
  unfold putK
  split
  · exact ok_drop h _
  · exact ok_append (ok_trim (ok_drop h _)) hk
theorem ok_get {id : List UInt8} {K : List Kp} (h : ∀ k ∈ K, k.ok) : ∀ x ∈ (getK id K).1, x.ok := by
  unfold getK
  split
  · exact h
  · split
    · exact h
    · rename_i k hk
      split
      · exact ok_append (ok_erase h _) (h k (List.mem_of_getElem? hk))
      · exact ok_erase h _
theorem ok_spoil {id : List UInt8} {bit : Int} {K : List Kp} (h : ∀ k ∈ K, k.ok) : ∀ x ∈ (spoilK id bit K).1, x.ok := by
  unfold spoilK
  split
  · exact h
  · split
    · exact h
    · rename_i k hk
      split
      · exact h
      · intro x hx
        rcases List.mem_or_eq_of_mem_set hx with hx | rfl
        · exact h x hx
        · have := h k (List.mem_of_getElem? hk)
          exact ⟨this.1, by show ∃ A c, k.v = .slice A (Sl.flip _ _).length c; rw [flip_length]; exact this.2⟩
/-- a Cache that holds L -/
def cacheA (p : Nat) (L : CL) (lim : Int) : HProp := ex fun K : List Kp => sep (pure (absK K = L ∧ ∀ k ∈ K, k.ok)) (cacheP p K lim)
theorem openA {st w : World} {R : HProp} {p : Nat} {L : CL} {lim : Int} (h : Has st (sep (cacheA p L lim) R) w) : ∃ K, absK K = L ∧ (∀ k ∈ K, k.ok) ∧ Has st (sep (cacheP p K lim) R) w := by
  obtain ⟨K, h1⟩ := h.exL
  obtain ⟨⟨h2, h3⟩, h4⟩ := h1.assoc.pureL
  exact ⟨K, h2, h3, h4⟩
theorem toA {st w : World} {R : HProp} {p : Nat} {L : CL} {lim : Int} (K : List Kp) (hK : absK K = L) (hok : ∀ k ∈ K, k.ok) (h : Has st (sep (cacheP p K lim) R) w) : Has st (sep (cacheA p L lim) R) w :=
  Has.ofEx K ((Has.ofPure ⟨hK, hok⟩ h).unassoc)

theorem newA_any (st : World) (R : HProp) (lim : Int) (w : World) (h : Has st R w) (hl : -9223372036854775808 ≤ lim ∧ lim ≤ 9223372036854775807) :
    Calls Tryd.prog 10 #[.int .i64 lim] w fun e w' => ∃ p, e = .returned (.pointer (some ⟨p, 0, none⟩)) ∧ Has st (sep (cacheA p [] (max lim 0)) R) w' :=
  (cnew_any st R lim w h hl).mono fun e w' ⟨p, e1, h1⟩ => ⟨p, e1, toA [] rfl (by simp) h1⟩
theorem putA_any (st : World) (R : HProp) (p : Nat) (L : CL) (lim : Int) (b : List UInt8) (v : Value) (w : World) (h : Has st (sep (cacheA p L lim) R) w) (hk : Keys st R) (hst : Start st R) (hs : Sees st R 1 v b.length (bcells b))
    (hlen : L.length ≤ 100000) (htot : totL L ≤ 100000000) (hb : b.length ≤ 100000000) (hlim : 0 ≤ lim) :
    Calls Tryd.prog 13 #[.pointer (some ⟨p, 0, none⟩), v] w fun e w' => e = .returned (.agg (bcells (sha b)).toArray) ∧ Has st (sep (cacheA p (putL lim L (sha b) b) lim) R) w' := by
  obtain ⟨K, rfl, hok, h1⟩ := openA h
  rw [abs_length] at hlen
  rw [abs_tot] at htot
  exact (put_any st R p K lim b v w h1 hk hst hs hok hlen htot hb hlim).mono fun e w' ⟨e1, V, hV, h2⟩ => ⟨e1, toA _ (abs_put lim K ⟨sha b, V, b⟩) (ok_put hok hV) h2⟩
theorem getA_any (st : World) (R : HProp) (p : Nat) (L : CL) (lim : Int) (id : List UInt8) (w : World) (h : Has st (sep (cacheA p L lim) R) w) (hk : Keys st R) (hst : Start st R) (hid : id.length = 32)
    (hlen : L.length ≤ 100000) (htot : totL L ≤ 100000000) :
    Calls Tryd.prog 15 #[.pointer (some ⟨p, 0, none⟩), .agg (bcells id).toArray] w fun e w' => ∃ V, e = .returned (.tuple #[V, .bool (getL id L).2.2]) ∧ Has st (sep (row 5 1 V (getL id L).2.1.length (bcells (getL id L).2.1)) (sep (cacheA p (getL id L).1 lim) R)) w' := by
  obtain ⟨K, rfl, hok, h1⟩ := openA h
  rw [abs_length] at hlen
  rw [abs_tot] at htot
  refine (get_any st R p K lim id w h1 hk hst hid hok hlen htot).mono fun e w' ⟨V, e1, h2⟩ => ⟨V, ?_, ?_⟩
  · rw [← (abs_getK id K).2]; exact e1
  · rw [← (abs_getK id K).2]
    exact (toA _ (abs_getK id K).1 (ok_get hok) h2.second).second
theorem spoilA_any (st : World) (R : HProp) (p : Nat) (L : CL) (lim : Int) (id : List UInt8) (bit : Int) (w : World) (h : Has st (sep (cacheA p L lim) R) w) (hid : id.length = 32)
    (hlen : L.length ≤ 100000) (htot : totL L ≤ 100000000) :
    Calls Tryd.prog 18 #[.pointer (some ⟨p, 0, none⟩), .agg (bcells id).toArray, .int .i64 bit] w fun e w' => e = .returned (.bool (spoilL id bit L).2) ∧ Has st (sep (cacheA p (spoilL id bit L).1 lim) R) w' := by
  obtain ⟨K, rfl, hok, h1⟩ := openA h
  rw [abs_length] at hlen
  rw [abs_tot] at htot
  refine (spoil_any st R p K lim id bit w h1 hid hok hlen htot).mono fun e w' ⟨e1, h2⟩ => ⟨?_, ?_⟩
  · rw [← (abs_spoil id bit K).2]; exact e1
  · exact toA _ (abs_spoil id bit K).1 (ok_spoil hok) h2
theorem lenA_any (st : World) (R : HProp) (p : Nat) (L : CL) (lim : Int) (w : World) (h : Has st (sep (cacheA p L lim) R) w) :
    Calls Tryd.prog 22 #[.pointer (some ⟨p, 0, none⟩)] w fun e w' => e = .returned (.int .i64 (L.length : Int)) ∧ Has st (sep (cacheA p L lim) R) w' := by
  obtain ⟨K, rfl, hok, h1⟩ := openA h
  rw [abs_length]
  exact (len_any st R p K lim w h1).mono fun e w' ⟨e1, h2⟩ => ⟨e1, toA K rfl hok h2⟩
theorem sizeA_any (st : World) (R : HProp) (p : Nat) (L : CL) (lim : Int) (w : World) (h : Has st (sep (cacheA p L lim) R) w) :
    Calls Tryd.prog 23 #[.pointer (some ⟨p, 0, none⟩)] w fun e w' => e = .returned (.int .i64 (totL L : Int)) ∧ Has st (sep (cacheA p L lim) R) w' := by
  obtain ⟨K, rfl, hok, h1⟩ := openA h
  rw [abs_tot]
  exact (csize_any st R p K lim w h1).mono fun e w' ⟨e1, h2⟩ => ⟨e1, toA K rfl hok h2⟩
theorem wipeA_any (st : World) (R : HProp) (p : Nat) (L : CL) (lim : Int) (w : World) (h : Has st (sep (cacheA p L lim) R) w) :
    Calls Tryd.prog 19 #[.pointer (some ⟨p, 0, none⟩)] w fun e w' => e = .returned (.tuple #[]) ∧ Has st (sep (cacheA p [] lim) R) w' := by
  obtain ⟨K, rfl, hok, h1⟩ := openA h
  exact (wipe_any st R p K lim w h1).mono fun e w' ⟨e1, h2⟩ => ⟨e1, toA [] rfl (by simp) h2⟩
/-- sums' cells -/
def idsC (l : List (List UInt8)) : List Value := l.flatMap bcells
theorem idcs_ids : ∀ (K : List Kp) (h : ∀ k ∈ K, k.ok) (n : Nat), idcs ((idsOf K h).take n) = idsC (((absK K).map (·.1)).take n)
  | [], _, n => by simp [idsOf, idcs, idsC, absK]
  | k :: K, h, 0 => by simp [idcs, idsC]
  | k :: K, h, n + 1 => by
    have := idcs_ids K (fun x hx => h x (by simp [hx])) n
    simp only [idsOf, absK, List.map_cons, List.take_succ_cons, idcs, idsC, List.flatMap_cons] at this ⊢
    rw [this]; rfl
def topL (L : CL) (most : Int) : List (List UInt8) := (L.map (·.1)).take most.toNat
theorem allA_any (st : World) (R : HProp) (p : Nat) (L : CL) (lim most : Int) (w : World) (h : Has st (sep (cacheA p L lim) R) w) (hlen : L.length ≤ 100000) :
    Calls Tryd.prog 21 #[.pointer (some ⟨p, 0, none⟩), .int .i64 most] w fun e w' => ∃ A c, e = .returned (.slice A (topL L most).length c) ∧ Has st (sep (row 34 32 (.slice A (topL L most).length c) (topL L most).length (idsC (topL L most))) (sep (cacheA p L lim) R)) w' := by
  obtain ⟨K, rfl, hok, h1⟩ := openA h
  rw [abs_length] at hlen
  refine (allL_any st R p K lim most w h1 hok hlen).mono fun e w' ⟨v, e1, h2⟩ => ?_
  have hl : (allIds K hok most).length = (topL (absK K) most).length := by
    unfold allIds topL
    rw [List.length_take, List.length_take, idsOf_length, List.length_map, abs_length]
  have hc : idcs (allIds K hok most) = idsC (topL (absK K) most) := idcs_ids K hok _
  rw [hl, hc] at h2
  obtain ⟨A, c, rfl⟩ := h2.row_slice
  exact ⟨A, c, e1, (toA K rfl hok h2.second).second⟩
end Go.Proofs.YtblknhpafifebaaDoor

/-
  cache: the contracts as they are used in a walk.
-/
namespace Go.Proofs.YtblknhpafifebaaDoor
open Go Go.RowKit Go.Sl Go.Sha
set_option linter.unusedVariables false
set_option linter.unusedSimpArgs false
set_option maxRecDepth 100000

/-- Put of b turns L to L', and hands back S -/
def PutC (st : World) (R : HProp) (lim : Int) (L L' : CL) (b S : List UInt8) : Prop := ∀ p F v w, (∀ w, Has st F w → Has st R w) → Sees st F 1 v b.length (bcells b) → Has st (sep (cacheA p L lim) F) w →
  Calls Tryd.prog 13 #[.pointer (some ⟨p, 0, none⟩), v] w fun e w' => e = .returned (.agg (bcells S).toArray) ∧ Has st (sep (cacheA p L' lim) F) w'
theorem putC {st : World} {R : HProp} {lim : Int} {L L' : CL} {b S : List UInt8} (hk : Keys st R) (hst : Start st R) (hS : S = sha b) (hL : L' = putL lim L S b) (hlen : L.length ≤ 100000) (htot : totL L ≤ 100000000) (hb : b.length ≤ 100000000) (hlim : 0 ≤ lim) : PutC st R lim L L' b S := by
  intro p F v w hF hs h
  subst hS hL
  exact putA_any st F p L lim b v w h (fun w h => hk w (hF w h)) (fun w h => hst w (hF w h)) hs hlen htot hb hlim
def GetC (st : World) (R : HProp) (lim : Int) (L : CL) (id : List UInt8) (L' : CL) (g : List UInt8) (ok : Bool) : Prop := ∀ p F w, (∀ w, Has st F w → Has st R w) → Has st (sep (cacheA p L lim) F) w →
  Calls Tryd.prog 15 #[.pointer (some ⟨p, 0, none⟩), .agg (bcells id).toArray] w fun e w' => ∃ A c, e = .returned (.tuple #[.slice A g.length c, .bool ok]) ∧ Has st (sep (row 5 1 (.slice A g.length c) g.length (bcells g)) (sep (cacheA p L' lim) F)) w'
theorem getC {st : World} {R : HProp} {lim : Int} {L L' : CL} {id g : List UInt8} {ok : Bool} (hk : Keys st R) (hst : Start st R) (hid : id.length = 32) (hg : getL id L = (L', g, ok)) (hlen : L.length ≤ 100000) (htot : totL L ≤ 100000000) : GetC st R lim L id L' g ok := by
  intro p F w hF h
  have := getA_any st F p L lim id w h (fun w h => hk w (hF w h)) (fun w h => hst w (hF w h)) hid hlen htot
  rw [hg] at this
  refine this.mono fun e w' ⟨V, e1, h1⟩ => ?_
  obtain ⟨A, c, rfl⟩ := h1.row_slice
  exact ⟨A, c, e1, h1⟩
def SpoilC (st : World) (lim : Int) (L : CL) (id : List UInt8) (bit : Int) (L' : CL) (ok : Bool) : Prop := ∀ p F w, Has st (sep (cacheA p L lim) F) w →
  Calls Tryd.prog 18 #[.pointer (some ⟨p, 0, none⟩), .agg (bcells id).toArray, .int .i64 bit] w fun e w' => e = .returned (.bool ok) ∧ Has st (sep (cacheA p L' lim) F) w'
theorem spoilC {st : World} {lim : Int} {L L' : CL} {id : List UInt8} {bit : Int} {ok : Bool} (hid : id.length = 32) (hg : spoilL id bit L = (L', ok)) (hlen : L.length ≤ 100000) (htot : totL L ≤ 100000000) : SpoilC st lim L id bit L' ok := by
  intro p F w h
  have := spoilA_any st F p L lim id bit w h hid hlen htot
  rw [hg] at this
  exact this
def LenC (st : World) (lim : Int) (L : CL) (n : Nat) : Prop := ∀ p F w, Has st (sep (cacheA p L lim) F) w →
  Calls Tryd.prog 22 #[.pointer (some ⟨p, 0, none⟩)] w fun e w' => e = .returned (.int .i64 (n : Int)) ∧ Has st (sep (cacheA p L lim) F) w'
theorem lenC {st : World} {lim : Int} {L : CL} {n : Nat} (hn : n = L.length) : LenC st lim L n := fun p F w h => by rw [hn]; exact lenA_any st F p L lim w h
def SizeC (st : World) (lim : Int) (L : CL) (n : Nat) : Prop := ∀ p F w, Has st (sep (cacheA p L lim) F) w →
  Calls Tryd.prog 23 #[.pointer (some ⟨p, 0, none⟩)] w fun e w' => e = .returned (.int .i64 (n : Int)) ∧ Has st (sep (cacheA p L lim) F) w'
theorem sizeC {st : World} {lim : Int} {L : CL} {n : Nat} (hn : n = totL L) : SizeC st lim L n := fun p F w h => by rw [hn]; exact sizeA_any st F p L lim w h
def WipeC (st : World) (lim : Int) (L : CL) : Prop := ∀ p F w, Has st (sep (cacheA p L lim) F) w →
  Calls Tryd.prog 19 #[.pointer (some ⟨p, 0, none⟩)] w fun e w' => e = .returned (.tuple #[]) ∧ Has st (sep (cacheA p [] lim) F) w'
theorem wipeC {st : World} {lim : Int} {L : CL} : WipeC st lim L := fun p F w h => wipeA_any st F p L lim w h
def AllC (st : World) (lim : Int) (L : CL) (most : Int) (T : List (List UInt8)) : Prop := ∀ p F w, Has st (sep (cacheA p L lim) F) w →
  Calls Tryd.prog 21 #[.pointer (some ⟨p, 0, none⟩), .int .i64 most] w fun e w' => ∃ A c, e = .returned (.slice A T.length c) ∧ Has st (sep (row 34 32 (.slice A T.length c) T.length (idsC T)) (sep (cacheA p L lim) F)) w'
theorem allC {st : World} {lim : Int} {L : CL} {most : Int} {T : List (List UInt8)} (hT : T = topL L most) (hlen : L.length ≤ 100000) : AllC st lim L most T := fun p F w h => by rw [hT]; exact allA_any st F p L lim most w h hlen
def NewC (st : World) (R : HProp) (lim l2 : Int) : Prop := ∀ w, Has st R w → Calls Tryd.prog 10 #[.int .i64 lim] w fun e w' => ∃ p, e = .returned (.pointer (some ⟨p, 0, none⟩)) ∧ Has st (sep (cacheA p [] l2) R) w'
theorem newC {st : World} {R : HProp} {lim l2 : Int} (h2 : l2 = max lim 0) (hl : -9223372036854775808 ≤ lim ∧ lim ≤ 9223372036854775807) : NewC st R lim l2 := fun w h => by rw [h2]; exact newA_any st R lim w h hl

/-! the example -/
abbrev eAB : List UInt8 := [97, 98]
abbrev eC : List UInt8 := [99]
abbrev eD : List UInt8 := [100]
theorem live_ab_c : (sha eAB == sha eC) = false := by decide +kernel
theorem live_ab_d : (sha eAB == sha eD) = false := by decide +kernel
theorem live_c_d : (sha eC == sha eD) = false := by decide +kernel
theorem live_spoilt : (sha [108] == sha eD) = false := by decide +kernel
end Go.Proofs.YtblknhpafifebaaDoor

/-
  Slices of slices of bytes; coldstoreref10.SameIDs of the same sums.
-/
namespace Go.Proofs.YtblknhpafifebaaDoor
open Go.ChangeShapes Go.WideShapes Go.ChangeAt Go.RowKit Go.Sl
set_option linter.unusedVariables false
set_option linter.unusedSimpArgs false
set_option maxRecDepth 100000
/-- v is a slice of slices of bytes that read ls -/
def SeesL (s : World) (R : HProp) (v : Value) (ls : List (List UInt8)) : Prop :=
  ∃ vs, Sees s R 1 v ls.length vs ∧ ∀ (i : Nat) (h : i < ls.length), ∃ A c, vs[i]? = some (.slice A (ls[i]).length c) ∧ Sees s R 1 (.slice A (ls[i]).length c) (ls[i]).length (bcells ls[i])
theorem open_lists {H : Type} {enc : TypeId × Value → H} {W : World} {base fuel : Nat} {held : Bool} {b : Option Addr} {len cap : Nat} {x : DataW H × List MemPlace} (h : DataW.trod enc Tryd.prog W base (fun _ => true) held fuel 59 [.slice b len cap] = some x) :
    ∃ ls : List (List UInt8), len = ls.length ∧ SeesL W (old W) (.slice b len cap) ls := by
  obtain ⟨A, n, c, vs, hcs, hs, hall⟩ := open_cells (size := 1) Tryd.underlying59 (by kernel_rfl) (by decide) h
  injection hcs with hv _
  injection hv with e1 e2 e3
  subst e1 e2 e3
  obtain ⟨ls, hl, hp⟩ := choose_list (α := List UInt8) (n := len) (p := fun i l => ∃ B d, vs[i]? = some (.slice B l.length d) ∧ Sees W (old W) 1 (.slice B l.length d) l.length (bcells l)) (fun i hi => by
    obtain ⟨cs', m, y, ht, hlen, hg⟩ := hall i hi
    obtain ⟨B, d, l, e3, s3⟩ := open_bytes Tryd.underlying30 Tryd.underlying5 (by kernel_rfl) ht
    refine ⟨l, B, d, ?_, s3⟩
    have := hg 0 (by decide)
    rw [Nat.mul_one, Nat.add_zero] at this
    rw [this, e3]; rfl)
  subst hl
  exact ⟨ls, rfl, vs, hs, fun i hi => hp i hi⟩
theorem idsC_cell : ∀ {T : List (List UInt8)}, (∀ x ∈ T, x.length = 32) → ∀ {i : Nat} (hi : i < T.length) {j : Nat} {u : Value}, (bcells T[i])[j]? = some u → (idsC T)[i * 32 + j]? = some u
  | x :: T, h, 0, _, j, u, hj => by
    have hj' : (bcells x)[j]? = some u := hj
    show (bcells x ++ idsC T)[0 * 32 + j]? = some u
    rw [Nat.zero_mul, Nat.zero_add, List.getElem?_append_left (List.getElem?_eq_some_iff.1 hj').1]; exact hj'
  | x :: T, h, i + 1, hi, j, u, hj => by
    have hi' : i < T.length := by simpa using hi
    have := idsC_cell (T := T) (fun y hy => h y (by simp [hy])) hi' (j := j) (u := u) hj
    show (bcells x ++ idsC T)[(i + 1) * 32 + j]? = some u
    have hx : (bcells x).length = 32 := by rw [bcells_length]; exact h x (by simp)
    rw [List.getElem?_append_right (by omega), hx, show (i + 1) * 32 + j - 32 = i * 32 + j by omega]; exact this
end Go.Proofs.YtblknhpafifebaaDoor

/-
  coldstorelaw14.CacheBig: the plain law.
-/
namespace Go.Proofs.YtblknhpafifebaaDoor
open Go Go.RowKit Go.Sl Go.Sha
set_option linter.unusedVariables false
set_option linter.unusedSimpArgs false

theorem mem_drop {id : List UInt8} {L : CL} : ∀ e ∈ dropL id L, e ∈ L := by
  unfold dropL; split
  · exact fun e he => List.mem_of_mem_eraseIdx he
  · exact fun e he => he
theorem mem_trim {lim : Int} {n : Nat} : ∀ {L : CL}, ∀ e ∈ trimL lim n L, e ∈ L
  | [], e, h => h
  | k :: L, e, h => by
    rw [trimL] at h
    split at h
    · exact List.mem_cons_of_mem _ (mem_trim e h)
    · exact h
theorem mem_put {lim : Int} {L : CL} {id b : List UInt8} : ∀ e ∈ putL lim L id b, e ∈ L ∨ (e = (id, b) ∧ ¬ lim < (b.length : Int)) := by
  intro e he
  unfold putL at he
  split at he
  · exact .inl (mem_drop e he)
  · rename_i h
    rcases List.mem_append.1 he with he | he
    · exact .inl (mem_drop e (mem_trim e he))
    · exact .inr ⟨by simpa using he, h⟩
theorem mem_get {id : List UInt8} {L : CL} : ∀ e ∈ (getL id L).1, e ∈ L := by
  intro e he
  unfold getL at he
  split at he
  · exact he
  · split at he
    · exact he
    · rename_i k hk
      split at he
      · rcases List.mem_append.1 he with he | he
        · exact List.mem_of_mem_eraseIdx he
        · rw [List.mem_singleton] at he; rw [he]; exact List.mem_of_getElem? hk
      · exact List.mem_of_mem_eraseIdx he
theorem tot_cons (k : List UInt8 × List UInt8) (L : CL) : totL (k :: L) = k.2.length + totL L := by simp [totL]
theorem tot_append (L M : CL) : totL (L ++ M) = totL L + totL M := by simp [totL]
theorem totL_erase : ∀ (L : CL) (i : Nat), totL (L.eraseIdx i) ≤ totL L
  | [], _ => by simp
  | k :: L, 0 => by rw [tot_cons]; simp
  | k :: L, i + 1 => by rw [List.eraseIdx_cons_succ, tot_cons, tot_cons]; have := totL_erase L i; omega
theorem totL_erase_at : ∀ (L : CL) (i : Nat) (k : List UInt8 × List UInt8), L[i]? = some k → totL (L.eraseIdx i) + k.2.length = totL L
  | k :: L, 0, k', h => by simp at h; subst h; rw [tot_cons]; simp; omega
  | k :: L, i + 1, k', h => by
    rw [List.eraseIdx_cons_succ, tot_cons, tot_cons]
    have := totL_erase_at L i k' (by simpa using h); omega
theorem len_dropL (id : List UInt8) (L : CL) : (dropL id L).length ≤ L.length := by
  unfold dropL; split
  · exact List.length_eraseIdx_le _ _
  · exact Nat.le_refl _
theorem tot_dropL (id : List UInt8) (L : CL) : totL (dropL id L) ≤ totL L := by
  unfold dropL; split
  · exact totL_erase _ _
  · exact Nat.le_refl _
theorem len_trimL (lim : Int) (n : Nat) : ∀ L : CL, (trimL lim n L).length ≤ L.length
  | [] => by simp [trimL]
  | k :: L => by
    rw [trimL]; split
    · have := len_trimL lim n L; simp; omega
    · exact Nat.le_refl _
theorem tot_trimL (lim : Int) (n : Nat) : ∀ L : CL, totL (trimL lim n L) ≤ totL L
  | [] => by simp [trimL]
  | k :: L => by
    rw [trimL]; split
    · have := tot_trimL lim n L; rw [tot_cons]; omega
    · exact Nat.le_refl _
theorem len_putL (lim : Int) (L : CL) (id b : List UInt8) : (putL lim L id b).length ≤ L.length + 1 := by
  have h1 := len_dropL id L
  have h2 := len_trimL lim b.length (dropL id L)
  unfold putL; split <;> simp <;> omega
theorem tot_putL (lim : Int) (L : CL) (id b : List UInt8) : totL (putL lim L id b) ≤ totL L + b.length := by
  have h1 := tot_dropL id L
  have h2 := tot_trimL lim b.length (dropL id L)
  unfold putL; split
  · omega
  · rw [tot_append]; simp only [totL, List.map_cons, List.map_nil, List.sum_cons, List.sum_nil] at h1 h2 ⊢; omega
theorem len_getL (id : List UInt8) (L : CL) : (getL id L).1.length ≤ L.length := by
  unfold getL; split
  · exact Nat.le_refl _
  · split
    · exact Nat.le_refl _
    · rename_i i _ k hk
      have hlt := (List.getElem?_eq_some_iff.1 hk).1
      split
      · simp [List.length_eraseIdx_of_lt hlt]; omega
      · exact List.length_eraseIdx_le _ _
theorem tot_getL (id : List UInt8) (L : CL) : totL (getL id L).1 ≤ totL L := by
  unfold getL; split
  · exact Nat.le_refl _
  · split
    · exact Nat.le_refl _
    · rename_i k hk
      have he := totL_erase_at L _ k hk
      split
      · rw [tot_append]; simp only [totL, List.map_cons, List.map_nil, List.sum_cons, List.sum_nil] at he ⊢; omega
      · exact totL_erase _ _
/-- what is kept is of its sum, and no longer than the limit; what is of X's sum is big -/
def BigInv (lim : Int) (X big : List UInt8) (L : CL) : Prop := ∀ e ∈ L, e.1.length = 32 ∧ (e.2.length : Int) ≤ lim ∧ (e.1 = X → e.2 = big)
theorem big_put {lim : Int} {X big : List UInt8} {L : CL} (h : BigInv lim X big L) {b : List UInt8} (hb : (sha b == X) = true → b = big) : BigInv lim X big (putL lim L (sha b) b) := by
  intro e he
  rcases mem_put e he with he | ⟨rfl, h2⟩
  · exact h e he
  · exact ⟨sha_length b, by show ((b.length : Nat) : Int) ≤ lim; omega, fun e => hb (by rw [show (sha b) = X from e]; simp)⟩
theorem big_get {lim : Int} {X big id : List UInt8} {L : CL} (h : BigInv lim X big L) : BigInv lim X big (getL id L).1 := fun e he => h e (mem_get e he)
theorem big_place {lim : Int} {X big : List UInt8} {L : CL} (h : BigInv lim X big L) (hl : lim < (big.length : Int)) : placeL X L = none := by
  unfold placeL
  rw [List.findIdx?_eq_none_iff]
  intro e he
  obtain ⟨_, h2, h3⟩ := h e he
  rw [beq_eq_false_iff_ne]
  intro hx
  rw [h3 hx] at h2
  omega
theorem big_putX {lim : Int} {X big : List UInt8} {L : CL} (h : BigInv lim X big L) (hl : lim < (big.length : Int)) : putL lim L X big = L := by
  unfold putL dropL
  rw [if_pos hl, big_place h hl]
theorem big_getX {lim : Int} {X big : List UInt8} {L : CL} (h : BigInv lim X big L) (hl : lim < (big.length : Int)) : getL X L = (L, [], false) := by
  unfold getL
  rw [big_place h hl]
end Go.Proofs.YtblknhpafifebaaDoor

/-
  What every row of this seat takes: the listed variables, opened; rows of bytes as arguments; the witness's heap.
-/
namespace Go.Sl
open Go.ChangeShapes Go.WideShapes Go.ChangeAt Go.RowKit
set_option linter.unusedVariables false
set_option linter.unusedSimpArgs false
theorem okWide_array {P : Program} {w : World} {r : Reach} {base : Nat} {t : TypeId} {v : Value} {n : Nat} {e : TypeId} (ht : P.underlying t = some (.array n e)) (h : Value.okWide P w r base t v) : ∃ cs, v = .agg cs ∧ cs.size = P.cellsOf t := by
  simp only [Value.okWide, ht] at h
  obtain ⟨cs, h1, h2, _⟩ := h
  exact ⟨cs, h1, h2⟩
section
variable {H : Type} {enc : TypeId × Value → H} {P : Program} {W : World} {base : Nat} {held : Bool} {sp : Nat → Bool}
theorem open_byte_row {t e : TypeId} {n fuel : Nat} {cs : List Value} {x : DataW H × List MemPlace} (ht : P.underlying t = some (.array n e)) (he : P.underlying e = some (.int .u8)) (hc : P.cellsOf e = 1) (hct : P.cellsOf t = n)
    (h : DataW.trod enc P W base sp held fuel t cs = some x) : ∃ l : List UInt8, l.length = n ∧ cs = bcells l := by
  obtain ⟨xs, m, rfl, rfl, hlen, hn, hel⟩ := DataW.trod_array ht h
  rw [hct] at hlen
  obtain ⟨l, hl, hp⟩ := choose_list (α := UInt8) (n := n) (p := fun i c => cs[i]? = some (.int .u8 (c.toNat : Int))) (fun i hi => by
    have h1 := hel i hi
    rw [hc, Nat.mul_one, List.getElem?_eq_getElem (show i < xs.length by omega)] at h1
    obtain ⟨k, e1, _, wf⟩ := DataW.trod_int he h1
    obtain ⟨c, rfl⟩ := nat_u8 wf
    exact ⟨c, one_cell e1⟩)
  refine ⟨l, hl, ?_⟩
  apply List.ext_getElem?
  intro i
  by_cases hi : i < l.length
  · rw [hp i hi, bcells_get hi]
  · rw [List.getElem?_eq_none (by omega), List.getElem?_eq_none (by rw [bcells_length]; omega)]
theorem open_word_row {t e : TypeId} {n fuel : Nat} {cs : List Value} {x : DataW H × List MemPlace} (ht : P.underlying t = some (.array n e)) (he : P.underlying e = some (.int .u32)) (hc : P.cellsOf e = 1) (hct : P.cellsOf t = n)
    (h : DataW.trod enc P W base sp held fuel t cs = some x) (l : List UInt32) (hl : l.length = n) (hd : x.1 = .agg (l.map fun y => .lit (.int .u32 (y.toNat : Int)))) : cs = wcells l := by
  obtain ⟨xs, m, rfl, rfl, hlen, hn, hel⟩ := DataW.trod_array ht h
  rw [hct] at hlen
  simp only [DataW.agg.injEq] at hd
  apply List.ext_getElem?
  intro i
  by_cases hi : i < l.length
  · have h1 := hel i (by omega)
    rw [hc, Nat.mul_one, List.getElem?_eq_getElem (show i < xs.length by omega)] at h1
    obtain ⟨k, e1, e2, wf⟩ := DataW.trod_int he h1
    have h2 : (xs.map (·.1))[i]? = (l.map fun y => (DataW.lit (.int .u32 (y.toNat : Int)) : DataW H))[i]? := by rw [hd]
    simp only [List.getElem?_map, List.getElem?_eq_getElem hi, List.getElem?_eq_getElem (show i < xs.length by omega), Option.map_some, Option.some.injEq] at h2
    rw [e2] at h2
    simp only [DataW.lit.injEq, Lit.int.injEq, true_and] at h2
    rw [one_cell e1, wcells_get hi, h2]
  · rw [List.getElem?_eq_none (by omega), List.getElem?_eq_none (by rw [wcells_length]; omega)]
end
theorem heap_of_var {P : Program} {w : World} {name : String} {g : Nat} {cs : Array Value} (hg : P.globalNamed name = some g) (h : w.var? P name = some cs) : ∃ T fr, w.heap[g]? = some (.cells cs T fr) := by
  unfold World.var? at h
  rw [hg, Option.bind_some] at h
  cases ho : w.heap[g]? with
  | none => rw [ho] at h; cases h
  | some o =>
    rw [ho] at h
    cases o <;> simp at h
    subst h
    exact ⟨_, _, rfl⟩
end Go.Sl
namespace Go.Proofs.YtblknhpafifebaaDoor
open Go.ChangeShapes Go.WideShapes Go.ChangeAt Go.RowKit Go.Sl
theorem own : ownKnob Tryd.prog.godebug = none := by kernel_rfl
theorem laidOut : laidOutB Tryd.prog = true := by kernel_rfl
abbrev laidL : List (String × DataW Unit) := [("coldstore/sha.start", Rows.laid_coldstore_sha_start), ("coldstore/sha.keys", Rows.laid_coldstore_sha_keys)]
theorem door_met (os : Os) (args : Array Value) : laidMetH Tryd.prog laidL ((World.doorLaid Tryd.prog 19 os).forCall (fun _ _ => 0) ⟨#[], args, []⟩).memory :=
  laidMetH_of_parts3 (fuel := 8) (laidMet_of_run' 8 (by kernel_rfl) (by kernel_rfl)) (by kernel_rfl) (by kernel_rfl)
theorem gStart : Tryd.prog.globalNamed "coldstore/sha.start" = some 0 := by kernel_rfl
theorem gKeys : Tryd.prog.globalNamed "coldstore/sha.keys" = some 1 := by kernel_rfl
theorem tStart : (Tryd.prog.globals[0]?).map (·.type) = some 84 := by kernel_rfl
theorem tKeys : (Tryd.prog.globals[1]?).map (·.type) = some 96 := by kernel_rfl
/-- what the condition gives the walks -/
theorem of_laid {W : World} (h : laidMetH Tryd.prog laidL W) : Keys W (old W) ∧ Start W (old W) := by
  rw [MakeChecks.laidMetH_plain _ _ _ (by kernel_rfl)] at h
  obtain ⟨ps, ⟨g0, t0, cs0, f0, p0, q0, hg0, ht0, hv0, hd0, ⟨g1, t1, cs1, f1, p1, q1, hg1, ht1, hv1, hd1, _, _⟩, _⟩, _, _⟩ := h
  obtain rfl := Option.some.inj (gStart.symm.trans hg0)
  obtain rfl := Option.some.inj (gKeys.symm.trans hg1)
  obtain rfl := Option.some.inj (tStart.symm.trans ht0)
  obtain rfl := Option.some.inj (tKeys.symm.trans ht1)
  have e0 := open_word_row Tryd.underlying84 Tryd.underlying70 (by kernel_rfl) (by kernel_rfl) hd0 Sha.start.list (by kernel_rfl) (by kernel_rfl)
  have e1 := open_word_row Tryd.underlying96 Tryd.underlying70 (by kernel_rfl) (by kernel_rfl) hd1 Sha.keyList (by kernel_rfl) (by kernel_rfl)
  obtain ⟨T0, fr0, h0⟩ := heap_of_var gStart hv0
  obtain ⟨T1, fr1, h1⟩ := heap_of_var gKeys hv1
  have a0 : cs0 = (wcells Sha.start.list).toArray := by rw [← e0]
  have a1 : cs1 = (wcells Sha.keyList).toArray := by rw [← e1]
  have l0 : 0 < W.heap.size := (Array.getElem?_eq_some_iff.1 h0).1
  have l1 : 1 < W.heap.size := (Array.getElem?_eq_some_iff.1 h1).1
  exact ⟨fun w hw => ⟨T1, fr1, by rw [hw.old_below.block _ l1, h1, a1]⟩, fun w hw => ⟨T0, fr0, by rw [hw.old_below.block _ l0, h0, a0]⟩⟩
end Go.Proofs.YtblknhpafifebaaDoor

/-
  The steps that the statements of layer 14 are given, read in memory; few; clear of a row of one's own.
-/
namespace Go.Sl
open Go Go.RowKit
set_option linter.unusedVariables false
set_option linter.unusedSimpArgs false
theorem opw_clearR {P : Program} {o : Oper} {a : Act} {w : World} {K : Act → World → Prop} {Q : Exit → Act → World → Prop} {st : World} (x : Operand) (t e : TypeId) (size : Nat) (z : Value) (ho : o.op = .call { callee := .builtin .clear, args := #[x], argTypes := #[t] })
    (ht : P.underlying t = some (.slice e)) (hv : ∀ w, (zeroValue e).run P w = .ok z w) (hzs : z.cells.size = size) (hz1 : ∀ v ∈ z.cells.toList, v.oneCell' = true)
    {A : Option Addr} {n c : Nat} {xs : List Value} {R : HProp} (hx : a.eval x = .slice A n c) (h : Has st (sep (row e size (.slice A n c) n xs) R) w)
    (hK : ∀ w', Has st R w' → K (a.put o.dst (.tuple #[])) w') : o.wp P a w K Q := by
  cases n with
  | zero =>
    have := hK w h.right
    unfold Oper.wp
    cases A <;> simp [execOp, ho, resolve, invoke, builtin, hx, Result.andThen, Builtin.clear_, run_underlying ht] <;> exact this
  | succ m =>
    obtain ⟨g, rfl⟩ := h.row_at33 (i := 0) (by omega)
    exact opw_clear (k := 0) (n := m + 1) x t e size z ho ht hv hzs hz1 c hx (fun _ => by rw [Nat.zero_mul]) (by omega) h fun w' ys _ _ h' => hK w' h'.right
end Go.Sl
namespace Go.Proofs.YtblknhpafifebaaDoor
open Go.ChangeShapes Go.WideShapes Go.ChangeAt Go.RowKit Go.Sl
set_option linter.unusedVariables false
set_option linter.unusedSimpArgs false
set_option maxRecDepth 100000
theorem infoO : (Tryd.prog.info? 32).map (·.size) = some 3 := by kernel_rfl
theorem infoOz : (Tryd.prog.info? 32).map (·.zero) = some (some (.agg #[.int .i64 0, .int .i64 0, .slice none 0 0])) := by kernel_rfl
structure OpV where
  kind : Int
  bit : Int
  b : List UInt8

/-- v is a slice of steps that read ops -/
def SeesOps (s : World) (R : HProp) (v : Value) (ops : List OpV) : Prop :=
  ∃ vs, Sees s R 3 v ops.length vs ∧ ∀ (i : Nat) (h : i < ops.length), ∃ A c, vs[i * 3]? = some (.int .i64 ops[i].kind) ∧ vs[i * 3 + 1]? = some (.int .i64 ops[i].bit) ∧
    vs[i * 3 + 2]? = some (.slice A ops[i].b.length c) ∧ Sees s R 1 (.slice A ops[i].b.length c) ops[i].b.length (bcells ops[i].b)
/-- the argument: steps -/
theorem open_ops {H : Type} {enc : TypeId × Value → H} {W : World} {base fuel : Nat} {held : Bool} {b : Option Addr} {len cap : Nat} {x : DataW H × List MemPlace} (h : DataW.trod enc Tryd.prog W base (fun _ => true) held fuel 22 [.slice b len cap] = some x) :
    ∃ ops : List OpV, len = ops.length ∧ SeesOps W (old W) (.slice b len cap) ops := by
  obtain ⟨A, n, c, vs, hcs, hs, hall⟩ := open_cells (size := 3) Tryd.underlying22 (by kernel_rfl) (by decide) h
  injection hcs with hv _
  injection hv with e1 e2 e3
  subst e1 e2 e3
  obtain ⟨ops, hl, hops⟩ := choose_list (α := OpV) (n := len) (p := fun i o => ∃ A c, vs[i * 3]? = some (.int .i64 o.kind) ∧ vs[i * 3 + 1]? = some (.int .i64 o.bit) ∧
    vs[i * 3 + 2]? = some (.slice A o.b.length c) ∧ Sees W (old W) 1 (.slice A o.b.length c) o.b.length (bcells o.b)) (fun i hi => by
      obtain ⟨cs', m, y, ht, hlen, hg⟩ := hall i hi
      obtain ⟨m0, y0, h0⟩ := open_field Tryd.underlying32 ht 0 _ rfl
      obtain ⟨m1, y1, h1⟩ := open_field Tryd.underlying32 ht 1 _ rfl
      obtain ⟨m2, y2, h2⟩ := open_field Tryd.underlying32 ht 2 _ rfl
      obtain ⟨k0, e0, _⟩ := open_int_at (j := 0) Tryd.underlying3 h0
      obtain ⟨k1, e1, _⟩ := open_int_at (j := 1) Tryd.underlying3 h1
      obtain ⟨B, d, l, e2, s2⟩ := open_bytes Tryd.underlying30 Tryd.underlying5 (by kernel_rfl) h2
      exact ⟨⟨k0, k1, l⟩, B, d, by rw [← e0]; exact hg 0 (by decide), by rw [← e1]; exact hg 1 (by decide), by rw [hg 2 (by decide)]; exact one_cell e2, s2⟩)
  subst hl
  exact ⟨ops, rfl, vs, hs, fun i hi => hops i hi⟩
/-- the facts that a round asks for -/
theorem ops_at {s : World} {R : HProp} {w : World} {A0 : Option Addr} {cap : Nat} {ops : List OpV} (h : SeesOps s R (.slice A0 ops.length cap) ops) (hw : Has s R w) {i : Nat} (hi : i < ops.length) : ∃ b off A c, A0 = some ⟨b, off, none⟩ ∧
    w.rangeAt b (off + i * 3) [.int .i64 ops[i].kind, .int .i64 ops[i].bit, .slice A ops[i].b.length c] ∧ Sees s R 1 (.slice A ops[i].b.length c) ops[i].b.length (bcells ops[i].b) := by
  obtain ⟨vs, hv, hall⟩ := h
  obtain ⟨A, c, h0, h1, h2, hr⟩ := hall i hi
  obtain ⟨b, off, cap', e, _, _, hc⟩ := (hv w hw).open (by omega)
  injection e with e _ _
  refine ⟨b, off, A, c, e, ?_, hr⟩
  have g0 := hc _ _ h0
  have g1 := hc _ _ h1
  have g2 := hc _ _ h2
  rw [← Nat.add_assoc] at g1 g2
  intro j u hj
  match j, hj with
  | 0, hj => simp at hj; subst hj; exact g0
  | 1, hj => simp at hj; subst hj; exact g1
  | 2, hj => simp at hj; subst hj; exact g2
def fewB (ops : List OpV) : Bool := ops.all (fun o => decide (o.b.length ≤ 100)) && decide (ops.length ≤ 30)
theorem few_false {ops : List OpV} {i : Nat} (hi : i < ops.length) (h : 100 < ops[i].b.length) : fewB ops = false := by
  unfold fewB
  rw [Bool.and_eq_false_iff, List.all_eq_false]
  exact .inl ⟨ops[i], List.getElem_mem hi, by simpa using h⟩
theorem few_all {ops : List OpV} (h : ∀ o ∈ ops, o.b.length ≤ 100) : fewB ops = decide (ops.length ≤ 30) := by
  unfold fewB
  rw [show ops.all (fun o => decide (o.b.length ≤ 100)) = true by rw [List.all_eq_true]; intro o ho; simpa using h o ho, Bool.true_and]
theorem few_true {ops : List OpV} (h : fewB ops = true) : (∀ o ∈ ops, o.b.length ≤ 100) ∧ ops.length ≤ 30 := by
  unfold fewB at h
  rw [Bool.and_eq_true, List.all_eq_true] at h
  exact ⟨fun o ho => by simpa using h.1 o ho, by simpa using h.2⟩
def FewRel (st : World) (R : HProp) (ops : List OpV) (N : Nat) (v7 : Value) (wr : World) : Prop :=
  ∃ i : Nat, i ≤ N ∧ v7 = .int .i64 (i : Int) ∧ Hid (∀ o ∈ ops.take i, o.b.length ≤ 100) ∧ Hid (Has st R wr)

set_option maxHeartbeats 2000000 in
theorem few_any (st : World) (R : HProp) (A : Option Addr) (c : Nat) (ops : List OpV) (hs : SeesOps st R (.slice A ops.length c) ops) (w : World) (h : Has st R w) :
    Calls Tryd.prog 9 #[.slice A ops.length c] w fun e w' => e = .returned (.bool (fewB ops)) ∧ Has st R w' := by
  have HS := Lib.hid hs
  have HH := Lib.hid h
  obtain ⟨N, hN⟩ : ∃ N, N = ops.length := ⟨_, rfl⟩
  rw [← hN]
  have hNle : N ≤ 9223372036854775807 := by
    obtain ⟨vs, hv, _⟩ := hs
    obtain ⟨_, a, cap, e, h1, h2, _⟩ := hv w h
    injection e with _ e2 e3
    unfold maxLen at h2
    omega
  have HN := Lib.hid hN
  obtain ⟨FB, hFB⟩ : ∃ FB, FB = fewB ops := ⟨_, rfl⟩
  rw [← hFB]
  have HFB := Lib.hid hFB
  clear hs h hN hFB
  go_enter Tryd.func9, Tryd.ntmps9
  go_wp2
  go_loopw [4, 7] (fun _ v7 wr => FewRel st R ops N v7 wr) (fun _ v7 _ => N - (intOf v7).toNat)
  case atStart => exact ⟨0, Nat.zero_le _, rfl, Lib.hid (by simp), HH⟩
  case round =>
    obtain ⟨i, hi, rfl, HA, HR⟩ := hrel
    clear HH
    by_cases hlt : i < N
    · have hlt' : i < ops.length := by rw [← HN.out]; exact hlt
      have hs' := HS.out
      obtain ⟨g, off, B, d, rfl, hrg, hsb⟩ := ops_at hs' HR.out hlt'
      obtain ⟨OC, hOC⟩ : ∃ OC : List Value, OC = [.int .i64 ops[i].kind, .int .i64 ops[i].bit, .slice B ops[i].b.length d] := ⟨_, rfl⟩
      obtain ⟨nb, hnb⟩ : ∃ n, n = ops[i].b.length := ⟨_, rfl⟩
      have HNB := Lib.hid hnb
      rw [← hOC] at hrg
      have HRG := Lib.hid hrg
      rw [← hnb] at hOC
      have HOI : Hid ((Tryd.prog.info? 32).map (·.size) = some OC.length) := Lib.hid (by rw [hOC]; exact infoO)
      have HOI2 : Hid ((Tryd.prog.info? 32).map (·.size) = some OC.toArray.size) := Lib.hid (by rw [hOC]; exact infoO)
      have HOZ : Hid ((#[.int .i64 0, .int .i64 0, .slice none 0 0] : Array Value).size = OC.toArray.size) := Lib.hid (by rw [hOC]; rfl)
      have HO1 : Hid (OC.toArray.all (·.oneCell') = true) := Lib.hid (by rw [hOC]; simp [Value.oneCell'])
      have HO2 : Hid (OC.toArray[2]? = some (.slice B nb d)) := Lib.hid (by rw [hOC]; rfl)
      have HOT : Hid ((Tryd.prog.info? 32).map (·.zero) = some (some (.agg #[.int .i64 0, .int .i64 0, .slice none 0 0]))) := Lib.hid infoOz
      obtain ⟨Z, hZ⟩ : ∃ Z : Array Value, Z = #[.int .i64 0, .int .i64 0, .slice none 0 0] := ⟨_, rfl⟩
      rw [← hZ] at HOZ HOT
      clear hsb hnb hOC hrg hs' hZ
      by_cases hlong : 100 < nb
      · have ZC : Hid (cmpZ .gtr (nb : Int) 100 = some true) := Lib.hid (by show some (decide ((nb : Int) > 100)) = some true; rw [decide_eq_true (by omega)])
        have HLG := Lib.hid hlong
        clear hlong
        go_wp2_with ((with_reducible refine wpList_plain rfl ?_); intro _ hk; (first
          | (refine opw_cmp .gtr _ _ _ _ .i64 (nb : Int) 100 true rfl rfl rfl ZC.out (hk _ _ ?_))
          | (have _k := HR; refine opw_indexN 22 32 3 _ _ rfl Tryd.underlying22 infoO g off N c i rfl .i64 rfl hlt (hk _ _ ?_))
          | (refine wp_load_mid _ _ rfl g (off + i * 3) rfl OC _ HRG.out Tryd.underlying32 rfl HOI.out (hk _ _ ?_))
          | (refine opw_alloc 32 (.agg Z) Z rfl HOT.out rfl HR.out (fun po w1 hp h1 => hk _ _ ?_); clear hp; have H1 := Lib.hid h1; clear h1)
          | (have _k := H1; refine opw_storeRow 32 _ _ rfl po OC.toArray rfl rfl 32 Z HOI2.out HOZ.out HO1.out H1.out (fun w9 h9 => hk _ _ ?_); have H2 := Lib.hid h9; clear h9)
          | (have _k := H2; refine opw_field 32 _ 2 2 rfl (by kernel_rfl) po 0 rfl (hk _ _ ?_))
          | (have _k := H2; refine opw_load1 30 _ rfl _ Tryd.underlying30 rfl ⟨po, 0 + 2, none⟩ (.slice B nb d) rfl ((H2.out.cell 2).trans HO2.out) (hk _ _ ?_))); simp only [Act.put, List.setIfInBounds_toArray, List.set_cons_zero, List.set_cons_succ])
        go_ret
        exact ⟨by rw [HFB.out, few_false hlt' (by rw [← HNB.out]; exact HLG.out)]; rfl, H2.out.right⟩
      · have ZC : Hid (cmpZ .gtr (nb : Int) 100 = some false) := Lib.hid (by show some (decide ((nb : Int) > 100)) = some false; rw [decide_eq_false (by omega)])
        have hshort : nb ≤ 100 := by omega
        clear hlong
        go_wp2_with ((with_reducible refine wpList_plain rfl ?_); intro _ hk; (first
          | (refine opw_cmp .gtr _ _ _ _ .i64 (nb : Int) 100 false rfl rfl rfl ZC.out (hk _ _ ?_))
          | (have _k := HR; refine opw_indexN 22 32 3 _ _ rfl Tryd.underlying22 infoO g off N c i rfl .i64 rfl hlt (hk _ _ ?_))
          | (refine wp_load_mid _ _ rfl g (off + i * 3) rfl OC _ HRG.out Tryd.underlying32 rfl HOI.out (hk _ _ ?_))
          | (refine opw_alloc 32 (.agg Z) Z rfl HOT.out rfl HR.out (fun po w1 hp h1 => hk _ _ ?_); clear hp; have H1 := Lib.hid h1; clear h1)
          | (have _k := H1; refine opw_storeRow 32 _ _ rfl po OC.toArray rfl rfl 32 Z HOI2.out HOZ.out HO1.out H1.out (fun w9 h9 => hk _ _ ?_); have H2 := Lib.hid h9; clear h9)
          | (have _k := H2; refine opw_field 32 _ 2 2 rfl (by kernel_rfl) po 0 rfl (hk _ _ ?_))
          | (have _k := H2; refine opw_load1 30 _ rfl _ Tryd.underlying30 rfl ⟨po, 0 + 2, none⟩ (.slice B nb d) rfl ((H2.out.cell 2).trans HO2.out) (hk _ _ ?_))); simp only [Act.put, List.setIfInBounds_toArray, List.set_cons_zero, List.set_cons_succ])
        go_roundw
        case rel =>
          refine ⟨i + 1, by omega, by go_num, Lib.hid ?_, Lib.hid H2.out.right⟩
          intro o ho
          rw [List.take_succ_eq_append_getElem hlt', List.mem_append, List.mem_singleton] at ho
          rcases ho with ho | rfl
          · exact HA.out o ho
          · rw [← HNB.out]; exact hshort
        case measure => simp [intOf]; omega
    · obtain rfl : i = N := by omega
      have hT : FB = decide (i ≤ 30) := by rw [HFB.out, HN.out, few_all (by have := HA.out; rwa [HN.out, List.take_length] at this)]
      have HT := Lib.hid hT
      clear hT
      go_wp2
      go_ret
      exact ⟨by rw [HT.out]; simp; omega, HR.out⟩
end Go.Proofs.YtblknhpafifebaaDoor
