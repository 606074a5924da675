/-
  cache: keep, Len, Size, Wipe, New.
-/
import Derived.Test.YtblknhpafifebaaDoorCacheC
import Derived.Test.YtblknhpafifebaaDoorStg
namespace Go.Proofs.YtblknhpafifebaaDoor
open Go.RowKit Go.Sl Go.Sha
set_option linter.unusedVariables false
set_option linter.unusedSimpArgs false
set_option maxRecDepth 100000

theorem infoK2 : (Tryd.prog.info? 75).map (fun i => (i.zero, i.size)) = some (some (.agg zeroKc.toArray), 33) := by kernel_rfl
theorem infoSl : (Tryd.prog.info? 62).map (·.size) = some 1 := by kernel_rfl
theorem zeroK_size : (Value.agg zeroKc.toArray).cells.size = 33 := rfl
set_option maxHeartbeats 2000000 in
theorem keep_any (st : World) (R : HProp) (p : Nat) (K : List Kp) (lim : Int) (k : Kp) (w : World) (h : Has st (sep (cacheP p K lim) (sep (blob 5 k) R)) w) (hok : ∀ k ∈ K, k.ok) (hk : k.ok) (hlen : K.length ≤ 1000000) (htot : tot K ≤ 1000000000) (hkl : k.b.length ≤ 1000000000) :
    Calls Tryd.prog 33 #[.pointer (some ⟨p, 0, none⟩), .agg (kc k).toArray] w fun e w' => e = .returned (.tuple #[]) ∧ Has st (sep (cacheP p (K ++ [k]) lim) R) w' := by
  obtain ⟨A, c, h1⟩ := openCache h
  obtain ⟨B, d, hv⟩ := hk.2
  have HH := Lib.hid h1
  obtain ⟨Y, hY⟩ : ∃ Y, Y = kc k := ⟨_, rfl⟩
  have hYl : Y.length = 33 := by rw [hY, kc_length hk]
  have hY1 : ∀ u ∈ Y, u.oneCell' = true := by rw [hY]; exact kc_one hk
  have hY32 : Y[32]? = some (.slice B k.b.length d) := by rw [hY, kc_cell hk, hv]
  have hsz : (Tryd.prog.info? 75).map (·.size) = some Y.length := by rw [hYl]; exact infoK
  have htk : (Y.toArray.toList.drop 0).take Y.length = Y := by simp
  obtain ⟨T, hT⟩ : ∃ T, T = tot K := ⟨_, rfl⟩
  obtain ⟨N, hN⟩ : ∃ N, N = K.length := ⟨_, rfl⟩
  obtain ⟨Q, hQ⟩ : ∃ Q, Q = k.b.length := ⟨_, rfl⟩
  obtain ⟨XS, hXS⟩ : ∃ XS, XS = kcs K := ⟨_, rfl⟩
  obtain ⟨BB, hBB⟩ : ∃ BB, BB = sep (blobs 5 K) (sep (blob 5 k) R) := ⟨_, rfl⟩
  have HEND : Hid (∀ w (v : Value), Has st (sep (blk p (.cells (ccells v lim (T + Q)) 64 (0, 0))) (sep (row 75 33 v (N + 1) (XS ++ Y)) BB)) w → Has st (sep (cacheP p (K ++ [k]) lim) R) w) :=
    Lib.hid fun w v hw => toCache v (by
      rw [tot_snoc, ← hT, ← hQ, List.length_append, List.length_singleton, ← hN, kcs_append, blobs_snoc, ← hXS, show kcs [k] = Y by rw [hY]; simp [kcs]]
      rw [hBB] at hw
      exact hw.cast (by ac_rfl))
  rw [← hY]
  rw [← hN] at hlen
  rw [← hT] at htot
  rw [← hQ] at hkl hY32
  rw [← hT, ← hN, ← hXS, ← hBB] at HH
  have HY1 := Lib.hid hY1
  have HYL := Lib.hid hYl
  have HSZ := Lib.hid hsz
  have HTK := Lib.hid htk
  have HY32 := Lib.hid hY32
  clear h h1 hok hk hv hY hYl hY1 hY32 hsz htk hT hN hQ hXS hBB
  go_enter Tryd.func33, Tryd.ntmps33
  go_wp2_with ((with_reducible refine wpList_plain rfl ?_); intro _ hk; (first
      | (refine opw_box 75 (.agg Y.toArray) Y.toArray rfl rfl rfl HH.out (fun q w1 hp h1 => hk _ _ ?_); clear hp; have HX := Lib.hid h1; clear h1)); simp only [Act.put, List.setIfInBounds_toArray, List.set_cons_zero, List.set_cons_succ])
  refine wp_region_inv3 (fun L u w' => Slots (fun kk => ([some (.pointer (some ⟨p, 0, none⟩)), some (.pointer (some ⟨p, 0, none⟩)), some (.pointer (some ⟨p, 0, none⟩)), some (.pointer (some ⟨p, 0, none⟩)), some (.slice A N c), some (.agg Y.toArray), none, none, some (.pointer (some ⟨p, 0, none⟩)), some (.pointer (some ⟨p, 0, none⟩)), none] : List (Option Value)).getD kk none) L u ∧ Has st (sep (stg (L 6) (row 75 33 (u 6) 1 Y) emp) (sep (stg (L 7) (row 75 33 (u 7) (N + 1) (XS ++ Y)) (row 75 33 (.slice A N c) N XS)) (sep (stg (L 10) (blk p (.cells (ccells (u 7) lim T) 64 (0, 0))) (blk p (.cells (ccells (.slice A N c) lim T) 64 (0, 0)))) (sep (blk q (.cells Y.toArray 75 (0, 0))) BB)))) w') (by kernel_rfl) (by decide +kernel) (by decide +kernel) (by kernel_rfl) (by kernel_rfl) (fun u => ⟨Slots.start _ u, (show Has st (sep (stg false (row 75 33 (u 6) 1 Y) emp) (sep (stg false (row 75 33 (u 7) (N + 1) (XS ++ Y)) (row 75 33 (.slice A N c) N XS)) (sep (stg false (blk p (.cells (ccells (u 7) lim T) 64 (0, 0))) (blk p (.cells (ccells (.slice A N c) lim T) 64 (0, 0)))) (sep (blk q (.cells Y.toArray 75 (0, 0))) BB)))) _ from HX.out.drew.cast (by simp only [stg_no, emp_sep]; ac_rfl))⟩) ?_ ?_
  · refine ⟨?_, ?_, ?_, ?_, ?_, ?_, ?_, ?_, ?_, ?_, ?_, trivial⟩
    · refine RegStep3.plain rfl ?_; rintro L u w1 bA hL hW hD hU ⟨hS, hH⟩ hin hout; exact opw_move _ _ (.inl rfl) ((hout 0 (by kernel_rfl)).trans (by kernel_rfl)) ⟨_, rfl, hS.step 0 _ (.inr rfl), hH⟩
    · refine RegStep3.plain rfl ?_; rintro L u w1 bA hL hW hD hU ⟨hS, hH⟩ hin hout; exact opw_move _ _ (.inl rfl) ((hout 0 (by kernel_rfl)).trans (by kernel_rfl)) ⟨_, rfl, hS.step 1 _ (.inr rfl), hH⟩
    · refine RegStep3.plain rfl ?_; rintro L u w1 bA hL hW hD hU ⟨hS, hH⟩ hin hout; exact opw_nilCheck _ _ rfl ((hin 1 5 rfl).trans (hS 1 _ rfl (hW.of 1 (by decide)))) ⟨_, rfl, hS.step 2 _ (.inr rfl), hH⟩
    · refine RegStep3.plain rfl ?_; rintro L u w1 bA hL hW hD hU ⟨hS, hH⟩ hin hout; exact opw_field _ _ _ 0 rfl (by kernel_rfl) (p) (0) ((hin 2 6 rfl).trans (hS 2 _ rfl (hW.of 2 (by decide)))) ⟨_, rfl, hS.step 3 _ (.inr rfl), hH⟩
    · refine RegStep3.plain rfl ?_; rintro L u w1 bA hL hW hD hU ⟨hS, hH⟩ hin hout; exact opw_load1 _ _ rfl _ Tryd.underlying62 rfl _ _ ((hin 3 7 rfl).trans (hS 3 _ rfl (hW.of 3 (by decide)))) ((((hH.cast (show _ = sep (stg (L 10) (blk p (.cells (ccells (u 7) lim T) 64 (0, 0))) (blk p (.cells (ccells (.slice A N c) lim T) 64 (0, 0)))) (sep (stg (L 6) (row 75 33 (u 6) 1 Y) emp) (sep (stg (L 7) (row 75 33 (u 7) (N + 1) (XS ++ Y)) (row 75 33 (.slice A N c) N XS)) (sep (blk q (.cells Y.toArray 75 (0, 0))) BB))) by ac_rfl)).stg_no (hD.nots 11 10 4 hL (by decide +kernel)))).cell 0) ⟨_, rfl, hS.step 4 _ (.inr rfl), hH⟩
    · refine RegStep3.plain rfl ?_; rintro L u w1 bA hL hW hD hU ⟨hS, hH⟩ hin hout; exact opw_loadMid _ _ rfl q (0) ((hout 3 (by kernel_rfl)).trans (by kernel_rfl)) Y _ Tryd.underlying75 rfl HSZ.out ((hH.right.right.right)) HTK.out ⟨_, rfl, hS.step 5 _ (.inr rfl), hH⟩
    · refine RegStep3.plain rfl ?_; rintro L u w1 bA hL hW hD hU ⟨hS, hH⟩ hin hout; exact opw_row1 _ 75 33 (.agg zeroKc.toArray) _ (.agg Y.toArray) Y rfl Tryd.underlying62 infoK2 zeroK_size (by decide) (by decide) ((hin 5 9 rfl).trans (hS 5 _ rfl (hW.of 5 (by decide)))) rfl HYL.out (hH.stg_no hL).noEmp (fun v4 w4 h4 => ⟨_, rfl, hS.step 6 _ (.inl rfl), (show Has st (sep (stg true (row 75 33 v4 1 Y) emp) (sep (stg (L 7) (row 75 33 (u 7) (N + 1) (XS ++ Y)) (row 75 33 (.slice A N c) N XS)) (sep (stg (L 10) (blk p (.cells (ccells (u 7) lim T) 64 (0, 0))) (blk p (.cells (ccells (.slice A N c) lim T) 64 (0, 0)))) (sep (blk q (.cells Y.toArray 75 (0, 0))) BB)))) w4 from ((h4.stg_mk (Q := emp))).cast (by ac_rfl))⟩)
    · refine RegStep3.plain rfl ?_; rintro L u w1 bA hL hW hD hU ⟨hS, hH⟩ hin hout; exact op_append _ _ _ 75 33 56 (.agg zeroKc.toArray) rfl Tryd.underlying62 infoK3 rfl (by decide) ((hin 4 8 rfl).trans (hS 4 _ rfl (hW.of 4 (by decide)))) (hin 6 10 rfl) ((hH.cast (show _ = sep (stg (L 7) (row 75 33 (u 7) (N + 1) (XS ++ Y)) (row 75 33 (.slice A N c) N XS)) (sep (stg (L 6) (row 75 33 (u 6) 1 Y) emp) (sep (stg (L 10) (blk p (.cells (ccells (u 7) lim T) 64 (0, 0))) (blk p (.cells (ccells (.slice A N c) lim T) 64 (0, 0)))) (sep (blk q (.cells Y.toArray 75 (0, 0))) BB))) by ac_rfl)).stg_no hL) (Rd.of_row ((hH.stg_yes (hW.far (i := 7) hD rfl 11 6 (by decide +kernel)))).ownsRow) HY1.out (by unfold maxLen; omega) (by omega) (fun A4 c4 w4 h4 => ⟨_, rfl, hS.step 7 _ (.inl rfl), (show Has st (sep (stg (L 6) (row 75 33 (u 6) 1 Y) emp) (sep (stg true (row 75 33 (.slice A4 (N + 1) c4) (N + 1) (XS ++ Y)) (row 75 33 (.slice A N c) N XS)) (sep (stg (L 10) (blk p (.cells (ccells (.slice A4 (N + 1) c4) lim T) 64 (0, 0))) (blk p (.cells (ccells (.slice A N c) lim T) 64 (0, 0)))) (sep (blk q (.cells Y.toArray 75 (0, 0))) BB)))) w4 from ((h4.stg_mk (Q := (row 75 33 (.slice A N c) N XS)))).cast (by rw [stg_eq (hD.nots 11 10 7 hL (by decide +kernel)) (blk p (.cells (ccells (u 7) lim T) 64 (0, 0))) (blk p (.cells (ccells (.slice A4 (N + 1) c4) lim T) 64 (0, 0)))]; ac_rfl))⟩)
    · refine RegStep3.plain rfl ?_; rintro L u w1 bA hL hW hD hU ⟨hS, hH⟩ hin hout; exact opw_nilCheck _ _ rfl ((hin 0 4 rfl).trans (hS 0 _ rfl (hW.of 0 (by decide)))) ⟨_, rfl, hS.step 8 _ (.inr rfl), hH⟩
    · refine RegStep3.plain rfl ?_; rintro L u w1 bA hL hW hD hU ⟨hS, hH⟩ hin hout; exact opw_field _ _ _ 0 rfl (by kernel_rfl) (p) (0) ((hin 8 12 rfl).trans (hS 8 _ rfl (hW.of 8 (by decide)))) ⟨_, rfl, hS.step 9 _ (.inr rfl), hH⟩
    · refine RegStep3.plain rfl ?_; rintro L u w1 bA hL hW hD hU ⟨hS, hH⟩ hin hout; exact opw_store1 _ _ _ rfl infoSl p 0 (u 7) ((hin 9 13 rfl).trans (hS 9 _ rfl (hW.of 9 (by decide)))) (hin 7 11 rfl) (row_one (((hH.cast (show _ = sep (stg (L 7) (row 75 33 (u 7) (N + 1) (XS ++ Y)) (row 75 33 (.slice A N c) N XS)) (sep (stg (L 6) (row 75 33 (u 6) 1 Y) emp) (sep (stg (L 10) (blk p (.cells (ccells (u 7) lim T) 64 (0, 0))) (blk p (.cells (ccells (.slice A N c) lim T) 64 (0, 0)))) (sep (blk q (.cells Y.toArray 75 (0, 0))) BB))) by ac_rfl)).stg_yes (hW.far (i := 10) hD rfl 11 7 (by decide +kernel))))) ((hH.cast (show _ = sep (stg (L 10) (blk p (.cells (ccells (u 7) lim T) 64 (0, 0))) (blk p (.cells (ccells (.slice A N c) lim T) 64 (0, 0)))) (sep (stg (L 6) (row 75 33 (u 6) 1 Y) emp) (sep (stg (L 7) (row 75 33 (u 7) (N + 1) (XS ++ Y)) (row 75 33 (.slice A N c) N XS)) (sep (blk q (.cells Y.toArray 75 (0, 0))) BB))) by ac_rfl)).stg_no hL) (by simp [ccells]) (fun w4 h4 => ⟨_, rfl, hS.step 10 _ (.inl rfl), (show Has st (sep (stg (L 6) (row 75 33 (u 6) 1 Y) emp) (sep (stg (L 7) (row 75 33 (u 7) (N + 1) (XS ++ Y)) (row 75 33 (.slice A N c) N XS)) (sep (stg true (blk p (.cells (ccells (u 7) lim T) 64 (0, 0))) (blk p (.cells (ccells (.slice A N c) lim T) 64 (0, 0)))) (sep (blk q (.cells Y.toArray 75 (0, 0))) BB)))) w4 from ((h4.stg_mk (Q := (blk p (.cells (ccells (.slice A N c) lim T) 64 (0, 0)))))).cast (by ac_rfl))⟩)
  intro L u w3 hL ⟨hS, hH⟩
  have E0 := hS 0 _ rfl (hL 0 (by decide))
  have E1 := hS 1 _ rfl (hL 1 (by decide))
  have E2 := hS 2 _ rfl (hL 2 (by decide))
  have E3 := hS 3 _ rfl (hL 3 (by decide))
  have E4 := hS 4 _ rfl (hL 4 (by decide))
  have E5 := hS 5 _ rfl (hL 5 (by decide))
  have E8 := hS 8 _ rfl (hL 8 (by decide))
  have E9 := hS 9 _ rfl (hL 9 (by decide))
  simp only [hL 6 (by decide), hL 7 (by decide), hL 10 (by decide), stg_true, emp_sep] at hH
  simp only [frame_cons, frame_nil, E0, E1, E2, E3, E4, E5, E8, E9, Act.put, List.setIfInBounds_toArray, List.set_cons_zero, List.set_cons_succ]
  clear hL hS E0 E1 E2 E3 E4 E5 E8 E9
  generalize u 6 = u6 at hH ⊢
  generalize u 7 = u7 at hH ⊢
  have H3 := Lib.hid hH
  clear hH HX HH
  have h3 : Has st (sep (blk p (.cells (ccells u7 lim T) 64 (0, 0))) (sep (row 75 33 u7 (N + 1) (XS ++ Y)) (sep (blk q (.cells Y.toArray 75 (0, 0))) BB))) w3 := (H3.out.cast (show _ = sep (row 75 33 u6 1 Y) (sep (blk p (.cells (ccells u7 lim T) 64 (0, 0))) (sep (row 75 33 u7 (N + 1) (XS ++ Y)) (sep (blk q (.cells Y.toArray 75 (0, 0))) BB))) by ac_rfl)).right
  have c2 : w3.cell? ⟨p, 2, none⟩ = some (.int .i64 (T : Int)) := h3.cell 2
  have c32 : w3.cell? ⟨q, 32, none⟩ = some (.slice B Q d) := (h3.third.cell 32).trans (by simpa using HY32.out)
  have f2 : w3.frozen? ⟨p, 2, none⟩ = false := h3.free 2
  have H4 := Lib.hid h3
  clear h3 H3
  go_wp2_with fail
  go_region
  have h6 := (H4.out.set 2 (.int .i64 ((T : Int) + (Q : Int)))).drew
  generalize (w3.setCell ⟨p, 2, none⟩ (.int .i64 ((T : Int) + (Q : Int)))).drew = w5 at h6 ⊢
  have hsc : (ccells u7 lim T).setIfInBounds 2 (.int .i64 ((T : Int) + (Q : Int))) = ccells u7 lim (T + Q) := by
    rw [← Int.natCast_add]; rfl
  rw [hsc] at h6
  go_end0
  exact ⟨rfl, HEND.out _ _ ((h6.cast (show _ = sep (blk q (.cells Y.toArray 75 (0, 0))) (sep (blk p (.cells (ccells u7 lim (T + Q)) 64 (0, 0))) (sep (row 75 33 u7 (N + 1) (XS ++ Y)) BB)) by ac_rfl)).right)⟩

set_option maxHeartbeats 1000000 in
theorem len_any (st : World) (R : HProp) (p : Nat) (K : List Kp) (lim : Int) (w : World) (h : Has st (sep (cacheP p K lim) R) w) :
    Calls Tryd.prog 22 #[.pointer (some ⟨p, 0, none⟩)] w fun e w' => e = .returned (.int .i64 (K.length : Int)) ∧ Has st (sep (cacheP p K lim) R) w' := by
  obtain ⟨A, c, h1⟩ := openCache h
  have c0 : w.cell? ⟨p, 0, none⟩ = some (.slice A K.length c) := h1.cell 0
  have HH := Lib.hid h
  clear h h1
  go_enter Tryd.func22, Tryd.ntmps22
  go_wp2
  go_ret
  exact ⟨rfl, HH.out⟩
set_option maxHeartbeats 1000000 in
theorem csize_any (st : World) (R : HProp) (p : Nat) (K : List Kp) (lim : Int) (w : World) (h : Has st (sep (cacheP p K lim) R) w) :
    Calls Tryd.prog 23 #[.pointer (some ⟨p, 0, none⟩)] w fun e w' => e = .returned (.int .i64 (tot K : Int)) ∧ Has st (sep (cacheP p K lim) R) w' := by
  obtain ⟨A, c, h1⟩ := openCache h
  have c2 : w.cell? ⟨p, 2, none⟩ = some (.int .i64 (tot K : Int)) := h1.cell 2
  have HH := Lib.hid h
  clear h h1
  go_enter Tryd.func23, Tryd.ntmps23
  go_wp2
  go_ret
  exact ⟨rfl, HH.out⟩
set_option maxHeartbeats 1000000 in
theorem wipe_any (st : World) (R : HProp) (p : Nat) (K : List Kp) (lim : Int) (w : World) (h : Has st (sep (cacheP p K lim) R) w) :
    Calls Tryd.prog 19 #[.pointer (some ⟨p, 0, none⟩)] w fun e w' => e = .returned (.tuple #[]) ∧ Has st (sep (cacheP p [] lim) R) w' := by
  obtain ⟨A, c, h1⟩ := openCache h
  have f0 : w.frozen? ⟨p, 0, none⟩ = false := h1.free 0
  have f2 : w.frozen? ⟨p, 2, none⟩ = false := h1.free 2
  have c0 := h1.cell 0
  have c2 := h1.cell 2
  simp only [ccells, List.getElem?_toArray, List.getElem?_cons_zero, List.getElem?_cons_succ] at c0 c2
  have HH := Lib.hid h1
  clear h h1
  go_enter Tryd.func19, Tryd.ntmps19
  go_wp2
  go_end0
  have h2 := (HH.out.set 0 (.slice none 0 0)).set 2 (.int .i64 0)
  refine ⟨rfl, toCache (.slice none 0 0) ?_⟩
  have h3 : Has st (sep (blk p (.cells (ccells (.slice none 0 0) lim (tot [])) 64 (0, 0))) R) _ := (h2.cast (show _ = sep (row 75 33 (.slice A K.length c) K.length (kcs K)) (sep (blobs 5 K) (sep (blk p (.cells (ccells (.slice none 0 0) lim (tot [])) 64 (0, 0))) R)) by
    rw [show ((ccells (.slice A K.length c) lim (tot K)).setIfInBounds 0 (.slice none 0 0)).setIfInBounds 2 (.int .i64 0) = ccells (.slice none 0 0) lim (tot []) from rfl]; ac_rfl)).right.right
  exact ((h3.row_nil 75 33).ofEmp.cast (by show _ = sep _ (sep _ (sep emp R)); ac_rfl))
set_option maxHeartbeats 1000000 in
theorem cnew_any (st : World) (R : HProp) (lim : Int) (w : World) (h : Has st R w) (hl : -9223372036854775808 ≤ lim ∧ lim ≤ 9223372036854775807) :
    Calls Tryd.prog 10 #[.int .i64 lim] w fun e w' => ∃ p, e = .returned (.pointer (some ⟨p, 0, none⟩)) ∧ Has st (sep (cacheP p [] (max lim 0)) R) w' := by
  have HH := Lib.hid h
  clear h
  go_enter Tryd.func10, Tryd.ntmps10
  go_wp2
  all_goals go_ret
  all_goals refine ⟨w.heap.size, rfl, toCache (.slice none 0 0) ?_⟩
  all_goals first | rw [show max lim 0 = lim by omega] | rw [show max lim 0 = 0 by omega]
  all_goals exact (((HH.out.alloc _).row_nil 75 33).ofEmp.cast (by show _ = sep _ (sep _ (sep emp R)); ac_rfl))
end Go.Proofs.YtblknhpafifebaaDoor
