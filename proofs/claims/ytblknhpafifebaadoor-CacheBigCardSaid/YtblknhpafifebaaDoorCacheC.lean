/-
  cache: the piece; find, take, keep.
-/
import Derived.Test.YtblknhpafifebaaDoorCacheB
import Derived.Deep.RegionHeld3
namespace Go.Proofs.YtblknhpafifebaaDoor
open Go.RowKit Go.Sl Go.Sha
set_option linter.unusedVariables false
set_option linter.unusedSimpArgs false
set_option maxRecDepth 100000

/-- the cells of a Cache -/
def ccells (v : Value) (lim : Int) (n : Nat) : Array Value := #[v, .int .i64 lim, .int .i64 (n : Int)]
/-- a Cache in memory that holds K, its own -/
def cacheP (p : Nat) (K : List Kp) (lim : Int) : HProp := ex fun v => sep (blk p (.cells (ccells v lim (tot K)) 64 (0, 0))) (sep (row 75 33 v K.length (kcs K)) (blobs 5 K))
theorem openCache {st : World} {R : HProp} {w : World} {p : Nat} {K : List Kp} {lim : Int} (h : Has st (sep (cacheP p K lim) R) w) :
    ∃ A c, Has st (sep (blk p (.cells (ccells (.slice A K.length c) lim (tot K)) 64 (0, 0))) (sep (row 75 33 (.slice A K.length c) K.length (kcs K)) (sep (blobs 5 K) R))) w := by
  obtain ⟨v, h1⟩ := h.exL
  have h2 := h1.flat3
  obtain ⟨A, c, rfl⟩ := h2.second.row_slice
  exact ⟨A, c, h2⟩
theorem toCache {st : World} {R : HProp} {w : World} {p : Nat} {K : List Kp} {lim : Int} (v : Value) (h : Has st (sep (blk p (.cells (ccells v lim (tot K)) 64 (0, 0))) (sep (row 75 33 v K.length (kcs K)) (sep (blobs 5 K) R))) w) :
    Has st (sep (cacheP p K lim) R) w := Has.ofEx v (h.cast (by ac_rfl))

set_option maxHeartbeats 1000000 in
theorem find_any (st : World) (R : HProp) (p : Nat) (K : List Kp) (lim : Int) (id : List UInt8) (w : World) (h : Has st (sep (cacheP p K lim) R) w) (hid : id.length = 32) (hok : ∀ k ∈ K, k.ok) (hlen : K.length ≤ 1000000) :
    Calls Tryd.prog 31 #[.pointer (some ⟨p, 0, none⟩), .agg (bcells id).toArray] w fun e w' => e = .returned (.int .i64 (placeZ id K)) ∧ Has st (sep (cacheP p K lim) R) w' := by
  obtain ⟨A, c, h1⟩ := openCache h
  have HH := Lib.hid h1
  have HC : Hid (∀ q w, Has st (sep (blk q (.cells (bcells id).toArray 34 (0, 0))) (sep (blk p (.cells (ccells (.slice A K.length c) lim (tot K)) 64 (0, 0))) (sep (row 75 33 (.slice A K.length c) K.length (kcs K)) (sep (blobs 5 K) R)))) w →
      Calls Tryd.prog 38 #[.slice A K.length c, .func (.func 39) #[] #[.pointer (some ⟨q, 0, none⟩)]] w fun e w' => e = .returned (.int .i64 (placeZ id K)) ∧ Has st (sep (cacheP p K lim) R) w') :=
    Lib.hid fun q w hw => (index_any st _ q (.slice A K.length c) id K w hw (sees_row st _ 33 _ _ _ _).right hid hok hlen).mono fun e w' h' => ⟨h'.1, toCache _ h'.2.right⟩
  clear h h1 hid hok hlen
  obtain ⟨N, hN⟩ : ∃ N, N = K.length := ⟨_, rfl⟩
  go_enter Tryd.func31, Tryd.ntmps31
  go_wp2_with (first
    | (go_at_call 38; refine (HC.out q _ HX.out).mono ?_; rintro e w1 ⟨rfl, h1⟩; have HE := Lib.hid h1; clear h1)
    | ((with_reducible refine wpList_plain rfl ?_); intro _ hk; (first
      | (refine opw_box 34 (.agg (bcells id).toArray) (bcells id).toArray rfl rfl rfl HH.out (fun q w1 hp h1 => hk _ _ ?_); clear hp; have HX := Lib.hid h1; clear h1)
      | (refine opw_field 64 _ 0 0 rfl (by kernel_rfl) p 0 rfl (hk _ _ ?_))
      | (refine opw_load1 62 _ rfl _ Tryd.underlying62 rfl ⟨p, 0, none⟩ (.slice A K.length c) rfl (HX.out.second.cell 0) (hk _ _ ?_))); simp only [Act.put, List.setIfInBounds_toArray, List.set_cons_zero, List.set_cons_succ]))
  go_ret
  exact ⟨rfl, HE.out⟩

theorem infoKz : (Tryd.prog.info? 75).map (·.zero) = some (some (.agg zeroKc.toArray)) := by kernel_rfl
theorem zeroKc_size : zeroKc.toArray.size = 33 := rfl
theorem all_one {l : List Value} (h : ∀ u ∈ l, u.oneCell' = true) : l.toArray.all (·.oneCell') = true := by
  simpa using h
theorem kc_cell {k : Kp} (h : k.ok) : (kc k)[32]? = some k.v := by
  rw [kc, List.getElem?_append_right (by rw [bcells_length, h.1]; exact Nat.le_refl _), bcells_length, h.1]; rfl

set_option maxHeartbeats 2000000 in
theorem take_any (st : World) (R : HProp) (p : Nat) (K : List Kp) (lim : Int) (i : Nat) (hi : i < K.length) (w : World) (h : Has st (sep (cacheP p K lim) R) w) (hok : ∀ k ∈ K, k.ok) (hlen : K.length ≤ 1000000) (htot : tot K ≤ 1000000000) :
    Calls Tryd.prog 32 #[.pointer (some ⟨p, 0, none⟩), .int .i64 (i : Int)] w fun e w' => e = .returned (.agg (kc K[i]).toArray) ∧ Has st (sep (cacheP p (K.eraseIdx i) lim) (sep (blob 5 K[i]) R)) w' := by
  obtain ⟨A, c, h1⟩ := openCache h
  obtain ⟨g, rfl⟩ := h1.second.row_at33 hi
  have hk := hok _ (List.getElem_mem hi)
  obtain ⟨B, d, hv⟩ := hk.2
  obtain ⟨M, hM⟩ : ∃ M, M = K.length - 1 := ⟨_, rfl⟩
  have hlen' : (K.eraseIdx i).length = M := by rw [List.length_eraseIdx_of_lt hi, hM]
  have HH := Lib.hid h1
  obtain ⟨Y, hY⟩ : ∃ Y, Y = kc K[i] := ⟨_, rfl⟩
  have hYl : Y.length = 33 := by rw [hY, kc_length hk]
  have hY1 : ∀ u ∈ Y, u.oneCell' = true := by rw [hY]; exact kc_one hk
  have hcellY : ∀ j u, Y[j]? = some u → (kcs K)[i * 33 + j]? = some u := by rw [hY]; exact fun j u => kcs_cell hok hi
  have hY32 : Y[32]? = some (.slice B K[i].b.length d) := by rw [hY, kc_cell hk, hv]
  obtain ⟨L, hL⟩ : ∃ L, L = K[i].b.length := ⟨_, rfl⟩
  rw [← hL] at hY32
  obtain ⟨T, hT⟩ : ∃ T, T = tot K := ⟨_, rfl⟩
  have hTL : T = tot (K.eraseIdx i) + L := by rw [hT, hL]; exact (tot_erase K i hi).symm
  have hLT : L ≤ T := by omega
  have hTb : T ≤ 9223372036854775807 := by omega
  have hsz : (Tryd.prog.info? 75).map (·.size) = some Y.length := by rw [hYl]; exact infoK
  have hsz2 : (Tryd.prog.info? 75).map (·.size) = some Y.toArray.size := by simp only [List.size_toArray]; exact hsz
  have hold : zeroKc.toArray.size = Y.toArray.size := by rw [zeroKc_size]; simp only [List.size_toArray]; exact hYl.symm
  have HSZ := Lib.hid hsz
  have HSZ2 := Lib.hid hsz2
  have HOLD := Lib.hid hold
  have HY1 := Lib.hid hY1
  have HYC := Lib.hid hcellY
  have HY32 := Lib.hid hY32
  have HKO := Lib.hid hok
  obtain ⟨XS, hXS⟩ : ∃ XS, XS = kcs K := ⟨_, rfl⟩
  obtain ⟨BL, hBL⟩ : ∃ BL, BL = blobs 5 K := ⟨_, rfl⟩
  obtain ⟨N, hN⟩ : ∃ N, N = K.length := ⟨_, rfl⟩
  rw [← hXS, ← hBL, ← hN, ← hT] at HH
  rw [← hXS] at HYC
  have hiN : i < N := by omega
  have HWR : Hid (((i + 1 : Nat) : Int) = (i : Int) + 1) := Lib.hid (by omega)
  have HMN : Hid (i + (N - (i + 1)) = M) := Lib.hid (by omega)
  have HX1 : Hid (∀ u ∈ XS, u.oneCell' = true) := Lib.hid (by rw [hXS]; exact kcs_one hok)
  have HEND : Hid (∀ w (v : Value), Has st (sep (blk p (.cells (ccells v lim (T - L)) 64 (0, 0))) (sep (row 75 33 v M (XS.take (i * 33) ++ XS.drop ((i + 1) * 33))) (sep BL R))) w → Has st (sep (cacheP p (K.eraseIdx i) lim) (sep (blob 5 K[i]) R)) w) :=
    Lib.hid fun w v hw => toCache v (by
      rw [hXS, kcs_erase hok, hBL, blobs_at _ K i hi, ← hlen', show T - L = tot (K.eraseIdx i) by omega] at hw
      exact hw.cast (by ac_rfl))
  obtain ⟨Z, hZ⟩ : ∃ Z, Z = zeroKc.toArray := ⟨_, rfl⟩
  have HZI : Hid ((Tryd.prog.info? 75).map (·.zero) = some (some (.agg Z))) := Lib.hid (by rw [hZ]; exact infoKz)
  rw [← hZ] at HOLD
  rw [← hY]
  clear h h1 hok htot hk hv hM hlen' hY hYl hY1 hcellY hY32 hL hT hTL hsz hsz2 hold hXS hBL hN hZ
  go_enter Tryd.func32, Tryd.ntmps32
  go_wp2_with (first
    | (go_at_call 40; have hq := delete_any st _ g N c i (i + 1) M XS _ H2.out.fourth (by omega) (by omega) HMN.out HX1.out; rw [HWR.out] at hq; (with_reducible refine hq.mono ?_); clear hq; rintro e w3 ⟨rfl, h3⟩; have H3 := Lib.hid h3; clear h3)
    | ((with_reducible refine wpList_plain rfl ?_); intro _ hk; (first
      | (refine opw_alloc 75 (.agg Z) Z rfl HZI.out rfl HH.out (fun r w0 hp h0 => hk _ _ ?_); clear hp; have H0 := Lib.hid h0; clear h0 HH)
      | (refine opw_alloc 75 (.agg Z) Z rfl HZI.out rfl H0.out (fun q w1 hp h1 => hk _ _ ?_); clear hp; have H1 := Lib.hid h1; clear h1)
      | (refine opw_field 64 _ 0 0 rfl (by kernel_rfl) p 0 rfl (hk _ _ ?_))
      | (refine opw_load1 62 _ rfl _ Tryd.underlying62 rfl ⟨p, 0, none⟩ (.slice (some ⟨g, 0, none⟩) N c) rfl (H2.out.third.cell 0) (hk _ _ ?_))
      | (refine opw_load1 62 _ rfl _ Tryd.underlying62 rfl ⟨p, 0, none⟩ (.slice (some ⟨g, 0, none⟩) N c) rfl (H0.out.second.cell 0) (hk _ _ ?_))
      | (refine opw_indexN 62 75 33 _ _ rfl Tryd.underlying62 infoK g 0 N c i rfl .i64 rfl hiN (hk _ _ ?_))
      | (refine wp_load_mid 75 _ rfl g (0 + i * 33) rfl Y _ (fun j u hu => by rw [Nat.zero_add]; exact H0.out.third.row_cell (HYC.out j u hu)) Tryd.underlying75 rfl HSZ.out (hk _ _ ?_))
      | (refine opw_storeRow 75 _ _ rfl q Y.toArray rfl rfl 75 Z HSZ2.out HOLD.out (all_one HY1.out) H1.out (fun w2 h2 => hk _ _ ?_); have H2 := Lib.hid h2; clear h2)
      | (refine opw_bin .add _ _ _ _ .i64 (i : Int) 1 ((i + 1 : Nat) : Int) rfl rfl rfl (bin_add i 1 (by omega)) (hk _ _ ?_))
      | (refine opw_store1 62 _ _ rfl (by kernel_rfl) p 0 (.slice (some ⟨g, 0, none⟩) M c) rfl rfl rfl H3.out.fourth (by simp [ccells]) (fun w4 h4 => hk _ _ ?_); have H4 := Lib.hid h4; clear h4)); simp only [Act.put, List.setIfInBounds_toArray, List.set_cons_zero, List.set_cons_succ]))
  have h4 := H4.out
  have hsc : (ccells (.slice (some ⟨g, 0, none⟩) N c) lim T).setIfInBounds 0 (.slice (some ⟨g, 0, none⟩) M c) = ccells (.slice (some ⟨g, 0, none⟩) M c) lim T := rfl
  rw [hsc] at h4
  have c2 : w4.cell? ⟨p, 2, none⟩ = some (.int .i64 (T : Int)) := h4.cell 2
  have c32 : w4.cell? ⟨q, 32, none⟩ = some (.slice B L d) := (h4.third.cell 32).trans (by simpa using HY32.out)
  have f2 : w4.frozen? ⟨p, 2, none⟩ = false := h4.free 2
  have H5 := Lib.hid h4
  clear H0 H1 H2 H3 H4 h4 hsc
  go_region
  have h6 := (H5.out.set 2 (.int .i64 ((T : Int) - (L : Int)))).drew
  generalize (w4.setCell ⟨p, 2, none⟩ (.int .i64 ((T : Int) - (L : Int)))).drew = w5 at h6 ⊢
  have hsc : (ccells (.slice (some ⟨g, 0, none⟩) M c) lim T).setIfInBounds 2 (.int .i64 ((T : Int) - (L : Int))) = ccells (.slice (some ⟨g, 0, none⟩) M c) lim (T - L) := by
    rw [← Int.ofNat_sub hLT]; rfl
  rw [hsc] at h6
  have hcs : (Y.toArray.toList.drop 0).take Y.length = Y := by simp
  have HCS := Lib.hid hcs
  have H6 := Lib.hid h6
  clear h6 hsc H5 c2 c32 f2 hcs
  go_wp2_with ((with_reducible refine wpList_plain rfl ?_); intro _ hk; (first
    | (refine opw_loadMid 75 _ rfl q 0 rfl Y _ Tryd.underlying75 rfl HSZ.out H6.out.third HCS.out (hk _ _ ?_))
    | (refine opw_storeRow 75 _ _ rfl r Y.toArray rfl rfl 75 Z HSZ2.out HOLD.out (all_one HY1.out) H6.out.fourth (fun w9 h9 => hk _ _ ?_))); simp only [Act.put, List.setIfInBounds_toArray, List.set_cons_zero, List.set_cons_succ])
  refine bodyPost_ret (results_cell_row Tryd.results32 _ _ _ 75 _ _ _ rfl h9.blk Tryd.underlying75 rfl HSZ2.out) rfl ?_
  exact ⟨rfl, HEND.out _ _ (h9.right.cast (show _ = sep (blk q (.cells Y.toArray 75 (0, 0))) (sep (blk p (.cells (ccells (.slice (some ⟨g, 0, none⟩) M c) lim (T - L)) 64 (0, 0))) (sep (row 75 33 (.slice (some ⟨g, 0, none⟩) M c) M (XS.take (i * 33) ++ XS.drop ((i + 1) * 33))) (sep BL R))) by ac_rfl)).right⟩
end Go.Proofs.YtblknhpafifebaaDoor
