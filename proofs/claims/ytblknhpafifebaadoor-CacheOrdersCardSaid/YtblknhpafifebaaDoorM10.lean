/-
  Several texts of this proof in one: RefG, RefH.
-/
import Derived.Test.YtblknhpafifebaaDoorM9
/-
  coldstoreref14: Get.
-/
namespace Go.Proofs.YtblknhpafifebaaDoor
open Go Go.RowKit Go.Sl Go.Sha
set_option linter.unusedVariables false
set_option linter.unusedSimpArgs false
set_option maxRecDepth 100000
theorem infoRKz : (Tryd.prog.info? 48).map (·.zero) = some (some (.agg zeroKc.toArray)) := by kernel_rfl
theorem results_cell_tmp2 {P : Program} {fn : Func} {p q s : Tmp} {ty : TypeId} (h : fn.results = #[.cell p ty, .tmp q, .tmp s]) (tmps : Array Value) (w : World) (g : Nat) (t : TypeId) (cs : Array Value) (fr : Nat × Nat) (d : TypeDesc)
    (hp : tmps.getD p undef = .pointer (some ⟨g, 0, none⟩)) (hg : w.heap[g]? = some (.cells cs t fr))
    (hu : P.underlying ty = some d) (hd : (match d with | .struct _ | .array _ _ => true | _ => false) = true) (hi : (P.info? ty).map (·.size) = some cs.size) (v v2 : Value) (hv : tmps.getD q undef = v) (hv2 : tmps.getD s undef = v2) :
    (results fn tmps).run P w = .ok (.tuple #[.agg cs, v, v2]) w := by
  have hp' : tmps[p]?.getD undef = .pointer (some ⟨g, 0, none⟩) := by simpa using hp
  have hv' : tmps[q]?.getD undef = v := by simpa using hv
  have hv2' : tmps[s]?.getD undef = v2 := by simpa using hv2
  simp [results, h, hp', hv', hv2', asAddr, run_loadVar_row w g t ty cs fr d hg hu hd hi]
theorem results_cell_tmp1 {P : Program} {fn : Func} {p q : Tmp} {ty : TypeId} (h : fn.results = #[.cell p ty, .tmp q]) (tmps : Array Value) (w : World) (g : Nat) (t : TypeId) (cs : Array Value) (fr : Nat × Nat) (d : TypeDesc)
    (hp : tmps.getD p undef = .pointer (some ⟨g, 0, none⟩)) (hg : w.heap[g]? = some (.cells cs t fr))
    (hu : P.underlying ty = some d) (hd : (match d with | .struct _ | .array _ _ => true | _ => false) = true) (hi : (P.info? ty).map (·.size) = some cs.size) (v : Value) (hv : tmps.getD q undef = v) :
    (results fn tmps).run P w = .ok (.tuple #[.agg cs, v]) w := by
  have hp' : tmps[p]?.getD undef = .pointer (some ⟨g, 0, none⟩) := by simpa using hp
  have hv' : tmps[q]?.getD undef = v := by simpa using hv
  simp [results, h, hp', hv', asAddr, run_loadVar_row w g t ty cs fr d hg hu hd hi]
set_option maxHeartbeats 8000000 in
theorem rget_any (st : World) (F F0 : HProp) (hF0 : ∀ G w, Has st (sep G F) w → Has st (sep G F0) w) (v : Value) (K : List Kp) (lim : Int) (hRS : RS st F0 v K) (hlen : K.length ≤ 1000) (htot : tot K ≤ 100000) (id : List UInt8) (hid : id.length = 32) (w : World) (h : Has st F w) :
    Calls Tryd.prog 14 #[.agg (rcells v lim), .agg (bcells id).toArray] w fun e w' => ∃ G v' K' V, e = .returned (.tuple #[.agg (rcells v' lim), V, .bool (getL id (absK K)).2.2]) ∧ absK K' = (getL id (absK K)).1 ∧ Has st (sep G F) w' ∧ RS st (sep G F0) v' K' ∧ Sees st (sep G F0) 1 V (getL id (absK K)).2.1.length (bcells (getL id (absK K)).2.1) := by
  have hF1 : ∀ w, Has st F w → Has st F0 w := fun w h => (hF0 emp w h.ofEmp).right
  have HRS0 := Lib.hid hRS
  have hRF := hRS.widen hF1
  obtain ⟨A, c, rfl⟩ := hRF.row.form h
  have HRS := Lib.hid hRF
  have HIS : Hid ((Tryd.prog.info? 34).map (·.size) = some (bcells id).toArray.size) := Lib.hid (by rw [List.size_toArray, bcells_length, hid]; exact infoID)
  have HJS : Hid ((Tryd.prog.info? 34).map (·.size) = some (bcells id).length) := Lib.hid (by rw [bcells_length, hid]; exact infoID)
  have HTS : Hid (((bcells id).toArray.toList.drop 0).take (bcells id).length = bcells id) := Lib.hid (by simp)
  have HZC := Lib.hid zeroRC
  have HLI := Lib.hid hid
  have HFI : Hid (∀ T w, (∀ w, Has st T w → Has st F w) → Has st T w → Calls Tryd.prog 28 #[.agg (rcells (.slice A K.length c) lim), .agg (bcells id).toArray] w fun e w' => e = .returned (.int .i64 (placeZ id K)) ∧ Has st T w') := Lib.hid fun T w hT hw =>
    rfind_any st T _ K lim id (HRS.out.widen hT) HLI.out (by omega) w hw
  obtain ⟨CC, hCC⟩ : ∃ CC, CC = rcells (.slice A K.length c) lim := ⟨_, rfl⟩
  have HCL : Hid ((Tryd.prog.info? 29).map (·.size) = some CC.toList.length) := Lib.hid (by rw [hCC]; exact infoRC)
  have HCI : Hid ((Tryd.prog.info? 29).map (·.size) = some CC.size) := Lib.hid (by rw [hCC]; exact infoRC)
  have HCT : Hid ((CC.toList.drop 0).take CC.toList.length = CC.toList) := Lib.hid (by rw [hCC]; rfl)
  have HC1 : Hid (CC.all (·.oneCell') = true) := Lib.hid (by rw [hCC]; exact rc_one _ _ _ _)
  have HCZ : Hid (zrc.size = CC.size) := Lib.hid (by rw [hCC]; rfl)
  have HCC := Lib.hid hCC
  rw [← hCC] at HFI ⊢
  have HH := Lib.hid h
  obtain ⟨GL, hGL⟩ : ∃ GL, GL = getL id (absK K) := ⟨_, rfl⟩
  rw [← hGL]
  clear hRS hRF hCC hid
  cases hpl : place id K with
  | none =>
    have hpz : placeZ id K = -1 := by rw [placeZ, hpl]
    rw [hpz] at HFI
    have HGL : Hid (GL = (absK K, [], false)) := Lib.hid (by rw [hGL]; unfold getL; rw [abs_place, hpl])
    clear hpz hpl hGL
    go_enter Tryd.func14, Tryd.ntmps14
    go_wp2_with (first
      | (go_at_call 28; refine (HFI.out _ _ (fun w h => h.right.right.right) H2.out).mono ?_; rintro e w9 ⟨rfl, h9⟩; have H3 := Lib.hid h9; clear h9)
      | ((first | (with_reducible refine wpList_plain rfl ?_) | ((with_reducible refine wpList_yes _ _ rfl ?_ ?_); (focus rfl))); intro _ hk; (first
        | (have _k := H3; refine opw_loadMid 29 _ rfl q 0 rfl CC.toList _ Tryd.underlying29 rfl HCL.out H3.out.third HCT.out (hk _ _ ?_))
        | (have _k := H3; refine opw_storeRow 29 _ _ rfl rc CC rfl rfl 29 zrc HCI.out HCZ.out HC1.out H3.out (fun w9 h9 => hk _ _ ?_); have H4 := Lib.hid h9; clear h9)
        | (have _k := H2; refine opw_loadMid 34 _ rfl r 0 rfl (bcells id) _ Tryd.underlying34 rfl HJS.out H2.out.second HTS.out (hk _ _ ?_))
        | (have _k := H2; refine opw_loadMid 29 _ rfl q 0 rfl CC.toList _ Tryd.underlying29 rfl HCL.out H2.out.third HCT.out (hk _ _ ?_))
        | (have _k := H1; refine opw_alloc 29 (.agg zrc) zrc rfl HZC.out rfl H1.out (fun rc w1 hp h1 => hk _ _ ?_); clear hp; have H2 := Lib.hid h1; clear h1)
        | (have _k := H0; refine opw_box 34 (.agg (bcells id).toArray) (bcells id).toArray rfl rfl rfl H0.out (fun r w1 hp h1 => hk _ _ ?_); clear hp; have H1 := Lib.hid h1; clear h1)
        | (refine opw_box 29 (.agg CC) CC rfl rfl rfl HH.out (fun q w1 hp h1 => hk _ _ ?_); clear hp; have H0 := Lib.hid h1; clear h1)); simp only [Act.put, List.setIfInBounds_toArray, List.set_cons_zero, List.set_cons_succ]))
    refine bodyPost_ret (results_cell_tmp2 Tryd.results14 _ _ _ 29 CC _ _ rfl H4.out.blk Tryd.underlying29 rfl HCI.out _ _ rfl rfl) rfl ?_
    rw [HGL.out, HCC.out]
    exact ⟨emp, _, K, .slice none 0 0, rfl, rfl, (H4.out.right.right.right).ofEmp, by rw [emp_sep]; exact HRS0.out, sees_nil _ _⟩
  | some i =>
    have hpz : placeZ id K = (i : Int) := by rw [placeZ, hpl]
    rw [hpz] at HFI
    have hi := place_lt hpl
    have hkk : K[i].ok := HRS0.out.ok _ (List.getElem_mem hi)
    have HGL : Hid (GL = if sha K[i].b == id then ((absK K).eraseIdx i ++ [(K[i].id, K[i].b)], K[i].b, true) else ((absK K).eraseIdx i, [], false)) := Lib.hid (by
      rw [hGL]; unfold getL; rw [abs_place, hpl]; simp only [abs_get, List.getElem?_eq_getElem hi, Option.map_some])
    have HER : Hid (absK (K.eraseIdx i) = (absK K).eraseIdx i) := Lib.hid (abs_erase K i)
    have hle : (K.eraseIdx i).length = K.length - 1 := List.length_eraseIdx_of_lt hi
    obtain ⟨g, off, rfl, _⟩ := (HRS.out.row w h).at (by omega)
    obtain ⟨Y, hY⟩ : ∃ Y, Y = kc K[i] := ⟨_, rfl⟩
    have HCY : Hid (∀ w, Has st F w → w.rangeAt g (off + i * 33) Y) := Lib.hid fun w hw j u hj => by
      obtain ⟨g', o', e, hc⟩ := (HRS.out.row w hw).at (by omega)
      injection e with e; injection e with e1 e2; subst e1 e2
      rw [Nat.add_assoc]; exact hc _ u (kcs_cell HRS0.out.ok hi (by rw [← hY]; exact hj))
    have HBL : Hid (Sees st F0 1 K[i].v K[i].b.length (bcells K[i].b)) := Lib.hid (HRS0.out.blob _ (List.getElem_mem hi))
    have HR1 : Hid (∀ G B d, RS st (sep (sep (row 48 33 (.slice B (K.length - 1) d) (K.length - 1) (kcs (K.eraseIdx i))) G) F0) (.slice B (K.length - 1) d) (K.eraseIdx i)) := Lib.hid fun G B d => by
      rw [← hle]
      have hr : RS st (sep (row 48 33 (.slice B (K.eraseIdx i).length d) (K.eraseIdx i).length (kcs (K.eraseIdx i))) (sep G F0)) (.slice B (K.eraseIdx i).length d) (K.eraseIdx i) :=
        ⟨sees_row st _ 33 _ _ _ _, ok_erase HRS0.out.ok i, fun k hk => (HRS0.out.blob k (List.mem_of_mem_eraseIdx hk)).right.right⟩
      exact hr.widen fun w h => h.assoc
    have HWA : Hid (∀ T w, (∀ w, Has st T w → Has st F w) → Has st T w → Calls Tryd.prog 27 #[.agg CC, .int .i64 (i : Int)] w fun e w' => ∃ B d, e = .returned (.agg (rcells (.slice B (K.length - 1) d) lim)) ∧ Has st (sep (row 48 33 (.slice B (K.length - 1) d) (K.length - 1) (kcs (K.eraseIdx i))) T) w') := Lib.hid fun T w hT hw => by
      rw [HCC.out]
      exact rwithout_at st T _ c K lim (HRS.out.widen hT) i hi (by omega) w hw
    have htk : K[i].b.length ≤ 100000 := by have := tot_le_at K i hi; omega
    have hkid : K[i].id = id := place_id hpl
    have HBK : Hid (∀ x ∈ K.eraseIdx i, Sees st F0 1 x.v x.b.length (bcells x.b)) := Lib.hid fun x hx => HRS0.out.blob x (List.mem_of_mem_eraseIdx hx)
    have HX1 : Hid (∀ u ∈ kcs (K.eraseIdx i), u.oneCell' = true) := Lib.hid (kcs_one (ok_erase HRS0.out.ok i))
    have HOKE : Hid (∀ k ∈ K.eraseIdx i, k.ok) := Lib.hid (ok_erase HRS0.out.ok i)
    obtain ⟨k, hk⟩ : ∃ k, k = K[i] := ⟨_, rfl⟩
    rw [← hk] at hkk hY HGL HBL htk hkid
    obtain ⟨B, d, hv⟩ := hkk.2
    obtain ⟨n, hn⟩ : ∃ n, n = k.b.length := ⟨_, rfl⟩
    rw [← hn] at hv htk
    obtain ⟨S, hS⟩ : ∃ S, S = sha k.b := ⟨_, rfl⟩
    rw [← hS] at HGL
    have HS32 : Hid (S.length = 32) := Lib.hid (by rw [hS]; exact sha_length _)
    have HOF : Hid (∀ T w, (∀ w, Has st T w → Has st F w) → Has st T w → Calls Tryd.prog 11 #[.slice B n d] w fun e w' => e = .returned (.agg (bcells S).toArray) ∧ Has st T w') := Lib.hid fun T w hT hw => by
      rw [hS, ← hv]; exact refOf_any st T k.b _ w hw (fun w h => HBL.out w (hF1 w (hT w h))) (by omega)
    have HYL := Lib.hid (show Y.length = 33 by rw [hY, kc_length hkk])
    have HY1 := Lib.hid (show ∀ u ∈ Y, u.oneCell' = true by rw [hY]; exact kc_one hkk)
    have HY32 := Lib.hid (show Y[32]? = some (.slice B n d) by rw [hY, kc_cell hkk, hv])
    have HYK := Lib.hid hY
    have HKO := Lib.hid hkk
    have HKV : Hid (k.v = .slice B n d) := Lib.hid hv
    have HKN : Hid (n = k.b.length) := Lib.hid hn
    have HKI : Hid (k.id = id) := Lib.hid hkid
    obtain ⟨Z, hZ⟩ : ∃ Z, Z = zeroKc.toArray := ⟨_, rfl⟩
    have HZI : Hid ((Tryd.prog.info? 48).map (·.zero) = some (some (.agg Z))) := Lib.hid (by rw [hZ]; exact infoRKz)
    have HZ33 := Lib.hid (show Z.size = 33 by rw [hZ]; rfl)
    obtain ⟨K1, hK1⟩ : ∃ K1, K1 = K.eraseIdx i := ⟨_, rfl⟩
    obtain ⟨N, hN⟩ : ∃ N, N = K.length := ⟨_, rfl⟩
    obtain ⟨N1, hN1⟩ : ∃ N1, N1 = N - 1 := ⟨_, rfl⟩
    rw [← hN, ← hN1] at HR1 HWA hle
    rw [← hN] at HCC hi
    obtain ⟨X1, hX1⟩ : ∃ X, X = kcs K1 := ⟨_, rfl⟩
    rw [← hK1] at HR1 HWA HER HX1 hle HOKE HBK
    rw [← hX1] at HR1 HWA HX1
    have HX1K := Lib.hid hX1
    have hN1b : N1 ≤ 1000 := by omega
    have HLE := Lib.hid hle
    clear hpz hpl hGL hkk hY hv hn hS hkid hZ hK1 hN hN1 hX1 hk hle
    go_enter Tryd.func14, Tryd.ntmps14
    go_wp2_with (first
      | (go_at_call 28; refine (HFI.out _ _ (fun w h => h.right.right.right) H2.out).mono ?_; rintro e w9 ⟨rfl, h9⟩; have H3 := Lib.hid h9; clear h9)
      | (go_at_call 27; refine (HWA.out _ _ (fun w h => h.right.right.right.right) H5.out).mono ?_; rintro e w6 ⟨B1, d1, rfl, h6⟩; have H6 : Hid (Has st (sep (blk q (.cells CC 29 (0, 0))) (sep (row 48 33 (.slice B1 N1 d1) N1 X1) (sep (blk kq (.cells Y.toArray 48 (0, 0))) (sep (blk rc (.cells zrc 29 (0, 0))) (sep (blk r (.cells (bcells id).toArray 34 (0, 0))) F))))) w6) := Lib.hid (h6.cast (by ac_rfl)); clear h6)
      | ((first | (with_reducible refine wpList_plain rfl ?_) | ((with_reducible refine wpList_yes _ _ rfl ?_ ?_); (focus rfl))); intro _ hk; (first
        | (have _k := H6; refine opw_storeRow 29 _ _ rfl q (rcells (.slice B1 N1 d1) lim) rfl rfl 29 CC infoRC (by rw [HCC.out]; rfl) (rc_one _ _ _ _) H6.out (fun w9 h9 => hk _ _ ?_); have H7 := Lib.hid h9; clear h9)
        | (have _k := H5; refine opw_loadMid 29 _ rfl q 0 rfl CC.toList _ Tryd.underlying29 rfl HCL.out H5.out.fourth HCT.out (hk _ _ ?_))
        | (have _k := H4; refine opw_storeRow 48 _ _ rfl kq Y.toArray rfl rfl 48 Z (by simp only [List.size_toArray, HYL.out]; exact infoR) (by simp only [List.size_toArray, HYL.out]; exact HZ33.out) (all_one HY1.out) H4.out (fun w4 h4 => hk _ _ ?_); have H5 := Lib.hid h4; clear h4)
        | (have _k := H3; refine opw_alloc 48 (.agg Z) Z rfl HZI.out rfl H3.out (fun kq w3 hp h3 => hk _ _ ?_); clear hp; have H4 := Lib.hid h3; clear h3)
        | (have _k := H3; refine wp_load_mid _ _ rfl g (off + i * 33) rfl Y _ (HCY.out _ H3.out.right.right.right) Tryd.underlying48 rfl (by rw [HYL.out]; exact infoR) (hk _ _ ?_))
        | (have _k := H3; refine opw_indexN 27 48 33 _ _ rfl Tryd.underlying27 infoR g off N c i rfl .i64 rfl hi (hk _ _ ?_))
        | (have _k := H3; refine opw_load1 27 _ rfl _ Tryd.underlying27 rfl ⟨q, 0, none⟩ (.slice (some ⟨g, off, none⟩) N c) rfl ((H3.out.third.cell 0).trans (by rw [HCC.out]; rfl)) (hk _ _ ?_))
        | (have _k := H3; refine opw_cmp .lss _ _ _ _ .i64 (i : Int) 0 false rfl rfl rfl (by show some (decide ((i : Int) < 0)) = some false; rw [decide_eq_false (by omega)]) (hk _ _ ?_))
        | (have _k := H2; refine opw_loadMid 34 _ rfl r 0 rfl (bcells id) _ Tryd.underlying34 rfl HJS.out H2.out.second HTS.out (hk _ _ ?_))
        | (have _k := H2; refine opw_loadMid 29 _ rfl q 0 rfl CC.toList _ Tryd.underlying29 rfl HCL.out H2.out.third HCT.out (hk _ _ ?_))
        | (have _k := H1; refine opw_alloc 29 (.agg zrc) zrc rfl HZC.out rfl H1.out (fun rc w1 hp h1 => hk _ _ ?_); clear hp; have H2 := Lib.hid h1; clear h1)
        | (have _k := H0; refine opw_box 34 (.agg (bcells id).toArray) (bcells id).toArray rfl rfl rfl H0.out (fun r w1 hp h1 => hk _ _ ?_); clear hp; have H1 := Lib.hid h1; clear h1)
        | (refine opw_box 29 (.agg CC) CC rfl rfl rfl HH.out (fun q w1 hp h1 => hk _ _ ?_); clear hp; have H0 := Lib.hid h1; clear h1)); simp only [Act.put, List.setIfInBounds_toArray, List.set_cons_zero, List.set_cons_succ]))
    clear H0 H1 H2 H3 H4 H5 H6
    have H7' := H7.out
    clear H7
    obtain ⟨CB, hCB⟩ : ∃ CB, CB = rcells (.slice B1 N1 d1) lim := ⟨_, rfl⟩
    have HCBL : Hid ((Tryd.prog.info? 29).map (·.size) = some CB.toList.length) := Lib.hid (by rw [hCB]; exact infoRC)
    have HCBI : Hid ((Tryd.prog.info? 29).map (·.size) = some CB.size) := Lib.hid (by rw [hCB]; exact infoRC)
    have HCBT : Hid ((CB.toList.drop 0).take CB.toList.length = CB.toList) := Lib.hid (by rw [hCB]; rfl)
    have HCB1 : Hid (CB.all (·.oneCell') = true) := Lib.hid (by rw [hCB]; exact rc_one _ _ _ _)
    have HCBZ : Hid (zrc.size = CB.size) := Lib.hid (by rw [hCB]; rfl)
    have HCB : Hid (CB = rcells (.slice B1 N1 d1) lim) := Lib.hid hCB
    rw [← hCB] at H7'
    have H7 := Lib.hid H7'
    clear hCB H7'
    by_cases hcmp : (S == id) = true
    · have HZ : Hid ((!(S == id)) = false) := Lib.hid (by rw [hcmp]; rfl)
      have HG2 : Hid (GL = ((absK K).eraseIdx i ++ [(k.id, k.b)], k.b, true)) := Lib.hid (by rw [HGL.out, if_pos hcmp])
      clear hcmp
      refine wp_region_inv3 (fun L u w' => Slots (fun kk => ([some (.pointer (some ⟨kq, 32, none⟩)), some (.slice B n d), some (.agg (bcells S).toArray), some (.agg (bcells id).toArray), some (.bool false)] : List (Option Value)).getD kk none) L u ∧ Has st (sep (blk q (.cells CB 29 (0, 0))) (sep (row 48 33 (.slice B1 N1 d1) N1 X1) (sep (blk kq (.cells Y.toArray 48 (0, 0))) (sep (blk rc (.cells zrc 29 (0, 0))) (sep (blk r (.cells (bcells id).toArray 34 (0, 0))) F))))) w') (by kernel_rfl) (by decide +kernel) (by decide +kernel) (by kernel_rfl) (by kernel_rfl) (fun u => ⟨Slots.start _ u, H7.out.drew⟩) ?_ ?_
      · refine ⟨?_, ?_, ?_, ?_, ?_, trivial⟩
        · refine RegStep3.plain rfl ?_; rintro L u w1 bA hL hW hD hU ⟨hS, hH⟩ hin hout; exact opw_field _ _ _ 32 rfl (by kernel_rfl) (kq) (0) ((hout 8 (by kernel_rfl)).trans (by kernel_rfl)) ⟨_, rfl, hS.step 0 _ (.inr rfl), hH⟩
        · refine RegStep3.plain rfl ?_; rintro L u w1 bA hL hW hD hU ⟨hS, hH⟩ hin hout; exact opw_load1 _ _ rfl _ Tryd.underlying30 rfl _ _ ((hin 0 23 rfl).trans (hS 0 _ rfl (hW.of 0 (by decide)))) ((hH.third.cell 32).trans (by simpa using HY32.out)) ⟨_, rfl, hS.step 1 _ (.inr rfl), hH⟩
        · refine RegStep3.plain rfl ?_; rintro L u w1 bA hL hW hD hU ⟨hS, hH⟩ hin hout; exact opw_call_ret _ _ _ [(.slice B n d)] rfl (by kernel_rfl) (list2 ((hin 1 24 rfl).trans (hS 1 _ rfl (hW.of 1 (by decide)))) rfl) (HOF.out _ w1 (fun w h => h.right.right.right.right.right) hH) (fun e w2 he => by obtain ⟨rfl, h2⟩ := he; exact ⟨_, rfl, _, rfl, hS.step 2 _ (.inr rfl), h2⟩)
        · refine RegStep3.plain rfl ?_; rintro L u w1 bA hL hW hD hU ⟨hS, hH⟩ hin hout; exact opw_loadMid _ _ rfl r (0) ((hout 3 (by kernel_rfl)).trans (by kernel_rfl)) (bcells id) _ Tryd.underlying34 rfl HJS.out (hH.right.right.right.second) HTS.out ⟨_, rfl, hS.step 3 _ (.inr rfl), hH⟩
        · refine RegStep3.plain rfl ?_; rintro L u w1 bA hL hW hD hU ⟨hS, hH⟩ hin hout; exact opw_neRow _ _ 5 32 _ _ S id Tryd.underlying34 Tryd.underlying5 infosz (by kernel_rfl) HS32.out HLI.out rfl ((hin 2 25 rfl).trans (hS 2 _ rfl (hW.of 2 (by decide)))) ((hin 3 26 rfl).trans (hS 3 _ rfl (hW.of 3 (by decide)))) false HZ.out ⟨_, rfl, hS.step 4 _ (.inr rfl), hH⟩
      intro L u w8 hL ⟨hS, hH⟩
      have E0 := hS 0 _ rfl (hL 0 (by decide))
      have E1 := hS 1 _ rfl (hL 1 (by decide))
      have E2 := hS 2 _ rfl (hL 2 (by decide))
      have E3 := hS 3 _ rfl (hL 3 (by decide))
      have E4 := hS 4 _ rfl (hL 4 (by decide))
      simp only [frame_cons, frame_nil, E0, E1, E2, E3, E4, Act.put, List.setIfInBounds_toArray, List.set_cons_zero, List.set_cons_succ]
      clear hL hS E0 E1 E2 E3 E4
      have H8 := Lib.hid hH
      clear hH H7
      rw [HCB.out] at H8
      go_wp2_with fail
      refine wp_region_inv3 (fun L u w' => Slots (fun kk => ([none, some (.pointer (some ⟨q, 0, none⟩)), some (.slice B1 N1 d1), none, some (.agg Y.toArray), none, none, some (.pointer (some ⟨q, 0, none⟩)), none] : List (Option Value)).getD kk none) L u ∧ Has st (sep (stg (L 6) (row 48 33 (u 6) (0 + N1 + 1) ([] ++ X1 ++ Y)) (stg (L 3) (row 48 33 (u 3) (0 + N1) ([] ++ X1)) (stg (L 0) (row 48 33 (u 0) 0 []) emp))) (sep (stg (L 5) (row 48 33 (u 5) 1 Y) emp) (sep (stg (L 8) (blk q (.cells (rcells (u 6) lim) 29 (0, 0))) (blk q (.cells (rcells (.slice B1 N1 d1) lim) 29 (0, 0)))) (sep (row 48 33 (.slice B1 N1 d1) N1 X1) (sep (blk kq (.cells Y.toArray 48 (0, 0))) (sep (blk rc (.cells zrc 29 (0, 0))) (sep (blk r (.cells (bcells id).toArray 34 (0, 0))) F))))))) w') (by kernel_rfl) (by decide +kernel) (by decide +kernel) (by kernel_rfl) (by kernel_rfl) (fun u => ⟨Slots.start _ u, (show Has st (sep (stg false (row 48 33 (u 6) (0 + N1 + 1) ([] ++ X1 ++ Y)) (stg false (row 48 33 (u 3) (0 + N1) ([] ++ X1)) (stg false (row 48 33 (u 0) 0 []) emp))) (sep (stg false (row 48 33 (u 5) 1 Y) emp) (sep (stg false (blk q (.cells (rcells (u 6) lim) 29 (0, 0))) (blk q (.cells (rcells (.slice B1 N1 d1) lim) 29 (0, 0)))) (sep (row 48 33 (.slice B1 N1 d1) N1 X1) (sep (blk kq (.cells Y.toArray 48 (0, 0))) (sep (blk rc (.cells zrc 29 (0, 0))) (sep (blk r (.cells (bcells id).toArray 34 (0, 0))) F))))))) _ from H8.out.drew.cast (by first | (simp only [stg_no, emp_sep]; done) | (simp only [stg_no, emp_sep]; ac_rfl)))⟩) ?_ ?_
      · refine ⟨?_, ?_, ?_, ?_, ?_, ?_, ?_, ?_, ?_, trivial⟩
        · refine RegStep3.plain rfl ?_; rintro L u w1 bA hL hW hD hU ⟨hS, hH⟩ hin hout; exact opw_row0 _ 48 33 rfl Tryd.underlying27 infoR (((hH.stg_no (hD.nots 9 6 0 hL (by decide +kernel))).stg_no (hD.nots 9 3 0 hL (by decide +kernel))).stg_no hL).noEmp (fun v4 w4 h4 => ⟨_, rfl, hS.step 0 _ (.inl rfl), (show Has st (sep (stg (L 6) (row 48 33 (u 6) (0 + N1 + 1) ([] ++ X1 ++ Y)) (stg (L 3) (row 48 33 (u 3) (0 + N1) ([] ++ X1)) (stg true (row 48 33 v4 0 []) emp))) (sep (stg (L 5) (row 48 33 (u 5) 1 Y) emp) (sep (stg (L 8) (blk q (.cells (rcells (u 6) lim) 29 (0, 0))) (blk q (.cells (rcells (.slice B1 N1 d1) lim) 29 (0, 0)))) (sep (row 48 33 (.slice B1 N1 d1) N1 X1) (sep (blk kq (.cells Y.toArray 48 (0, 0))) (sep (blk rc (.cells zrc 29 (0, 0))) (sep (blk r (.cells (bcells id).toArray 34 (0, 0))) F))))))) w4 from ((((h4.stg_mk (Q := emp)).stg_false (P := (row 48 33 (u 3) (0 + N1) ([] ++ X1))) (hD.nots 9 3 0 hL (by decide +kernel))).stg_false (P := (row 48 33 (u 6) (0 + N1 + 1) ([] ++ X1 ++ Y))) (hD.nots 9 6 0 hL (by decide +kernel)))).cast (by ac_rfl))⟩)
        · refine RegStep3.plain rfl ?_; rintro L u w1 bA hL hW hD hU ⟨hS, hH⟩ hin hout; exact opw_field _ _ _ 0 rfl (by kernel_rfl) (q) (0) ((hout 2 (by kernel_rfl)).trans (by kernel_rfl)) ⟨_, rfl, hS.step 1 _ (.inr rfl), hH⟩
        · refine RegStep3.plain rfl ?_; rintro L u w1 bA hL hW hD hU ⟨hS, hH⟩ hin hout; exact opw_load1 _ _ rfl _ Tryd.underlying27 rfl _ _ ((hin 1 30 rfl).trans (hS 1 _ rfl (hW.of 1 (by decide)))) ((((hH.cast (show _ = sep (stg (L 8) (blk q (.cells (rcells (u 6) lim) 29 (0, 0))) (blk q (.cells (rcells (.slice B1 N1 d1) lim) 29 (0, 0)))) (sep (stg (L 6) (row 48 33 (u 6) (0 + N1 + 1) ([] ++ X1 ++ Y)) (stg (L 3) (row 48 33 (u 3) (0 + N1) ([] ++ X1)) (stg (L 0) (row 48 33 (u 0) 0 []) emp))) (sep (stg (L 5) (row 48 33 (u 5) 1 Y) emp) (sep (row 48 33 (.slice B1 N1 d1) N1 X1) (sep (blk kq (.cells Y.toArray 48 (0, 0))) (sep (blk rc (.cells zrc 29 (0, 0))) (sep (blk r (.cells (bcells id).toArray 34 (0, 0))) F)))))) by ac_rfl)).stg_no (hD.nots 9 8 2 hL (by decide +kernel)))).cell 0) ⟨_, rfl, hS.step 2 _ (.inr rfl), hH⟩
        · refine RegStep3.plain rfl ?_; rintro L u w1 bA hL hW hD hU ⟨hS, hH⟩ hin hout; exact op_append _ _ _ 48 33 56 (.agg zeroKc.toArray) rfl Tryd.underlying27 infoR3 rfl (by decide) (hin 0 29 rfl) ((hin 2 31 rfl).trans (hS 2 _ rfl (hW.of 2 (by decide)))) (((hH.stg_no (hD.nots 9 6 3 hL (by decide +kernel))).stg_no hL).stg_yes (hW.far (i := 3) hD rfl 9 0 (by decide +kernel))) (Rd.of_row ((hH.right.right.right)).ownsRow) HX1.out (by unfold maxLen; omega) (by omega) (fun A4 c4 w4 h4 => ⟨_, rfl, hS.step 3 _ (.inl rfl), (show Has st (sep (stg (L 6) (row 48 33 (u 6) (0 + N1 + 1) ([] ++ X1 ++ Y)) (stg true (row 48 33 (.slice A4 (0 + N1) c4) (0 + N1) ([] ++ X1)) (stg (L 0) (row 48 33 (u 0) 0 []) emp))) (sep (stg (L 5) (row 48 33 (u 5) 1 Y) emp) (sep (stg (L 8) (blk q (.cells (rcells (u 6) lim) 29 (0, 0))) (blk q (.cells (rcells (.slice B1 N1 d1) lim) 29 (0, 0)))) (sep (row 48 33 (.slice B1 N1 d1) N1 X1) (sep (blk kq (.cells Y.toArray 48 (0, 0))) (sep (blk rc (.cells zrc 29 (0, 0))) (sep (blk r (.cells (bcells id).toArray 34 (0, 0))) F))))))) w4 from (((h4.stg_mk (Q := (stg (L 0) (row 48 33 (u 0) 0 []) emp))).stg_false (P := (row 48 33 (u 6) (0 + N1 + 1) ([] ++ X1 ++ Y))) (hD.nots 9 6 3 hL (by decide +kernel)))).cast (by ac_rfl))⟩)
        · refine RegStep3.plain rfl ?_; rintro L u w1 bA hL hW hD hU ⟨hS, hH⟩ hin hout; exact opw_loadMid _ _ rfl kq (0) ((hout 8 (by kernel_rfl)).trans (by kernel_rfl)) Y _ Tryd.underlying48 rfl (by rw [HYL.out]; exact infoR) ((hH.right.right.right)).second (by simp) ⟨_, rfl, hS.step 4 _ (.inr rfl), hH⟩
        · refine RegStep3.plain rfl ?_; rintro L u w1 bA hL hW hD hU ⟨hS, hH⟩ hin hout; exact opw_row1 _ 48 33 (.agg zeroKc.toArray) _ (.agg Y.toArray) Y rfl Tryd.underlying27 infoR2 zeroK_size (by decide) (by decide) ((hin 4 33 rfl).trans (hS 4 _ rfl (hW.of 4 (by decide)))) rfl HYL.out ((hH.cast (show _ = sep (stg (L 5) (row 48 33 (u 5) 1 Y) emp) (sep (stg (L 6) (row 48 33 (u 6) (0 + N1 + 1) ([] ++ X1 ++ Y)) (stg (L 3) (row 48 33 (u 3) (0 + N1) ([] ++ X1)) (stg (L 0) (row 48 33 (u 0) 0 []) emp))) (sep (stg (L 8) (blk q (.cells (rcells (u 6) lim) 29 (0, 0))) (blk q (.cells (rcells (.slice B1 N1 d1) lim) 29 (0, 0)))) (sep (row 48 33 (.slice B1 N1 d1) N1 X1) (sep (blk kq (.cells Y.toArray 48 (0, 0))) (sep (blk rc (.cells zrc 29 (0, 0))) (sep (blk r (.cells (bcells id).toArray 34 (0, 0))) F)))))) by ac_rfl)).stg_no hL).noEmp (fun v4 w4 h4 => ⟨_, rfl, hS.step 5 _ (.inl rfl), (show Has st (sep (stg (L 6) (row 48 33 (u 6) (0 + N1 + 1) ([] ++ X1 ++ Y)) (stg (L 3) (row 48 33 (u 3) (0 + N1) ([] ++ X1)) (stg (L 0) (row 48 33 (u 0) 0 []) emp))) (sep (stg true (row 48 33 v4 1 Y) emp) (sep (stg (L 8) (blk q (.cells (rcells (u 6) lim) 29 (0, 0))) (blk q (.cells (rcells (.slice B1 N1 d1) lim) 29 (0, 0)))) (sep (row 48 33 (.slice B1 N1 d1) N1 X1) (sep (blk kq (.cells Y.toArray 48 (0, 0))) (sep (blk rc (.cells zrc 29 (0, 0))) (sep (blk r (.cells (bcells id).toArray 34 (0, 0))) F))))))) w4 from ((h4.stg_mk (Q := emp))).cast (by ac_rfl))⟩)
        · refine RegStep3.plain rfl ?_; rintro L u w1 bA hL hW hD hU ⟨hS, hH⟩ hin hout; exact op_append _ _ _ 48 33 56 (.agg zeroKc.toArray) rfl Tryd.underlying27 infoR3 rfl (by decide) (hin 3 32 rfl) (hin 5 34 rfl) ((hH.stg_no hL).stg_yes (hW.far (i := 6) hD rfl 9 3 (by decide +kernel))) (Rd.of_row (((hH.cast (show _ = sep (stg (L 5) (row 48 33 (u 5) 1 Y) emp) (sep (stg (L 6) (row 48 33 (u 6) (0 + N1 + 1) ([] ++ X1 ++ Y)) (stg (L 3) (row 48 33 (u 3) (0 + N1) ([] ++ X1)) (stg (L 0) (row 48 33 (u 0) 0 []) emp))) (sep (stg (L 8) (blk q (.cells (rcells (u 6) lim) 29 (0, 0))) (blk q (.cells (rcells (.slice B1 N1 d1) lim) 29 (0, 0)))) (sep (row 48 33 (.slice B1 N1 d1) N1 X1) (sep (blk kq (.cells Y.toArray 48 (0, 0))) (sep (blk rc (.cells zrc 29 (0, 0))) (sep (blk r (.cells (bcells id).toArray 34 (0, 0))) F)))))) by ac_rfl)).stg_yes (hW.far (i := 6) hD rfl 9 5 (by decide +kernel)))).ownsRow) HY1.out (by unfold maxLen; omega) (by omega) (fun A4 c4 w4 h4 => ⟨_, rfl, hS.step 6 _ (.inl rfl), (show Has st (sep (stg true (row 48 33 (.slice A4 (0 + N1 + 1) c4) (0 + N1 + 1) ([] ++ X1 ++ Y)) (stg (L 3) (row 48 33 (u 3) (0 + N1) ([] ++ X1)) (stg (L 0) (row 48 33 (u 0) 0 []) emp))) (sep (stg (L 5) (row 48 33 (u 5) 1 Y) emp) (sep (stg (L 8) (blk q (.cells (rcells (.slice A4 (0 + N1 + 1) c4) lim) 29 (0, 0))) (blk q (.cells (rcells (.slice B1 N1 d1) lim) 29 (0, 0)))) (sep (row 48 33 (.slice B1 N1 d1) N1 X1) (sep (blk kq (.cells Y.toArray 48 (0, 0))) (sep (blk rc (.cells zrc 29 (0, 0))) (sep (blk r (.cells (bcells id).toArray 34 (0, 0))) F))))))) w4 from ((h4.stg_mk (Q := (stg (L 3) (row 48 33 (u 3) (0 + N1) ([] ++ X1)) (stg (L 0) (row 48 33 (u 0) 0 []) emp))))).cast (by rw [stg_eq (hD.nots 9 8 6 hL (by decide +kernel)) (blk q (.cells (rcells (u 6) lim) 29 (0, 0))) (blk q (.cells (rcells (.slice A4 (0 + N1 + 1) c4) lim) 29 (0, 0)))]; try ac_rfl))⟩)
        · refine RegStep3.plain rfl ?_; rintro L u w1 bA hL hW hD hU ⟨hS, hH⟩ hin hout; exact opw_field _ _ _ 0 rfl (by kernel_rfl) (q) (0) ((hout 2 (by kernel_rfl)).trans (by kernel_rfl)) ⟨_, rfl, hS.step 7 _ (.inr rfl), hH⟩
        · refine RegStep3.plain rfl ?_; rintro L u w1 bA hL hW hD hU ⟨hS, hH⟩ hin hout; exact opw_store1 _ _ _ rfl infoSlR q 0 (u 6) ((hin 7 36 rfl).trans (hS 7 _ rfl (hW.of 7 (by decide)))) (hin 6 35 rfl) (row_one ((hH.stg_yes (hW.far (i := 8) hD rfl 9 6 (by decide +kernel))))) ((hH.cast (show _ = sep (stg (L 8) (blk q (.cells (rcells (u 6) lim) 29 (0, 0))) (blk q (.cells (rcells (.slice B1 N1 d1) lim) 29 (0, 0)))) (sep (stg (L 6) (row 48 33 (u 6) (0 + N1 + 1) ([] ++ X1 ++ Y)) (stg (L 3) (row 48 33 (u 3) (0 + N1) ([] ++ X1)) (stg (L 0) (row 48 33 (u 0) 0 []) emp))) (sep (stg (L 5) (row 48 33 (u 5) 1 Y) emp) (sep (row 48 33 (.slice B1 N1 d1) N1 X1) (sep (blk kq (.cells Y.toArray 48 (0, 0))) (sep (blk rc (.cells zrc 29 (0, 0))) (sep (blk r (.cells (bcells id).toArray 34 (0, 0))) F)))))) by ac_rfl)).stg_no hL) (by simp [rcells]) (fun w4 h4 => ⟨_, rfl, hS.step 8 _ (.inl rfl), (show Has st (sep (stg (L 6) (row 48 33 (u 6) (0 + N1 + 1) ([] ++ X1 ++ Y)) (stg (L 3) (row 48 33 (u 3) (0 + N1) ([] ++ X1)) (stg (L 0) (row 48 33 (u 0) 0 []) emp))) (sep (stg (L 5) (row 48 33 (u 5) 1 Y) emp) (sep (stg true (blk q (.cells (rcells (u 6) lim) 29 (0, 0))) (blk q (.cells (rcells (.slice B1 N1 d1) lim) 29 (0, 0)))) (sep (row 48 33 (.slice B1 N1 d1) N1 X1) (sep (blk kq (.cells Y.toArray 48 (0, 0))) (sep (blk rc (.cells zrc 29 (0, 0))) (sep (blk r (.cells (bcells id).toArray 34 (0, 0))) F))))))) w4 from ((h4.stg_mk (Q := (blk q (.cells (rcells (.slice B1 N1 d1) lim) 29 (0, 0)))))).cast (by ac_rfl))⟩)
      intro L u w9 hL ⟨hS, hH⟩
      have E1 := hS 1 _ rfl (hL 1 (by decide))
      have E2 := hS 2 _ rfl (hL 2 (by decide))
      have E4 := hS 4 _ rfl (hL 4 (by decide))
      have E7 := hS 7 _ rfl (hL 7 (by decide))
      simp only [hL 0 (by decide), hL 3 (by decide), hL 5 (by decide), hL 6 (by decide), hL 8 (by decide), stg_true, emp_sep] at hH
      simp only [frame_cons, frame_nil, E1, E2, E4, E7, Act.put, List.setIfInBounds_toArray, List.set_cons_zero, List.set_cons_succ]
      clear hL hS E1 E2 E4 E7
      generalize u 0 = u0 at hH ⊢
      generalize u 3 = u3 at hH ⊢
      generalize u 5 = u5 at hH ⊢
      generalize u 6 = u6 at hH ⊢
      have H9 := Lib.hid hH
      clear hH H8
      rw [Nat.zero_add, List.nil_append] at H9
      obtain ⟨B9, d9, rfl⟩ := H9.out.row_slice
      have h9 : Has st (sep (blk q (.cells (rcells (.slice B9 (N1 + 1) d9) lim) 29 (0, 0))) (sep (row 48 33 (.slice B9 (N1 + 1) d9) (N1 + 1) (X1 ++ Y)) (sep (blk kq (.cells Y.toArray 48 (0, 0))) (sep (blk rc (.cells zrc 29 (0, 0))) (sep (blk r (.cells (bcells id).toArray 34 (0, 0))) F))))) w9 := (H9.out.cast (show _ = sep (row 48 33 (.slice B1 N1 d1) N1 X1) (sep (row 48 33 u5 1 Y) (sep (blk q (.cells (rcells (.slice B9 (N1 + 1) d9) lim) 29 (0, 0))) (sep (row 48 33 (.slice B9 (N1 + 1) d9) (N1 + 1) (X1 ++ Y)) (sep (blk kq (.cells Y.toArray 48 (0, 0))) (sep (blk rc (.cells zrc 29 (0, 0))) (sep (blk r (.cells (bcells id).toArray 34 (0, 0))) F)))))) by ac_rfl)).right.right
      have H10 := Lib.hid h9
      clear H9 h9 HCBL HCBI HCBT HCB1 HCBZ HCB
      obtain ⟨CB, hCB⟩ : ∃ CB, CB = rcells (.slice B9 (N1 + 1) d9) lim := ⟨_, rfl⟩
      have HCBL : Hid ((Tryd.prog.info? 29).map (·.size) = some CB.toList.length) := Lib.hid (by rw [hCB]; exact infoRC)
      have HCBI : Hid ((Tryd.prog.info? 29).map (·.size) = some CB.size) := Lib.hid (by rw [hCB]; exact infoRC)
      have HCBT : Hid ((CB.toList.drop 0).take CB.toList.length = CB.toList) := Lib.hid (by rw [hCB]; rfl)
      have HCB1 : Hid (CB.all (·.oneCell') = true) := Lib.hid (by rw [hCB]; exact rc_one _ _ _ _)
      have HCBZ : Hid (zrc.size = CB.size) := Lib.hid (by rw [hCB]; rfl)
      have HCB : Hid (CB = rcells (.slice B9 (N1 + 1) d9) lim) := Lib.hid hCB
      rw [← hCB] at H10
      clear hCB
      go_wp2_with fail
      refine wp_region_inv3 (fun L u w' => Slots (fun kk => ([some (.agg CB), some (.pointer (some ⟨kq, 32, none⟩)), some (.slice B n d), none, some (.slice B n d), some (.bool true)] : List (Option Value)).getD kk none) L u ∧ Has st (sep (stg (L 3) (blk rc (.cells CB 29 (0, 0))) (blk rc (.cells zrc 29 (0, 0)))) (sep (blk q (.cells CB 29 (0, 0))) (sep (row 48 33 (.slice B9 (N1 + 1) d9) (N1 + 1) (X1 ++ Y)) (sep (blk kq (.cells Y.toArray 48 (0, 0))) (sep (blk r (.cells (bcells id).toArray 34 (0, 0))) F))))) w') (by kernel_rfl) (by decide +kernel) (by decide +kernel) (by kernel_rfl) (by kernel_rfl) (fun u => ⟨Slots.start _ u, (show Has st (sep (stg false (blk rc (.cells CB 29 (0, 0))) (blk rc (.cells zrc 29 (0, 0)))) (sep (blk q (.cells CB 29 (0, 0))) (sep (row 48 33 (.slice B9 (N1 + 1) d9) (N1 + 1) (X1 ++ Y)) (sep (blk kq (.cells Y.toArray 48 (0, 0))) (sep (blk r (.cells (bcells id).toArray 34 (0, 0))) F))))) _ from H10.out.drew.cast (by first | (simp only [stg_no, emp_sep]; done) | (simp only [stg_no, emp_sep]; ac_rfl)))⟩) ?_ ?_
      · refine ⟨?_, ?_, ?_, ?_, ?_, ?_, trivial⟩
        · refine RegStep3.plain rfl ?_; rintro L u w1 bA hL hW hD hU ⟨hS, hH⟩ hin hout; exact opw_loadMid _ _ rfl q (0) ((hout 2 (by kernel_rfl)).trans (by kernel_rfl)) CB.toList _ Tryd.underlying29 rfl HCBL.out (hH.right) HCBT.out ⟨_, rfl, hS.step 0 _ (.inr rfl), hH⟩
        · refine RegStep3.plain rfl ?_; rintro L u w1 bA hL hW hD hU ⟨hS, hH⟩ hin hout; exact opw_field _ _ _ 32 rfl (by kernel_rfl) (kq) (0) ((hout 8 (by kernel_rfl)).trans (by kernel_rfl)) ⟨_, rfl, hS.step 1 _ (.inr rfl), hH⟩
        · refine RegStep3.plain rfl ?_; rintro L u w1 bA hL hW hD hU ⟨hS, hH⟩ hin hout; exact opw_load1 _ _ rfl _ Tryd.underlying30 rfl _ _ ((hin 1 38 rfl).trans (hS 1 _ rfl (hW.of 1 (by decide)))) ((((hH.right)).third.cell 32).trans (by simpa using HY32.out)) ⟨_, rfl, hS.step 2 _ (.inr rfl), hH⟩
        · refine RegStep3.plain rfl ?_; rintro L u w1 bA hL hW hD hU ⟨hS, hH⟩ hin hout; exact opw_storeRow _ _ _ rfl rc CB ((hout 4 (by kernel_rfl)).trans (by kernel_rfl)) ((hin 0 37 rfl).trans (hS 0 _ rfl (hW.of 0 (by decide)))) 29 zrc HCBI.out HCBZ.out HCB1.out (hH.stg_no hL) (fun w9 h9 => ⟨_, rfl, hS.step 3 _ (.inl rfl), (show Has st (sep (stg true (blk rc (.cells CB 29 (0, 0))) (blk rc (.cells zrc 29 (0, 0)))) (sep (blk q (.cells CB 29 (0, 0))) (sep (row 48 33 (.slice B9 (N1 + 1) d9) (N1 + 1) (X1 ++ Y)) (sep (blk kq (.cells Y.toArray 48 (0, 0))) (sep (blk r (.cells (bcells id).toArray 34 (0, 0))) F))))) w9 from ((h9.stg_mk (Q := (blk rc (.cells zrc 29 (0, 0)))))).cast (by ac_rfl))⟩)
        · refine RegStep3.plain rfl ?_; rintro L u w1 bA hL hW hD hU ⟨hS, hH⟩ hin hout; exact opw_move _ _ (.inr rfl) ((hin 2 39 rfl).trans (hS 2 _ rfl (hW.of 2 (by decide)))) ⟨_, rfl, hS.step 4 _ (.inr rfl), hH⟩
        · refine RegStep3.plain rfl ?_; rintro L u w1 bA hL hW hD hU ⟨hS, hH⟩ hin hout; exact opw_move _ _ (.inr rfl) rfl ⟨_, rfl, hS.step 5 _ (.inr rfl), hH⟩
      intro L u w11 hL ⟨hS, hH⟩
      have E0 := hS 0 _ rfl (hL 0 (by decide))
      have E1 := hS 1 _ rfl (hL 1 (by decide))
      have E2 := hS 2 _ rfl (hL 2 (by decide))
      have E4 := hS 4 _ rfl (hL 4 (by decide))
      have E5 := hS 5 _ rfl (hL 5 (by decide))
      simp only [hL 3 (by decide), stg_true, emp_sep] at hH
      simp only [frame_cons, frame_nil, E0, E1, E2, E4, E5, Act.put, List.setIfInBounds_toArray, List.set_cons_zero, List.set_cons_succ]
      clear hL hS E0 E1 E2 E4 E5
      have H11 := Lib.hid hH
      clear hH H10
      go_wp2
      refine bodyPost_ret (results_cell_tmp2 Tryd.results14 _ _ _ 29 CB _ _ rfl H11.out.blk Tryd.underlying29 rfl HCBI.out _ _ rfl rfl) rfl ?_
      rw [HG2.out, HCB.out]
      have hl : N1 + 1 = (K1 ++ [k]).length := by rw [List.length_append, HLE.out]; rfl
      have hx : X1 ++ Y = kcs (K1 ++ [k]) := by rw [kcs_append, HX1K.out, HYK.out]; simp [kcs]
      have hsb : Sees st F0 1 (.slice B n d) k.b.length (bcells k.b) := by rw [← HKV.out]; exact HBL.out
      refine ⟨(row 48 33 (.slice B9 (N1 + 1) d9) (N1 + 1) (X1 ++ Y)), .slice B9 (N1 + 1) d9, K1 ++ [k], .slice B n d, rfl, ?_, ?_, ?_, hsb.right⟩
      · rw [abs_append, HER.out]; rfl
      · exact (H11.out.cast (show _ = sep (blk rc (.cells CB 29 (0, 0))) (sep (blk q (.cells CB 29 (0, 0))) (sep (blk kq (.cells Y.toArray 48 (0, 0))) (sep (blk r (.cells (bcells id).toArray 34 (0, 0))) (sep (row 48 33 (.slice B9 (N1 + 1) d9) (N1 + 1) (X1 ++ Y)) F)))) by ac_rfl)).right.right.right.right
      · rw [hl, hx]
        refine ⟨sees_row st _ 33 _ _ _ _, ok_append HOKE.out HKO.out, fun x hx => ?_⟩
        rcases List.mem_append.1 hx with hx | hx
        · exact (HBK.out x hx).right
        · rw [List.mem_singleton] at hx; rw [hx, HKV.out]; exact hsb.right
    · have HZ : Hid ((!(S == id)) = true) := Lib.hid (by simpa using hcmp)
      have HG2 : Hid (GL = ((absK K).eraseIdx i, [], false)) := Lib.hid (by rw [HGL.out, if_neg hcmp])
      clear hcmp
      refine wp_region_inv3 (fun L u w' => Slots (fun kk => ([some (.pointer (some ⟨kq, 32, none⟩)), some (.slice B n d), some (.agg (bcells S).toArray), some (.agg (bcells id).toArray), some (.bool true)] : List (Option Value)).getD kk none) L u ∧ Has st (sep (blk q (.cells CB 29 (0, 0))) (sep (row 48 33 (.slice B1 N1 d1) N1 X1) (sep (blk kq (.cells Y.toArray 48 (0, 0))) (sep (blk rc (.cells zrc 29 (0, 0))) (sep (blk r (.cells (bcells id).toArray 34 (0, 0))) F))))) w') (by kernel_rfl) (by decide +kernel) (by decide +kernel) (by kernel_rfl) (by kernel_rfl) (fun u => ⟨Slots.start _ u, H7.out.drew⟩) ?_ ?_
      · refine ⟨?_, ?_, ?_, ?_, ?_, trivial⟩
        · refine RegStep3.plain rfl ?_; rintro L u w1 bA hL hW hD hU ⟨hS, hH⟩ hin hout; exact opw_field _ _ _ 32 rfl (by kernel_rfl) (kq) (0) ((hout 8 (by kernel_rfl)).trans (by kernel_rfl)) ⟨_, rfl, hS.step 0 _ (.inr rfl), hH⟩
        · refine RegStep3.plain rfl ?_; rintro L u w1 bA hL hW hD hU ⟨hS, hH⟩ hin hout; exact opw_load1 _ _ rfl _ Tryd.underlying30 rfl _ _ ((hin 0 23 rfl).trans (hS 0 _ rfl (hW.of 0 (by decide)))) ((hH.third.cell 32).trans (by simpa using HY32.out)) ⟨_, rfl, hS.step 1 _ (.inr rfl), hH⟩
        · refine RegStep3.plain rfl ?_; rintro L u w1 bA hL hW hD hU ⟨hS, hH⟩ hin hout; exact opw_call_ret _ _ _ [(.slice B n d)] rfl (by kernel_rfl) (list2 ((hin 1 24 rfl).trans (hS 1 _ rfl (hW.of 1 (by decide)))) rfl) (HOF.out _ w1 (fun w h => h.right.right.right.right.right) hH) (fun e w2 he => by obtain ⟨rfl, h2⟩ := he; exact ⟨_, rfl, _, rfl, hS.step 2 _ (.inr rfl), h2⟩)
        · refine RegStep3.plain rfl ?_; rintro L u w1 bA hL hW hD hU ⟨hS, hH⟩ hin hout; exact opw_loadMid _ _ rfl r (0) ((hout 3 (by kernel_rfl)).trans (by kernel_rfl)) (bcells id) _ Tryd.underlying34 rfl HJS.out (hH.right.right.right.second) HTS.out ⟨_, rfl, hS.step 3 _ (.inr rfl), hH⟩
        · refine RegStep3.plain rfl ?_; rintro L u w1 bA hL hW hD hU ⟨hS, hH⟩ hin hout; exact opw_neRow _ _ 5 32 _ _ S id Tryd.underlying34 Tryd.underlying5 infosz (by kernel_rfl) HS32.out HLI.out rfl ((hin 2 25 rfl).trans (hS 2 _ rfl (hW.of 2 (by decide)))) ((hin 3 26 rfl).trans (hS 3 _ rfl (hW.of 3 (by decide)))) true HZ.out ⟨_, rfl, hS.step 4 _ (.inr rfl), hH⟩
      intro L u w8 hL ⟨hS, hH⟩
      have E0 := hS 0 _ rfl (hL 0 (by decide))
      have E1 := hS 1 _ rfl (hL 1 (by decide))
      have E2 := hS 2 _ rfl (hL 2 (by decide))
      have E3 := hS 3 _ rfl (hL 3 (by decide))
      have E4 := hS 4 _ rfl (hL 4 (by decide))
      simp only [frame_cons, frame_nil, E0, E1, E2, E3, E4, Act.put, List.setIfInBounds_toArray, List.set_cons_zero, List.set_cons_succ]
      clear hL hS E0 E1 E2 E3 E4
      have H8 := Lib.hid hH
      clear hH H7
      go_wp2_with (first
        | (fail)
        | ((first | (with_reducible refine wpList_plain rfl ?_) | ((with_reducible refine wpList_yes _ _ rfl ?_ ?_); (focus rfl))); intro _ hk; (first
          | (refine opw_loadMid 29 _ rfl q 0 rfl CB.toList _ Tryd.underlying29 rfl HCBL.out H8.out HCBT.out (hk _ _ ?_))
          | (refine opw_storeRow 29 _ _ rfl rc CB rfl rfl 29 zrc HCBI.out HCBZ.out HCB1.out H8.out.fourth (fun w9 h9 => hk _ _ ?_); have H9 := Lib.hid h9; clear h9)); simp only [Act.put, List.setIfInBounds_toArray, List.set_cons_zero, List.set_cons_succ]))
      refine bodyPost_ret (results_cell_tmp2 Tryd.results14 _ _ _ 29 CB _ _ rfl H9.out.blk Tryd.underlying29 rfl HCBI.out _ _ rfl rfl) rfl ?_
      rw [HG2.out, HCB.out]
      refine ⟨sep (row 48 33 (.slice B1 N1 d1) N1 X1) emp, .slice B1 N1 d1, K1, .slice none 0 0, rfl, HER.out, ?_, HR1.out emp B1 d1, sees_nil _ _⟩
      rw [show sep (sep (row 48 33 (.slice B1 N1 d1) N1 X1) emp) F = sep (row 48 33 (.slice B1 N1 d1) N1 X1) F by rw [sep_assoc, emp_sep]]
      exact (H9.out.cast (show _ = sep (blk rc (.cells CB 29 (0, 0))) (sep (blk q (.cells CB 29 (0, 0))) (sep (blk kq (.cells Y.toArray 48 (0, 0))) (sep (blk r (.cells (bcells id).toArray 34 (0, 0))) (sep (row 48 33 (.slice B1 N1 d1) N1 X1) F)))) by ac_rfl)).right.right.right.right
end Go.Proofs.YtblknhpafifebaaDoor

/-
  coldstoreref14: Spoil.
-/
namespace Go.Proofs.YtblknhpafifebaaDoor
open Go Go.RowKit Go.Sl Go.Sha
set_option linter.unusedVariables false
set_option linter.unusedSimpArgs false
set_option maxRecDepth 100000
theorem opw_storeRowN {P : Program} {o : Oper} {a : Act} {w : World} {K : Act → World → Prop} {Q : Exit → Act → World → Prop} {st : World} (t : TypeId) (x y : Operand) (ho : o.op = .store t x y) (hi : (P.info? t).map (·.size) = some 1) (g j : Nat) (v : Value) (hx : a.eval x = .pointer (some ⟨g, j, none⟩)) (hy : a.eval y = v) (hv : v.oneCell' = true)
    {E : TypeId} {size n c : Nat} {xs : List Value} {R : HProp} (h : Has st (sep (row E size (.slice (some ⟨g, 0, none⟩) n c) n xs) R) w) (hj : j < n * size)
    (hK : ∀ w', Has st (sep (row E size (.slice (some ⟨g, 0, none⟩) n c) n (xs.set j v)) R) w' → K (a.put o.dst undef) w') : o.wp P a w K Q := by
  obtain ⟨cur, h1, h2, h3, h4, h5⟩ := h.row_open
  refine opw_store1 t x y ho hi g j v hx hy hv h5 (by have := Nat.mul_le_mul_right size h1; omega) fun w' h6 => hK w' ?_
  refine h6.row_of_blk size n c h1 h2 (by rw [Array.size_setIfInBounds]; exact h3) ?_
  rw [Array.toList_setIfInBounds, List.take_set, h4]
theorem kcs_setv : ∀ {K : List Kp} (hok : ∀ k ∈ K, k.ok) {i : Nat} (hi : i < K.length) (v : Value) (b : List UInt8), kcs (K.set i ⟨K[i].id, v, b⟩) = (kcs K).set (i * 33 + 32) v
  | k :: K, hok, 0, hi, v, b => by
    have h32 : (bcells k.id).length = 32 := by rw [bcells_length, (hok k (by simp)).1]
    show kcs (⟨k.id, v, b⟩ :: K) = _
    rw [kcs_cons, kcs_cons, List.set_append_left _ _ (by rw [kc_length (hok k (by simp))]; decide)]
    show (bcells k.id ++ [v]) ++ _ = (bcells k.id ++ [k.v]).set _ v ++ _
    rw [List.set_append_right _ _ (by omega), show 0 * 33 + 32 - (bcells k.id).length = 0 by omega]; rfl
  | k :: K, hok, i + 1, hi, v, b => by
    have hi' : i < K.length := by simpa using hi
    show kcs (k :: K.set i ⟨K[i].id, v, b⟩) = _
    rw [kcs_cons, kcs_cons, List.set_append_right _ _ (by rw [kc_length (hok k (by simp))]; omega), kc_length (hok k (by simp)), show (i + 1) * 33 + 32 - 33 = i * 33 + 32 by omega, kcs_setv (fun x hx => hok x (by simp [hx])) hi' v b]
set_option maxHeartbeats 8000000 in
theorem rspoil_any (st : World) (F F0 : HProp) (hF0 : ∀ G w, Has st (sep G F) w → Has st (sep G F0) w) (v : Value) (K : List Kp) (lim : Int) (hRS : RS st F0 v K) (hlen : K.length ≤ 1000) (htot : tot K ≤ 100000) (id : List UInt8) (hid : id.length = 32) (bit : Int) (w : World) (h : Has st F w) :
    Calls Tryd.prog 17 #[.agg (rcells v lim), .agg (bcells id).toArray, .int .i64 bit] w fun e w' => ∃ G v' K', e = .returned (.tuple #[.agg (rcells v' lim), .bool (spoilL id bit (absK K)).2]) ∧ absK K' = (spoilL id bit (absK K)).1 ∧ Has st (sep G F) w' ∧ RS st (sep G F0) v' K' := by
  have hF1 : ∀ w, Has st F w → Has st F0 w := fun w h => (hF0 emp w h.ofEmp).right
  have HRS0 := Lib.hid hRS
  have hRF := hRS.widen hF1
  obtain ⟨A, c, rfl⟩ := hRF.row.form h
  have HRS := Lib.hid hRF
  have HIS : Hid ((Tryd.prog.info? 34).map (·.size) = some (bcells id).toArray.size) := Lib.hid (by rw [List.size_toArray, bcells_length, hid]; exact infoID)
  have HJS : Hid ((Tryd.prog.info? 34).map (·.size) = some (bcells id).length) := Lib.hid (by rw [bcells_length, hid]; exact infoID)
  have HTS : Hid (((bcells id).toArray.toList.drop 0).take (bcells id).length = bcells id) := Lib.hid (by simp)
  have HZC := Lib.hid zeroRC
  have HLI := Lib.hid hid
  have HFI : Hid (∀ T w, (∀ w, Has st T w → Has st F w) → Has st T w → Calls Tryd.prog 28 #[.agg (rcells (.slice A K.length c) lim), .agg (bcells id).toArray] w fun e w' => e = .returned (.int .i64 (placeZ id K)) ∧ Has st T w') := Lib.hid fun T w hT hw =>
    rfind_any st T _ K lim id (HRS.out.widen hT) HLI.out (by omega) w hw
  obtain ⟨CC, hCC⟩ : ∃ CC, CC = rcells (.slice A K.length c) lim := ⟨_, rfl⟩
  have HCL : Hid ((Tryd.prog.info? 29).map (·.size) = some CC.toList.length) := Lib.hid (by rw [hCC]; exact infoRC)
  have HCI : Hid ((Tryd.prog.info? 29).map (·.size) = some CC.size) := Lib.hid (by rw [hCC]; exact infoRC)
  have HCT : Hid ((CC.toList.drop 0).take CC.toList.length = CC.toList) := Lib.hid (by rw [hCC]; rfl)
  have HC1 : Hid (CC.all (·.oneCell') = true) := Lib.hid (by rw [hCC]; exact rc_one _ _ _ _)
  have HCZ : Hid (zrc.size = CC.size) := Lib.hid (by rw [hCC]; rfl)
  have HCC := Lib.hid hCC
  rw [← hCC] at HFI ⊢
  have HH := Lib.hid h
  obtain ⟨GL, hGL⟩ : ∃ GL, GL = spoilL id bit (absK K) := ⟨_, rfl⟩
  rw [← hGL]
  clear hRS hRF hCC hid
  cases hpl : place id K with
  | none =>
    have hpz : placeZ id K = -1 := by rw [placeZ, hpl]
    rw [hpz] at HFI
    have HGL : Hid (GL = (absK K, false)) := Lib.hid (by rw [hGL]; unfold spoilL; rw [abs_place, hpl])
    clear hpz hpl hGL
    go_enter Tryd.func17, Tryd.ntmps17
    go_wp2_with (first
      | (go_at_call 28; refine (HFI.out _ _ (fun w h => h.right.right.right) H2.out).mono ?_; rintro e w9 ⟨rfl, h9⟩; have H3 := Lib.hid h9; clear h9)
      | ((first | (with_reducible refine wpList_plain rfl ?_) | ((with_reducible refine wpList_yes _ _ rfl ?_ ?_); (focus rfl))); intro _ hk; (first
        | (have _k := H3; refine opw_loadMid 29 _ rfl q 0 rfl CC.toList _ Tryd.underlying29 rfl HCL.out H3.out.third HCT.out (hk _ _ ?_))
        | (have _k := H3; refine opw_storeRow 29 _ _ rfl rc CC rfl rfl 29 zrc HCI.out HCZ.out HC1.out H3.out (fun w9 h9 => hk _ _ ?_); have H4 := Lib.hid h9; clear h9)
        | (have _k := H2; refine opw_loadMid 34 _ rfl r 0 rfl (bcells id) _ Tryd.underlying34 rfl HJS.out H2.out.second HTS.out (hk _ _ ?_))
        | (have _k := H2; refine opw_loadMid 29 _ rfl q 0 rfl CC.toList _ Tryd.underlying29 rfl HCL.out H2.out.third HCT.out (hk _ _ ?_))
        | (have _k := H1; refine opw_alloc 29 (.agg zrc) zrc rfl HZC.out rfl H1.out (fun rc w1 hp h1 => hk _ _ ?_); clear hp; have H2 := Lib.hid h1; clear h1)
        | (have _k := H0; refine opw_box 34 (.agg (bcells id).toArray) (bcells id).toArray rfl rfl rfl H0.out (fun r w1 hp h1 => hk _ _ ?_); clear hp; have H1 := Lib.hid h1; clear h1)
        | (refine opw_box 29 (.agg CC) CC rfl rfl rfl HH.out (fun q w1 hp h1 => hk _ _ ?_); clear hp; have H0 := Lib.hid h1; clear h1)); simp only [Act.put, List.setIfInBounds_toArray, List.set_cons_zero, List.set_cons_succ]))
    refine bodyPost_ret (results_cell_tmp1 Tryd.results17 _ _ _ 29 CC _ _ rfl H4.out.blk Tryd.underlying29 rfl HCI.out _ rfl) rfl ?_
    rw [HGL.out, HCC.out]
    exact ⟨emp, _, K, rfl, rfl, (H4.out.right.right.right).ofEmp, by rw [emp_sep]; exact HRS0.out⟩
  | some i =>
    have hpz : placeZ id K = (i : Int) := by rw [placeZ, hpl]
    rw [hpz] at HFI
    have hi := place_lt hpl
    have hkk : K[i].ok := HRS0.out.ok _ (List.getElem_mem hi)
    have HGL : Hid (GL = if K[i].b.length = 0 then (absK K, false) else ((absK K).set i (K[i].id, Sl.flip K[i].b (bit % ((8 * K[i].b.length : Nat) : Int)).toNat), true)) := Lib.hid (by
      rw [hGL]; unfold spoilL; rw [abs_place, hpl]; simp only [abs_get, List.getElem?_eq_getElem hi, Option.map_some])
    obtain ⟨g, off, rfl, _⟩ := (HRS.out.row w h).at (by omega)
    obtain ⟨B, d, hv⟩ := hkk.2
    have hcell : (kcs K)[i * 33 + 32]? = some (.slice B K[i].b.length d) := kcs_cell HRS0.out.ok hi (by rw [kc_cell hkk, hv])
    have HCE0 : Hid (∀ w, Has st F w → w.cell? ⟨g, off + i * 33 + 32, none⟩ = some (.slice B K[i].b.length d)) := Lib.hid fun w hw => by
      obtain ⟨g', o', e, hc⟩ := (HRS.out.row w hw).at (by omega)
      injection e with e; injection e with e1 e2; subst e1 e2
      rw [Nat.add_assoc]; exact hc _ _ hcell
    have HBL0 : Hid (Sees st F0 1 (.slice B K[i].b.length d) K[i].b.length (bcells K[i].b)) := Lib.hid (by have := HRS0.out.blob _ (List.getElem_mem hi); rwa [hv] at this)
    have HRW : Hid (Sees st F0 33 (.slice (some ⟨g, off, none⟩) K.length c) K.length (kcs K)) := Lib.hid HRS0.out.row
    have HKS : Hid (∀ v b, kcs (K.set i ⟨K[i].id, v, b⟩) = (kcs K).set (i * 33 + 32) v) := Lib.hid (kcs_setv HRS0.out.ok hi)
    have HX1 : Hid (∀ u ∈ kcs K, u.oneCell' = true) := Lib.hid (kcs_one HRS0.out.ok)
    have hnt : K[i].b.length ≤ 100000 := by have := tot_le_at K i hi; omega
    have HKI : Hid (K[i].id.length = 32) := Lib.hid hkk.1
    obtain ⟨k, hk⟩ : ∃ k, k = K[i] := ⟨_, rfl⟩
    rw [← hk] at HGL HCE0 HBL0 HKS hnt HKI
    obtain ⟨b, hb⟩ : ∃ b, b = k.b := ⟨_, rfl⟩
    rw [← hb] at HGL HCE0 HBL0 hnt
    obtain ⟨kid, hkid⟩ : ∃ kid, kid = k.id := ⟨_, rfl⟩
    rw [← hkid] at HGL HKS HKI
    obtain ⟨n, hn⟩ : ∃ n, n = b.length := ⟨_, rfl⟩
    rw [← hn] at HGL HCE0 HBL0 hnt
    have HCE : Hid (∀ w, Has st F w → w.cell? ⟨g, off + i * 33 + 32, none⟩ = some (.slice B n d)) := HCE0
    have HBL : Hid (Sees st F0 1 (.slice B n d) n (bcells b)) := HBL0
    have HNB : Hid (n = b.length) := Lib.hid hn
    obtain ⟨N, hN⟩ : ∃ N, N = K.length := ⟨_, rfl⟩
    obtain ⟨XK, hXK⟩ : ∃ X, X = kcs K := ⟨_, rfl⟩
    rw [← hXK] at HRW HKS HX1
    have HNK : Hid (N = K.length) := Lib.hid hN
    rw [← hN] at HCC hi HRW hlen
    have HLI0 : Hid (cmpZ .lss (i : Int) 0 = some false) := Lib.hid (by show some (decide ((i : Int) < 0)) = some false; rw [decide_eq_false (by omega)])
    clear hpz hpl hGL hkk hk hv hcell hb hkid hn hN hXK HCE0 HBL0
    by_cases hn0 : n = 0
    · have HZ : Hid (cmpZ .eql (n : Int) 0 = some true) := Lib.hid (by rw [hn0]; rfl)
      have HGL : Hid (GL = (absK K, false)) := Lib.hid (by rw [HGL.out, if_pos hn0])
      clear hn0
      go_enter Tryd.func17, Tryd.ntmps17
      go_wp2_with (first
        | (go_at_call 28; refine (HFI.out _ _ (fun w h => h.right.right.right) H2.out).mono ?_; rintro e w9 ⟨rfl, h9⟩; have H3 := Lib.hid h9; clear h9)
        | ((first | (with_reducible refine wpList_plain rfl ?_) | ((with_reducible refine wpList_yes _ _ rfl ?_ ?_); (focus rfl))); intro _ hk; (first
          | (have _k := H3; refine opw_loadMid 29 _ rfl q 0 rfl CC.toList _ Tryd.underlying29 rfl HCL.out H3.out.third HCT.out (hk _ _ ?_))
          | (have _k := H3; refine opw_storeRow 29 _ _ rfl rc CC rfl rfl 29 zrc HCI.out HCZ.out HC1.out H3.out (fun w9 h9 => hk _ _ ?_); have H4 := Lib.hid h9; clear h9)
          | (have _k := H3; refine opw_cmp .eql _ _ _ _ .i64 (n : Int) 0 true rfl rfl rfl HZ.out (hk _ _ ?_))
          | (have _k := H3; refine opw_load1 27 _ rfl _ Tryd.underlying27 rfl ⟨q, 0, none⟩ (.slice (some ⟨g, off, none⟩) N c) rfl ((H3.out.third.cell 0).trans (by rw [HCC.out]; rfl)) (hk _ _ ?_))
          | (have _k := H3; refine opw_indexN 27 48 33 _ _ rfl Tryd.underlying27 infoR g off N c i rfl .i64 rfl hi (hk _ _ ?_))
          | (have _k := H3; refine opw_field 48 _ 1 32 rfl (by kernel_rfl) g (off + i * 33) rfl (hk _ _ ?_))
          | (have _k := H3; refine opw_load1 30 _ rfl _ Tryd.underlying30 rfl ⟨g, off + i * 33 + 32, none⟩ (.slice B n d) rfl (HCE.out _ H3.out.right.right.right) (hk _ _ ?_))
          | (have _k := H3; refine opw_cmp .lss _ _ _ _ .i64 (i : Int) 0 false rfl rfl rfl HLI0.out (hk _ _ ?_))
          | (have _k := H2; refine opw_loadMid 34 _ rfl r 0 rfl (bcells id) _ Tryd.underlying34 rfl HJS.out H2.out.second HTS.out (hk _ _ ?_))
          | (have _k := H2; refine opw_loadMid 29 _ rfl q 0 rfl CC.toList _ Tryd.underlying29 rfl HCL.out H2.out.third HCT.out (hk _ _ ?_))
          | (have _k := H1; refine opw_alloc 29 (.agg zrc) zrc rfl HZC.out rfl H1.out (fun rc w1 hp h1 => hk _ _ ?_); clear hp; have H2 := Lib.hid h1; clear h1)
          | (have _k := H0; refine opw_box 34 (.agg (bcells id).toArray) (bcells id).toArray rfl rfl rfl H0.out (fun r w1 hp h1 => hk _ _ ?_); clear hp; have H1 := Lib.hid h1; clear h1)
          | (refine opw_box 29 (.agg CC) CC rfl rfl rfl HH.out (fun q w1 hp h1 => hk _ _ ?_); clear hp; have H0 := Lib.hid h1; clear h1)); simp only [Act.put, List.setIfInBounds_toArray, List.set_cons_zero, List.set_cons_succ]))
      refine bodyPost_ret (results_cell_tmp1 Tryd.results17 _ _ _ 29 CC _ _ rfl H4.out.blk Tryd.underlying29 rfl HCI.out _ rfl) rfl ?_
      rw [HGL.out, HCC.out]
      exact ⟨emp, _, K, rfl, rfl, (H4.out.right.right.right).ofEmp, by rw [emp_sep, HNK.out]; exact HRS0.out⟩
    · obtain ⟨N8, hN8⟩ : ∃ N8, N8 = 8 * n := ⟨_, rfl⟩
      obtain ⟨a, ha⟩ : ∃ a, a = (bit % (N8 : Int)).toNat := ⟨_, rfl⟩
      have HZ : Hid (cmpZ .eql (n : Int) 0 = some false) := Lib.hid (by simp only [cmpZ]; congr 1; simpa using hn0)
      have HG2 : Hid (GL = ((absK K).set i (kid, Sl.flip b a), true)) := Lib.hid (by rw [HGL.out, if_neg hn0, ← hN8, ← ha])
      have hNp : 0 < N8 := by omega
      have haN : a < N8 := by
        have h1 := Int.emod_nonneg bit (by omega : (N8 : Int) ≠ 0)
        have h2 := Int.emod_lt_of_pos bit (by omega : (0 : Int) < N8)
        omega
      have ha8 : a / 8 < n := by omega
      have hNb : N8 ≤ 800000 := by omega
      obtain ⟨r1, hr1⟩ : ∃ r1, r1 = bit.tmod (N8 : Int) := ⟨_, rfl⟩
      have hr : (0 ≤ r1 ∧ r1 = (a : Int)) ∨ (r1 < 0 ∧ r1 + N8 = (a : Int)) := by
        have h1 := Int.emod_nonneg bit (by omega : (N8 : Int) ≠ 0)
        have h2 := Int.emod_lt_of_pos bit (by omega : (0 : Int) < N8)
        have h3 : r1 = bit % N8 ∨ r1 = bit % N8 - N8 := by
          rw [hr1, Int.tmod_eq_emod]
          split
          · left; omega
          · right; omega
        rcases h3 with h3 | h3
        · left; omega
        · right; omega
      have e0 : binZ .mul .i64 8 (n : Int) = some (N8 : Int) := by rw [hN8]; exact bin_mul 8 n (by omega)
      have e1 : binZ .rem .i64 bit (N8 : Int) = some r1 := by rw [hr1]; show (if (N8 : Int) = 0 then none else some _) = _; rw [if_neg (by omega)]
      have H1e := Lib.hid e0
      have H2e := Lib.hid e1
      have hlb : b.length = n := HNB.out.symm
      obtain ⟨OLD, hOLD⟩ : ∃ OLD, OLD = b.getD (a / 8) 0 := ⟨_, rfl⟩
      obtain ⟨NEW, hNEW⟩ : ∃ NEW, NEW = OLD ^^^ ((1 : UInt8) <<< UInt8.ofNat (a % 8)) := ⟨_, rfl⟩
      have HOLD : Hid ((bcells b)[a / 8]? = some (.int .u8 (OLD.toNat : Int))) := Lib.hid (by rw [hOLD]; exact bgetD (by omega))
      have HFL : Hid ((bcells b).set (a / 8) (.int .u8 (NEW.toNat : Int)) = bcells (Sl.flip b a)) := Lib.hid (by rw [bcells_put, hNEW, hOLD]; rfl)
      have HXO : Hid (bits .xor .u8 (OLD.toNat : Int) (((1 : UInt8) <<< UInt8.ofNat (a % 8)).toNat : Int) = (NEW.toNat : Int)) := Lib.hid (by rw [hNEW]; exact xor8 _ _)
      have HSH : Hid (shZ .shl .u8 1 ((a % 8 : Nat) : Int) = some ((((1 : UInt8) <<< UInt8.ofNat (a % 8)).toNat : Nat) : Int)) := Lib.hid (shl8 _ (by omega))
      obtain ⟨SH, hSHd⟩ : ∃ SH : UInt8, SH = (1 : UInt8) <<< UInt8.ofNat (a % 8) := ⟨_, rfl⟩
      rw [← hSHd] at HXO HSH
      have HN8 : Hid (N8 = 8 * n) := Lib.hid hN8
      have h33 : i * 33 + 32 < N * 33 := by omega
      clear hN8 ha hr1 e0 e1 hlb hOLD hNEW hSHd hn0
      rcases hr with ⟨hr0, hr1⟩ | ⟨hr0, hr1⟩
      · rw [hr1] at H2e
        have HLT : Hid (cmpZ .lss (a : Int) 0 = some false) := Lib.hid (by show some (decide ((a : Int) < 0)) = some false; rw [decide_eq_false (by omega)])
        clear hr0 hr1
        go_enter Tryd.func17, Tryd.ntmps17
        go_wp2_with (first
          | (go_at_call 28; refine (HFI.out _ _ (fun w h => h.right.right.right) H2.out).mono ?_; rintro e w9 ⟨rfl, h9⟩; have H3 := Lib.hid h9; clear h9)
          | ((first | (with_reducible refine wpList_plain rfl ?_) | ((with_reducible refine wpList_yes _ _ rfl ?_ ?_); (focus rfl))); intro _ hk; (first
            | (have _k := U1; refine opw_cmp .lss _ _ _ _ .i64 (a : Int) 0 false rfl rfl rfl HLT.out (hk _ _ ?_))
            | (refine opw_bin .rem _ _ _ _ .i64 bit (N8 : Int) (a : Int) rfl rfl rfl H2e.out (hk _ _ ?_))
            | (refine opw_bin .mul _ _ _ _ .i64 8 (n : Int) (N8 : Int) rfl rfl rfl H1e.out (hk _ _ ?_))
            | (have _k := U0; refine op_append _ _ 30 5 1 1 (.int .u8 0) rfl Tryd.underlying30 infoB rfl (by decide) rfl rfl U0.out (HBL.out _ (hF1 _ U0.out.right.right.right.right)) (bcells_one b) (by unfold maxLen; omega) (by omega) (fun B1 d1 w9 h9 => hk _ _ ?_); rw [List.nil_append] at h9; rw [Nat.zero_add] at h9 ⊢; obtain ⟨gb, rfl⟩ := h9.row_at33 ha8; have U1 := Lib.hid h9; clear h9)
            | (have _k := H3; refine opw_row0 30 5 1 rfl Tryd.underlying30 infosz H3.out (fun v0 w9 h9 => hk _ _ ?_); have U0 := Lib.hid h9; clear h9)
            | (have _k := U0; refine opw_load1 30 _ rfl _ Tryd.underlying30 rfl ⟨g, off + i * 33 + 32, none⟩ (.slice B n d) rfl (HCE.out _ U0.out.right.right.right.right) (hk _ _ ?_))
            | (have _k := U0; refine opw_load1 27 _ rfl _ Tryd.underlying27 rfl ⟨q, 0, none⟩ (.slice (some ⟨g, off, none⟩) N c) rfl ((U0.out.fourth.cell 0).trans (by rw [HCC.out]; rfl)) (hk _ _ ?_))
            | (have _k := H3; refine opw_cmp .eql _ _ _ _ .i64 (n : Int) 0 false rfl rfl rfl HZ.out (hk _ _ ?_))
            | (have _k := H3; refine opw_load1 27 _ rfl _ Tryd.underlying27 rfl ⟨q, 0, none⟩ (.slice (some ⟨g, off, none⟩) N c) rfl ((H3.out.third.cell 0).trans (by rw [HCC.out]; rfl)) (hk _ _ ?_))
            | (have _k := H3; refine opw_indexN 27 48 33 _ _ rfl Tryd.underlying27 infoR g off N c i rfl .i64 rfl hi (hk _ _ ?_))
            | (have _k := H3; refine opw_field 48 _ 1 32 rfl (by kernel_rfl) g (off + i * 33) rfl (hk _ _ ?_))
            | (have _k := H3; refine opw_load1 30 _ rfl _ Tryd.underlying30 rfl ⟨g, off + i * 33 + 32, none⟩ (.slice B n d) rfl (HCE.out _ H3.out.right.right.right) (hk _ _ ?_))
            | (have _k := H3; refine opw_cmp .lss _ _ _ _ .i64 (i : Int) 0 false rfl rfl rfl HLI0.out (hk _ _ ?_))
            | (have _k := H2; refine opw_loadMid 34 _ rfl r 0 rfl (bcells id) _ Tryd.underlying34 rfl HJS.out H2.out.second HTS.out (hk _ _ ?_))
            | (have _k := H2; refine opw_loadMid 29 _ rfl q 0 rfl CC.toList _ Tryd.underlying29 rfl HCL.out H2.out.third HCT.out (hk _ _ ?_))
            | (have _k := H1; refine opw_alloc 29 (.agg zrc) zrc rfl HZC.out rfl H1.out (fun rc w1 hp h1 => hk _ _ ?_); clear hp; have H2 := Lib.hid h1; clear h1)
            | (have _k := H0; refine opw_box 34 (.agg (bcells id).toArray) (bcells id).toArray rfl rfl rfl H0.out (fun r w1 hp h1 => hk _ _ ?_); clear hp; have H1 := Lib.hid h1; clear h1)
            | (refine opw_box 29 (.agg CC) CC rfl rfl rfl HH.out (fun q w1 hp h1 => hk _ _ ?_); clear hp; have H0 := Lib.hid h1; clear h1)); simp only [Act.put, List.setIfInBounds_toArray, List.set_cons_zero, List.set_cons_succ]))
        refine wp_region_inv3 (fun L u w' => Slots (fun kk => ([some (.slice (some ⟨gb, 0, none⟩) n d1), some (.int .i64 ((a : Nat) : Int)), some (.int .i64 (((a / 8) : Nat) : Int)), some (.slice (some ⟨gb, 0, none⟩) n d1), some (.int .i64 ((a : Nat) : Int)), some (.int .i64 (((a / 8) : Nat) : Int)), some (.pointer (some ⟨gb, a / 8, none⟩)), some (.int .u8 ((OLD).toNat : Int)), some (.int .i64 ((a : Nat) : Int)), some (.int .i64 (((a % 8) : Nat) : Int)), some (.int .u8 ((SH).toNat : Int)), some (.int .u8 ((NEW).toNat : Int)), some (.pointer (some ⟨gb, a / 8, none⟩)), none] : List (Option Value)).getD kk none) L u ∧ Has st (sep (stg (L 13) (row 5 1 (.slice (some ⟨gb, 0, none⟩) n d1) n (bcells (Sl.flip b a))) (row 5 1 (.slice (some ⟨gb, 0, none⟩) n d1) n (bcells b))) (sep (blk rc (.cells zrc 29 (0, 0))) (sep (blk r (.cells (bcells id).toArray 34 (0, 0))) (sep (blk q (.cells CC 29 (0, 0))) F)))) w') (by kernel_rfl) (by decide +kernel) (by decide +kernel) (by kernel_rfl) (by kernel_rfl) (fun u => ⟨Slots.start _ u, (show Has st (sep (stg false (row 5 1 (.slice (some ⟨gb, 0, none⟩) n d1) n (bcells (Sl.flip b a))) (row 5 1 (.slice (some ⟨gb, 0, none⟩) n d1) n (bcells b))) (sep (blk rc (.cells zrc 29 (0, 0))) (sep (blk r (.cells (bcells id).toArray 34 (0, 0))) (sep (blk q (.cells CC 29 (0, 0))) F)))) _ from U1.out.drew.cast (by first | (simp only [stg_no, emp_sep]; done) | (simp only [stg_no, emp_sep]; ac_rfl)))⟩) ?_ ?_
        · refine ⟨?_, ?_, ?_, ?_, ?_, ?_, ?_, ?_, ?_, ?_, ?_, ?_, ?_, ?_, trivial⟩
          · refine RegStep3.plain rfl ?_; rintro L u w1 bA hL hW hD hU ⟨hS, hH⟩ hin hout; exact opw_move _ _ (.inl rfl) ((hout 9 (by kernel_rfl)).trans (by kernel_rfl)) ⟨_, rfl, hS.step 0 _ (.inr rfl), hH⟩
          · refine RegStep3.plain rfl ?_; rintro L u w1 bA hL hW hD hU ⟨hS, hH⟩ hin hout; exact opw_move _ _ (.inl rfl) ((hout 10 (by kernel_rfl)).trans (by kernel_rfl)) ⟨_, rfl, hS.step 1 _ (.inr rfl), hH⟩
          · refine RegStep3.plain rfl ?_; rintro L u w1 bA hL hW hD hU ⟨hS, hH⟩ hin hout; exact opw_bin .quo _ _ _ _ .i64 _ _ _ rfl ((hin 1 48 rfl).trans (hS 1 _ rfl (hW.of 1 (by decide)))) rfl (bin_quo (a) (8) (by decide) (by omega)) ⟨_, rfl, hS.step 2 _ (.inr rfl), hH⟩
          · refine RegStep3.plain rfl ?_; rintro L u w1 bA hL hW hD hU ⟨hS, hH⟩ hin hout; exact opw_move _ _ (.inl rfl) ((hout 9 (by kernel_rfl)).trans (by kernel_rfl)) ⟨_, rfl, hS.step 3 _ (.inr rfl), hH⟩
          · refine RegStep3.plain rfl ?_; rintro L u w1 bA hL hW hD hU ⟨hS, hH⟩ hin hout; exact opw_move _ _ (.inl rfl) ((hout 10 (by kernel_rfl)).trans (by kernel_rfl)) ⟨_, rfl, hS.step 4 _ (.inr rfl), hH⟩
          · refine RegStep3.plain rfl ?_; rintro L u w1 bA hL hW hD hU ⟨hS, hH⟩ hin hout; exact opw_bin .quo _ _ _ _ .i64 _ _ _ rfl ((hin 4 51 rfl).trans (hS 4 _ rfl (hW.of 4 (by decide)))) rfl (bin_quo (a) (8) (by decide) (by omega)) ⟨_, rfl, hS.step 5 _ (.inr rfl), hH⟩
          · refine RegStep3.plain rfl ?_; rintro L u w1 bA hL hW hD hU ⟨hS, hH⟩ hin hout; exact opw_index0 _ _ _ _ rfl Tryd.underlying30 infosz gb n d1 (a / 8) ((hin 3 50 rfl).trans (hS 3 _ rfl (hW.of 3 (by decide)))) .i64 ((hin 5 52 rfl).trans (hS 5 _ rfl (hW.of 5 (by decide)))) ha8 ⟨_, rfl, hS.step 6 _ (.inr rfl), hH⟩
          · refine RegStep3.plain rfl ?_; rintro L u w1 bA hL hW hD hU ⟨hS, hH⟩ hin hout; exact opw_load1 _ _ rfl _ Tryd.underlying5 rfl _ _ ((hin 6 53 rfl).trans (hS 6 _ rfl (hW.of 6 (by decide)))) (row_cell ((hH.stg_no (hD.nots 14 13 7 hL (by decide +kernel)))) HOLD.out) ⟨_, rfl, hS.step 7 _ (.inr rfl), hH⟩
          · refine RegStep3.plain rfl ?_; rintro L u w1 bA hL hW hD hU ⟨hS, hH⟩ hin hout; exact opw_move _ _ (.inl rfl) ((hout 10 (by kernel_rfl)).trans (by kernel_rfl)) ⟨_, rfl, hS.step 8 _ (.inr rfl), hH⟩
          · refine RegStep3.plain rfl ?_; rintro L u w1 bA hL hW hD hU ⟨hS, hH⟩ hin hout; exact opw_bin .rem _ _ _ _ .i64 _ _ _ rfl ((hin 8 55 rfl).trans (hS 8 _ rfl (hW.of 8 (by decide)))) rfl (bin_rem (a) (8) (by decide)) ⟨_, rfl, hS.step 9 _ (.inr rfl), hH⟩
          · refine RegStep3.plain rfl ?_; rintro L u w1 bA hL hW hD hU ⟨hS, hH⟩ hin hout; exact opw_shift .shl _ _ _ _ .u8 .i64 _ _ _ rfl rfl ((hin 9 56 rfl).trans (hS 9 _ rfl (hW.of 9 (by decide)))) HSH.out ⟨_, rfl, hS.step 10 _ (.inr rfl), hH⟩
          · refine RegStep3.plain rfl ?_; rintro L u w1 bA hL hW hD hU ⟨hS, hH⟩ hin hout; exact opw_bits .xor _ _ _ _ .u8 _ _ _ (.inr (.inr rfl)) rfl ((hin 7 54 rfl).trans (hS 7 _ rfl (hW.of 7 (by decide)))) ((hin 10 57 rfl).trans (hS 10 _ rfl (hW.of 10 (by decide)))) HXO.out ⟨_, rfl, hS.step 11 _ (.inr rfl), hH⟩
          · refine RegStep3.plain rfl ?_; rintro L u w1 bA hL hW hD hU ⟨hS, hH⟩ hin hout; exact opw_index0 _ _ _ _ rfl Tryd.underlying30 infosz gb n d1 (a / 8) ((hin 0 47 rfl).trans (hS 0 _ rfl (hW.of 0 (by decide)))) .i64 ((hin 2 49 rfl).trans (hS 2 _ rfl (hW.of 2 (by decide)))) ha8 ⟨_, rfl, hS.step 12 _ (.inr rfl), hH⟩
          · refine RegStep3.plain rfl ?_; rintro L u w1 bA hL hW hD hU ⟨hS, hH⟩ hin hout; exact opw_storeSl _ _ _ rfl infosz gb (a / 8) (.int .u8 (NEW.toNat : Int)) ((hin 12 59 rfl).trans (hS 12 _ rfl (hW.of 12 (by decide)))) ((hin 11 58 rfl).trans (hS 11 _ rfl (hW.of 11 (by decide)))) rfl (hH.stg_no hL) ha8 (fun w4 h4 => ⟨_, rfl, hS.step 13 _ (.inl rfl), (show Has st (sep (stg true (row 5 1 (.slice (some ⟨gb, 0, none⟩) n d1) n (bcells (Sl.flip b a))) (row 5 1 (.slice (some ⟨gb, 0, none⟩) n d1) n (bcells b))) (sep (blk rc (.cells zrc 29 (0, 0))) (sep (blk r (.cells (bcells id).toArray 34 (0, 0))) (sep (blk q (.cells CC 29 (0, 0))) F)))) w4 from (((h4.cast (by rw [HFL.out])).stg_mk (Q := (row 5 1 (.slice (some ⟨gb, 0, none⟩) n d1) n (bcells b))))).cast (by ac_rfl))⟩)
        intro L u w5 hL ⟨hS, hH⟩
        have E0 := hS 0 _ rfl (hL 0 (by decide))
        have E1 := hS 1 _ rfl (hL 1 (by decide))
        have E2 := hS 2 _ rfl (hL 2 (by decide))
        have E3 := hS 3 _ rfl (hL 3 (by decide))
        have E4 := hS 4 _ rfl (hL 4 (by decide))
        have E5 := hS 5 _ rfl (hL 5 (by decide))
        have E6 := hS 6 _ rfl (hL 6 (by decide))
        have E7 := hS 7 _ rfl (hL 7 (by decide))
        have E8 := hS 8 _ rfl (hL 8 (by decide))
        have E9 := hS 9 _ rfl (hL 9 (by decide))
        have E10 := hS 10 _ rfl (hL 10 (by decide))
        have E11 := hS 11 _ rfl (hL 11 (by decide))
        have E12 := hS 12 _ rfl (hL 12 (by decide))
        simp only [hL 13 (by decide), stg_true, emp_sep] at hH
        simp only [frame_cons, frame_nil, E0, E1, E2, E3, E4, E5, E6, E7, E8, E9, E10, E11, E12, Act.put, List.setIfInBounds_toArray, List.set_cons_zero, List.set_cons_succ]
        clear hL hS E0 E1 E2 E3 E4 E5 E6 E7 E8 E9 E10 E11 E12
        have H5 := Lib.hid hH
        clear hH U1 U0
        have W0 : Hid (Has st (sep (blk q (.cells CC 29 (0, 0))) (sep (row 5 1 (.slice (some ⟨gb, 0, none⟩) n d1) n (bcells (Sl.flip b a))) (sep (blk rc (.cells zrc 29 (0, 0))) (sep (blk r (.cells (bcells id).toArray 34 (0, 0))) F)))) w5) := Lib.hid (H5.out.cast (by ac_rfl))
        clear H5 H3 H2 H1 H0 HH
        go_wp2_with (first
          | (fail)
          | ((first | (with_reducible refine wpList_plain rfl ?_) | ((with_reducible refine wpList_yes _ _ rfl ?_ ?_); (focus rfl))); intro _ hk; (first
            | (have _k := V3; refine opw_storeRow 29 _ _ rfl rc (rcells (.slice (some ⟨g7, 0, none⟩) N d7) lim) rfl rfl 29 zrc infoRC rfl (rc_one _ _ _ _) V3.out.fourth (fun w9 h9 => hk _ _ ?_); have V4 := Lib.hid h9; clear h9)
            | (have _k := V3; refine opw_loadMid 29 _ rfl q 0 rfl (rcells (.slice (some ⟨g7, 0, none⟩) N d7) lim).toList _ Tryd.underlying29 rfl infoRC V3.out.second rfl (hk _ _ ?_))
            | (have _k := V2; refine opw_storeRowN 30 _ _ rfl infoSlB g7 (0 + i * 33 + 32) (.slice (some ⟨gb, 0, none⟩) n d1) rfl rfl rfl V2.out.second (by omega) (fun w9 h9 => hk _ _ ?_); have V3 := Lib.hid h9; clear h9)
            | (have _k := V2; refine opw_field 48 _ 1 32 rfl (by kernel_rfl) g7 (0 + i * 33) rfl (hk _ _ ?_))
            | (have _k := V2; refine opw_indexN 27 48 33 _ _ rfl Tryd.underlying27 infoR g7 0 N d7 i rfl .i64 rfl hi (hk _ _ ?_))
            | (have _k := V2; refine opw_load1 27 _ rfl _ Tryd.underlying27 rfl ⟨q, 0, none⟩ (.slice (some ⟨g7, 0, none⟩) N d7) rfl (V2.out.cell 0) (hk _ _ ?_))
            | (have _k := V1; refine opw_store1 27 _ _ rfl infoSlR q 0 (.slice (some ⟨g7, 0, none⟩) N d7) rfl rfl rfl V1.out.second (by rw [HCC.out]; simp [rcells]) (fun w9 h9 => hk _ _ ?_); have V2 : Hid (Has st (sep (blk q (.cells (rcells (.slice (some ⟨g7, 0, none⟩) N d7) lim) 29 (0, 0))) (sep (row 48 33 (.slice (some ⟨g7, 0, none⟩) N d7) N XK) (sep (row 5 1 (.slice (some ⟨gb, 0, none⟩) n d1) n (bcells (Sl.flip b a))) (sep (blk rc (.cells zrc 29 (0, 0))) (sep (blk r (.cells (bcells id).toArray 34 (0, 0))) F))))) w9) := Lib.hid (by rw [HCC.out] at h9; exact h9); clear h9)
            | (have _k := V0; refine op_append _ _ 27 48 33 56 (.agg zeroKc.toArray) rfl Tryd.underlying27 infoR3 rfl (by decide) rfl rfl V0.out (HRW.out _ (hF1 _ V0.out.right.right.right.right.right)) HX1.out (by unfold maxLen; omega) (by omega) (fun B7 d7 w9 h9 => hk _ _ ?_); rw [List.nil_append] at h9; rw [Nat.zero_add] at h9 ⊢; obtain ⟨g7, rfl⟩ := h9.row_at33 hi; have V1 := Lib.hid h9; clear h9)
            | (have _k := V0; refine opw_load1 27 _ rfl _ Tryd.underlying27 rfl ⟨q, 0, none⟩ (.slice (some ⟨g, off, none⟩) N c) rfl ((V0.out.second.cell 0).trans (by rw [HCC.out]; rfl)) (hk _ _ ?_))
            | (have _k := W0; refine opw_row0 27 48 33 rfl Tryd.underlying27 infoR W0.out (fun v6 w9 h9 => hk _ _ ?_); have V0 := Lib.hid h9; clear h9)); simp only [Act.put, List.setIfInBounds_toArray, List.set_cons_zero, List.set_cons_succ]))
        refine bodyPost_ret (results_cell_tmp1 Tryd.results17 _ _ _ 29 (rcells (.slice (some ⟨g7, 0, none⟩) N d7) lim) _ _ rfl V4.out.blk Tryd.underlying29 rfl infoRC _ rfl) rfl ?_
        rw [HG2.out]
        have hl : N = (K.set i (Kp.mk kid (.slice (some ⟨gb, 0, none⟩) n d1) (Sl.flip b a))).length := by rw [List.length_set]; exact HNK.out
        have hx : (XK.set (0 + i * 33 + 32) (.slice (some ⟨gb, 0, none⟩) n d1)) = kcs (K.set i (Kp.mk kid (.slice (some ⟨gb, 0, none⟩) n d1) (Sl.flip b a))) := by rw [HKS.out, Nat.zero_add]
        refine ⟨(sep (row 48 33 (.slice (some ⟨g7, 0, none⟩) N d7) N (XK.set (0 + i * 33 + 32) (.slice (some ⟨gb, 0, none⟩) n d1))) (row 5 1 (.slice (some ⟨gb, 0, none⟩) n d1) n (bcells (Sl.flip b a)))), (.slice (some ⟨g7, 0, none⟩) N d7), (K.set i (Kp.mk kid (.slice (some ⟨gb, 0, none⟩) n d1) (Sl.flip b a))), rfl, by simp [absK, List.map_set], ?_, ?_⟩
        · exact (V4.out.cast (show _ = sep (blk rc (.cells (rcells (.slice (some ⟨g7, 0, none⟩) N d7) lim) 29 (0, 0))) (sep (blk q (.cells (rcells (.slice (some ⟨g7, 0, none⟩) N d7) lim) 29 (0, 0))) (sep (blk r (.cells (bcells id).toArray 34 (0, 0))) (sep (sep (row 48 33 (.slice (some ⟨g7, 0, none⟩) N d7) N (XK.set (0 + i * 33 + 32) (.slice (some ⟨gb, 0, none⟩) n d1))) (row 5 1 (.slice (some ⟨gb, 0, none⟩) n d1) n (bcells (Sl.flip b a)))) F))) by ac_rfl)).right.right.right
        · rw [hx, hl]
          refine ⟨fun w h => sees_row st _ 33 _ _ _ _ w h.assoc, fun x hx => ?_, fun x hx => ?_⟩
          · rcases List.mem_or_eq_of_mem_set hx with hx | rfl
            · exact HRS0.out.ok x hx
            · exact ⟨HKI.out, some ⟨gb, 0, none⟩, d1, by show (Value.slice _ n d1) = _; rw [flip_length, ← HNB.out]⟩
          · rcases List.mem_or_eq_of_mem_set hx with hx | rfl
            · exact (HRS0.out.blob x hx).right
            · show Sees st _ 1 (.slice (some ⟨gb, 0, none⟩) n d1) (Sl.flip b a).length _
              rw [flip_length, ← HNB.out]
              exact fun w h => sees_row st _ 1 _ _ _ _ w h.assoc.second
      · have HLT : Hid (cmpZ .lss r1 0 = some true) := Lib.hid (by show some (decide (r1 < 0)) = some true; rw [decide_eq_true hr0])
        have H3e : Hid (binZ .add .i64 r1 (N8 : Int) = some (a : Int)) := Lib.hid (by show some (IntKind.i64.wrap _) = _; rw [hr1, IntWalk.i64_in _ ⟨by omega, by omega⟩])
        clear hr0 hr1
        go_enter Tryd.func17, Tryd.ntmps17
        go_wp2_with (first
          | (go_at_call 28; refine (HFI.out _ _ (fun w h => h.right.right.right) H2.out).mono ?_; rintro e w9 ⟨rfl, h9⟩; have H3 := Lib.hid h9; clear h9)
          | ((first | (with_reducible refine wpList_plain rfl ?_) | ((with_reducible refine wpList_yes _ _ rfl ?_ ?_); (focus rfl))); intro _ hk; (first
            | (have _k := U1; refine opw_cmp .lss _ _ _ _ .i64 r1 0 true rfl rfl rfl HLT.out (hk _ _ ?_))
            | (refine opw_bin .add _ _ _ _ .i64 r1 (N8 : Int) (a : Int) rfl rfl rfl H3e.out (hk _ _ ?_))
            | (refine opw_bin .rem _ _ _ _ .i64 bit (N8 : Int) r1 rfl rfl rfl H2e.out (hk _ _ ?_))
            | (refine opw_bin .mul _ _ _ _ .i64 8 (n : Int) (N8 : Int) rfl rfl rfl H1e.out (hk _ _ ?_))
            | (have _k := U0; refine op_append _ _ 30 5 1 1 (.int .u8 0) rfl Tryd.underlying30 infoB rfl (by decide) rfl rfl U0.out (HBL.out _ (hF1 _ U0.out.right.right.right.right)) (bcells_one b) (by unfold maxLen; omega) (by omega) (fun B1 d1 w9 h9 => hk _ _ ?_); rw [List.nil_append] at h9; rw [Nat.zero_add] at h9 ⊢; obtain ⟨gb, rfl⟩ := h9.row_at33 ha8; have U1 := Lib.hid h9; clear h9)
            | (have _k := H3; refine opw_row0 30 5 1 rfl Tryd.underlying30 infosz H3.out (fun v0 w9 h9 => hk _ _ ?_); have U0 := Lib.hid h9; clear h9)
            | (have _k := U0; refine opw_load1 30 _ rfl _ Tryd.underlying30 rfl ⟨g, off + i * 33 + 32, none⟩ (.slice B n d) rfl (HCE.out _ U0.out.right.right.right.right) (hk _ _ ?_))
            | (have _k := U0; refine opw_load1 27 _ rfl _ Tryd.underlying27 rfl ⟨q, 0, none⟩ (.slice (some ⟨g, off, none⟩) N c) rfl ((U0.out.fourth.cell 0).trans (by rw [HCC.out]; rfl)) (hk _ _ ?_))
            | (have _k := H3; refine opw_cmp .eql _ _ _ _ .i64 (n : Int) 0 false rfl rfl rfl HZ.out (hk _ _ ?_))
            | (have _k := H3; refine opw_load1 27 _ rfl _ Tryd.underlying27 rfl ⟨q, 0, none⟩ (.slice (some ⟨g, off, none⟩) N c) rfl ((H3.out.third.cell 0).trans (by rw [HCC.out]; rfl)) (hk _ _ ?_))
            | (have _k := H3; refine opw_indexN 27 48 33 _ _ rfl Tryd.underlying27 infoR g off N c i rfl .i64 rfl hi (hk _ _ ?_))
            | (have _k := H3; refine opw_field 48 _ 1 32 rfl (by kernel_rfl) g (off + i * 33) rfl (hk _ _ ?_))
            | (have _k := H3; refine opw_load1 30 _ rfl _ Tryd.underlying30 rfl ⟨g, off + i * 33 + 32, none⟩ (.slice B n d) rfl (HCE.out _ H3.out.right.right.right) (hk _ _ ?_))
            | (have _k := H3; refine opw_cmp .lss _ _ _ _ .i64 (i : Int) 0 false rfl rfl rfl HLI0.out (hk _ _ ?_))
            | (have _k := H2; refine opw_loadMid 34 _ rfl r 0 rfl (bcells id) _ Tryd.underlying34 rfl HJS.out H2.out.second HTS.out (hk _ _ ?_))
            | (have _k := H2; refine opw_loadMid 29 _ rfl q 0 rfl CC.toList _ Tryd.underlying29 rfl HCL.out H2.out.third HCT.out (hk _ _ ?_))
            | (have _k := H1; refine opw_alloc 29 (.agg zrc) zrc rfl HZC.out rfl H1.out (fun rc w1 hp h1 => hk _ _ ?_); clear hp; have H2 := Lib.hid h1; clear h1)
            | (have _k := H0; refine opw_box 34 (.agg (bcells id).toArray) (bcells id).toArray rfl rfl rfl H0.out (fun r w1 hp h1 => hk _ _ ?_); clear hp; have H1 := Lib.hid h1; clear h1)
            | (refine opw_box 29 (.agg CC) CC rfl rfl rfl HH.out (fun q w1 hp h1 => hk _ _ ?_); clear hp; have H0 := Lib.hid h1; clear h1)); simp only [Act.put, List.setIfInBounds_toArray, List.set_cons_zero, List.set_cons_succ]))
        refine wp_region_inv3 (fun L u w' => Slots (fun kk => ([some (.slice (some ⟨gb, 0, none⟩) n d1), some (.int .i64 ((a : Nat) : Int)), some (.int .i64 (((a / 8) : Nat) : Int)), some (.slice (some ⟨gb, 0, none⟩) n d1), some (.int .i64 ((a : Nat) : Int)), some (.int .i64 (((a / 8) : Nat) : Int)), some (.pointer (some ⟨gb, a / 8, none⟩)), some (.int .u8 ((OLD).toNat : Int)), some (.int .i64 ((a : Nat) : Int)), some (.int .i64 (((a % 8) : Nat) : Int)), some (.int .u8 ((SH).toNat : Int)), some (.int .u8 ((NEW).toNat : Int)), some (.pointer (some ⟨gb, a / 8, none⟩)), none] : List (Option Value)).getD kk none) L u ∧ Has st (sep (stg (L 13) (row 5 1 (.slice (some ⟨gb, 0, none⟩) n d1) n (bcells (Sl.flip b a))) (row 5 1 (.slice (some ⟨gb, 0, none⟩) n d1) n (bcells b))) (sep (blk rc (.cells zrc 29 (0, 0))) (sep (blk r (.cells (bcells id).toArray 34 (0, 0))) (sep (blk q (.cells CC 29 (0, 0))) F)))) w') (by kernel_rfl) (by decide +kernel) (by decide +kernel) (by kernel_rfl) (by kernel_rfl) (fun u => ⟨Slots.start _ u, (show Has st (sep (stg false (row 5 1 (.slice (some ⟨gb, 0, none⟩) n d1) n (bcells (Sl.flip b a))) (row 5 1 (.slice (some ⟨gb, 0, none⟩) n d1) n (bcells b))) (sep (blk rc (.cells zrc 29 (0, 0))) (sep (blk r (.cells (bcells id).toArray 34 (0, 0))) (sep (blk q (.cells CC 29 (0, 0))) F)))) _ from U1.out.drew.cast (by first | (simp only [stg_no, emp_sep]; done) | (simp only [stg_no, emp_sep]; ac_rfl)))⟩) ?_ ?_
        · refine ⟨?_, ?_, ?_, ?_, ?_, ?_, ?_, ?_, ?_, ?_, ?_, ?_, ?_, ?_, trivial⟩
          · refine RegStep3.plain rfl ?_; rintro L u w1 bA hL hW hD hU ⟨hS, hH⟩ hin hout; exact opw_move _ _ (.inl rfl) ((hout 9 (by kernel_rfl)).trans (by kernel_rfl)) ⟨_, rfl, hS.step 0 _ (.inr rfl), hH⟩
          · refine RegStep3.plain rfl ?_; rintro L u w1 bA hL hW hD hU ⟨hS, hH⟩ hin hout; exact opw_move _ _ (.inl rfl) ((hout 10 (by kernel_rfl)).trans (by kernel_rfl)) ⟨_, rfl, hS.step 1 _ (.inr rfl), hH⟩
          · refine RegStep3.plain rfl ?_; rintro L u w1 bA hL hW hD hU ⟨hS, hH⟩ hin hout; exact opw_bin .quo _ _ _ _ .i64 _ _ _ rfl ((hin 1 48 rfl).trans (hS 1 _ rfl (hW.of 1 (by decide)))) rfl (bin_quo (a) (8) (by decide) (by omega)) ⟨_, rfl, hS.step 2 _ (.inr rfl), hH⟩
          · refine RegStep3.plain rfl ?_; rintro L u w1 bA hL hW hD hU ⟨hS, hH⟩ hin hout; exact opw_move _ _ (.inl rfl) ((hout 9 (by kernel_rfl)).trans (by kernel_rfl)) ⟨_, rfl, hS.step 3 _ (.inr rfl), hH⟩
          · refine RegStep3.plain rfl ?_; rintro L u w1 bA hL hW hD hU ⟨hS, hH⟩ hin hout; exact opw_move _ _ (.inl rfl) ((hout 10 (by kernel_rfl)).trans (by kernel_rfl)) ⟨_, rfl, hS.step 4 _ (.inr rfl), hH⟩
          · refine RegStep3.plain rfl ?_; rintro L u w1 bA hL hW hD hU ⟨hS, hH⟩ hin hout; exact opw_bin .quo _ _ _ _ .i64 _ _ _ rfl ((hin 4 51 rfl).trans (hS 4 _ rfl (hW.of 4 (by decide)))) rfl (bin_quo (a) (8) (by decide) (by omega)) ⟨_, rfl, hS.step 5 _ (.inr rfl), hH⟩
          · refine RegStep3.plain rfl ?_; rintro L u w1 bA hL hW hD hU ⟨hS, hH⟩ hin hout; exact opw_index0 _ _ _ _ rfl Tryd.underlying30 infosz gb n d1 (a / 8) ((hin 3 50 rfl).trans (hS 3 _ rfl (hW.of 3 (by decide)))) .i64 ((hin 5 52 rfl).trans (hS 5 _ rfl (hW.of 5 (by decide)))) ha8 ⟨_, rfl, hS.step 6 _ (.inr rfl), hH⟩
          · refine RegStep3.plain rfl ?_; rintro L u w1 bA hL hW hD hU ⟨hS, hH⟩ hin hout; exact opw_load1 _ _ rfl _ Tryd.underlying5 rfl _ _ ((hin 6 53 rfl).trans (hS 6 _ rfl (hW.of 6 (by decide)))) (row_cell ((hH.stg_no (hD.nots 14 13 7 hL (by decide +kernel)))) HOLD.out) ⟨_, rfl, hS.step 7 _ (.inr rfl), hH⟩
          · refine RegStep3.plain rfl ?_; rintro L u w1 bA hL hW hD hU ⟨hS, hH⟩ hin hout; exact opw_move _ _ (.inl rfl) ((hout 10 (by kernel_rfl)).trans (by kernel_rfl)) ⟨_, rfl, hS.step 8 _ (.inr rfl), hH⟩
          · refine RegStep3.plain rfl ?_; rintro L u w1 bA hL hW hD hU ⟨hS, hH⟩ hin hout; exact opw_bin .rem _ _ _ _ .i64 _ _ _ rfl ((hin 8 55 rfl).trans (hS 8 _ rfl (hW.of 8 (by decide)))) rfl (bin_rem (a) (8) (by decide)) ⟨_, rfl, hS.step 9 _ (.inr rfl), hH⟩
          · refine RegStep3.plain rfl ?_; rintro L u w1 bA hL hW hD hU ⟨hS, hH⟩ hin hout; exact opw_shift .shl _ _ _ _ .u8 .i64 _ _ _ rfl rfl ((hin 9 56 rfl).trans (hS 9 _ rfl (hW.of 9 (by decide)))) HSH.out ⟨_, rfl, hS.step 10 _ (.inr rfl), hH⟩
          · refine RegStep3.plain rfl ?_; rintro L u w1 bA hL hW hD hU ⟨hS, hH⟩ hin hout; exact opw_bits .xor _ _ _ _ .u8 _ _ _ (.inr (.inr rfl)) rfl ((hin 7 54 rfl).trans (hS 7 _ rfl (hW.of 7 (by decide)))) ((hin 10 57 rfl).trans (hS 10 _ rfl (hW.of 10 (by decide)))) HXO.out ⟨_, rfl, hS.step 11 _ (.inr rfl), hH⟩
          · refine RegStep3.plain rfl ?_; rintro L u w1 bA hL hW hD hU ⟨hS, hH⟩ hin hout; exact opw_index0 _ _ _ _ rfl Tryd.underlying30 infosz gb n d1 (a / 8) ((hin 0 47 rfl).trans (hS 0 _ rfl (hW.of 0 (by decide)))) .i64 ((hin 2 49 rfl).trans (hS 2 _ rfl (hW.of 2 (by decide)))) ha8 ⟨_, rfl, hS.step 12 _ (.inr rfl), hH⟩
          · refine RegStep3.plain rfl ?_; rintro L u w1 bA hL hW hD hU ⟨hS, hH⟩ hin hout; exact opw_storeSl _ _ _ rfl infosz gb (a / 8) (.int .u8 (NEW.toNat : Int)) ((hin 12 59 rfl).trans (hS 12 _ rfl (hW.of 12 (by decide)))) ((hin 11 58 rfl).trans (hS 11 _ rfl (hW.of 11 (by decide)))) rfl (hH.stg_no hL) ha8 (fun w4 h4 => ⟨_, rfl, hS.step 13 _ (.inl rfl), (show Has st (sep (stg true (row 5 1 (.slice (some ⟨gb, 0, none⟩) n d1) n (bcells (Sl.flip b a))) (row 5 1 (.slice (some ⟨gb, 0, none⟩) n d1) n (bcells b))) (sep (blk rc (.cells zrc 29 (0, 0))) (sep (blk r (.cells (bcells id).toArray 34 (0, 0))) (sep (blk q (.cells CC 29 (0, 0))) F)))) w4 from (((h4.cast (by rw [HFL.out])).stg_mk (Q := (row 5 1 (.slice (some ⟨gb, 0, none⟩) n d1) n (bcells b))))).cast (by ac_rfl))⟩)
        intro L u w5 hL ⟨hS, hH⟩
        have E0 := hS 0 _ rfl (hL 0 (by decide))
        have E1 := hS 1 _ rfl (hL 1 (by decide))
        have E2 := hS 2 _ rfl (hL 2 (by decide))
        have E3 := hS 3 _ rfl (hL 3 (by decide))
        have E4 := hS 4 _ rfl (hL 4 (by decide))
        have E5 := hS 5 _ rfl (hL 5 (by decide))
        have E6 := hS 6 _ rfl (hL 6 (by decide))
        have E7 := hS 7 _ rfl (hL 7 (by decide))
        have E8 := hS 8 _ rfl (hL 8 (by decide))
        have E9 := hS 9 _ rfl (hL 9 (by decide))
        have E10 := hS 10 _ rfl (hL 10 (by decide))
        have E11 := hS 11 _ rfl (hL 11 (by decide))
        have E12 := hS 12 _ rfl (hL 12 (by decide))
        simp only [hL 13 (by decide), stg_true, emp_sep] at hH
        simp only [frame_cons, frame_nil, E0, E1, E2, E3, E4, E5, E6, E7, E8, E9, E10, E11, E12, Act.put, List.setIfInBounds_toArray, List.set_cons_zero, List.set_cons_succ]
        clear hL hS E0 E1 E2 E3 E4 E5 E6 E7 E8 E9 E10 E11 E12
        have H5 := Lib.hid hH
        clear hH U1 U0
        have W0 : Hid (Has st (sep (blk q (.cells CC 29 (0, 0))) (sep (row 5 1 (.slice (some ⟨gb, 0, none⟩) n d1) n (bcells (Sl.flip b a))) (sep (blk rc (.cells zrc 29 (0, 0))) (sep (blk r (.cells (bcells id).toArray 34 (0, 0))) F)))) w5) := Lib.hid (H5.out.cast (by ac_rfl))
        clear H5 H3 H2 H1 H0 HH
        go_wp2_with (first
          | (fail)
          | ((first | (with_reducible refine wpList_plain rfl ?_) | ((with_reducible refine wpList_yes _ _ rfl ?_ ?_); (focus rfl))); intro _ hk; (first
            | (have _k := V3; refine opw_storeRow 29 _ _ rfl rc (rcells (.slice (some ⟨g7, 0, none⟩) N d7) lim) rfl rfl 29 zrc infoRC rfl (rc_one _ _ _ _) V3.out.fourth (fun w9 h9 => hk _ _ ?_); have V4 := Lib.hid h9; clear h9)
            | (have _k := V3; refine opw_loadMid 29 _ rfl q 0 rfl (rcells (.slice (some ⟨g7, 0, none⟩) N d7) lim).toList _ Tryd.underlying29 rfl infoRC V3.out.second rfl (hk _ _ ?_))
            | (have _k := V2; refine opw_storeRowN 30 _ _ rfl infoSlB g7 (0 + i * 33 + 32) (.slice (some ⟨gb, 0, none⟩) n d1) rfl rfl rfl V2.out.second (by omega) (fun w9 h9 => hk _ _ ?_); have V3 := Lib.hid h9; clear h9)
            | (have _k := V2; refine opw_field 48 _ 1 32 rfl (by kernel_rfl) g7 (0 + i * 33) rfl (hk _ _ ?_))
            | (have _k := V2; refine opw_indexN 27 48 33 _ _ rfl Tryd.underlying27 infoR g7 0 N d7 i rfl .i64 rfl hi (hk _ _ ?_))
            | (have _k := V2; refine opw_load1 27 _ rfl _ Tryd.underlying27 rfl ⟨q, 0, none⟩ (.slice (some ⟨g7, 0, none⟩) N d7) rfl (V2.out.cell 0) (hk _ _ ?_))
            | (have _k := V1; refine opw_store1 27 _ _ rfl infoSlR q 0 (.slice (some ⟨g7, 0, none⟩) N d7) rfl rfl rfl V1.out.second (by rw [HCC.out]; simp [rcells]) (fun w9 h9 => hk _ _ ?_); have V2 : Hid (Has st (sep (blk q (.cells (rcells (.slice (some ⟨g7, 0, none⟩) N d7) lim) 29 (0, 0))) (sep (row 48 33 (.slice (some ⟨g7, 0, none⟩) N d7) N XK) (sep (row 5 1 (.slice (some ⟨gb, 0, none⟩) n d1) n (bcells (Sl.flip b a))) (sep (blk rc (.cells zrc 29 (0, 0))) (sep (blk r (.cells (bcells id).toArray 34 (0, 0))) F))))) w9) := Lib.hid (by rw [HCC.out] at h9; exact h9); clear h9)
            | (have _k := V0; refine op_append _ _ 27 48 33 56 (.agg zeroKc.toArray) rfl Tryd.underlying27 infoR3 rfl (by decide) rfl rfl V0.out (HRW.out _ (hF1 _ V0.out.right.right.right.right.right)) HX1.out (by unfold maxLen; omega) (by omega) (fun B7 d7 w9 h9 => hk _ _ ?_); rw [List.nil_append] at h9; rw [Nat.zero_add] at h9 ⊢; obtain ⟨g7, rfl⟩ := h9.row_at33 hi; have V1 := Lib.hid h9; clear h9)
            | (have _k := V0; refine opw_load1 27 _ rfl _ Tryd.underlying27 rfl ⟨q, 0, none⟩ (.slice (some ⟨g, off, none⟩) N c) rfl ((V0.out.second.cell 0).trans (by rw [HCC.out]; rfl)) (hk _ _ ?_))
            | (have _k := W0; refine opw_row0 27 48 33 rfl Tryd.underlying27 infoR W0.out (fun v6 w9 h9 => hk _ _ ?_); have V0 := Lib.hid h9; clear h9)); simp only [Act.put, List.setIfInBounds_toArray, List.set_cons_zero, List.set_cons_succ]))
        refine bodyPost_ret (results_cell_tmp1 Tryd.results17 _ _ _ 29 (rcells (.slice (some ⟨g7, 0, none⟩) N d7) lim) _ _ rfl V4.out.blk Tryd.underlying29 rfl infoRC _ rfl) rfl ?_
        rw [HG2.out]
        have hl : N = (K.set i (Kp.mk kid (.slice (some ⟨gb, 0, none⟩) n d1) (Sl.flip b a))).length := by rw [List.length_set]; exact HNK.out
        have hx : (XK.set (0 + i * 33 + 32) (.slice (some ⟨gb, 0, none⟩) n d1)) = kcs (K.set i (Kp.mk kid (.slice (some ⟨gb, 0, none⟩) n d1) (Sl.flip b a))) := by rw [HKS.out, Nat.zero_add]
        refine ⟨(sep (row 48 33 (.slice (some ⟨g7, 0, none⟩) N d7) N (XK.set (0 + i * 33 + 32) (.slice (some ⟨gb, 0, none⟩) n d1))) (row 5 1 (.slice (some ⟨gb, 0, none⟩) n d1) n (bcells (Sl.flip b a)))), (.slice (some ⟨g7, 0, none⟩) N d7), (K.set i (Kp.mk kid (.slice (some ⟨gb, 0, none⟩) n d1) (Sl.flip b a))), rfl, by simp [absK, List.map_set], ?_, ?_⟩
        · exact (V4.out.cast (show _ = sep (blk rc (.cells (rcells (.slice (some ⟨g7, 0, none⟩) N d7) lim) 29 (0, 0))) (sep (blk q (.cells (rcells (.slice (some ⟨g7, 0, none⟩) N d7) lim) 29 (0, 0))) (sep (blk r (.cells (bcells id).toArray 34 (0, 0))) (sep (sep (row 48 33 (.slice (some ⟨g7, 0, none⟩) N d7) N (XK.set (0 + i * 33 + 32) (.slice (some ⟨gb, 0, none⟩) n d1))) (row 5 1 (.slice (some ⟨gb, 0, none⟩) n d1) n (bcells (Sl.flip b a)))) F))) by ac_rfl)).right.right.right
        · rw [hx, hl]
          refine ⟨fun w h => sees_row st _ 33 _ _ _ _ w h.assoc, fun x hx => ?_, fun x hx => ?_⟩
          · rcases List.mem_or_eq_of_mem_set hx with hx | rfl
            · exact HRS0.out.ok x hx
            · exact ⟨HKI.out, some ⟨gb, 0, none⟩, d1, by show (Value.slice _ n d1) = _; rw [flip_length, ← HNB.out]⟩
          · rcases List.mem_or_eq_of_mem_set hx with hx | rfl
            · exact (HRS0.out.blob x hx).right
            · show Sees st _ 1 (.slice (some ⟨gb, 0, none⟩) n d1) (Sl.flip b a).length _
              rw [flip_length, ← HNB.out]
              exact fun w h => sees_row st _ 1 _ _ _ _ w h.assoc.second
end Go.Proofs.YtblknhpafifebaaDoor
