/-
  coldstorelaw03.ShaTexts.
-/
import Derived.Test.YtijcjjinafpomaaDoorVrow
namespace Go.Proofs.YtijcjjinafpomaaDoor
open Go.RowKit Go.Sl Go.Sha
set_option linter.unusedVariables false
set_option linter.unusedSimpArgs false
set_option maxRecDepth 100000 in
set_option maxHeartbeats 16000000 in
theorem texts_any (st : World) (R : HProp) (hk : Keys st R) (hst : Start st R) (a b : List UInt8) (ha : a.length = 32) (hb : b.length = 32) (z : Int) (c : UInt8) (w : World) (h : Has st R w) :
    Calls Tryd.prog 5 #[.agg (bcells a).toArray, .agg (bcells b).toArray, .int .i64 z, .int .u8 (c.toNat : Int)] w fun e w' => e = .returned (.bool true) ∧ Has st R w' := by
  obtain ⟨k, hk0⟩ : ∃ k : Nat, (k : Int) = z % 64 := ⟨(z % 64).toNat, by omega⟩
  have hk64 : k < 64 := by omega
  have b1 : bits .and .i64 z 63 = (k : Int) := by rw [hk0]; exact i64_and63 z
  obtain ⟨S, hS⟩ : ∃ S, S = hex a := ⟨_, rfl⟩
  obtain ⟨T, hT⟩ : ∃ T, T = hex b := ⟨_, rfl⟩
  have hSl : S.length = 64 := by rw [hS, hex_length, ha]
  have hTl : T.length = 64 := by rw [hT, hex_length, hb]
  obtain ⟨LB, hLB⟩ : ∃ LB, LB = lessB a b := ⟨_, rfl⟩
  obtain ⟨EB, hEB⟩ : ∃ EB, EB = (a == b) := ⟨_, rfl⟩
  have HLT : Hid (cmpS .lss S T = some LB) := Lib.hid (by rw [hLB, hS, hT]; simp only [cmpS]; rw [less_text])
  have HEQ : Hid (cmpS .eql S T = some EB) := Lib.hid (by rw [hEB, hS, hT]; simp only [cmpS]; rw [hex_eq])
  have HEB : Hid ((a == b) = EB) := Lib.hid hEB.symm
  have HTA : Hid (∀ RR w, Has st RR w → Calls Tryd.prog 14 #[.agg (bcells a).toArray] w fun e w' => e = .returned (.string (str S)) ∧ Has st RR w') := Lib.hid fun RR w h => by rw [hS]; exact text_any st RR a ha w h
  have HTB : Hid (∀ RR w, Has st RR w → Calls Tryd.prog 14 #[.agg (bcells b).toArray] w fun e w' => e = .returned (.string (str T)) ∧ Has st RR w') := Lib.hid fun RR w h => by rw [hT]; exact text_any st RR b hb w h
  have HLS : Hid (∀ RR w, Has st RR w → Calls Tryd.prog 12 #[.agg (bcells a).toArray, .agg (bcells b).toArray] w fun e w' => e = .returned (.bool LB) ∧ Has st RR w') := Lib.hid fun RR w h => by rw [hLB]; exact less_any st RR a b ha hb w h
  have HPA : Hid (∀ RR w, Has st RR w → Calls Tryd.prog 8 #[.string (str (S.take k ++ [c] ++ S.drop (k + 1)))] w fun e w' => e = .returned (parseV (turned S k c)) ∧ Has st RR w') := Lib.hid fun RR w h => by
    have := parse_any st RR (str (S.take k ++ [c] ++ S.drop (k + 1))) w h (by rw [str_size]; simp [hSl]; omega)
    rw [show (str (S.take k ++ [c] ++ S.drop (k + 1))).data.toList = turned S k c by simp [str, turned]] at this
    exact this
  obtain ⟨CK, hCK⟩ : ∃ CK, CK = S.getD k 0 := ⟨_, rfl⟩
  have HCK : Hid ((str S).data.toList[k]? = some CK) := Lib.hid (by rw [hCK, show (str S).data.toList = S by simp [str], List.getD_eq_getElem?_getD, List.getElem?_eq_getElem (show k < S.length by omega)]; rfl)
  have HOK : Hid (okS (turned S k c) = decide (digitN c.toNat < 16)) := Lib.hid (by rw [hS]; exact turned_ok a ha k c hk64)
  have HSM : Hid (digitN c.toNat < 16 → (part (turned S k c) 64 == a) = (c == CK)) := Lib.hid fun hd => by rw [hCK, hS]; exact turned_same a ha k c hk64 hd
  have HZS : Hid (cmpZ .neq (S.length : Int) 64 = some false) := Lib.hid (by rw [hSl]; rfl)
  have HZT : Hid (cmpZ .neq (T.length : Int) 64 = some false) := Lib.hid (by rw [hTl]; rfl)
  have hia : (Tryd.prog.info? 24).map (·.size) = some (bcells a).toArray.size := by simp only [List.size_toArray, bcells_length, ha]; exact infoID
  have hib : (Tryd.prog.info? 24).map (·.size) = some (bcells b).toArray.size := by simp only [List.size_toArray, bcells_length, hb]; exact infoID
  have HIA := Lib.hid hia
  have HIB := Lib.hid hib
  have HA := Lib.hid ha
  have HB := Lib.hid hb
  have HB1 := Lib.hid b1
  have HH := Lib.hid h
  have HK := Lib.hid hk
  have HST := Lib.hid hst
  have HSL := Lib.hid hSl
  have hkS : k ≤ S.length := by omega
  have hkS1 : k + 1 ≤ S.length := by omega
  have hks := hSl
  clear h hk hst ha hb hS hT hTl hLB hEB hCK hia hib b1 hk0 hks
  go_enter Tryd.func5, Tryd.ntmps5
  go_wp2_with (first
    | (go_at_call 7; refine (alive_any st _ HK.out.up.up HST.out.up.up _ H2.out).mono ?_; rintro e w3 ⟨rfl, h3⟩; have H3 := Lib.hid h3; clear h3)
    | ((first | (with_reducible refine wpList_plain rfl ?_) | ((with_reducible refine wpList_yes _ _ rfl ?_ ?_); (focus rfl))); intro _ hk; (first
      | (refine opw_box 24 (.agg (bcells a).toArray) (bcells a).toArray rfl rfl rfl HH.out (fun p4 w1 hp h1 => hk _ _ ?_); clear hp; have H1 := Lib.hid h1; clear h1)
      | (refine opw_box 24 (.agg (bcells b).toArray) (bcells b).toArray rfl rfl rfl H1.out (fun p5 w2 hp h2 => hk _ _ ?_); clear hp; have H2 := Lib.hid h2; clear h2)); simp only [Act.put, List.setIfInBounds_toArray, List.set_cons_zero, List.set_cons_succ]))
  refine wp_region_inv3 (fun L u w' => Slots (fun kk => ([some (.agg (bcells a).toArray), some (.string (str S)), some (.agg (bcells b).toArray), some (.string (str T)), some (.string (str S)), some (.string (str T))] : List (Option Value)).getD kk none) L u ∧ Has st (sep (blk p5 (.cells (bcells b).toArray 24 (0, 0))) (sep (blk p4 (.cells (bcells a).toArray 24 (0, 0))) R)) w') (by kernel_rfl) (by decide +kernel) (by decide +kernel) (by kernel_rfl) (by kernel_rfl) (fun u => ⟨Slots.start _ u, H3.out.drew⟩) ?_ ?_
  · refine ⟨?_, ?_, ?_, ?_, ?_, ?_, trivial⟩
    · refine RegStep3.plain rfl ?_; rintro L u w1 bA hL hW hD hU ⟨hS, hH⟩ hin hout; exact opw_loadRow _ _ rfl _ ((hout 4 (by kernel_rfl)).trans (by kernel_rfl)) 24 _ _ _ Tryd.underlying24 rfl HIA.out (hH.right) ⟨_, rfl, hS.step 0 _ (.inr rfl), hH⟩
    · refine RegStep3.plain rfl ?_; rintro L u w1 bA hL hW hD hU ⟨hS, hH⟩ hin hout; exact opw_call_ret _ _ _ [(.agg (bcells a).toArray)] rfl (by kernel_rfl) (list2 ((hin 0 16 rfl).trans (hS 0 _ rfl (hW.of 0 (by decide)))) rfl) (HTA.out _ _ hH) (fun e w2 he => by obtain ⟨rfl, h2⟩ := he; exact ⟨_, rfl, _, rfl, hS.step 1 _ (.inr rfl), h2⟩)
    · refine RegStep3.plain rfl ?_; rintro L u w1 bA hL hW hD hU ⟨hS, hH⟩ hin hout; exact opw_loadRow _ _ rfl _ ((hout 5 (by kernel_rfl)).trans (by kernel_rfl)) 24 _ _ _ Tryd.underlying24 rfl HIB.out (hH) ⟨_, rfl, hS.step 2 _ (.inr rfl), hH⟩
    · refine RegStep3.plain rfl ?_; rintro L u w1 bA hL hW hD hU ⟨hS, hH⟩ hin hout; exact opw_call_ret _ _ _ [(.agg (bcells b).toArray)] rfl (by kernel_rfl) (list2 ((hin 2 18 rfl).trans (hS 2 _ rfl (hW.of 2 (by decide)))) rfl) (HTB.out _ _ hH) (fun e w2 he => by obtain ⟨rfl, h2⟩ := he; exact ⟨_, rfl, _, rfl, hS.step 3 _ (.inr rfl), h2⟩)
    · refine RegStep3.plain rfl ?_; rintro L u w1 bA hL hW hD hU ⟨hS, hH⟩ hin hout; exact opw_move _ _ (.inr rfl) ((hin 1 17 rfl).trans (hS 1 _ rfl (hW.of 1 (by decide)))) ⟨_, rfl, hS.step 4 _ (.inr rfl), hH⟩
    · refine RegStep3.plain rfl ?_; rintro L u w1 bA hL hW hD hU ⟨hS, hH⟩ hin hout; exact opw_move _ _ (.inr rfl) ((hin 3 19 rfl).trans (hS 3 _ rfl (hW.of 3 (by decide)))) ⟨_, rfl, hS.step 5 _ (.inr rfl), hH⟩
  intro L u w4 hL ⟨hS, hH⟩
  have E4 := hS 4 _ rfl (hL 4 (by decide))
  have E5 := hS 5 _ rfl (hL 5 (by decide))
  simp only [frame_cons, frame_nil, E4, E5, Act.put, List.setIfInBounds_toArray, List.set_cons_zero, List.set_cons_succ]
  have H4 := Lib.hid hH
  clear hL hS hH E4 E5
  go_wp2_with (first
    | (go_at_call 12; refine (HLS.out _ _ H4.out).mono ?_; rintro e w5 ⟨rfl, h5⟩; have H5 := Lib.hid h5; clear h5)
    | ((first | (with_reducible refine wpList_plain rfl ?_) | ((with_reducible refine wpList_yes _ _ rfl ?_ ?_); (focus rfl))); intro _ hk; (first
      | (refine opw_lenStr _ _ Tryd.underlying9 S rfl rfl (hk _ _ ?_))
      | (refine opw_lenStr _ _ Tryd.underlying9 T rfl rfl (hk _ _ ?_))
      | (refine opw_cmp .neq _ _ _ _ .i64 (S.length : Int) 64 false rfl rfl rfl HZS.out (hk _ _ ?_))
      | (refine opw_cmp .neq _ _ _ _ .i64 (T.length : Int) 64 false rfl rfl rfl HZT.out (hk _ _ ?_))
      | (refine opw_cmpStr .lss _ _ _ _ S T LB rfl rfl rfl HLT.out (hk _ _ ?_))
      | (refine opw_cmpStr .eql _ _ _ _ S T EB rfl rfl rfl HEQ.out (hk _ _ ?_))
      | (have _k := H5; refine opw_loadRow 24 _ rfl p4 rfl 24 (bcells a).toArray (0, 0) _ Tryd.underlying24 rfl HIA.out H5.out.right (hk _ _ ?_))
      | (have _k := H5; refine opw_loadRow 24 _ rfl p5 rfl 24 (bcells b).toArray (0, 0) _ Tryd.underlying24 rfl HIB.out H5.out (hk _ _ ?_))
      | (refine opw_loadRow 24 _ rfl p4 rfl 24 (bcells a).toArray (0, 0) _ Tryd.underlying24 rfl HIA.out H4.out.right (hk _ _ ?_))
      | (refine opw_loadRow 24 _ rfl p5 rfl 24 (bcells b).toArray (0, 0) _ Tryd.underlying24 rfl HIB.out H4.out (hk _ _ ?_))
      | (refine opw_eqRow 24 _ 5 32 _ _ a b Tryd.underlying24 Tryd.underlying5 infosz (by kernel_rfl) HA.out HB.out rfl rfl rfl EB HEB.out (hk _ _ ?_))
      | (refine opw_neBool _ _ _ _ LB LB Tryd.underlying4 rfl rfl rfl false (by simp) (hk _ _ ?_))
      | (refine opw_neBool _ _ _ _ EB EB Tryd.underlying4 rfl rfl rfl false (by simp) (hk _ _ ?_))
      | (refine opw_bits .and _ _ _ _ .i64 z 63 (k : Int) (.inl rfl) rfl rfl rfl HB1.out (hk _ _ ?_))); simp only [Act.put, List.setIfInBounds_toArray, List.set_cons_zero, List.set_cons_succ]))
  have HW := H5
  by_cases hd : digitN c.toNat < 16
  ·
    obtain ⟨X, hX⟩ : ∃ X, X = part (turned S k c) 64 := ⟨_, rfl⟩
    have hXl : X.length = 32 := by rw [hX]; exact part_length _ _
    have HPV : Hid (∀ RR w, Has st RR w → Calls Tryd.prog 8 #[.string (str (S.take k ++ [c] ++ S.drop (k + 1)))] w fun e w' => e = .returned (.tuple #[.agg (bcells X).toArray, .int .i64 0]) ∧ Has st RR w') := Lib.hid fun RR w h => by
      have := HPA.out RR w h
      rw [parse_yes (by rw [HOK.out]; simpa using hd), ← hX] at this
      exact this
    have hix : (Tryd.prog.info? 24).map (·.size) = some (bcells X).toArray.size := by simp only [List.size_toArray, bcells_length, hXl]; exact infoID
    have hz2 : (bcells (List.replicate 32 (0 : UInt8))).toArray.size = (bcells X).toArray.size := by simp only [List.size_toArray, bcells_length, hXl]; rfl
    have HI := Lib.hid hix
    have HI2 := Lib.hid hz2
    have HXL := Lib.hid hXl
    have HX := Lib.hid hX
    have HDD := Lib.hid hd
    clear hXl hix hz2 hX hd
    refine wp_region_inv3 (fun L u w' => Slots (fun kk => ([some (.string (str S)), some (.int .i64 ((k : Nat) : Int)), some (.string (str (S.take k))), some (.int .u8 ((c).toNat : Int)), none, some (.string (str [c])), some (.string (str ((S.take k) ++ [c]))), some (.string (str S)), some (.int .i64 ((k : Nat) : Int)), some (.int .i64 (((k + 1) : Nat) : Int)), some (.string (str (S.drop (k + 1)))), some (.string (str (((S.take k) ++ [c]) ++ (S.drop (k + 1))))), some (.tuple #[(.agg (bcells X).toArray), (.int .i64 0)]), some (.tuple #[(.agg (bcells X).toArray), (.int .i64 0)]), some (.agg (bcells X).toArray), some (.int .i64 0), none, none, some (.int .i64 0)] : List (Option Value)).getD kk none) L u ∧ Has st (sep (vlit (L 4) (u 4) (bcells [c]).toArray 1 5) (sep (vrow (L 16) (L 17) (u 16) (bcells (List.replicate 32 (0 : UInt8))).toArray (bcells X).toArray 24) (sep (blk p5 (.cells (bcells b).toArray 24 (0, 0))) (sep (blk p4 (.cells (bcells a).toArray 24 (0, 0))) R)))) w') (by kernel_rfl) (by decide +kernel) (by decide +kernel) (by kernel_rfl) (by kernel_rfl) (fun u => ⟨Slots.start _ u, ((HW.out.drew).vrow_no.vlit_no)⟩) ?_ ?_
    · refine ⟨?_, ?_, ?_, ?_, ?_, ?_, ?_, ?_, ?_, ?_, ?_, ?_, ?_, ?_, ?_, ?_, ?_, ?_, ?_, trivial⟩
      · refine RegStep3.plain rfl ?_; rintro L u w1 bA hL hW hD hU ⟨hS, hH⟩ hin hout; exact opw_move _ _ (.inl rfl) ((hout 9 (by kernel_rfl)).trans (by kernel_rfl)) ⟨_, rfl, hS.step 0 _ (.inr rfl), hH⟩
      · refine RegStep3.plain rfl ?_; rintro L u w1 bA hL hW hD hU ⟨hS, hH⟩ hin hout; exact opw_move _ _ (.inl rfl) ((hout 2 (by kernel_rfl)).trans (by kernel_rfl)) ⟨_, rfl, hS.step 1 _ (.inr rfl), hH⟩
      · refine RegStep3.plain rfl ?_; rintro L u w1 bA hL hW hD hU ⟨hS, hH⟩ hin hout; exact opw_slTo _ _ _ Tryd.underlying9 rfl S k ((hin 0 49 rfl).trans (hS 0 _ rfl (hW.of 0 (by decide)))) ((hin 1 50 rfl).trans (hS 1 _ rfl (hW.of 1 (by decide)))) hkS ⟨_, rfl, hS.step 2 _ (.inr rfl), hH⟩
      · refine RegStep3.plain rfl ?_; rintro L u w1 bA hL hW hD hU ⟨hS, hH⟩ hin hout; exact opw_move _ _ (.inl rfl) ((hout 3 (by kernel_rfl)).trans (by kernel_rfl)) ⟨_, rfl, hS.step 3 _ (.inr rfl), hH⟩
      · refine RegStep3.plain rfl ?_; rintro L u w1 bA hL hW hD hU ⟨hS, hH⟩ hin hout; exact opw_lit _ 1 _ [(0, (.int .u8 ((c).toNat : Int)))] 5 (bcells [c]).toArray rfl (pair2 ((hin 3 52 rfl).trans (hS 3 _ rfl (hW.of 3 (by decide)))) rfl) (by kernel_rfl) (hH.vlit_new hL) (fun q w4 h4 => ⟨_, rfl, hS.step 4 _ (.inl rfl), (show Has st (sep (vlit true (.slice (some ⟨q, 0, none⟩) 1 1) (bcells [c]).toArray 1 5) (sep (vrow (L 16) (L 17) (u 16) (bcells (List.replicate 32 (0 : UInt8))).toArray (bcells X).toArray 24) (sep (blk p5 (.cells (bcells b).toArray 24 (0, 0))) (sep (blk p4 (.cells (bcells a).toArray 24 (0, 0))) R)))) w4 from (h4.vlit_mk).cast (by ac_rfl))⟩)
      · refine RegStep3.plain rfl ?_; rintro L u w1 bA hL hW hD hU ⟨hS, hH⟩ hin hout; exact opw_toStr _ _ 5 _ Tryd.underlying22 Tryd.underlying5 Tryd.underlying9 rfl _ 1 [c] (hin 4 53 rfl) (hH.vlit_rd (hW.of 4 (by decide)) rfl (by decide)) ⟨_, rfl, hS.step 5 _ (.inr rfl), hH⟩
      · refine RegStep3.plain rfl ?_; rintro L u w1 bA hL hW hD hU ⟨hS, hH⟩ hin hout; exact opw_addStr _ _ _ _ _ _ rfl ((hin 2 51 rfl).trans (hS 2 _ rfl (hW.of 2 (by decide)))) ((hin 5 54 rfl).trans (hS 5 _ rfl (hW.of 5 (by decide)))) (by simp [HSL.out]; omega) ⟨_, rfl, hS.step 6 _ (.inr rfl), hH⟩
      · refine RegStep3.plain rfl ?_; rintro L u w1 bA hL hW hD hU ⟨hS, hH⟩ hin hout; exact opw_move _ _ (.inl rfl) ((hout 9 (by kernel_rfl)).trans (by kernel_rfl)) ⟨_, rfl, hS.step 7 _ (.inr rfl), hH⟩
      · refine RegStep3.plain rfl ?_; rintro L u w1 bA hL hW hD hU ⟨hS, hH⟩ hin hout; exact opw_move _ _ (.inl rfl) ((hout 2 (by kernel_rfl)).trans (by kernel_rfl)) ⟨_, rfl, hS.step 8 _ (.inr rfl), hH⟩
      · refine RegStep3.plain rfl ?_; rintro L u w1 bA hL hW hD hU ⟨hS, hH⟩ hin hout; exact opw_bin .add _ _ _ _ .i64 _ _ _ rfl ((hin 8 57 rfl).trans (hS 8 _ rfl (hW.of 8 (by decide)))) rfl (bin_add (k) (1) (by omega)) ⟨_, rfl, hS.step 9 _ (.inr rfl), hH⟩
      · refine RegStep3.plain rfl ?_; rintro L u w1 bA hL hW hD hU ⟨hS, hH⟩ hin hout; exact opw_slFrom _ _ _ Tryd.underlying9 rfl S (k + 1) ((hin 7 56 rfl).trans (hS 7 _ rfl (hW.of 7 (by decide)))) ((hin 9 58 rfl).trans (hS 9 _ rfl (hW.of 9 (by decide)))) hkS1 ⟨_, rfl, hS.step 10 _ (.inr rfl), hH⟩
      · refine RegStep3.plain rfl ?_; rintro L u w1 bA hL hW hD hU ⟨hS, hH⟩ hin hout; exact opw_addStr _ _ _ _ _ _ rfl ((hin 6 55 rfl).trans (hS 6 _ rfl (hW.of 6 (by decide)))) ((hin 10 59 rfl).trans (hS 10 _ rfl (hW.of 10 (by decide)))) (by simp [HSL.out]; omega) ⟨_, rfl, hS.step 11 _ (.inr rfl), hH⟩
      · refine RegStep3.plain rfl ?_; rintro L u w1 bA hL hW hD hU ⟨hS, hH⟩ hin hout; exact opw_call_ret _ _ _ [(.string (str (((S.take k) ++ [c]) ++ (S.drop (k + 1)))))] rfl (by kernel_rfl) (list2 ((hin 11 60 rfl).trans (hS 11 _ rfl (hW.of 11 (by decide)))) rfl) (HPV.out _ _ hH) (fun e w2 he => by obtain ⟨rfl, h2⟩ := he; exact ⟨_, rfl, _, rfl, hS.step 12 _ (.inr rfl), h2⟩)
      · refine RegStep3.plain rfl ?_; rintro L u w1 bA hL hW hD hU ⟨hS, hH⟩ hin hout; exact opw_move _ _ (.inl rfl) ((hin 12 61 rfl).trans (hS 12 _ rfl (hW.of 12 (by decide)))) ⟨_, rfl, hS.step 13 _ (.inr rfl), hH⟩
      · refine RegStep3.plain rfl ?_; rintro L u w1 bA hL hW hD hU ⟨hS, hH⟩ hin hout; exact opw_extract _ 0 _ _ rfl ((hin 13 48 rfl).trans (hS 13 _ rfl (hW.of 13 (by decide)))) rfl ⟨_, rfl, hS.step 14 _ (.inr rfl), hH⟩
      · refine RegStep3.plain rfl ?_; rintro L u w1 bA hL hW hD hU ⟨hS, hH⟩ hin hout; exact opw_extract _ 1 _ _ rfl ((hin 13 48 rfl).trans (hS 13 _ rfl (hW.of 13 (by decide)))) rfl ⟨_, rfl, hS.step 15 _ (.inr rfl), hH⟩
      · refine RegStep3.plain rfl ?_; rintro L u w1 bA hL hW hD hU ⟨hS, hH⟩ hin hout; exact opw_alloc 24 (.agg (bcells (List.replicate 32 (0 : UInt8))).toArray) (bcells (List.replicate 32 (0 : UInt8))).toArray rfl zeroID rfl ((hH.cast (show _ = sep (vrow (L 16) (L 17) (u 16) (bcells (List.replicate 32 (0 : UInt8))).toArray (bcells X).toArray 24) (sep (vlit (L 4) (u 4) (bcells [c]).toArray 1 5) (sep (blk p5 (.cells (bcells b).toArray 24 (0, 0))) (sep (blk p4 (.cells (bcells a).toArray 24 (0, 0))) R))) by ac_rfl)).vrow_new hL) (fun p w4 _ h4 => ⟨_, rfl, hS.step 16 _ (.inl rfl), (show Has st (sep (vlit (L 4) (u 4) (bcells [c]).toArray 1 5) (sep (vrow true (L 17) (.pointer (some ⟨p, 0, none⟩)) (bcells (List.replicate 32 (0 : UInt8))).toArray (bcells X).toArray 24) (sep (blk p5 (.cells (bcells b).toArray 24 (0, 0))) (sep (blk p4 (.cells (bcells a).toArray 24 (0, 0))) R)))) w4 from (h4.vrow_mk (hD.nots 1 17 16 hL (by decide +kernel))).cast (by ac_rfl))⟩)
      · refine RegStep3.plain rfl ?_; rintro L u w1 bA hL hW hD hU ⟨hS, hH⟩ hin hout; obtain ⟨p, hp, h4⟩ := (hH.cast (show _ = sep (vrow (L 16) (L 17) (u 16) (bcells (List.replicate 32 (0 : UInt8))).toArray (bcells X).toArray 24) (sep (vlit (L 4) (u 4) (bcells [c]).toArray 1 5) (sep (blk p5 (.cells (bcells b).toArray 24 (0, 0))) (sep (blk p4 (.cells (bcells a).toArray 24 (0, 0))) R))) by ac_rfl)).vrow_open (hW.of 16 (by decide)); rw [hL] at h4; exact opw_storeRow 24 _ _ rfl p (bcells X).toArray ((hin 16 11 rfl).trans hp) ((hin 14 62 rfl).trans (hS 14 _ rfl (hW.of 14 (by decide)))) 24 (bcells (List.replicate 32 (0 : UInt8))).toArray HI.out HI2.out (bcells_all _) h4 (fun w9 h9 => ⟨_, rfl, hS.step 17 _ (.inl rfl), (show Has st (sep (vlit (L 4) (u 4) (bcells [c]).toArray 1 5) (sep (vrow (L 16) true (u 16) (bcells (List.replicate 32 (0 : UInt8))).toArray (bcells X).toArray 24) (sep (blk p5 (.cells (bcells b).toArray 24 (0, 0))) (sep (blk p4 (.cells (bcells a).toArray 24 (0, 0))) R)))) w9 from (h9.vrow_done hp (hW.of 16 (by decide))).cast (by ac_rfl))⟩)
      · refine RegStep3.plain rfl ?_; rintro L u w1 bA hL hW hD hU ⟨hS, hH⟩ hin hout; exact opw_move _ _ (.inr rfl) ((hin 15 63 rfl).trans (hS 15 _ rfl (hW.of 15 (by decide)))) ⟨_, rfl, hS.step 18 _ (.inr rfl), hH⟩
    intro L u w7 hL ⟨hS, hH⟩
    have E18 := hS 18 _ rfl (hL 18 (by decide))
    obtain ⟨p11, hp1, hH⟩ := Has.vrow_open (v := u 16) (hH.cast (show _ = sep (vrow (L 16) (L 17) (u 16) (bcells (List.replicate 32 (0 : UInt8))).toArray (bcells X).toArray 24) (sep (vlit (L 4) (u 4) (bcells [c]).toArray 1 5) (sep (blk p5 (.cells (bcells b).toArray 24 (0, 0))) (sep (blk p4 (.cells (bcells a).toArray 24 (0, 0))) R))) by ac_rfl)) (hL 16 (by decide))
    rw [hL 17 (by decide)] at hH
    simp only [frame_cons, frame_nil, E18, hp1, Act.put, List.setIfInBounds_toArray, List.set_cons_zero, List.set_cons_succ]
    have H7 := Lib.hid hH
    clear hL hS hH E18 hp1
    have H8 := Lib.hid H7.out.second.right
    clear H7
    have hd16 := digit_16 c
    rw [decide_eq_true HDD.out] at hd16
    have hrg : (48 ≤ c.toNat ∧ c.toNat ≤ 57) ∨ (97 ≤ c.toNat ∧ c.toNat ≤ 102) := by simpa using hd16.symm
    clear hd16
    by_cases hc : c = CK
    ·
      have HCC : Hid (cmpZ .eql (c.toNat : Int) (CK.toNat : Int) = some true) := Lib.hid (by simp only [cmpZ]; simp [hc])
      have HXA : Hid ((X == a) = true) := Lib.hid (by rw [HX.out, HSM.out HDD.out]; simp [hc])
      clear hc
      rcases hrg with hrg | hrg
      ·
        have HR48 : Hid (cmpZ .geq (c.toNat : Int) 48 = some true) := Lib.hid (by simp only [cmpZ]; simp; omega)
        have HR57 : Hid (cmpZ .leq (c.toNat : Int) 57 = some true) := Lib.hid (by simp only [cmpZ]; simp; omega)
        clear hrg
        go_wp2_with (first
          | (fail)
          | ((first | (with_reducible refine wpList_plain rfl ?_) | ((with_reducible refine wpList_yes _ _ rfl ?_ ?_); (focus rfl))); intro _ hk; (first
            | (refine opw_cmp .geq _ _ _ _ .u8 (c.toNat : Int) 48 true rfl rfl rfl HR48.out (hk _ _ ?_))
            | (refine opw_cmp .leq _ _ _ _ .u8 (c.toNat : Int) 57 true rfl rfl rfl HR57.out (hk _ _ ?_))); simp only [Act.put, List.setIfInBounds_toArray, List.set_cons_zero, List.set_cons_succ]))
        refine wp_region_inv3 (fun L u w' => Slots (fun kk => ([some (.int .i64 0), some (.bool true), some (.bool true), some (.bool true), some (.bool true), some (.agg (bcells X).toArray), some (.agg (bcells a).toArray), some (.bool true), some (.bool true), some (.bool true), some (.int .u8 ((c).toNat : Int)), some (.string (str S)), some (.int .i64 ((k : Nat) : Int)), some (.int .u8 ((CK).toNat : Int)), some (.bool true), some (.bool true), some (.bool true), some (.bool true), some (.bool true), some undef, some undef, some undef, some undef, some undef, some undef, some undef, some undef, some undef, some undef, some undef, some undef, some (.bool true), some (.bool true)] : List (Option Value)).getD kk none) L u ∧ Has st (sep (blk p11 (.cells (bcells X).toArray 24 (0, 0))) (sep (blk p5 (.cells (bcells b).toArray 24 (0, 0))) (sep (blk p4 (.cells (bcells a).toArray 24 (0, 0))) R))) w') (by kernel_rfl) (by decide +kernel) (by decide +kernel) (by kernel_rfl) (by kernel_rfl) (fun u => ⟨Slots.start _ u, H8.out.drew⟩) ?_ ?_
        · refine ⟨?_, ?_, ?_, ?_, ?_, ?_, ?_, ?_, ?_, ?_, ?_, ?_, ?_, ?_, ?_, ?_, ?_, ?_, ?_, ?_, ?_, ?_, ?_, ?_, ?_, ?_, ?_, ?_, ?_, ?_, ?_, ?_, ?_, trivial⟩
          · refine RegStep3.plain rfl ?_; rintro L u w1 bA hL hW hD hU ⟨hS, hH⟩ hin hout; exact opw_move _ _ (.inl rfl) ((hout 12 (by kernel_rfl)).trans (by kernel_rfl)) ⟨_, rfl, hS.step 0 _ (.inr rfl), hH⟩
          · refine RegStep3.plain rfl ?_; rintro L u w1 bA hL hW hD hU ⟨hS, hH⟩ hin hout; exact opw_cmp .eql _ _ _ _ .i64 _ _ true rfl ((hin 0 78 rfl).trans (hS 0 _ rfl (hW.of 0 (by decide)))) rfl (by decide) ⟨_, rfl, hS.step 1 _ (.inr rfl), hH⟩
          · refine RegStep3.plain rfl ?_; rintro L u w1 bA hL hW hD hU ⟨hS, hH⟩ hin hout; exact opw_move _ _ (.inl rfl) ((hout 13 (by kernel_rfl)).trans (by kernel_rfl)) ⟨_, rfl, hS.step 2 _ (.inr rfl), hH⟩
          · refine RegStep3.plain rfl ?_; rintro L u w1 bA hL hW hD hU ⟨hS, hH⟩ hin hout; exact opw_eqBool _ _ _ _ _ _ Tryd.underlying4 rfl ((hin 1 79 rfl).trans (hS 1 _ rfl (hW.of 1 (by decide)))) ((hin 2 80 rfl).trans (hS 2 _ rfl (hW.of 2 (by decide)))) true rfl ⟨_, rfl, hS.step 3 _ (.inr rfl), hH⟩
          · refine RegStep3.plain rfl ?_; rintro L u w1 bA hL hW hD hU ⟨hS, hH⟩ hin hout; exact opw_move _ _ (.inl rfl) ((hin 3 81 rfl).trans (hS 3 _ rfl (hW.of 3 (by decide)))) ⟨_, rfl, hS.step 4 _ (.inr rfl), hH⟩
          · refine RegStep3.yes 4 true rfl (fun L u w1 hW hI => hI.1 4 _ rfl (hW.of 4 (by decide))) ?_; rintro L u w1 bA hL hW hD hU ⟨hS, hH⟩ hin hout; exact opw_loadRow _ _ rfl _ ((hout 11 (by kernel_rfl)).trans (by kernel_rfl)) 24 _ _ _ Tryd.underlying24 rfl HI.out (hH) ⟨_, rfl, hS.step 5 _ (.inr rfl), hH⟩
          · refine RegStep3.yes 4 true rfl (fun L u w1 hW hI => hI.1 4 _ rfl (hW.of 4 (by decide))) ?_; rintro L u w1 bA hL hW hD hU ⟨hS, hH⟩ hin hout; exact opw_loadRow _ _ rfl _ ((hout 4 (by kernel_rfl)).trans (by kernel_rfl)) 24 _ _ _ Tryd.underlying24 rfl HIA.out (hH.right.right) ⟨_, rfl, hS.step 6 _ (.inr rfl), hH⟩
          · refine RegStep3.yes 4 true rfl (fun L u w1 hW hI => hI.1 4 _ rfl (hW.of 4 (by decide))) ?_; rintro L u w1 bA hL hW hD hU ⟨hS, hH⟩ hin hout; exact opw_eqRow _ _ 5 32 _ _ X a Tryd.underlying24 Tryd.underlying5 infosz (by kernel_rfl) HXL.out HA.out rfl ((hin 5 83 rfl).trans (hS 5 _ rfl (hW.of 5 (by decide)))) ((hin 6 84 rfl).trans (hS 6 _ rfl (hW.of 6 (by decide)))) true HXA.out ⟨_, rfl, hS.step 7 _ (.inr rfl), hH⟩
          · refine RegStep3.yes 4 true rfl (fun L u w1 hW hI => hI.1 4 _ rfl (hW.of 4 (by decide))) ?_; rintro L u w1 bA hL hW hD hU ⟨hS, hH⟩ hin hout; exact opw_move _ _ (.inl rfl) ((hout 13 (by kernel_rfl)).trans (by kernel_rfl)) ⟨_, rfl, hS.step 8 _ (.inr rfl), hH⟩
          · refine RegStep3.yes 4 true rfl (fun L u w1 hW hI => hI.1 4 _ rfl (hW.of 4 (by decide))) ?_; rintro L u w1 bA hL hW hD hU ⟨hS, hH⟩ hin hout; exact opw_move _ _ (.inl rfl) ((hin 8 86 rfl).trans (hS 8 _ rfl (hW.of 8 (by decide)))) ⟨_, rfl, hS.step 9 _ (.inr rfl), hH⟩
          · refine RegStep3.yes 9 true rfl (fun L u w1 hW hI => hI.1 9 _ rfl (hW.of 9 (by decide))) ?_; rintro L u w1 bA hL hW hD hU ⟨hS, hH⟩ hin hout; exact opw_move _ _ (.inl rfl) ((hout 3 (by kernel_rfl)).trans (by kernel_rfl)) ⟨_, rfl, hS.step 10 _ (.inr rfl), hH⟩
          · refine RegStep3.yes 9 true rfl (fun L u w1 hW hI => hI.1 9 _ rfl (hW.of 9 (by decide))) ?_; rintro L u w1 bA hL hW hD hU ⟨hS, hH⟩ hin hout; exact opw_move _ _ (.inl rfl) ((hout 9 (by kernel_rfl)).trans (by kernel_rfl)) ⟨_, rfl, hS.step 11 _ (.inr rfl), hH⟩
          · refine RegStep3.yes 9 true rfl (fun L u w1 hW hI => hI.1 9 _ rfl (hW.of 9 (by decide))) ?_; rintro L u w1 bA hL hW hD hU ⟨hS, hH⟩ hin hout; exact opw_move _ _ (.inl rfl) ((hout 2 (by kernel_rfl)).trans (by kernel_rfl)) ⟨_, rfl, hS.step 12 _ (.inr rfl), hH⟩
          · refine RegStep3.yes 9 true rfl (fun L u w1 hW hI => hI.1 9 _ rfl (hW.of 9 (by decide))) ?_; rintro L u w1 bA hL hW hD hU ⟨hS, hH⟩ hin hout; exact opw_indexStr _ _ _ rfl Tryd.underlying9 (str S) ((hin 11 89 rfl).trans (hS 11 _ rfl (hW.of 11 (by decide)))) .i64 k ((hin 12 90 rfl).trans (hS 12 _ rfl (hW.of 12 (by decide)))) CK HCK.out ⟨_, rfl, hS.step 13 _ (.inr rfl), hH⟩
          · refine RegStep3.yes 9 true rfl (fun L u w1 hW hI => hI.1 9 _ rfl (hW.of 9 (by decide))) ?_; rintro L u w1 bA hL hW hD hU ⟨hS, hH⟩ hin hout; exact opw_cmp .eql _ _ _ _ .u8 _ _ true rfl ((hin 10 88 rfl).trans (hS 10 _ rfl (hW.of 10 (by decide)))) ((hin 13 91 rfl).trans (hS 13 _ rfl (hW.of 13 (by decide)))) HCC.out ⟨_, rfl, hS.step 14 _ (.inr rfl), hH⟩
          · refine RegStep3.yes 4 true rfl (fun L u w1 hW hI => hI.1 4 _ rfl (hW.of 4 (by decide))) ?_; rintro L u w1 bA hL hW hD hU ⟨hS, hH⟩ hin hout; exact opw_pickT _ _ _ _ rfl ((hin 9 87 rfl).trans (hS 9 _ rfl (hW.of 9 (by decide)))) ((hin 14 92 rfl).trans (hS 14 _ rfl (hW.of 14 (by decide)))) ⟨_, rfl, hS.step 15 _ (.inr rfl), hH⟩
          · refine RegStep3.yes 4 true rfl (fun L u w1 hW hI => hI.1 4 _ rfl (hW.of 4 (by decide))) ?_; rintro L u w1 bA hL hW hD hU ⟨hS, hH⟩ hin hout; exact opw_eqBool _ _ _ _ _ _ Tryd.underlying4 rfl ((hin 7 85 rfl).trans (hS 7 _ rfl (hW.of 7 (by decide)))) ((hin 15 93 rfl).trans (hS 15 _ rfl (hW.of 15 (by decide)))) true rfl ⟨_, rfl, hS.step 16 _ (.inr rfl), hH⟩
          · refine RegStep3.plain rfl ?_; rintro L u w1 bA hL hW hD hU ⟨hS, hH⟩ hin hout; exact opw_pickT _ _ _ _ rfl ((hin 4 82 rfl).trans (hS 4 _ rfl (hW.of 4 (by decide)))) ((hin 16 94 rfl).trans (hS 16 _ rfl (hW.of 16 (by decide)))) ⟨_, rfl, hS.step 17 _ (.inr rfl), hH⟩
          · refine RegStep3.plain rfl ?_; rintro L u w1 bA hL hW hD hU ⟨hS, hH⟩ hin hout; exact opw_move _ _ (.inl rfl) ((hin 17 95 rfl).trans (hS 17 _ rfl (hW.of 17 (by decide)))) ⟨_, rfl, hS.step 18 _ (.inr rfl), hH⟩
          · refine RegStep3.no 18 false rfl ?_; rintro L u w1 hL hW hD ⟨hS, hH⟩; exact ⟨hS 18 _ rfl (hW.of 18 (by decide)), hS.step 19 _ (.inr rfl), hH⟩
          · refine RegStep3.no 18 false rfl ?_; rintro L u w1 hL hW hD ⟨hS, hH⟩; exact ⟨hS 18 _ rfl (hW.of 18 (by decide)), hS.step 20 _ (.inr rfl), hH⟩
          · refine RegStep3.no 18 false rfl ?_; rintro L u w1 hL hW hD ⟨hS, hH⟩; exact ⟨hS 18 _ rfl (hW.of 18 (by decide)), hS.step 21 _ (.inr rfl), hH⟩
          · refine RegStep3.noU 21 true rfl ?_; rintro L u w1 hL hW hD ⟨hS, hH⟩; exact ⟨hS 21 _ rfl (hW.of 21 (by decide)), hS.step 22 _ (.inr rfl), hH⟩
          · refine RegStep3.noU 21 true rfl ?_; rintro L u w1 hL hW hD ⟨hS, hH⟩; exact ⟨hS 21 _ rfl (hW.of 21 (by decide)), hS.step 23 _ (.inr rfl), hH⟩
          · refine RegStep3.noU 21 true rfl ?_; rintro L u w1 hL hW hD ⟨hS, hH⟩; exact ⟨hS 21 _ rfl (hW.of 21 (by decide)), hS.step 24 _ (.inr rfl), hH⟩
          · refine RegStep3.no 18 false rfl ?_; rintro L u w1 hL hW hD ⟨hS, hH⟩; exact ⟨hS 18 _ rfl (hW.of 18 (by decide)), hS.step 25 _ (.inr rfl), hH⟩
          · refine RegStep3.no 18 false rfl ?_; rintro L u w1 hL hW hD ⟨hS, hH⟩; exact ⟨hS 18 _ rfl (hW.of 18 (by decide)), hS.step 26 _ (.inr rfl), hH⟩
          · refine RegStep3.noU 26 true rfl ?_; rintro L u w1 hL hW hD ⟨hS, hH⟩; exact ⟨hS 26 _ rfl (hW.of 26 (by decide)), hS.step 27 _ (.inr rfl), hH⟩
          · refine RegStep3.noU 26 true rfl ?_; rintro L u w1 hL hW hD ⟨hS, hH⟩; exact ⟨hS 26 _ rfl (hW.of 26 (by decide)), hS.step 28 _ (.inr rfl), hH⟩
          · refine RegStep3.noU 26 true rfl ?_; rintro L u w1 hL hW hD ⟨hS, hH⟩; exact ⟨hS 26 _ rfl (hW.of 26 (by decide)), hS.step 29 _ (.inr rfl), hH⟩
          · refine RegStep3.no 18 false rfl ?_; rintro L u w1 hL hW hD ⟨hS, hH⟩; exact ⟨hS 18 _ rfl (hW.of 18 (by decide)), hS.step 30 _ (.inr rfl), hH⟩
          · refine RegStep3.plain rfl ?_; rintro L u w1 bA hL hW hD hU ⟨hS, hH⟩ hin hout; exact opw_pickT _ _ _ _ rfl ((hin 18 96 rfl).trans (hS 18 _ rfl (hW.of 18 (by decide)))) rfl ⟨_, rfl, hS.step 31 _ (.inr rfl), hH⟩
          · refine RegStep3.plain rfl ?_; rintro L u w1 bA hL hW hD hU ⟨hS, hH⟩ hin hout; exact opw_move _ _ (.inr rfl) ((hin 31 109 rfl).trans (hS 31 _ rfl (hW.of 31 (by decide)))) ⟨_, rfl, hS.step 32 _ (.inr rfl), hH⟩
        intro L u w9 hL ⟨hS, hH⟩
        have E := hS 32 _ rfl (hL 32 (by decide))
        simp only [frame_cons, frame_nil, E, Act.put, List.setIfInBounds_toArray, List.set_cons_zero, List.set_cons_succ]
        have H9 := Lib.hid hH
        clear hL hS hH E
        go_wp2
        go_ret
        exact ⟨rfl, H9.out.right.right.right⟩
      ·
        have HR48 : Hid (cmpZ .geq (c.toNat : Int) 48 = some true) := Lib.hid (by simp only [cmpZ]; simp; omega)
        have HR57 : Hid (cmpZ .leq (c.toNat : Int) 57 = some false) := Lib.hid (by simp only [cmpZ]; simp; omega)
        have HR97 : Hid (cmpZ .geq (c.toNat : Int) 97 = some true) := Lib.hid (by simp only [cmpZ]; simp; omega)
        have HR102 : Hid (cmpZ .leq (c.toNat : Int) 102 = some true) := Lib.hid (by simp only [cmpZ]; simp; omega)
        clear hrg
        go_wp2_with (first
          | (fail)
          | ((first | (with_reducible refine wpList_plain rfl ?_) | ((with_reducible refine wpList_yes _ _ rfl ?_ ?_); (focus rfl))); intro _ hk; (first
            | (refine opw_cmp .geq _ _ _ _ .u8 (c.toNat : Int) 48 true rfl rfl rfl HR48.out (hk _ _ ?_))
            | (refine opw_cmp .leq _ _ _ _ .u8 (c.toNat : Int) 57 false rfl rfl rfl HR57.out (hk _ _ ?_))
            | (refine opw_cmp .geq _ _ _ _ .u8 (c.toNat : Int) 97 true rfl rfl rfl HR97.out (hk _ _ ?_))
            | (refine opw_cmp .leq _ _ _ _ .u8 (c.toNat : Int) 102 true rfl rfl rfl HR102.out (hk _ _ ?_))); simp only [Act.put, List.setIfInBounds_toArray, List.set_cons_zero, List.set_cons_succ]))
        refine wp_region_inv3 (fun L u w' => Slots (fun kk => ([some (.int .i64 0), some (.bool true), some (.bool true), some (.bool true), some (.bool true), some (.agg (bcells X).toArray), some (.agg (bcells a).toArray), some (.bool true), some (.bool true), some (.bool true), some (.int .u8 ((c).toNat : Int)), some (.string (str S)), some (.int .i64 ((k : Nat) : Int)), some (.int .u8 ((CK).toNat : Int)), some (.bool true), some (.bool true), some (.bool true), some (.bool true), some (.bool true), some undef, some undef, some undef, some undef, some undef, some undef, some undef, some undef, some undef, some undef, some undef, some undef, some (.bool true), some (.bool true)] : List (Option Value)).getD kk none) L u ∧ Has st (sep (blk p11 (.cells (bcells X).toArray 24 (0, 0))) (sep (blk p5 (.cells (bcells b).toArray 24 (0, 0))) (sep (blk p4 (.cells (bcells a).toArray 24 (0, 0))) R))) w') (by kernel_rfl) (by decide +kernel) (by decide +kernel) (by kernel_rfl) (by kernel_rfl) (fun u => ⟨Slots.start _ u, H8.out.drew⟩) ?_ ?_
        · refine ⟨?_, ?_, ?_, ?_, ?_, ?_, ?_, ?_, ?_, ?_, ?_, ?_, ?_, ?_, ?_, ?_, ?_, ?_, ?_, ?_, ?_, ?_, ?_, ?_, ?_, ?_, ?_, ?_, ?_, ?_, ?_, ?_, ?_, trivial⟩
          · refine RegStep3.plain rfl ?_; rintro L u w1 bA hL hW hD hU ⟨hS, hH⟩ hin hout; exact opw_move _ _ (.inl rfl) ((hout 12 (by kernel_rfl)).trans (by kernel_rfl)) ⟨_, rfl, hS.step 0 _ (.inr rfl), hH⟩
          · refine RegStep3.plain rfl ?_; rintro L u w1 bA hL hW hD hU ⟨hS, hH⟩ hin hout; exact opw_cmp .eql _ _ _ _ .i64 _ _ true rfl ((hin 0 78 rfl).trans (hS 0 _ rfl (hW.of 0 (by decide)))) rfl (by decide) ⟨_, rfl, hS.step 1 _ (.inr rfl), hH⟩
          · refine RegStep3.plain rfl ?_; rintro L u w1 bA hL hW hD hU ⟨hS, hH⟩ hin hout; exact opw_move _ _ (.inl rfl) ((hout 13 (by kernel_rfl)).trans (by kernel_rfl)) ⟨_, rfl, hS.step 2 _ (.inr rfl), hH⟩
          · refine RegStep3.plain rfl ?_; rintro L u w1 bA hL hW hD hU ⟨hS, hH⟩ hin hout; exact opw_eqBool _ _ _ _ _ _ Tryd.underlying4 rfl ((hin 1 79 rfl).trans (hS 1 _ rfl (hW.of 1 (by decide)))) ((hin 2 80 rfl).trans (hS 2 _ rfl (hW.of 2 (by decide)))) true rfl ⟨_, rfl, hS.step 3 _ (.inr rfl), hH⟩
          · refine RegStep3.plain rfl ?_; rintro L u w1 bA hL hW hD hU ⟨hS, hH⟩ hin hout; exact opw_move _ _ (.inl rfl) ((hin 3 81 rfl).trans (hS 3 _ rfl (hW.of 3 (by decide)))) ⟨_, rfl, hS.step 4 _ (.inr rfl), hH⟩
          · refine RegStep3.yes 4 true rfl (fun L u w1 hW hI => hI.1 4 _ rfl (hW.of 4 (by decide))) ?_; rintro L u w1 bA hL hW hD hU ⟨hS, hH⟩ hin hout; exact opw_loadRow _ _ rfl _ ((hout 11 (by kernel_rfl)).trans (by kernel_rfl)) 24 _ _ _ Tryd.underlying24 rfl HI.out (hH) ⟨_, rfl, hS.step 5 _ (.inr rfl), hH⟩
          · refine RegStep3.yes 4 true rfl (fun L u w1 hW hI => hI.1 4 _ rfl (hW.of 4 (by decide))) ?_; rintro L u w1 bA hL hW hD hU ⟨hS, hH⟩ hin hout; exact opw_loadRow _ _ rfl _ ((hout 4 (by kernel_rfl)).trans (by kernel_rfl)) 24 _ _ _ Tryd.underlying24 rfl HIA.out (hH.right.right) ⟨_, rfl, hS.step 6 _ (.inr rfl), hH⟩
          · refine RegStep3.yes 4 true rfl (fun L u w1 hW hI => hI.1 4 _ rfl (hW.of 4 (by decide))) ?_; rintro L u w1 bA hL hW hD hU ⟨hS, hH⟩ hin hout; exact opw_eqRow _ _ 5 32 _ _ X a Tryd.underlying24 Tryd.underlying5 infosz (by kernel_rfl) HXL.out HA.out rfl ((hin 5 83 rfl).trans (hS 5 _ rfl (hW.of 5 (by decide)))) ((hin 6 84 rfl).trans (hS 6 _ rfl (hW.of 6 (by decide)))) true HXA.out ⟨_, rfl, hS.step 7 _ (.inr rfl), hH⟩
          · refine RegStep3.yes 4 true rfl (fun L u w1 hW hI => hI.1 4 _ rfl (hW.of 4 (by decide))) ?_; rintro L u w1 bA hL hW hD hU ⟨hS, hH⟩ hin hout; exact opw_move _ _ (.inl rfl) ((hout 13 (by kernel_rfl)).trans (by kernel_rfl)) ⟨_, rfl, hS.step 8 _ (.inr rfl), hH⟩
          · refine RegStep3.yes 4 true rfl (fun L u w1 hW hI => hI.1 4 _ rfl (hW.of 4 (by decide))) ?_; rintro L u w1 bA hL hW hD hU ⟨hS, hH⟩ hin hout; exact opw_move _ _ (.inl rfl) ((hin 8 86 rfl).trans (hS 8 _ rfl (hW.of 8 (by decide)))) ⟨_, rfl, hS.step 9 _ (.inr rfl), hH⟩
          · refine RegStep3.yes 9 true rfl (fun L u w1 hW hI => hI.1 9 _ rfl (hW.of 9 (by decide))) ?_; rintro L u w1 bA hL hW hD hU ⟨hS, hH⟩ hin hout; exact opw_move _ _ (.inl rfl) ((hout 3 (by kernel_rfl)).trans (by kernel_rfl)) ⟨_, rfl, hS.step 10 _ (.inr rfl), hH⟩
          · refine RegStep3.yes 9 true rfl (fun L u w1 hW hI => hI.1 9 _ rfl (hW.of 9 (by decide))) ?_; rintro L u w1 bA hL hW hD hU ⟨hS, hH⟩ hin hout; exact opw_move _ _ (.inl rfl) ((hout 9 (by kernel_rfl)).trans (by kernel_rfl)) ⟨_, rfl, hS.step 11 _ (.inr rfl), hH⟩
          · refine RegStep3.yes 9 true rfl (fun L u w1 hW hI => hI.1 9 _ rfl (hW.of 9 (by decide))) ?_; rintro L u w1 bA hL hW hD hU ⟨hS, hH⟩ hin hout; exact opw_move _ _ (.inl rfl) ((hout 2 (by kernel_rfl)).trans (by kernel_rfl)) ⟨_, rfl, hS.step 12 _ (.inr rfl), hH⟩
          · refine RegStep3.yes 9 true rfl (fun L u w1 hW hI => hI.1 9 _ rfl (hW.of 9 (by decide))) ?_; rintro L u w1 bA hL hW hD hU ⟨hS, hH⟩ hin hout; exact opw_indexStr _ _ _ rfl Tryd.underlying9 (str S) ((hin 11 89 rfl).trans (hS 11 _ rfl (hW.of 11 (by decide)))) .i64 k ((hin 12 90 rfl).trans (hS 12 _ rfl (hW.of 12 (by decide)))) CK HCK.out ⟨_, rfl, hS.step 13 _ (.inr rfl), hH⟩
          · refine RegStep3.yes 9 true rfl (fun L u w1 hW hI => hI.1 9 _ rfl (hW.of 9 (by decide))) ?_; rintro L u w1 bA hL hW hD hU ⟨hS, hH⟩ hin hout; exact opw_cmp .eql _ _ _ _ .u8 _ _ true rfl ((hin 10 88 rfl).trans (hS 10 _ rfl (hW.of 10 (by decide)))) ((hin 13 91 rfl).trans (hS 13 _ rfl (hW.of 13 (by decide)))) HCC.out ⟨_, rfl, hS.step 14 _ (.inr rfl), hH⟩
          · refine RegStep3.yes 4 true rfl (fun L u w1 hW hI => hI.1 4 _ rfl (hW.of 4 (by decide))) ?_; rintro L u w1 bA hL hW hD hU ⟨hS, hH⟩ hin hout; exact opw_pickT _ _ _ _ rfl ((hin 9 87 rfl).trans (hS 9 _ rfl (hW.of 9 (by decide)))) ((hin 14 92 rfl).trans (hS 14 _ rfl (hW.of 14 (by decide)))) ⟨_, rfl, hS.step 15 _ (.inr rfl), hH⟩
          · refine RegStep3.yes 4 true rfl (fun L u w1 hW hI => hI.1 4 _ rfl (hW.of 4 (by decide))) ?_; rintro L u w1 bA hL hW hD hU ⟨hS, hH⟩ hin hout; exact opw_eqBool _ _ _ _ _ _ Tryd.underlying4 rfl ((hin 7 85 rfl).trans (hS 7 _ rfl (hW.of 7 (by decide)))) ((hin 15 93 rfl).trans (hS 15 _ rfl (hW.of 15 (by decide)))) true rfl ⟨_, rfl, hS.step 16 _ (.inr rfl), hH⟩
          · refine RegStep3.plain rfl ?_; rintro L u w1 bA hL hW hD hU ⟨hS, hH⟩ hin hout; exact opw_pickT _ _ _ _ rfl ((hin 4 82 rfl).trans (hS 4 _ rfl (hW.of 4 (by decide)))) ((hin 16 94 rfl).trans (hS 16 _ rfl (hW.of 16 (by decide)))) ⟨_, rfl, hS.step 17 _ (.inr rfl), hH⟩
          · refine RegStep3.plain rfl ?_; rintro L u w1 bA hL hW hD hU ⟨hS, hH⟩ hin hout; exact opw_move _ _ (.inl rfl) ((hin 17 95 rfl).trans (hS 17 _ rfl (hW.of 17 (by decide)))) ⟨_, rfl, hS.step 18 _ (.inr rfl), hH⟩
          · refine RegStep3.no 18 false rfl ?_; rintro L u w1 hL hW hD ⟨hS, hH⟩; exact ⟨hS 18 _ rfl (hW.of 18 (by decide)), hS.step 19 _ (.inr rfl), hH⟩
          · refine RegStep3.no 18 false rfl ?_; rintro L u w1 hL hW hD ⟨hS, hH⟩; exact ⟨hS 18 _ rfl (hW.of 18 (by decide)), hS.step 20 _ (.inr rfl), hH⟩
          · refine RegStep3.no 18 false rfl ?_; rintro L u w1 hL hW hD ⟨hS, hH⟩; exact ⟨hS 18 _ rfl (hW.of 18 (by decide)), hS.step 21 _ (.inr rfl), hH⟩
          · refine RegStep3.noU 21 true rfl ?_; rintro L u w1 hL hW hD ⟨hS, hH⟩; exact ⟨hS 21 _ rfl (hW.of 21 (by decide)), hS.step 22 _ (.inr rfl), hH⟩
          · refine RegStep3.noU 21 true rfl ?_; rintro L u w1 hL hW hD ⟨hS, hH⟩; exact ⟨hS 21 _ rfl (hW.of 21 (by decide)), hS.step 23 _ (.inr rfl), hH⟩
          · refine RegStep3.noU 21 true rfl ?_; rintro L u w1 hL hW hD ⟨hS, hH⟩; exact ⟨hS 21 _ rfl (hW.of 21 (by decide)), hS.step 24 _ (.inr rfl), hH⟩
          · refine RegStep3.no 18 false rfl ?_; rintro L u w1 hL hW hD ⟨hS, hH⟩; exact ⟨hS 18 _ rfl (hW.of 18 (by decide)), hS.step 25 _ (.inr rfl), hH⟩
          · refine RegStep3.no 18 false rfl ?_; rintro L u w1 hL hW hD ⟨hS, hH⟩; exact ⟨hS 18 _ rfl (hW.of 18 (by decide)), hS.step 26 _ (.inr rfl), hH⟩
          · refine RegStep3.noU 26 true rfl ?_; rintro L u w1 hL hW hD ⟨hS, hH⟩; exact ⟨hS 26 _ rfl (hW.of 26 (by decide)), hS.step 27 _ (.inr rfl), hH⟩
          · refine RegStep3.noU 26 true rfl ?_; rintro L u w1 hL hW hD ⟨hS, hH⟩; exact ⟨hS 26 _ rfl (hW.of 26 (by decide)), hS.step 28 _ (.inr rfl), hH⟩
          · refine RegStep3.noU 26 true rfl ?_; rintro L u w1 hL hW hD ⟨hS, hH⟩; exact ⟨hS 26 _ rfl (hW.of 26 (by decide)), hS.step 29 _ (.inr rfl), hH⟩
          · refine RegStep3.no 18 false rfl ?_; rintro L u w1 hL hW hD ⟨hS, hH⟩; exact ⟨hS 18 _ rfl (hW.of 18 (by decide)), hS.step 30 _ (.inr rfl), hH⟩
          · refine RegStep3.plain rfl ?_; rintro L u w1 bA hL hW hD hU ⟨hS, hH⟩ hin hout; exact opw_pickT _ _ _ _ rfl ((hin 18 96 rfl).trans (hS 18 _ rfl (hW.of 18 (by decide)))) rfl ⟨_, rfl, hS.step 31 _ (.inr rfl), hH⟩
          · refine RegStep3.plain rfl ?_; rintro L u w1 bA hL hW hD hU ⟨hS, hH⟩ hin hout; exact opw_move _ _ (.inr rfl) ((hin 31 109 rfl).trans (hS 31 _ rfl (hW.of 31 (by decide)))) ⟨_, rfl, hS.step 32 _ (.inr rfl), hH⟩
        intro L u w9 hL ⟨hS, hH⟩
        have E := hS 32 _ rfl (hL 32 (by decide))
        simp only [frame_cons, frame_nil, E, Act.put, List.setIfInBounds_toArray, List.set_cons_zero, List.set_cons_succ]
        have H9 := Lib.hid hH
        clear hL hS hH E
        go_wp2
        go_ret
        exact ⟨rfl, H9.out.right.right.right⟩
    ·
      have HCC : Hid (cmpZ .eql (c.toNat : Int) (CK.toNat : Int) = some false) := Lib.hid (by simp only [cmpZ]; simp; intro e; exact hc (UInt8.toNat_inj.1 (by omega)))
      have HXA : Hid ((X == a) = false) := Lib.hid (by rw [HX.out, HSM.out HDD.out]; simpa using hc)
      clear hc
      rcases hrg with hrg | hrg
      ·
        have HR48 : Hid (cmpZ .geq (c.toNat : Int) 48 = some true) := Lib.hid (by simp only [cmpZ]; simp; omega)
        have HR57 : Hid (cmpZ .leq (c.toNat : Int) 57 = some true) := Lib.hid (by simp only [cmpZ]; simp; omega)
        clear hrg
        go_wp2_with (first
          | (fail)
          | ((first | (with_reducible refine wpList_plain rfl ?_) | ((with_reducible refine wpList_yes _ _ rfl ?_ ?_); (focus rfl))); intro _ hk; (first
            | (refine opw_cmp .geq _ _ _ _ .u8 (c.toNat : Int) 48 true rfl rfl rfl HR48.out (hk _ _ ?_))
            | (refine opw_cmp .leq _ _ _ _ .u8 (c.toNat : Int) 57 true rfl rfl rfl HR57.out (hk _ _ ?_))); simp only [Act.put, List.setIfInBounds_toArray, List.set_cons_zero, List.set_cons_succ]))
        refine wp_region_inv3 (fun L u w' => Slots (fun kk => ([some (.int .i64 0), some (.bool true), some (.bool true), some (.bool true), some (.bool true), some (.agg (bcells X).toArray), some (.agg (bcells a).toArray), some (.bool false), some (.bool true), some (.bool true), some (.int .u8 ((c).toNat : Int)), some (.string (str S)), some (.int .i64 ((k : Nat) : Int)), some (.int .u8 ((CK).toNat : Int)), some (.bool false), some (.bool false), some (.bool true), some (.bool true), some (.bool true), some undef, some undef, some undef, some undef, some undef, some undef, some undef, some undef, some undef, some undef, some undef, some undef, some (.bool true), some (.bool true)] : List (Option Value)).getD kk none) L u ∧ Has st (sep (blk p11 (.cells (bcells X).toArray 24 (0, 0))) (sep (blk p5 (.cells (bcells b).toArray 24 (0, 0))) (sep (blk p4 (.cells (bcells a).toArray 24 (0, 0))) R))) w') (by kernel_rfl) (by decide +kernel) (by decide +kernel) (by kernel_rfl) (by kernel_rfl) (fun u => ⟨Slots.start _ u, H8.out.drew⟩) ?_ ?_
        · refine ⟨?_, ?_, ?_, ?_, ?_, ?_, ?_, ?_, ?_, ?_, ?_, ?_, ?_, ?_, ?_, ?_, ?_, ?_, ?_, ?_, ?_, ?_, ?_, ?_, ?_, ?_, ?_, ?_, ?_, ?_, ?_, ?_, ?_, trivial⟩
          · refine RegStep3.plain rfl ?_; rintro L u w1 bA hL hW hD hU ⟨hS, hH⟩ hin hout; exact opw_move _ _ (.inl rfl) ((hout 12 (by kernel_rfl)).trans (by kernel_rfl)) ⟨_, rfl, hS.step 0 _ (.inr rfl), hH⟩
          · refine RegStep3.plain rfl ?_; rintro L u w1 bA hL hW hD hU ⟨hS, hH⟩ hin hout; exact opw_cmp .eql _ _ _ _ .i64 _ _ true rfl ((hin 0 78 rfl).trans (hS 0 _ rfl (hW.of 0 (by decide)))) rfl (by decide) ⟨_, rfl, hS.step 1 _ (.inr rfl), hH⟩
          · refine RegStep3.plain rfl ?_; rintro L u w1 bA hL hW hD hU ⟨hS, hH⟩ hin hout; exact opw_move _ _ (.inl rfl) ((hout 13 (by kernel_rfl)).trans (by kernel_rfl)) ⟨_, rfl, hS.step 2 _ (.inr rfl), hH⟩
          · refine RegStep3.plain rfl ?_; rintro L u w1 bA hL hW hD hU ⟨hS, hH⟩ hin hout; exact opw_eqBool _ _ _ _ _ _ Tryd.underlying4 rfl ((hin 1 79 rfl).trans (hS 1 _ rfl (hW.of 1 (by decide)))) ((hin 2 80 rfl).trans (hS 2 _ rfl (hW.of 2 (by decide)))) true rfl ⟨_, rfl, hS.step 3 _ (.inr rfl), hH⟩
          · refine RegStep3.plain rfl ?_; rintro L u w1 bA hL hW hD hU ⟨hS, hH⟩ hin hout; exact opw_move _ _ (.inl rfl) ((hin 3 81 rfl).trans (hS 3 _ rfl (hW.of 3 (by decide)))) ⟨_, rfl, hS.step 4 _ (.inr rfl), hH⟩
          · refine RegStep3.yes 4 true rfl (fun L u w1 hW hI => hI.1 4 _ rfl (hW.of 4 (by decide))) ?_; rintro L u w1 bA hL hW hD hU ⟨hS, hH⟩ hin hout; exact opw_loadRow _ _ rfl _ ((hout 11 (by kernel_rfl)).trans (by kernel_rfl)) 24 _ _ _ Tryd.underlying24 rfl HI.out (hH) ⟨_, rfl, hS.step 5 _ (.inr rfl), hH⟩
          · refine RegStep3.yes 4 true rfl (fun L u w1 hW hI => hI.1 4 _ rfl (hW.of 4 (by decide))) ?_; rintro L u w1 bA hL hW hD hU ⟨hS, hH⟩ hin hout; exact opw_loadRow _ _ rfl _ ((hout 4 (by kernel_rfl)).trans (by kernel_rfl)) 24 _ _ _ Tryd.underlying24 rfl HIA.out (hH.right.right) ⟨_, rfl, hS.step 6 _ (.inr rfl), hH⟩
          · refine RegStep3.yes 4 true rfl (fun L u w1 hW hI => hI.1 4 _ rfl (hW.of 4 (by decide))) ?_; rintro L u w1 bA hL hW hD hU ⟨hS, hH⟩ hin hout; exact opw_eqRow _ _ 5 32 _ _ X a Tryd.underlying24 Tryd.underlying5 infosz (by kernel_rfl) HXL.out HA.out rfl ((hin 5 83 rfl).trans (hS 5 _ rfl (hW.of 5 (by decide)))) ((hin 6 84 rfl).trans (hS 6 _ rfl (hW.of 6 (by decide)))) false HXA.out ⟨_, rfl, hS.step 7 _ (.inr rfl), hH⟩
          · refine RegStep3.yes 4 true rfl (fun L u w1 hW hI => hI.1 4 _ rfl (hW.of 4 (by decide))) ?_; rintro L u w1 bA hL hW hD hU ⟨hS, hH⟩ hin hout; exact opw_move _ _ (.inl rfl) ((hout 13 (by kernel_rfl)).trans (by kernel_rfl)) ⟨_, rfl, hS.step 8 _ (.inr rfl), hH⟩
          · refine RegStep3.yes 4 true rfl (fun L u w1 hW hI => hI.1 4 _ rfl (hW.of 4 (by decide))) ?_; rintro L u w1 bA hL hW hD hU ⟨hS, hH⟩ hin hout; exact opw_move _ _ (.inl rfl) ((hin 8 86 rfl).trans (hS 8 _ rfl (hW.of 8 (by decide)))) ⟨_, rfl, hS.step 9 _ (.inr rfl), hH⟩
          · refine RegStep3.yes 9 true rfl (fun L u w1 hW hI => hI.1 9 _ rfl (hW.of 9 (by decide))) ?_; rintro L u w1 bA hL hW hD hU ⟨hS, hH⟩ hin hout; exact opw_move _ _ (.inl rfl) ((hout 3 (by kernel_rfl)).trans (by kernel_rfl)) ⟨_, rfl, hS.step 10 _ (.inr rfl), hH⟩
          · refine RegStep3.yes 9 true rfl (fun L u w1 hW hI => hI.1 9 _ rfl (hW.of 9 (by decide))) ?_; rintro L u w1 bA hL hW hD hU ⟨hS, hH⟩ hin hout; exact opw_move _ _ (.inl rfl) ((hout 9 (by kernel_rfl)).trans (by kernel_rfl)) ⟨_, rfl, hS.step 11 _ (.inr rfl), hH⟩
          · refine RegStep3.yes 9 true rfl (fun L u w1 hW hI => hI.1 9 _ rfl (hW.of 9 (by decide))) ?_; rintro L u w1 bA hL hW hD hU ⟨hS, hH⟩ hin hout; exact opw_move _ _ (.inl rfl) ((hout 2 (by kernel_rfl)).trans (by kernel_rfl)) ⟨_, rfl, hS.step 12 _ (.inr rfl), hH⟩
          · refine RegStep3.yes 9 true rfl (fun L u w1 hW hI => hI.1 9 _ rfl (hW.of 9 (by decide))) ?_; rintro L u w1 bA hL hW hD hU ⟨hS, hH⟩ hin hout; exact opw_indexStr _ _ _ rfl Tryd.underlying9 (str S) ((hin 11 89 rfl).trans (hS 11 _ rfl (hW.of 11 (by decide)))) .i64 k ((hin 12 90 rfl).trans (hS 12 _ rfl (hW.of 12 (by decide)))) CK HCK.out ⟨_, rfl, hS.step 13 _ (.inr rfl), hH⟩
          · refine RegStep3.yes 9 true rfl (fun L u w1 hW hI => hI.1 9 _ rfl (hW.of 9 (by decide))) ?_; rintro L u w1 bA hL hW hD hU ⟨hS, hH⟩ hin hout; exact opw_cmp .eql _ _ _ _ .u8 _ _ false rfl ((hin 10 88 rfl).trans (hS 10 _ rfl (hW.of 10 (by decide)))) ((hin 13 91 rfl).trans (hS 13 _ rfl (hW.of 13 (by decide)))) HCC.out ⟨_, rfl, hS.step 14 _ (.inr rfl), hH⟩
          · refine RegStep3.yes 4 true rfl (fun L u w1 hW hI => hI.1 4 _ rfl (hW.of 4 (by decide))) ?_; rintro L u w1 bA hL hW hD hU ⟨hS, hH⟩ hin hout; exact opw_pickT _ _ _ _ rfl ((hin 9 87 rfl).trans (hS 9 _ rfl (hW.of 9 (by decide)))) ((hin 14 92 rfl).trans (hS 14 _ rfl (hW.of 14 (by decide)))) ⟨_, rfl, hS.step 15 _ (.inr rfl), hH⟩
          · refine RegStep3.yes 4 true rfl (fun L u w1 hW hI => hI.1 4 _ rfl (hW.of 4 (by decide))) ?_; rintro L u w1 bA hL hW hD hU ⟨hS, hH⟩ hin hout; exact opw_eqBool _ _ _ _ _ _ Tryd.underlying4 rfl ((hin 7 85 rfl).trans (hS 7 _ rfl (hW.of 7 (by decide)))) ((hin 15 93 rfl).trans (hS 15 _ rfl (hW.of 15 (by decide)))) true rfl ⟨_, rfl, hS.step 16 _ (.inr rfl), hH⟩
          · refine RegStep3.plain rfl ?_; rintro L u w1 bA hL hW hD hU ⟨hS, hH⟩ hin hout; exact opw_pickT _ _ _ _ rfl ((hin 4 82 rfl).trans (hS 4 _ rfl (hW.of 4 (by decide)))) ((hin 16 94 rfl).trans (hS 16 _ rfl (hW.of 16 (by decide)))) ⟨_, rfl, hS.step 17 _ (.inr rfl), hH⟩
          · refine RegStep3.plain rfl ?_; rintro L u w1 bA hL hW hD hU ⟨hS, hH⟩ hin hout; exact opw_move _ _ (.inl rfl) ((hin 17 95 rfl).trans (hS 17 _ rfl (hW.of 17 (by decide)))) ⟨_, rfl, hS.step 18 _ (.inr rfl), hH⟩
          · refine RegStep3.no 18 false rfl ?_; rintro L u w1 hL hW hD ⟨hS, hH⟩; exact ⟨hS 18 _ rfl (hW.of 18 (by decide)), hS.step 19 _ (.inr rfl), hH⟩
          · refine RegStep3.no 18 false rfl ?_; rintro L u w1 hL hW hD ⟨hS, hH⟩; exact ⟨hS 18 _ rfl (hW.of 18 (by decide)), hS.step 20 _ (.inr rfl), hH⟩
          · refine RegStep3.no 18 false rfl ?_; rintro L u w1 hL hW hD ⟨hS, hH⟩; exact ⟨hS 18 _ rfl (hW.of 18 (by decide)), hS.step 21 _ (.inr rfl), hH⟩
          · refine RegStep3.noU 21 true rfl ?_; rintro L u w1 hL hW hD ⟨hS, hH⟩; exact ⟨hS 21 _ rfl (hW.of 21 (by decide)), hS.step 22 _ (.inr rfl), hH⟩
          · refine RegStep3.noU 21 true rfl ?_; rintro L u w1 hL hW hD ⟨hS, hH⟩; exact ⟨hS 21 _ rfl (hW.of 21 (by decide)), hS.step 23 _ (.inr rfl), hH⟩
          · refine RegStep3.noU 21 true rfl ?_; rintro L u w1 hL hW hD ⟨hS, hH⟩; exact ⟨hS 21 _ rfl (hW.of 21 (by decide)), hS.step 24 _ (.inr rfl), hH⟩
          · refine RegStep3.no 18 false rfl ?_; rintro L u w1 hL hW hD ⟨hS, hH⟩; exact ⟨hS 18 _ rfl (hW.of 18 (by decide)), hS.step 25 _ (.inr rfl), hH⟩
          · refine RegStep3.no 18 false rfl ?_; rintro L u w1 hL hW hD ⟨hS, hH⟩; exact ⟨hS 18 _ rfl (hW.of 18 (by decide)), hS.step 26 _ (.inr rfl), hH⟩
          · refine RegStep3.noU 26 true rfl ?_; rintro L u w1 hL hW hD ⟨hS, hH⟩; exact ⟨hS 26 _ rfl (hW.of 26 (by decide)), hS.step 27 _ (.inr rfl), hH⟩
          · refine RegStep3.noU 26 true rfl ?_; rintro L u w1 hL hW hD ⟨hS, hH⟩; exact ⟨hS 26 _ rfl (hW.of 26 (by decide)), hS.step 28 _ (.inr rfl), hH⟩
          · refine RegStep3.noU 26 true rfl ?_; rintro L u w1 hL hW hD ⟨hS, hH⟩; exact ⟨hS 26 _ rfl (hW.of 26 (by decide)), hS.step 29 _ (.inr rfl), hH⟩
          · refine RegStep3.no 18 false rfl ?_; rintro L u w1 hL hW hD ⟨hS, hH⟩; exact ⟨hS 18 _ rfl (hW.of 18 (by decide)), hS.step 30 _ (.inr rfl), hH⟩
          · refine RegStep3.plain rfl ?_; rintro L u w1 bA hL hW hD hU ⟨hS, hH⟩ hin hout; exact opw_pickT _ _ _ _ rfl ((hin 18 96 rfl).trans (hS 18 _ rfl (hW.of 18 (by decide)))) rfl ⟨_, rfl, hS.step 31 _ (.inr rfl), hH⟩
          · refine RegStep3.plain rfl ?_; rintro L u w1 bA hL hW hD hU ⟨hS, hH⟩ hin hout; exact opw_move _ _ (.inr rfl) ((hin 31 109 rfl).trans (hS 31 _ rfl (hW.of 31 (by decide)))) ⟨_, rfl, hS.step 32 _ (.inr rfl), hH⟩
        intro L u w9 hL ⟨hS, hH⟩
        have E := hS 32 _ rfl (hL 32 (by decide))
        simp only [frame_cons, frame_nil, E, Act.put, List.setIfInBounds_toArray, List.set_cons_zero, List.set_cons_succ]
        have H9 := Lib.hid hH
        clear hL hS hH E
        go_wp2
        go_ret
        exact ⟨rfl, H9.out.right.right.right⟩
      ·
        have HR48 : Hid (cmpZ .geq (c.toNat : Int) 48 = some true) := Lib.hid (by simp only [cmpZ]; simp; omega)
        have HR57 : Hid (cmpZ .leq (c.toNat : Int) 57 = some false) := Lib.hid (by simp only [cmpZ]; simp; omega)
        have HR97 : Hid (cmpZ .geq (c.toNat : Int) 97 = some true) := Lib.hid (by simp only [cmpZ]; simp; omega)
        have HR102 : Hid (cmpZ .leq (c.toNat : Int) 102 = some true) := Lib.hid (by simp only [cmpZ]; simp; omega)
        clear hrg
        go_wp2_with (first
          | (fail)
          | ((first | (with_reducible refine wpList_plain rfl ?_) | ((with_reducible refine wpList_yes _ _ rfl ?_ ?_); (focus rfl))); intro _ hk; (first
            | (refine opw_cmp .geq _ _ _ _ .u8 (c.toNat : Int) 48 true rfl rfl rfl HR48.out (hk _ _ ?_))
            | (refine opw_cmp .leq _ _ _ _ .u8 (c.toNat : Int) 57 false rfl rfl rfl HR57.out (hk _ _ ?_))
            | (refine opw_cmp .geq _ _ _ _ .u8 (c.toNat : Int) 97 true rfl rfl rfl HR97.out (hk _ _ ?_))
            | (refine opw_cmp .leq _ _ _ _ .u8 (c.toNat : Int) 102 true rfl rfl rfl HR102.out (hk _ _ ?_))); simp only [Act.put, List.setIfInBounds_toArray, List.set_cons_zero, List.set_cons_succ]))
        refine wp_region_inv3 (fun L u w' => Slots (fun kk => ([some (.int .i64 0), some (.bool true), some (.bool true), some (.bool true), some (.bool true), some (.agg (bcells X).toArray), some (.agg (bcells a).toArray), some (.bool false), some (.bool true), some (.bool true), some (.int .u8 ((c).toNat : Int)), some (.string (str S)), some (.int .i64 ((k : Nat) : Int)), some (.int .u8 ((CK).toNat : Int)), some (.bool false), some (.bool false), some (.bool true), some (.bool true), some (.bool true), some undef, some undef, some undef, some undef, some undef, some undef, some undef, some undef, some undef, some undef, some undef, some undef, some (.bool true), some (.bool true)] : List (Option Value)).getD kk none) L u ∧ Has st (sep (blk p11 (.cells (bcells X).toArray 24 (0, 0))) (sep (blk p5 (.cells (bcells b).toArray 24 (0, 0))) (sep (blk p4 (.cells (bcells a).toArray 24 (0, 0))) R))) w') (by kernel_rfl) (by decide +kernel) (by decide +kernel) (by kernel_rfl) (by kernel_rfl) (fun u => ⟨Slots.start _ u, H8.out.drew⟩) ?_ ?_
        · refine ⟨?_, ?_, ?_, ?_, ?_, ?_, ?_, ?_, ?_, ?_, ?_, ?_, ?_, ?_, ?_, ?_, ?_, ?_, ?_, ?_, ?_, ?_, ?_, ?_, ?_, ?_, ?_, ?_, ?_, ?_, ?_, ?_, ?_, trivial⟩
          · refine RegStep3.plain rfl ?_; rintro L u w1 bA hL hW hD hU ⟨hS, hH⟩ hin hout; exact opw_move _ _ (.inl rfl) ((hout 12 (by kernel_rfl)).trans (by kernel_rfl)) ⟨_, rfl, hS.step 0 _ (.inr rfl), hH⟩
          · refine RegStep3.plain rfl ?_; rintro L u w1 bA hL hW hD hU ⟨hS, hH⟩ hin hout; exact opw_cmp .eql _ _ _ _ .i64 _ _ true rfl ((hin 0 78 rfl).trans (hS 0 _ rfl (hW.of 0 (by decide)))) rfl (by decide) ⟨_, rfl, hS.step 1 _ (.inr rfl), hH⟩
          · refine RegStep3.plain rfl ?_; rintro L u w1 bA hL hW hD hU ⟨hS, hH⟩ hin hout; exact opw_move _ _ (.inl rfl) ((hout 13 (by kernel_rfl)).trans (by kernel_rfl)) ⟨_, rfl, hS.step 2 _ (.inr rfl), hH⟩
          · refine RegStep3.plain rfl ?_; rintro L u w1 bA hL hW hD hU ⟨hS, hH⟩ hin hout; exact opw_eqBool _ _ _ _ _ _ Tryd.underlying4 rfl ((hin 1 79 rfl).trans (hS 1 _ rfl (hW.of 1 (by decide)))) ((hin 2 80 rfl).trans (hS 2 _ rfl (hW.of 2 (by decide)))) true rfl ⟨_, rfl, hS.step 3 _ (.inr rfl), hH⟩
          · refine RegStep3.plain rfl ?_; rintro L u w1 bA hL hW hD hU ⟨hS, hH⟩ hin hout; exact opw_move _ _ (.inl rfl) ((hin 3 81 rfl).trans (hS 3 _ rfl (hW.of 3 (by decide)))) ⟨_, rfl, hS.step 4 _ (.inr rfl), hH⟩
          · refine RegStep3.yes 4 true rfl (fun L u w1 hW hI => hI.1 4 _ rfl (hW.of 4 (by decide))) ?_; rintro L u w1 bA hL hW hD hU ⟨hS, hH⟩ hin hout; exact opw_loadRow _ _ rfl _ ((hout 11 (by kernel_rfl)).trans (by kernel_rfl)) 24 _ _ _ Tryd.underlying24 rfl HI.out (hH) ⟨_, rfl, hS.step 5 _ (.inr rfl), hH⟩
          · refine RegStep3.yes 4 true rfl (fun L u w1 hW hI => hI.1 4 _ rfl (hW.of 4 (by decide))) ?_; rintro L u w1 bA hL hW hD hU ⟨hS, hH⟩ hin hout; exact opw_loadRow _ _ rfl _ ((hout 4 (by kernel_rfl)).trans (by kernel_rfl)) 24 _ _ _ Tryd.underlying24 rfl HIA.out (hH.right.right) ⟨_, rfl, hS.step 6 _ (.inr rfl), hH⟩
          · refine RegStep3.yes 4 true rfl (fun L u w1 hW hI => hI.1 4 _ rfl (hW.of 4 (by decide))) ?_; rintro L u w1 bA hL hW hD hU ⟨hS, hH⟩ hin hout; exact opw_eqRow _ _ 5 32 _ _ X a Tryd.underlying24 Tryd.underlying5 infosz (by kernel_rfl) HXL.out HA.out rfl ((hin 5 83 rfl).trans (hS 5 _ rfl (hW.of 5 (by decide)))) ((hin 6 84 rfl).trans (hS 6 _ rfl (hW.of 6 (by decide)))) false HXA.out ⟨_, rfl, hS.step 7 _ (.inr rfl), hH⟩
          · refine RegStep3.yes 4 true rfl (fun L u w1 hW hI => hI.1 4 _ rfl (hW.of 4 (by decide))) ?_; rintro L u w1 bA hL hW hD hU ⟨hS, hH⟩ hin hout; exact opw_move _ _ (.inl rfl) ((hout 13 (by kernel_rfl)).trans (by kernel_rfl)) ⟨_, rfl, hS.step 8 _ (.inr rfl), hH⟩
          · refine RegStep3.yes 4 true rfl (fun L u w1 hW hI => hI.1 4 _ rfl (hW.of 4 (by decide))) ?_; rintro L u w1 bA hL hW hD hU ⟨hS, hH⟩ hin hout; exact opw_move _ _ (.inl rfl) ((hin 8 86 rfl).trans (hS 8 _ rfl (hW.of 8 (by decide)))) ⟨_, rfl, hS.step 9 _ (.inr rfl), hH⟩
          · refine RegStep3.yes 9 true rfl (fun L u w1 hW hI => hI.1 9 _ rfl (hW.of 9 (by decide))) ?_; rintro L u w1 bA hL hW hD hU ⟨hS, hH⟩ hin hout; exact opw_move _ _ (.inl rfl) ((hout 3 (by kernel_rfl)).trans (by kernel_rfl)) ⟨_, rfl, hS.step 10 _ (.inr rfl), hH⟩
          · refine RegStep3.yes 9 true rfl (fun L u w1 hW hI => hI.1 9 _ rfl (hW.of 9 (by decide))) ?_; rintro L u w1 bA hL hW hD hU ⟨hS, hH⟩ hin hout; exact opw_move _ _ (.inl rfl) ((hout 9 (by kernel_rfl)).trans (by kernel_rfl)) ⟨_, rfl, hS.step 11 _ (.inr rfl), hH⟩
          · refine RegStep3.yes 9 true rfl (fun L u w1 hW hI => hI.1 9 _ rfl (hW.of 9 (by decide))) ?_; rintro L u w1 bA hL hW hD hU ⟨hS, hH⟩ hin hout; exact opw_move _ _ (.inl rfl) ((hout 2 (by kernel_rfl)).trans (by kernel_rfl)) ⟨_, rfl, hS.step 12 _ (.inr rfl), hH⟩
          · refine RegStep3.yes 9 true rfl (fun L u w1 hW hI => hI.1 9 _ rfl (hW.of 9 (by decide))) ?_; rintro L u w1 bA hL hW hD hU ⟨hS, hH⟩ hin hout; exact opw_indexStr _ _ _ rfl Tryd.underlying9 (str S) ((hin 11 89 rfl).trans (hS 11 _ rfl (hW.of 11 (by decide)))) .i64 k ((hin 12 90 rfl).trans (hS 12 _ rfl (hW.of 12 (by decide)))) CK HCK.out ⟨_, rfl, hS.step 13 _ (.inr rfl), hH⟩
          · refine RegStep3.yes 9 true rfl (fun L u w1 hW hI => hI.1 9 _ rfl (hW.of 9 (by decide))) ?_; rintro L u w1 bA hL hW hD hU ⟨hS, hH⟩ hin hout; exact opw_cmp .eql _ _ _ _ .u8 _ _ false rfl ((hin 10 88 rfl).trans (hS 10 _ rfl (hW.of 10 (by decide)))) ((hin 13 91 rfl).trans (hS 13 _ rfl (hW.of 13 (by decide)))) HCC.out ⟨_, rfl, hS.step 14 _ (.inr rfl), hH⟩
          · refine RegStep3.yes 4 true rfl (fun L u w1 hW hI => hI.1 4 _ rfl (hW.of 4 (by decide))) ?_; rintro L u w1 bA hL hW hD hU ⟨hS, hH⟩ hin hout; exact opw_pickT _ _ _ _ rfl ((hin 9 87 rfl).trans (hS 9 _ rfl (hW.of 9 (by decide)))) ((hin 14 92 rfl).trans (hS 14 _ rfl (hW.of 14 (by decide)))) ⟨_, rfl, hS.step 15 _ (.inr rfl), hH⟩
          · refine RegStep3.yes 4 true rfl (fun L u w1 hW hI => hI.1 4 _ rfl (hW.of 4 (by decide))) ?_; rintro L u w1 bA hL hW hD hU ⟨hS, hH⟩ hin hout; exact opw_eqBool _ _ _ _ _ _ Tryd.underlying4 rfl ((hin 7 85 rfl).trans (hS 7 _ rfl (hW.of 7 (by decide)))) ((hin 15 93 rfl).trans (hS 15 _ rfl (hW.of 15 (by decide)))) true rfl ⟨_, rfl, hS.step 16 _ (.inr rfl), hH⟩
          · refine RegStep3.plain rfl ?_; rintro L u w1 bA hL hW hD hU ⟨hS, hH⟩ hin hout; exact opw_pickT _ _ _ _ rfl ((hin 4 82 rfl).trans (hS 4 _ rfl (hW.of 4 (by decide)))) ((hin 16 94 rfl).trans (hS 16 _ rfl (hW.of 16 (by decide)))) ⟨_, rfl, hS.step 17 _ (.inr rfl), hH⟩
          · refine RegStep3.plain rfl ?_; rintro L u w1 bA hL hW hD hU ⟨hS, hH⟩ hin hout; exact opw_move _ _ (.inl rfl) ((hin 17 95 rfl).trans (hS 17 _ rfl (hW.of 17 (by decide)))) ⟨_, rfl, hS.step 18 _ (.inr rfl), hH⟩
          · refine RegStep3.no 18 false rfl ?_; rintro L u w1 hL hW hD ⟨hS, hH⟩; exact ⟨hS 18 _ rfl (hW.of 18 (by decide)), hS.step 19 _ (.inr rfl), hH⟩
          · refine RegStep3.no 18 false rfl ?_; rintro L u w1 hL hW hD ⟨hS, hH⟩; exact ⟨hS 18 _ rfl (hW.of 18 (by decide)), hS.step 20 _ (.inr rfl), hH⟩
          · refine RegStep3.no 18 false rfl ?_; rintro L u w1 hL hW hD ⟨hS, hH⟩; exact ⟨hS 18 _ rfl (hW.of 18 (by decide)), hS.step 21 _ (.inr rfl), hH⟩
          · refine RegStep3.noU 21 true rfl ?_; rintro L u w1 hL hW hD ⟨hS, hH⟩; exact ⟨hS 21 _ rfl (hW.of 21 (by decide)), hS.step 22 _ (.inr rfl), hH⟩
          · refine RegStep3.noU 21 true rfl ?_; rintro L u w1 hL hW hD ⟨hS, hH⟩; exact ⟨hS 21 _ rfl (hW.of 21 (by decide)), hS.step 23 _ (.inr rfl), hH⟩
          · refine RegStep3.noU 21 true rfl ?_; rintro L u w1 hL hW hD ⟨hS, hH⟩; exact ⟨hS 21 _ rfl (hW.of 21 (by decide)), hS.step 24 _ (.inr rfl), hH⟩
          · refine RegStep3.no 18 false rfl ?_; rintro L u w1 hL hW hD ⟨hS, hH⟩; exact ⟨hS 18 _ rfl (hW.of 18 (by decide)), hS.step 25 _ (.inr rfl), hH⟩
          · refine RegStep3.no 18 false rfl ?_; rintro L u w1 hL hW hD ⟨hS, hH⟩; exact ⟨hS 18 _ rfl (hW.of 18 (by decide)), hS.step 26 _ (.inr rfl), hH⟩
          · refine RegStep3.noU 26 true rfl ?_; rintro L u w1 hL hW hD ⟨hS, hH⟩; exact ⟨hS 26 _ rfl (hW.of 26 (by decide)), hS.step 27 _ (.inr rfl), hH⟩
          · refine RegStep3.noU 26 true rfl ?_; rintro L u w1 hL hW hD ⟨hS, hH⟩; exact ⟨hS 26 _ rfl (hW.of 26 (by decide)), hS.step 28 _ (.inr rfl), hH⟩
          · refine RegStep3.noU 26 true rfl ?_; rintro L u w1 hL hW hD ⟨hS, hH⟩; exact ⟨hS 26 _ rfl (hW.of 26 (by decide)), hS.step 29 _ (.inr rfl), hH⟩
          · refine RegStep3.no 18 false rfl ?_; rintro L u w1 hL hW hD ⟨hS, hH⟩; exact ⟨hS 18 _ rfl (hW.of 18 (by decide)), hS.step 30 _ (.inr rfl), hH⟩
          · refine RegStep3.plain rfl ?_; rintro L u w1 bA hL hW hD hU ⟨hS, hH⟩ hin hout; exact opw_pickT _ _ _ _ rfl ((hin 18 96 rfl).trans (hS 18 _ rfl (hW.of 18 (by decide)))) rfl ⟨_, rfl, hS.step 31 _ (.inr rfl), hH⟩
          · refine RegStep3.plain rfl ?_; rintro L u w1 bA hL hW hD hU ⟨hS, hH⟩ hin hout; exact opw_move _ _ (.inr rfl) ((hin 31 109 rfl).trans (hS 31 _ rfl (hW.of 31 (by decide)))) ⟨_, rfl, hS.step 32 _ (.inr rfl), hH⟩
        intro L u w9 hL ⟨hS, hH⟩
        have E := hS 32 _ rfl (hL 32 (by decide))
        simp only [frame_cons, frame_nil, E, Act.put, List.setIfInBounds_toArray, List.set_cons_zero, List.set_cons_succ]
        have H9 := Lib.hid hH
        clear hL hS hH E
        go_wp2
        go_ret
        exact ⟨rfl, H9.out.right.right.right⟩
  ·
    obtain ⟨X, hX⟩ : ∃ X, X = List.replicate 32 (0 : UInt8) := ⟨_, rfl⟩
    have hXl : X.length = 32 := by rw [hX]; rfl
    have HPV : Hid (∀ RR w, Has st RR w → Calls Tryd.prog 8 #[.string (str (S.take k ++ [c] ++ S.drop (k + 1)))] w fun e w' => e = .returned (.tuple #[.agg (bcells X).toArray, .int .i64 21]) ∧ Has st RR w') := Lib.hid fun RR w h => by
      have := HPA.out RR w h
      rw [parse_no (by rw [HOK.out]; simpa using hd), ← hX] at this
      exact this
    have hix : (Tryd.prog.info? 24).map (·.size) = some (bcells X).toArray.size := by simp only [List.size_toArray, bcells_length, hXl]; exact infoID
    have hz2 : (bcells (List.replicate 32 (0 : UInt8))).toArray.size = (bcells X).toArray.size := by simp only [List.size_toArray, bcells_length, hXl]; rfl
    have HI := Lib.hid hix
    have HI2 := Lib.hid hz2
    have HXL := Lib.hid hXl
    have HX := Lib.hid hX
    have HDD := Lib.hid hd
    clear hXl hix hz2 hX hd
    refine wp_region_inv3 (fun L u w' => Slots (fun kk => ([some (.string (str S)), some (.int .i64 ((k : Nat) : Int)), some (.string (str (S.take k))), some (.int .u8 ((c).toNat : Int)), none, some (.string (str [c])), some (.string (str ((S.take k) ++ [c]))), some (.string (str S)), some (.int .i64 ((k : Nat) : Int)), some (.int .i64 (((k + 1) : Nat) : Int)), some (.string (str (S.drop (k + 1)))), some (.string (str (((S.take k) ++ [c]) ++ (S.drop (k + 1))))), some (.tuple #[(.agg (bcells X).toArray), (.int .i64 21)]), some (.tuple #[(.agg (bcells X).toArray), (.int .i64 21)]), some (.agg (bcells X).toArray), some (.int .i64 21), none, none, some (.int .i64 21)] : List (Option Value)).getD kk none) L u ∧ Has st (sep (vlit (L 4) (u 4) (bcells [c]).toArray 1 5) (sep (vrow (L 16) (L 17) (u 16) (bcells (List.replicate 32 (0 : UInt8))).toArray (bcells X).toArray 24) (sep (blk p5 (.cells (bcells b).toArray 24 (0, 0))) (sep (blk p4 (.cells (bcells a).toArray 24 (0, 0))) R)))) w') (by kernel_rfl) (by decide +kernel) (by decide +kernel) (by kernel_rfl) (by kernel_rfl) (fun u => ⟨Slots.start _ u, ((HW.out.drew).vrow_no.vlit_no)⟩) ?_ ?_
    · refine ⟨?_, ?_, ?_, ?_, ?_, ?_, ?_, ?_, ?_, ?_, ?_, ?_, ?_, ?_, ?_, ?_, ?_, ?_, ?_, trivial⟩
      · refine RegStep3.plain rfl ?_; rintro L u w1 bA hL hW hD hU ⟨hS, hH⟩ hin hout; exact opw_move _ _ (.inl rfl) ((hout 9 (by kernel_rfl)).trans (by kernel_rfl)) ⟨_, rfl, hS.step 0 _ (.inr rfl), hH⟩
      · refine RegStep3.plain rfl ?_; rintro L u w1 bA hL hW hD hU ⟨hS, hH⟩ hin hout; exact opw_move _ _ (.inl rfl) ((hout 2 (by kernel_rfl)).trans (by kernel_rfl)) ⟨_, rfl, hS.step 1 _ (.inr rfl), hH⟩
      · refine RegStep3.plain rfl ?_; rintro L u w1 bA hL hW hD hU ⟨hS, hH⟩ hin hout; exact opw_slTo _ _ _ Tryd.underlying9 rfl S k ((hin 0 49 rfl).trans (hS 0 _ rfl (hW.of 0 (by decide)))) ((hin 1 50 rfl).trans (hS 1 _ rfl (hW.of 1 (by decide)))) hkS ⟨_, rfl, hS.step 2 _ (.inr rfl), hH⟩
      · refine RegStep3.plain rfl ?_; rintro L u w1 bA hL hW hD hU ⟨hS, hH⟩ hin hout; exact opw_move _ _ (.inl rfl) ((hout 3 (by kernel_rfl)).trans (by kernel_rfl)) ⟨_, rfl, hS.step 3 _ (.inr rfl), hH⟩
      · refine RegStep3.plain rfl ?_; rintro L u w1 bA hL hW hD hU ⟨hS, hH⟩ hin hout; exact opw_lit _ 1 _ [(0, (.int .u8 ((c).toNat : Int)))] 5 (bcells [c]).toArray rfl (pair2 ((hin 3 52 rfl).trans (hS 3 _ rfl (hW.of 3 (by decide)))) rfl) (by kernel_rfl) (hH.vlit_new hL) (fun q w4 h4 => ⟨_, rfl, hS.step 4 _ (.inl rfl), (show Has st (sep (vlit true (.slice (some ⟨q, 0, none⟩) 1 1) (bcells [c]).toArray 1 5) (sep (vrow (L 16) (L 17) (u 16) (bcells (List.replicate 32 (0 : UInt8))).toArray (bcells X).toArray 24) (sep (blk p5 (.cells (bcells b).toArray 24 (0, 0))) (sep (blk p4 (.cells (bcells a).toArray 24 (0, 0))) R)))) w4 from (h4.vlit_mk).cast (by ac_rfl))⟩)
      · refine RegStep3.plain rfl ?_; rintro L u w1 bA hL hW hD hU ⟨hS, hH⟩ hin hout; exact opw_toStr _ _ 5 _ Tryd.underlying22 Tryd.underlying5 Tryd.underlying9 rfl _ 1 [c] (hin 4 53 rfl) (hH.vlit_rd (hW.of 4 (by decide)) rfl (by decide)) ⟨_, rfl, hS.step 5 _ (.inr rfl), hH⟩
      · refine RegStep3.plain rfl ?_; rintro L u w1 bA hL hW hD hU ⟨hS, hH⟩ hin hout; exact opw_addStr _ _ _ _ _ _ rfl ((hin 2 51 rfl).trans (hS 2 _ rfl (hW.of 2 (by decide)))) ((hin 5 54 rfl).trans (hS 5 _ rfl (hW.of 5 (by decide)))) (by simp [HSL.out]; omega) ⟨_, rfl, hS.step 6 _ (.inr rfl), hH⟩
      · refine RegStep3.plain rfl ?_; rintro L u w1 bA hL hW hD hU ⟨hS, hH⟩ hin hout; exact opw_move _ _ (.inl rfl) ((hout 9 (by kernel_rfl)).trans (by kernel_rfl)) ⟨_, rfl, hS.step 7 _ (.inr rfl), hH⟩
      · refine RegStep3.plain rfl ?_; rintro L u w1 bA hL hW hD hU ⟨hS, hH⟩ hin hout; exact opw_move _ _ (.inl rfl) ((hout 2 (by kernel_rfl)).trans (by kernel_rfl)) ⟨_, rfl, hS.step 8 _ (.inr rfl), hH⟩
      · refine RegStep3.plain rfl ?_; rintro L u w1 bA hL hW hD hU ⟨hS, hH⟩ hin hout; exact opw_bin .add _ _ _ _ .i64 _ _ _ rfl ((hin 8 57 rfl).trans (hS 8 _ rfl (hW.of 8 (by decide)))) rfl (bin_add (k) (1) (by omega)) ⟨_, rfl, hS.step 9 _ (.inr rfl), hH⟩
      · refine RegStep3.plain rfl ?_; rintro L u w1 bA hL hW hD hU ⟨hS, hH⟩ hin hout; exact opw_slFrom _ _ _ Tryd.underlying9 rfl S (k + 1) ((hin 7 56 rfl).trans (hS 7 _ rfl (hW.of 7 (by decide)))) ((hin 9 58 rfl).trans (hS 9 _ rfl (hW.of 9 (by decide)))) hkS1 ⟨_, rfl, hS.step 10 _ (.inr rfl), hH⟩
      · refine RegStep3.plain rfl ?_; rintro L u w1 bA hL hW hD hU ⟨hS, hH⟩ hin hout; exact opw_addStr _ _ _ _ _ _ rfl ((hin 6 55 rfl).trans (hS 6 _ rfl (hW.of 6 (by decide)))) ((hin 10 59 rfl).trans (hS 10 _ rfl (hW.of 10 (by decide)))) (by simp [HSL.out]; omega) ⟨_, rfl, hS.step 11 _ (.inr rfl), hH⟩
      · refine RegStep3.plain rfl ?_; rintro L u w1 bA hL hW hD hU ⟨hS, hH⟩ hin hout; exact opw_call_ret _ _ _ [(.string (str (((S.take k) ++ [c]) ++ (S.drop (k + 1)))))] rfl (by kernel_rfl) (list2 ((hin 11 60 rfl).trans (hS 11 _ rfl (hW.of 11 (by decide)))) rfl) (HPV.out _ _ hH) (fun e w2 he => by obtain ⟨rfl, h2⟩ := he; exact ⟨_, rfl, _, rfl, hS.step 12 _ (.inr rfl), h2⟩)
      · refine RegStep3.plain rfl ?_; rintro L u w1 bA hL hW hD hU ⟨hS, hH⟩ hin hout; exact opw_move _ _ (.inl rfl) ((hin 12 61 rfl).trans (hS 12 _ rfl (hW.of 12 (by decide)))) ⟨_, rfl, hS.step 13 _ (.inr rfl), hH⟩
      · refine RegStep3.plain rfl ?_; rintro L u w1 bA hL hW hD hU ⟨hS, hH⟩ hin hout; exact opw_extract _ 0 _ _ rfl ((hin 13 48 rfl).trans (hS 13 _ rfl (hW.of 13 (by decide)))) rfl ⟨_, rfl, hS.step 14 _ (.inr rfl), hH⟩
      · refine RegStep3.plain rfl ?_; rintro L u w1 bA hL hW hD hU ⟨hS, hH⟩ hin hout; exact opw_extract _ 1 _ _ rfl ((hin 13 48 rfl).trans (hS 13 _ rfl (hW.of 13 (by decide)))) rfl ⟨_, rfl, hS.step 15 _ (.inr rfl), hH⟩
      · refine RegStep3.plain rfl ?_; rintro L u w1 bA hL hW hD hU ⟨hS, hH⟩ hin hout; exact opw_alloc 24 (.agg (bcells (List.replicate 32 (0 : UInt8))).toArray) (bcells (List.replicate 32 (0 : UInt8))).toArray rfl zeroID rfl ((hH.cast (show _ = sep (vrow (L 16) (L 17) (u 16) (bcells (List.replicate 32 (0 : UInt8))).toArray (bcells X).toArray 24) (sep (vlit (L 4) (u 4) (bcells [c]).toArray 1 5) (sep (blk p5 (.cells (bcells b).toArray 24 (0, 0))) (sep (blk p4 (.cells (bcells a).toArray 24 (0, 0))) R))) by ac_rfl)).vrow_new hL) (fun p w4 _ h4 => ⟨_, rfl, hS.step 16 _ (.inl rfl), (show Has st (sep (vlit (L 4) (u 4) (bcells [c]).toArray 1 5) (sep (vrow true (L 17) (.pointer (some ⟨p, 0, none⟩)) (bcells (List.replicate 32 (0 : UInt8))).toArray (bcells X).toArray 24) (sep (blk p5 (.cells (bcells b).toArray 24 (0, 0))) (sep (blk p4 (.cells (bcells a).toArray 24 (0, 0))) R)))) w4 from (h4.vrow_mk (hD.nots 1 17 16 hL (by decide +kernel))).cast (by ac_rfl))⟩)
      · refine RegStep3.plain rfl ?_; rintro L u w1 bA hL hW hD hU ⟨hS, hH⟩ hin hout; obtain ⟨p, hp, h4⟩ := (hH.cast (show _ = sep (vrow (L 16) (L 17) (u 16) (bcells (List.replicate 32 (0 : UInt8))).toArray (bcells X).toArray 24) (sep (vlit (L 4) (u 4) (bcells [c]).toArray 1 5) (sep (blk p5 (.cells (bcells b).toArray 24 (0, 0))) (sep (blk p4 (.cells (bcells a).toArray 24 (0, 0))) R))) by ac_rfl)).vrow_open (hW.of 16 (by decide)); rw [hL] at h4; exact opw_storeRow 24 _ _ rfl p (bcells X).toArray ((hin 16 11 rfl).trans hp) ((hin 14 62 rfl).trans (hS 14 _ rfl (hW.of 14 (by decide)))) 24 (bcells (List.replicate 32 (0 : UInt8))).toArray HI.out HI2.out (bcells_all _) h4 (fun w9 h9 => ⟨_, rfl, hS.step 17 _ (.inl rfl), (show Has st (sep (vlit (L 4) (u 4) (bcells [c]).toArray 1 5) (sep (vrow (L 16) true (u 16) (bcells (List.replicate 32 (0 : UInt8))).toArray (bcells X).toArray 24) (sep (blk p5 (.cells (bcells b).toArray 24 (0, 0))) (sep (blk p4 (.cells (bcells a).toArray 24 (0, 0))) R)))) w9 from (h9.vrow_done hp (hW.of 16 (by decide))).cast (by ac_rfl))⟩)
      · refine RegStep3.plain rfl ?_; rintro L u w1 bA hL hW hD hU ⟨hS, hH⟩ hin hout; exact opw_move _ _ (.inr rfl) ((hin 15 63 rfl).trans (hS 15 _ rfl (hW.of 15 (by decide)))) ⟨_, rfl, hS.step 18 _ (.inr rfl), hH⟩
    intro L u w7 hL ⟨hS, hH⟩
    have E18 := hS 18 _ rfl (hL 18 (by decide))
    obtain ⟨p11, hp1, hH⟩ := Has.vrow_open (v := u 16) (hH.cast (show _ = sep (vrow (L 16) (L 17) (u 16) (bcells (List.replicate 32 (0 : UInt8))).toArray (bcells X).toArray 24) (sep (vlit (L 4) (u 4) (bcells [c]).toArray 1 5) (sep (blk p5 (.cells (bcells b).toArray 24 (0, 0))) (sep (blk p4 (.cells (bcells a).toArray 24 (0, 0))) R))) by ac_rfl)) (hL 16 (by decide))
    rw [hL 17 (by decide)] at hH
    simp only [frame_cons, frame_nil, E18, hp1, Act.put, List.setIfInBounds_toArray, List.set_cons_zero, List.set_cons_succ]
    have H7 := Lib.hid hH
    clear hL hS hH E18 hp1
    have H8 := Lib.hid H7.out.second.right
    clear H7
    have hd16 := digit_16 c
    rw [decide_eq_false HDD.out] at hd16
    have hrg : c.toNat < 48 ∨ (57 < c.toNat ∧ c.toNat < 97) ∨ 102 < c.toNat := by
      have hh := hd16.symm
      simp only [Bool.or_eq_false_iff, Bool.and_eq_false_iff, decide_eq_false_iff_not] at hh
      omega
    clear hd16
    by_cases hc : a = List.replicate 32 0
    ·
      have HXA : Hid ((X == a) = true) := Lib.hid (by rw [HX.out]; rw [hc]; exact beq_self_eq_true _)
      have HAZ : Hid ((a == List.replicate 32 (0 : UInt8)) = true) := Lib.hid (by rw [hc]; exact beq_self_eq_true _)
      clear hc
      rcases hrg with hrg | hrg | hrg
      ·
        have HR48 : Hid (cmpZ .geq (c.toNat : Int) 48 = some false) := Lib.hid (by simp only [cmpZ]; simp; omega)
        have HR97 : Hid (cmpZ .geq (c.toNat : Int) 97 = some false) := Lib.hid (by simp only [cmpZ]; simp; omega)
        clear hrg
        go_wp2_with (first
          | (fail)
          | ((first | (with_reducible refine wpList_plain rfl ?_) | ((with_reducible refine wpList_yes _ _ rfl ?_ ?_); (focus rfl))); intro _ hk; (first
            | (refine opw_cmp .geq _ _ _ _ .u8 (c.toNat : Int) 48 false rfl rfl rfl HR48.out (hk _ _ ?_))
            | (refine opw_cmp .geq _ _ _ _ .u8 (c.toNat : Int) 97 false rfl rfl rfl HR97.out (hk _ _ ?_))); simp only [Act.put, List.setIfInBounds_toArray, List.set_cons_zero, List.set_cons_succ]))
        refine wp_region_inv3 (fun L u w' => Slots (fun kk => ([some (.int .i64 21), some (.bool false), some (.bool false), some (.bool true), some (.bool true), some (.agg (bcells X).toArray), some (.agg (bcells a).toArray), some (.bool true), some (.bool false), some (.bool false), some undef, some undef, some undef, some undef, some undef, some (.bool false), some (.bool false), some (.bool false), some (.bool false), some (.bool false), some (.bool true), some (.bool true), some (.agg (bcells a).toArray), some (.agg (bcells (List.replicate 32 (0 : UInt8))).toArray), some (.bool true), some (.bool true), some (.bool true), some (.agg (bcells X).toArray), some (.agg (bcells a).toArray), some (.bool true), some (.bool true), some (.bool true), some (.bool true)] : List (Option Value)).getD kk none) L u ∧ Has st (sep (blk p11 (.cells (bcells X).toArray 24 (0, 0))) (sep (blk p5 (.cells (bcells b).toArray 24 (0, 0))) (sep (blk p4 (.cells (bcells a).toArray 24 (0, 0))) R))) w') (by kernel_rfl) (by decide +kernel) (by decide +kernel) (by kernel_rfl) (by kernel_rfl) (fun u => ⟨Slots.start _ u, H8.out.drew⟩) ?_ ?_
        · refine ⟨?_, ?_, ?_, ?_, ?_, ?_, ?_, ?_, ?_, ?_, ?_, ?_, ?_, ?_, ?_, ?_, ?_, ?_, ?_, ?_, ?_, ?_, ?_, ?_, ?_, ?_, ?_, ?_, ?_, ?_, ?_, ?_, ?_, trivial⟩
          · refine RegStep3.plain rfl ?_; rintro L u w1 bA hL hW hD hU ⟨hS, hH⟩ hin hout; exact opw_move _ _ (.inl rfl) ((hout 12 (by kernel_rfl)).trans (by kernel_rfl)) ⟨_, rfl, hS.step 0 _ (.inr rfl), hH⟩
          · refine RegStep3.plain rfl ?_; rintro L u w1 bA hL hW hD hU ⟨hS, hH⟩ hin hout; exact opw_cmp .eql _ _ _ _ .i64 _ _ false rfl ((hin 0 78 rfl).trans (hS 0 _ rfl (hW.of 0 (by decide)))) rfl (by decide) ⟨_, rfl, hS.step 1 _ (.inr rfl), hH⟩
          · refine RegStep3.plain rfl ?_; rintro L u w1 bA hL hW hD hU ⟨hS, hH⟩ hin hout; exact opw_move _ _ (.inl rfl) ((hout 13 (by kernel_rfl)).trans (by kernel_rfl)) ⟨_, rfl, hS.step 2 _ (.inr rfl), hH⟩
          · refine RegStep3.plain rfl ?_; rintro L u w1 bA hL hW hD hU ⟨hS, hH⟩ hin hout; exact opw_eqBool _ _ _ _ _ _ Tryd.underlying4 rfl ((hin 1 79 rfl).trans (hS 1 _ rfl (hW.of 1 (by decide)))) ((hin 2 80 rfl).trans (hS 2 _ rfl (hW.of 2 (by decide)))) true rfl ⟨_, rfl, hS.step 3 _ (.inr rfl), hH⟩
          · refine RegStep3.plain rfl ?_; rintro L u w1 bA hL hW hD hU ⟨hS, hH⟩ hin hout; exact opw_move _ _ (.inl rfl) ((hin 3 81 rfl).trans (hS 3 _ rfl (hW.of 3 (by decide)))) ⟨_, rfl, hS.step 4 _ (.inr rfl), hH⟩
          · refine RegStep3.yes 4 true rfl (fun L u w1 hW hI => hI.1 4 _ rfl (hW.of 4 (by decide))) ?_; rintro L u w1 bA hL hW hD hU ⟨hS, hH⟩ hin hout; exact opw_loadRow _ _ rfl _ ((hout 11 (by kernel_rfl)).trans (by kernel_rfl)) 24 _ _ _ Tryd.underlying24 rfl HI.out (hH) ⟨_, rfl, hS.step 5 _ (.inr rfl), hH⟩
          · refine RegStep3.yes 4 true rfl (fun L u w1 hW hI => hI.1 4 _ rfl (hW.of 4 (by decide))) ?_; rintro L u w1 bA hL hW hD hU ⟨hS, hH⟩ hin hout; exact opw_loadRow _ _ rfl _ ((hout 4 (by kernel_rfl)).trans (by kernel_rfl)) 24 _ _ _ Tryd.underlying24 rfl HIA.out (hH.right.right) ⟨_, rfl, hS.step 6 _ (.inr rfl), hH⟩
          · refine RegStep3.yes 4 true rfl (fun L u w1 hW hI => hI.1 4 _ rfl (hW.of 4 (by decide))) ?_; rintro L u w1 bA hL hW hD hU ⟨hS, hH⟩ hin hout; exact opw_eqRow _ _ 5 32 _ _ X a Tryd.underlying24 Tryd.underlying5 infosz (by kernel_rfl) HXL.out HA.out rfl ((hin 5 83 rfl).trans (hS 5 _ rfl (hW.of 5 (by decide)))) ((hin 6 84 rfl).trans (hS 6 _ rfl (hW.of 6 (by decide)))) true HXA.out ⟨_, rfl, hS.step 7 _ (.inr rfl), hH⟩
          · refine RegStep3.yes 4 true rfl (fun L u w1 hW hI => hI.1 4 _ rfl (hW.of 4 (by decide))) ?_; rintro L u w1 bA hL hW hD hU ⟨hS, hH⟩ hin hout; exact opw_move _ _ (.inl rfl) ((hout 13 (by kernel_rfl)).trans (by kernel_rfl)) ⟨_, rfl, hS.step 8 _ (.inr rfl), hH⟩
          · refine RegStep3.yes 4 true rfl (fun L u w1 hW hI => hI.1 4 _ rfl (hW.of 4 (by decide))) ?_; rintro L u w1 bA hL hW hD hU ⟨hS, hH⟩ hin hout; exact opw_move _ _ (.inl rfl) ((hin 8 86 rfl).trans (hS 8 _ rfl (hW.of 8 (by decide)))) ⟨_, rfl, hS.step 9 _ (.inr rfl), hH⟩
          · refine RegStep3.no 9 true rfl ?_; rintro L u w1 hL hW hD ⟨hS, hH⟩; exact ⟨hS 9 _ rfl (hW.of 9 (by decide)), hS.step 10 _ (.inr rfl), hH⟩
          · refine RegStep3.no 9 true rfl ?_; rintro L u w1 hL hW hD ⟨hS, hH⟩; exact ⟨hS 9 _ rfl (hW.of 9 (by decide)), hS.step 11 _ (.inr rfl), hH⟩
          · refine RegStep3.no 9 true rfl ?_; rintro L u w1 hL hW hD ⟨hS, hH⟩; exact ⟨hS 9 _ rfl (hW.of 9 (by decide)), hS.step 12 _ (.inr rfl), hH⟩
          · refine RegStep3.no 9 true rfl ?_; rintro L u w1 hL hW hD ⟨hS, hH⟩; exact ⟨hS 9 _ rfl (hW.of 9 (by decide)), hS.step 13 _ (.inr rfl), hH⟩
          · refine RegStep3.no 9 true rfl ?_; rintro L u w1 hL hW hD ⟨hS, hH⟩; exact ⟨hS 9 _ rfl (hW.of 9 (by decide)), hS.step 14 _ (.inr rfl), hH⟩
          · refine RegStep3.yes 4 true rfl (fun L u w1 hW hI => hI.1 4 _ rfl (hW.of 4 (by decide))) ?_; rintro L u w1 bA hL hW hD hU ⟨hS, hH⟩ hin hout; exact opw_pickF _ _ _ _ rfl ((hin 9 87 rfl).trans (hS 9 _ rfl (hW.of 9 (by decide)))) rfl ⟨_, rfl, hS.step 15 _ (.inr rfl), hH⟩
          · refine RegStep3.yes 4 true rfl (fun L u w1 hW hI => hI.1 4 _ rfl (hW.of 4 (by decide))) ?_; rintro L u w1 bA hL hW hD hU ⟨hS, hH⟩ hin hout; exact opw_eqBool _ _ _ _ _ _ Tryd.underlying4 rfl ((hin 7 85 rfl).trans (hS 7 _ rfl (hW.of 7 (by decide)))) ((hin 15 93 rfl).trans (hS 15 _ rfl (hW.of 15 (by decide)))) false rfl ⟨_, rfl, hS.step 16 _ (.inr rfl), hH⟩
          · refine RegStep3.plain rfl ?_; rintro L u w1 bA hL hW hD hU ⟨hS, hH⟩ hin hout; exact opw_pickT _ _ _ _ rfl ((hin 4 82 rfl).trans (hS 4 _ rfl (hW.of 4 (by decide)))) ((hin 16 94 rfl).trans (hS 16 _ rfl (hW.of 16 (by decide)))) ⟨_, rfl, hS.step 17 _ (.inr rfl), hH⟩
          · refine RegStep3.plain rfl ?_; rintro L u w1 bA hL hW hD hU ⟨hS, hH⟩ hin hout; exact opw_move _ _ (.inl rfl) ((hin 17 95 rfl).trans (hS 17 _ rfl (hW.of 17 (by decide)))) ⟨_, rfl, hS.step 18 _ (.inr rfl), hH⟩
          · refine RegStep3.yes 18 false rfl (fun L u w1 hW hI => hI.1 18 _ rfl (hW.of 18 (by decide))) ?_; rintro L u w1 bA hL hW hD hU ⟨hS, hH⟩ hin hout; exact opw_move _ _ (.inl rfl) ((hout 13 (by kernel_rfl)).trans (by kernel_rfl)) ⟨_, rfl, hS.step 19 _ (.inr rfl), hH⟩
          · refine RegStep3.yes 18 false rfl (fun L u w1 hW hI => hI.1 18 _ rfl (hW.of 18 (by decide))) ?_; rintro L u w1 bA hL hW hD hU ⟨hS, hH⟩ hin hout; exact opw_not _ _ _ rfl ((hin 19 97 rfl).trans (hS 19 _ rfl (hW.of 19 (by decide)))) true rfl ⟨_, rfl, hS.step 20 _ (.inr rfl), hH⟩
          · refine RegStep3.yes 18 false rfl (fun L u w1 hW hI => hI.1 18 _ rfl (hW.of 18 (by decide))) ?_; rintro L u w1 bA hL hW hD hU ⟨hS, hH⟩ hin hout; exact opw_move _ _ (.inl rfl) ((hin 20 98 rfl).trans (hS 20 _ rfl (hW.of 20 (by decide)))) ⟨_, rfl, hS.step 21 _ (.inr rfl), hH⟩
          · refine RegStep3.yes 21 true rfl (fun L u w1 hW hI => hI.1 21 _ rfl (hW.of 21 (by decide))) ?_; rintro L u w1 bA hL hW hD hU ⟨hS, hH⟩ hin hout; exact opw_loadRow _ _ rfl _ ((hout 4 (by kernel_rfl)).trans (by kernel_rfl)) 24 _ _ _ Tryd.underlying24 rfl HIA.out (hH.right.right) ⟨_, rfl, hS.step 22 _ (.inr rfl), hH⟩
          · refine RegStep3.yes 21 true rfl (fun L u w1 hW hI => hI.1 21 _ rfl (hW.of 21 (by decide))) ?_; rintro L u w1 bA hL hW hD hU ⟨hS, hH⟩ hin hout; exact opw_build _ [] [] (bcells (List.replicate 32 (0 : UInt8))).toArray rfl rfl (by kernel_rfl) ⟨_, rfl, hS.step 23 _ (.inr rfl), hH⟩
          · refine RegStep3.yes 21 true rfl (fun L u w1 hW hI => hI.1 21 _ rfl (hW.of 21 (by decide))) ?_; rintro L u w1 bA hL hW hD hU ⟨hS, hH⟩ hin hout; exact opw_eqRow _ _ 5 32 _ _ a (List.replicate 32 (0 : UInt8)) Tryd.underlying24 Tryd.underlying5 infosz (by kernel_rfl) HA.out rfl rfl ((hin 22 100 rfl).trans (hS 22 _ rfl (hW.of 22 (by decide)))) ((hin 23 101 rfl).trans (hS 23 _ rfl (hW.of 23 (by decide)))) true HAZ.out ⟨_, rfl, hS.step 24 _ (.inr rfl), hH⟩
          · refine RegStep3.yes 18 false rfl (fun L u w1 hW hI => hI.1 18 _ rfl (hW.of 18 (by decide))) ?_; rintro L u w1 bA hL hW hD hU ⟨hS, hH⟩ hin hout; exact opw_pickT _ _ _ _ rfl ((hin 21 99 rfl).trans (hS 21 _ rfl (hW.of 21 (by decide)))) ((hin 24 102 rfl).trans (hS 24 _ rfl (hW.of 24 (by decide)))) ⟨_, rfl, hS.step 25 _ (.inr rfl), hH⟩
          · refine RegStep3.yes 18 false rfl (fun L u w1 hW hI => hI.1 18 _ rfl (hW.of 18 (by decide))) ?_; rintro L u w1 bA hL hW hD hU ⟨hS, hH⟩ hin hout; exact opw_move _ _ (.inl rfl) ((hin 25 103 rfl).trans (hS 25 _ rfl (hW.of 25 (by decide)))) ⟨_, rfl, hS.step 26 _ (.inr rfl), hH⟩
          · refine RegStep3.yes 26 true rfl (fun L u w1 hW hI => hI.1 26 _ rfl (hW.of 26 (by decide))) ?_; rintro L u w1 bA hL hW hD hU ⟨hS, hH⟩ hin hout; exact opw_loadRow _ _ rfl _ ((hout 11 (by kernel_rfl)).trans (by kernel_rfl)) 24 _ _ _ Tryd.underlying24 rfl HI.out (hH) ⟨_, rfl, hS.step 27 _ (.inr rfl), hH⟩
          · refine RegStep3.yes 26 true rfl (fun L u w1 hW hI => hI.1 26 _ rfl (hW.of 26 (by decide))) ?_; rintro L u w1 bA hL hW hD hU ⟨hS, hH⟩ hin hout; exact opw_loadRow _ _ rfl _ ((hout 4 (by kernel_rfl)).trans (by kernel_rfl)) 24 _ _ _ Tryd.underlying24 rfl HIA.out (hH.right.right) ⟨_, rfl, hS.step 28 _ (.inr rfl), hH⟩
          · refine RegStep3.yes 26 true rfl (fun L u w1 hW hI => hI.1 26 _ rfl (hW.of 26 (by decide))) ?_; rintro L u w1 bA hL hW hD hU ⟨hS, hH⟩ hin hout; exact opw_eqRow _ _ 5 32 _ _ X a Tryd.underlying24 Tryd.underlying5 infosz (by kernel_rfl) HXL.out HA.out rfl ((hin 27 105 rfl).trans (hS 27 _ rfl (hW.of 27 (by decide)))) ((hin 28 106 rfl).trans (hS 28 _ rfl (hW.of 28 (by decide)))) true HXA.out ⟨_, rfl, hS.step 29 _ (.inr rfl), hH⟩
          · refine RegStep3.yes 18 false rfl (fun L u w1 hW hI => hI.1 18 _ rfl (hW.of 18 (by decide))) ?_; rintro L u w1 bA hL hW hD hU ⟨hS, hH⟩ hin hout; exact opw_pickT _ _ _ _ rfl ((hin 26 104 rfl).trans (hS 26 _ rfl (hW.of 26 (by decide)))) ((hin 29 107 rfl).trans (hS 29 _ rfl (hW.of 29 (by decide)))) ⟨_, rfl, hS.step 30 _ (.inr rfl), hH⟩
          · refine RegStep3.plain rfl ?_; rintro L u w1 bA hL hW hD hU ⟨hS, hH⟩ hin hout; exact opw_pickF _ _ _ _ rfl ((hin 18 96 rfl).trans (hS 18 _ rfl (hW.of 18 (by decide)))) ((hin 30 108 rfl).trans (hS 30 _ rfl (hW.of 30 (by decide)))) ⟨_, rfl, hS.step 31 _ (.inr rfl), hH⟩
          · refine RegStep3.plain rfl ?_; rintro L u w1 bA hL hW hD hU ⟨hS, hH⟩ hin hout; exact opw_move _ _ (.inr rfl) ((hin 31 109 rfl).trans (hS 31 _ rfl (hW.of 31 (by decide)))) ⟨_, rfl, hS.step 32 _ (.inr rfl), hH⟩
        intro L u w9 hL ⟨hS, hH⟩
        have E := hS 32 _ rfl (hL 32 (by decide))
        simp only [frame_cons, frame_nil, E, Act.put, List.setIfInBounds_toArray, List.set_cons_zero, List.set_cons_succ]
        have H9 := Lib.hid hH
        clear hL hS hH E
        go_wp2
        go_ret
        exact ⟨rfl, H9.out.right.right.right⟩
      ·
        have HR48 : Hid (cmpZ .geq (c.toNat : Int) 48 = some true) := Lib.hid (by simp only [cmpZ]; simp; omega)
        have HR57 : Hid (cmpZ .leq (c.toNat : Int) 57 = some false) := Lib.hid (by simp only [cmpZ]; simp; omega)
        have HR97 : Hid (cmpZ .geq (c.toNat : Int) 97 = some false) := Lib.hid (by simp only [cmpZ]; simp; omega)
        clear hrg
        go_wp2_with (first
          | (fail)
          | ((first | (with_reducible refine wpList_plain rfl ?_) | ((with_reducible refine wpList_yes _ _ rfl ?_ ?_); (focus rfl))); intro _ hk; (first
            | (refine opw_cmp .geq _ _ _ _ .u8 (c.toNat : Int) 48 true rfl rfl rfl HR48.out (hk _ _ ?_))
            | (refine opw_cmp .leq _ _ _ _ .u8 (c.toNat : Int) 57 false rfl rfl rfl HR57.out (hk _ _ ?_))
            | (refine opw_cmp .geq _ _ _ _ .u8 (c.toNat : Int) 97 false rfl rfl rfl HR97.out (hk _ _ ?_))); simp only [Act.put, List.setIfInBounds_toArray, List.set_cons_zero, List.set_cons_succ]))
        refine wp_region_inv3 (fun L u w' => Slots (fun kk => ([some (.int .i64 21), some (.bool false), some (.bool false), some (.bool true), some (.bool true), some (.agg (bcells X).toArray), some (.agg (bcells a).toArray), some (.bool true), some (.bool false), some (.bool false), some undef, some undef, some undef, some undef, some undef, some (.bool false), some (.bool false), some (.bool false), some (.bool false), some (.bool false), some (.bool true), some (.bool true), some (.agg (bcells a).toArray), some (.agg (bcells (List.replicate 32 (0 : UInt8))).toArray), some (.bool true), some (.bool true), some (.bool true), some (.agg (bcells X).toArray), some (.agg (bcells a).toArray), some (.bool true), some (.bool true), some (.bool true), some (.bool true)] : List (Option Value)).getD kk none) L u ∧ Has st (sep (blk p11 (.cells (bcells X).toArray 24 (0, 0))) (sep (blk p5 (.cells (bcells b).toArray 24 (0, 0))) (sep (blk p4 (.cells (bcells a).toArray 24 (0, 0))) R))) w') (by kernel_rfl) (by decide +kernel) (by decide +kernel) (by kernel_rfl) (by kernel_rfl) (fun u => ⟨Slots.start _ u, H8.out.drew⟩) ?_ ?_
        · refine ⟨?_, ?_, ?_, ?_, ?_, ?_, ?_, ?_, ?_, ?_, ?_, ?_, ?_, ?_, ?_, ?_, ?_, ?_, ?_, ?_, ?_, ?_, ?_, ?_, ?_, ?_, ?_, ?_, ?_, ?_, ?_, ?_, ?_, trivial⟩
          · refine RegStep3.plain rfl ?_; rintro L u w1 bA hL hW hD hU ⟨hS, hH⟩ hin hout; exact opw_move _ _ (.inl rfl) ((hout 12 (by kernel_rfl)).trans (by kernel_rfl)) ⟨_, rfl, hS.step 0 _ (.inr rfl), hH⟩
          · refine RegStep3.plain rfl ?_; rintro L u w1 bA hL hW hD hU ⟨hS, hH⟩ hin hout; exact opw_cmp .eql _ _ _ _ .i64 _ _ false rfl ((hin 0 78 rfl).trans (hS 0 _ rfl (hW.of 0 (by decide)))) rfl (by decide) ⟨_, rfl, hS.step 1 _ (.inr rfl), hH⟩
          · refine RegStep3.plain rfl ?_; rintro L u w1 bA hL hW hD hU ⟨hS, hH⟩ hin hout; exact opw_move _ _ (.inl rfl) ((hout 13 (by kernel_rfl)).trans (by kernel_rfl)) ⟨_, rfl, hS.step 2 _ (.inr rfl), hH⟩
          · refine RegStep3.plain rfl ?_; rintro L u w1 bA hL hW hD hU ⟨hS, hH⟩ hin hout; exact opw_eqBool _ _ _ _ _ _ Tryd.underlying4 rfl ((hin 1 79 rfl).trans (hS 1 _ rfl (hW.of 1 (by decide)))) ((hin 2 80 rfl).trans (hS 2 _ rfl (hW.of 2 (by decide)))) true rfl ⟨_, rfl, hS.step 3 _ (.inr rfl), hH⟩
          · refine RegStep3.plain rfl ?_; rintro L u w1 bA hL hW hD hU ⟨hS, hH⟩ hin hout; exact opw_move _ _ (.inl rfl) ((hin 3 81 rfl).trans (hS 3 _ rfl (hW.of 3 (by decide)))) ⟨_, rfl, hS.step 4 _ (.inr rfl), hH⟩
          · refine RegStep3.yes 4 true rfl (fun L u w1 hW hI => hI.1 4 _ rfl (hW.of 4 (by decide))) ?_; rintro L u w1 bA hL hW hD hU ⟨hS, hH⟩ hin hout; exact opw_loadRow _ _ rfl _ ((hout 11 (by kernel_rfl)).trans (by kernel_rfl)) 24 _ _ _ Tryd.underlying24 rfl HI.out (hH) ⟨_, rfl, hS.step 5 _ (.inr rfl), hH⟩
          · refine RegStep3.yes 4 true rfl (fun L u w1 hW hI => hI.1 4 _ rfl (hW.of 4 (by decide))) ?_; rintro L u w1 bA hL hW hD hU ⟨hS, hH⟩ hin hout; exact opw_loadRow _ _ rfl _ ((hout 4 (by kernel_rfl)).trans (by kernel_rfl)) 24 _ _ _ Tryd.underlying24 rfl HIA.out (hH.right.right) ⟨_, rfl, hS.step 6 _ (.inr rfl), hH⟩
          · refine RegStep3.yes 4 true rfl (fun L u w1 hW hI => hI.1 4 _ rfl (hW.of 4 (by decide))) ?_; rintro L u w1 bA hL hW hD hU ⟨hS, hH⟩ hin hout; exact opw_eqRow _ _ 5 32 _ _ X a Tryd.underlying24 Tryd.underlying5 infosz (by kernel_rfl) HXL.out HA.out rfl ((hin 5 83 rfl).trans (hS 5 _ rfl (hW.of 5 (by decide)))) ((hin 6 84 rfl).trans (hS 6 _ rfl (hW.of 6 (by decide)))) true HXA.out ⟨_, rfl, hS.step 7 _ (.inr rfl), hH⟩
          · refine RegStep3.yes 4 true rfl (fun L u w1 hW hI => hI.1 4 _ rfl (hW.of 4 (by decide))) ?_; rintro L u w1 bA hL hW hD hU ⟨hS, hH⟩ hin hout; exact opw_move _ _ (.inl rfl) ((hout 13 (by kernel_rfl)).trans (by kernel_rfl)) ⟨_, rfl, hS.step 8 _ (.inr rfl), hH⟩
          · refine RegStep3.yes 4 true rfl (fun L u w1 hW hI => hI.1 4 _ rfl (hW.of 4 (by decide))) ?_; rintro L u w1 bA hL hW hD hU ⟨hS, hH⟩ hin hout; exact opw_move _ _ (.inl rfl) ((hin 8 86 rfl).trans (hS 8 _ rfl (hW.of 8 (by decide)))) ⟨_, rfl, hS.step 9 _ (.inr rfl), hH⟩
          · refine RegStep3.no 9 true rfl ?_; rintro L u w1 hL hW hD ⟨hS, hH⟩; exact ⟨hS 9 _ rfl (hW.of 9 (by decide)), hS.step 10 _ (.inr rfl), hH⟩
          · refine RegStep3.no 9 true rfl ?_; rintro L u w1 hL hW hD ⟨hS, hH⟩; exact ⟨hS 9 _ rfl (hW.of 9 (by decide)), hS.step 11 _ (.inr rfl), hH⟩
          · refine RegStep3.no 9 true rfl ?_; rintro L u w1 hL hW hD ⟨hS, hH⟩; exact ⟨hS 9 _ rfl (hW.of 9 (by decide)), hS.step 12 _ (.inr rfl), hH⟩
          · refine RegStep3.no 9 true rfl ?_; rintro L u w1 hL hW hD ⟨hS, hH⟩; exact ⟨hS 9 _ rfl (hW.of 9 (by decide)), hS.step 13 _ (.inr rfl), hH⟩
          · refine RegStep3.no 9 true rfl ?_; rintro L u w1 hL hW hD ⟨hS, hH⟩; exact ⟨hS 9 _ rfl (hW.of 9 (by decide)), hS.step 14 _ (.inr rfl), hH⟩
          · refine RegStep3.yes 4 true rfl (fun L u w1 hW hI => hI.1 4 _ rfl (hW.of 4 (by decide))) ?_; rintro L u w1 bA hL hW hD hU ⟨hS, hH⟩ hin hout; exact opw_pickF _ _ _ _ rfl ((hin 9 87 rfl).trans (hS 9 _ rfl (hW.of 9 (by decide)))) rfl ⟨_, rfl, hS.step 15 _ (.inr rfl), hH⟩
          · refine RegStep3.yes 4 true rfl (fun L u w1 hW hI => hI.1 4 _ rfl (hW.of 4 (by decide))) ?_; rintro L u w1 bA hL hW hD hU ⟨hS, hH⟩ hin hout; exact opw_eqBool _ _ _ _ _ _ Tryd.underlying4 rfl ((hin 7 85 rfl).trans (hS 7 _ rfl (hW.of 7 (by decide)))) ((hin 15 93 rfl).trans (hS 15 _ rfl (hW.of 15 (by decide)))) false rfl ⟨_, rfl, hS.step 16 _ (.inr rfl), hH⟩
          · refine RegStep3.plain rfl ?_; rintro L u w1 bA hL hW hD hU ⟨hS, hH⟩ hin hout; exact opw_pickT _ _ _ _ rfl ((hin 4 82 rfl).trans (hS 4 _ rfl (hW.of 4 (by decide)))) ((hin 16 94 rfl).trans (hS 16 _ rfl (hW.of 16 (by decide)))) ⟨_, rfl, hS.step 17 _ (.inr rfl), hH⟩
          · refine RegStep3.plain rfl ?_; rintro L u w1 bA hL hW hD hU ⟨hS, hH⟩ hin hout; exact opw_move _ _ (.inl rfl) ((hin 17 95 rfl).trans (hS 17 _ rfl (hW.of 17 (by decide)))) ⟨_, rfl, hS.step 18 _ (.inr rfl), hH⟩
          · refine RegStep3.yes 18 false rfl (fun L u w1 hW hI => hI.1 18 _ rfl (hW.of 18 (by decide))) ?_; rintro L u w1 bA hL hW hD hU ⟨hS, hH⟩ hin hout; exact opw_move _ _ (.inl rfl) ((hout 13 (by kernel_rfl)).trans (by kernel_rfl)) ⟨_, rfl, hS.step 19 _ (.inr rfl), hH⟩
          · refine RegStep3.yes 18 false rfl (fun L u w1 hW hI => hI.1 18 _ rfl (hW.of 18 (by decide))) ?_; rintro L u w1 bA hL hW hD hU ⟨hS, hH⟩ hin hout; exact opw_not _ _ _ rfl ((hin 19 97 rfl).trans (hS 19 _ rfl (hW.of 19 (by decide)))) true rfl ⟨_, rfl, hS.step 20 _ (.inr rfl), hH⟩
          · refine RegStep3.yes 18 false rfl (fun L u w1 hW hI => hI.1 18 _ rfl (hW.of 18 (by decide))) ?_; rintro L u w1 bA hL hW hD hU ⟨hS, hH⟩ hin hout; exact opw_move _ _ (.inl rfl) ((hin 20 98 rfl).trans (hS 20 _ rfl (hW.of 20 (by decide)))) ⟨_, rfl, hS.step 21 _ (.inr rfl), hH⟩
          · refine RegStep3.yes 21 true rfl (fun L u w1 hW hI => hI.1 21 _ rfl (hW.of 21 (by decide))) ?_; rintro L u w1 bA hL hW hD hU ⟨hS, hH⟩ hin hout; exact opw_loadRow _ _ rfl _ ((hout 4 (by kernel_rfl)).trans (by kernel_rfl)) 24 _ _ _ Tryd.underlying24 rfl HIA.out (hH.right.right) ⟨_, rfl, hS.step 22 _ (.inr rfl), hH⟩
          · refine RegStep3.yes 21 true rfl (fun L u w1 hW hI => hI.1 21 _ rfl (hW.of 21 (by decide))) ?_; rintro L u w1 bA hL hW hD hU ⟨hS, hH⟩ hin hout; exact opw_build _ [] [] (bcells (List.replicate 32 (0 : UInt8))).toArray rfl rfl (by kernel_rfl) ⟨_, rfl, hS.step 23 _ (.inr rfl), hH⟩
          · refine RegStep3.yes 21 true rfl (fun L u w1 hW hI => hI.1 21 _ rfl (hW.of 21 (by decide))) ?_; rintro L u w1 bA hL hW hD hU ⟨hS, hH⟩ hin hout; exact opw_eqRow _ _ 5 32 _ _ a (List.replicate 32 (0 : UInt8)) Tryd.underlying24 Tryd.underlying5 infosz (by kernel_rfl) HA.out rfl rfl ((hin 22 100 rfl).trans (hS 22 _ rfl (hW.of 22 (by decide)))) ((hin 23 101 rfl).trans (hS 23 _ rfl (hW.of 23 (by decide)))) true HAZ.out ⟨_, rfl, hS.step 24 _ (.inr rfl), hH⟩
          · refine RegStep3.yes 18 false rfl (fun L u w1 hW hI => hI.1 18 _ rfl (hW.of 18 (by decide))) ?_; rintro L u w1 bA hL hW hD hU ⟨hS, hH⟩ hin hout; exact opw_pickT _ _ _ _ rfl ((hin 21 99 rfl).trans (hS 21 _ rfl (hW.of 21 (by decide)))) ((hin 24 102 rfl).trans (hS 24 _ rfl (hW.of 24 (by decide)))) ⟨_, rfl, hS.step 25 _ (.inr rfl), hH⟩
          · refine RegStep3.yes 18 false rfl (fun L u w1 hW hI => hI.1 18 _ rfl (hW.of 18 (by decide))) ?_; rintro L u w1 bA hL hW hD hU ⟨hS, hH⟩ hin hout; exact opw_move _ _ (.inl rfl) ((hin 25 103 rfl).trans (hS 25 _ rfl (hW.of 25 (by decide)))) ⟨_, rfl, hS.step 26 _ (.inr rfl), hH⟩
          · refine RegStep3.yes 26 true rfl (fun L u w1 hW hI => hI.1 26 _ rfl (hW.of 26 (by decide))) ?_; rintro L u w1 bA hL hW hD hU ⟨hS, hH⟩ hin hout; exact opw_loadRow _ _ rfl _ ((hout 11 (by kernel_rfl)).trans (by kernel_rfl)) 24 _ _ _ Tryd.underlying24 rfl HI.out (hH) ⟨_, rfl, hS.step 27 _ (.inr rfl), hH⟩
          · refine RegStep3.yes 26 true rfl (fun L u w1 hW hI => hI.1 26 _ rfl (hW.of 26 (by decide))) ?_; rintro L u w1 bA hL hW hD hU ⟨hS, hH⟩ hin hout; exact opw_loadRow _ _ rfl _ ((hout 4 (by kernel_rfl)).trans (by kernel_rfl)) 24 _ _ _ Tryd.underlying24 rfl HIA.out (hH.right.right) ⟨_, rfl, hS.step 28 _ (.inr rfl), hH⟩
          · refine RegStep3.yes 26 true rfl (fun L u w1 hW hI => hI.1 26 _ rfl (hW.of 26 (by decide))) ?_; rintro L u w1 bA hL hW hD hU ⟨hS, hH⟩ hin hout; exact opw_eqRow _ _ 5 32 _ _ X a Tryd.underlying24 Tryd.underlying5 infosz (by kernel_rfl) HXL.out HA.out rfl ((hin 27 105 rfl).trans (hS 27 _ rfl (hW.of 27 (by decide)))) ((hin 28 106 rfl).trans (hS 28 _ rfl (hW.of 28 (by decide)))) true HXA.out ⟨_, rfl, hS.step 29 _ (.inr rfl), hH⟩
          · refine RegStep3.yes 18 false rfl (fun L u w1 hW hI => hI.1 18 _ rfl (hW.of 18 (by decide))) ?_; rintro L u w1 bA hL hW hD hU ⟨hS, hH⟩ hin hout; exact opw_pickT _ _ _ _ rfl ((hin 26 104 rfl).trans (hS 26 _ rfl (hW.of 26 (by decide)))) ((hin 29 107 rfl).trans (hS 29 _ rfl (hW.of 29 (by decide)))) ⟨_, rfl, hS.step 30 _ (.inr rfl), hH⟩
          · refine RegStep3.plain rfl ?_; rintro L u w1 bA hL hW hD hU ⟨hS, hH⟩ hin hout; exact opw_pickF _ _ _ _ rfl ((hin 18 96 rfl).trans (hS 18 _ rfl (hW.of 18 (by decide)))) ((hin 30 108 rfl).trans (hS 30 _ rfl (hW.of 30 (by decide)))) ⟨_, rfl, hS.step 31 _ (.inr rfl), hH⟩
          · refine RegStep3.plain rfl ?_; rintro L u w1 bA hL hW hD hU ⟨hS, hH⟩ hin hout; exact opw_move _ _ (.inr rfl) ((hin 31 109 rfl).trans (hS 31 _ rfl (hW.of 31 (by decide)))) ⟨_, rfl, hS.step 32 _ (.inr rfl), hH⟩
        intro L u w9 hL ⟨hS, hH⟩
        have E := hS 32 _ rfl (hL 32 (by decide))
        simp only [frame_cons, frame_nil, E, Act.put, List.setIfInBounds_toArray, List.set_cons_zero, List.set_cons_succ]
        have H9 := Lib.hid hH
        clear hL hS hH E
        go_wp2
        go_ret
        exact ⟨rfl, H9.out.right.right.right⟩
      ·
        have HR48 : Hid (cmpZ .geq (c.toNat : Int) 48 = some true) := Lib.hid (by simp only [cmpZ]; simp; omega)
        have HR57 : Hid (cmpZ .leq (c.toNat : Int) 57 = some false) := Lib.hid (by simp only [cmpZ]; simp; omega)
        have HR97 : Hid (cmpZ .geq (c.toNat : Int) 97 = some true) := Lib.hid (by simp only [cmpZ]; simp; omega)
        have HR102 : Hid (cmpZ .leq (c.toNat : Int) 102 = some false) := Lib.hid (by simp only [cmpZ]; simp; omega)
        clear hrg
        go_wp2_with (first
          | (fail)
          | ((first | (with_reducible refine wpList_plain rfl ?_) | ((with_reducible refine wpList_yes _ _ rfl ?_ ?_); (focus rfl))); intro _ hk; (first
            | (refine opw_cmp .geq _ _ _ _ .u8 (c.toNat : Int) 48 true rfl rfl rfl HR48.out (hk _ _ ?_))
            | (refine opw_cmp .leq _ _ _ _ .u8 (c.toNat : Int) 57 false rfl rfl rfl HR57.out (hk _ _ ?_))
            | (refine opw_cmp .geq _ _ _ _ .u8 (c.toNat : Int) 97 true rfl rfl rfl HR97.out (hk _ _ ?_))
            | (refine opw_cmp .leq _ _ _ _ .u8 (c.toNat : Int) 102 false rfl rfl rfl HR102.out (hk _ _ ?_))); simp only [Act.put, List.setIfInBounds_toArray, List.set_cons_zero, List.set_cons_succ]))
        refine wp_region_inv3 (fun L u w' => Slots (fun kk => ([some (.int .i64 21), some (.bool false), some (.bool false), some (.bool true), some (.bool true), some (.agg (bcells X).toArray), some (.agg (bcells a).toArray), some (.bool true), some (.bool false), some (.bool false), some undef, some undef, some undef, some undef, some undef, some (.bool false), some (.bool false), some (.bool false), some (.bool false), some (.bool false), some (.bool true), some (.bool true), some (.agg (bcells a).toArray), some (.agg (bcells (List.replicate 32 (0 : UInt8))).toArray), some (.bool true), some (.bool true), some (.bool true), some (.agg (bcells X).toArray), some (.agg (bcells a).toArray), some (.bool true), some (.bool true), some (.bool true), some (.bool true)] : List (Option Value)).getD kk none) L u ∧ Has st (sep (blk p11 (.cells (bcells X).toArray 24 (0, 0))) (sep (blk p5 (.cells (bcells b).toArray 24 (0, 0))) (sep (blk p4 (.cells (bcells a).toArray 24 (0, 0))) R))) w') (by kernel_rfl) (by decide +kernel) (by decide +kernel) (by kernel_rfl) (by kernel_rfl) (fun u => ⟨Slots.start _ u, H8.out.drew⟩) ?_ ?_
        · refine ⟨?_, ?_, ?_, ?_, ?_, ?_, ?_, ?_, ?_, ?_, ?_, ?_, ?_, ?_, ?_, ?_, ?_, ?_, ?_, ?_, ?_, ?_, ?_, ?_, ?_, ?_, ?_, ?_, ?_, ?_, ?_, ?_, ?_, trivial⟩
          · refine RegStep3.plain rfl ?_; rintro L u w1 bA hL hW hD hU ⟨hS, hH⟩ hin hout; exact opw_move _ _ (.inl rfl) ((hout 12 (by kernel_rfl)).trans (by kernel_rfl)) ⟨_, rfl, hS.step 0 _ (.inr rfl), hH⟩
          · refine RegStep3.plain rfl ?_; rintro L u w1 bA hL hW hD hU ⟨hS, hH⟩ hin hout; exact opw_cmp .eql _ _ _ _ .i64 _ _ false rfl ((hin 0 78 rfl).trans (hS 0 _ rfl (hW.of 0 (by decide)))) rfl (by decide) ⟨_, rfl, hS.step 1 _ (.inr rfl), hH⟩
          · refine RegStep3.plain rfl ?_; rintro L u w1 bA hL hW hD hU ⟨hS, hH⟩ hin hout; exact opw_move _ _ (.inl rfl) ((hout 13 (by kernel_rfl)).trans (by kernel_rfl)) ⟨_, rfl, hS.step 2 _ (.inr rfl), hH⟩
          · refine RegStep3.plain rfl ?_; rintro L u w1 bA hL hW hD hU ⟨hS, hH⟩ hin hout; exact opw_eqBool _ _ _ _ _ _ Tryd.underlying4 rfl ((hin 1 79 rfl).trans (hS 1 _ rfl (hW.of 1 (by decide)))) ((hin 2 80 rfl).trans (hS 2 _ rfl (hW.of 2 (by decide)))) true rfl ⟨_, rfl, hS.step 3 _ (.inr rfl), hH⟩
          · refine RegStep3.plain rfl ?_; rintro L u w1 bA hL hW hD hU ⟨hS, hH⟩ hin hout; exact opw_move _ _ (.inl rfl) ((hin 3 81 rfl).trans (hS 3 _ rfl (hW.of 3 (by decide)))) ⟨_, rfl, hS.step 4 _ (.inr rfl), hH⟩
          · refine RegStep3.yes 4 true rfl (fun L u w1 hW hI => hI.1 4 _ rfl (hW.of 4 (by decide))) ?_; rintro L u w1 bA hL hW hD hU ⟨hS, hH⟩ hin hout; exact opw_loadRow _ _ rfl _ ((hout 11 (by kernel_rfl)).trans (by kernel_rfl)) 24 _ _ _ Tryd.underlying24 rfl HI.out (hH) ⟨_, rfl, hS.step 5 _ (.inr rfl), hH⟩
          · refine RegStep3.yes 4 true rfl (fun L u w1 hW hI => hI.1 4 _ rfl (hW.of 4 (by decide))) ?_; rintro L u w1 bA hL hW hD hU ⟨hS, hH⟩ hin hout; exact opw_loadRow _ _ rfl _ ((hout 4 (by kernel_rfl)).trans (by kernel_rfl)) 24 _ _ _ Tryd.underlying24 rfl HIA.out (hH.right.right) ⟨_, rfl, hS.step 6 _ (.inr rfl), hH⟩
          · refine RegStep3.yes 4 true rfl (fun L u w1 hW hI => hI.1 4 _ rfl (hW.of 4 (by decide))) ?_; rintro L u w1 bA hL hW hD hU ⟨hS, hH⟩ hin hout; exact opw_eqRow _ _ 5 32 _ _ X a Tryd.underlying24 Tryd.underlying5 infosz (by kernel_rfl) HXL.out HA.out rfl ((hin 5 83 rfl).trans (hS 5 _ rfl (hW.of 5 (by decide)))) ((hin 6 84 rfl).trans (hS 6 _ rfl (hW.of 6 (by decide)))) true HXA.out ⟨_, rfl, hS.step 7 _ (.inr rfl), hH⟩
          · refine RegStep3.yes 4 true rfl (fun L u w1 hW hI => hI.1 4 _ rfl (hW.of 4 (by decide))) ?_; rintro L u w1 bA hL hW hD hU ⟨hS, hH⟩ hin hout; exact opw_move _ _ (.inl rfl) ((hout 13 (by kernel_rfl)).trans (by kernel_rfl)) ⟨_, rfl, hS.step 8 _ (.inr rfl), hH⟩
          · refine RegStep3.yes 4 true rfl (fun L u w1 hW hI => hI.1 4 _ rfl (hW.of 4 (by decide))) ?_; rintro L u w1 bA hL hW hD hU ⟨hS, hH⟩ hin hout; exact opw_move _ _ (.inl rfl) ((hin 8 86 rfl).trans (hS 8 _ rfl (hW.of 8 (by decide)))) ⟨_, rfl, hS.step 9 _ (.inr rfl), hH⟩
          · refine RegStep3.no 9 true rfl ?_; rintro L u w1 hL hW hD ⟨hS, hH⟩; exact ⟨hS 9 _ rfl (hW.of 9 (by decide)), hS.step 10 _ (.inr rfl), hH⟩
          · refine RegStep3.no 9 true rfl ?_; rintro L u w1 hL hW hD ⟨hS, hH⟩; exact ⟨hS 9 _ rfl (hW.of 9 (by decide)), hS.step 11 _ (.inr rfl), hH⟩
          · refine RegStep3.no 9 true rfl ?_; rintro L u w1 hL hW hD ⟨hS, hH⟩; exact ⟨hS 9 _ rfl (hW.of 9 (by decide)), hS.step 12 _ (.inr rfl), hH⟩
          · refine RegStep3.no 9 true rfl ?_; rintro L u w1 hL hW hD ⟨hS, hH⟩; exact ⟨hS 9 _ rfl (hW.of 9 (by decide)), hS.step 13 _ (.inr rfl), hH⟩
          · refine RegStep3.no 9 true rfl ?_; rintro L u w1 hL hW hD ⟨hS, hH⟩; exact ⟨hS 9 _ rfl (hW.of 9 (by decide)), hS.step 14 _ (.inr rfl), hH⟩
          · refine RegStep3.yes 4 true rfl (fun L u w1 hW hI => hI.1 4 _ rfl (hW.of 4 (by decide))) ?_; rintro L u w1 bA hL hW hD hU ⟨hS, hH⟩ hin hout; exact opw_pickF _ _ _ _ rfl ((hin 9 87 rfl).trans (hS 9 _ rfl (hW.of 9 (by decide)))) rfl ⟨_, rfl, hS.step 15 _ (.inr rfl), hH⟩
          · refine RegStep3.yes 4 true rfl (fun L u w1 hW hI => hI.1 4 _ rfl (hW.of 4 (by decide))) ?_; rintro L u w1 bA hL hW hD hU ⟨hS, hH⟩ hin hout; exact opw_eqBool _ _ _ _ _ _ Tryd.underlying4 rfl ((hin 7 85 rfl).trans (hS 7 _ rfl (hW.of 7 (by decide)))) ((hin 15 93 rfl).trans (hS 15 _ rfl (hW.of 15 (by decide)))) false rfl ⟨_, rfl, hS.step 16 _ (.inr rfl), hH⟩
          · refine RegStep3.plain rfl ?_; rintro L u w1 bA hL hW hD hU ⟨hS, hH⟩ hin hout; exact opw_pickT _ _ _ _ rfl ((hin 4 82 rfl).trans (hS 4 _ rfl (hW.of 4 (by decide)))) ((hin 16 94 rfl).trans (hS 16 _ rfl (hW.of 16 (by decide)))) ⟨_, rfl, hS.step 17 _ (.inr rfl), hH⟩
          · refine RegStep3.plain rfl ?_; rintro L u w1 bA hL hW hD hU ⟨hS, hH⟩ hin hout; exact opw_move _ _ (.inl rfl) ((hin 17 95 rfl).trans (hS 17 _ rfl (hW.of 17 (by decide)))) ⟨_, rfl, hS.step 18 _ (.inr rfl), hH⟩
          · refine RegStep3.yes 18 false rfl (fun L u w1 hW hI => hI.1 18 _ rfl (hW.of 18 (by decide))) ?_; rintro L u w1 bA hL hW hD hU ⟨hS, hH⟩ hin hout; exact opw_move _ _ (.inl rfl) ((hout 13 (by kernel_rfl)).trans (by kernel_rfl)) ⟨_, rfl, hS.step 19 _ (.inr rfl), hH⟩
          · refine RegStep3.yes 18 false rfl (fun L u w1 hW hI => hI.1 18 _ rfl (hW.of 18 (by decide))) ?_; rintro L u w1 bA hL hW hD hU ⟨hS, hH⟩ hin hout; exact opw_not _ _ _ rfl ((hin 19 97 rfl).trans (hS 19 _ rfl (hW.of 19 (by decide)))) true rfl ⟨_, rfl, hS.step 20 _ (.inr rfl), hH⟩
          · refine RegStep3.yes 18 false rfl (fun L u w1 hW hI => hI.1 18 _ rfl (hW.of 18 (by decide))) ?_; rintro L u w1 bA hL hW hD hU ⟨hS, hH⟩ hin hout; exact opw_move _ _ (.inl rfl) ((hin 20 98 rfl).trans (hS 20 _ rfl (hW.of 20 (by decide)))) ⟨_, rfl, hS.step 21 _ (.inr rfl), hH⟩
          · refine RegStep3.yes 21 true rfl (fun L u w1 hW hI => hI.1 21 _ rfl (hW.of 21 (by decide))) ?_; rintro L u w1 bA hL hW hD hU ⟨hS, hH⟩ hin hout; exact opw_loadRow _ _ rfl _ ((hout 4 (by kernel_rfl)).trans (by kernel_rfl)) 24 _ _ _ Tryd.underlying24 rfl HIA.out (hH.right.right) ⟨_, rfl, hS.step 22 _ (.inr rfl), hH⟩
          · refine RegStep3.yes 21 true rfl (fun L u w1 hW hI => hI.1 21 _ rfl (hW.of 21 (by decide))) ?_; rintro L u w1 bA hL hW hD hU ⟨hS, hH⟩ hin hout; exact opw_build _ [] [] (bcells (List.replicate 32 (0 : UInt8))).toArray rfl rfl (by kernel_rfl) ⟨_, rfl, hS.step 23 _ (.inr rfl), hH⟩
          · refine RegStep3.yes 21 true rfl (fun L u w1 hW hI => hI.1 21 _ rfl (hW.of 21 (by decide))) ?_; rintro L u w1 bA hL hW hD hU ⟨hS, hH⟩ hin hout; exact opw_eqRow _ _ 5 32 _ _ a (List.replicate 32 (0 : UInt8)) Tryd.underlying24 Tryd.underlying5 infosz (by kernel_rfl) HA.out rfl rfl ((hin 22 100 rfl).trans (hS 22 _ rfl (hW.of 22 (by decide)))) ((hin 23 101 rfl).trans (hS 23 _ rfl (hW.of 23 (by decide)))) true HAZ.out ⟨_, rfl, hS.step 24 _ (.inr rfl), hH⟩
          · refine RegStep3.yes 18 false rfl (fun L u w1 hW hI => hI.1 18 _ rfl (hW.of 18 (by decide))) ?_; rintro L u w1 bA hL hW hD hU ⟨hS, hH⟩ hin hout; exact opw_pickT _ _ _ _ rfl ((hin 21 99 rfl).trans (hS 21 _ rfl (hW.of 21 (by decide)))) ((hin 24 102 rfl).trans (hS 24 _ rfl (hW.of 24 (by decide)))) ⟨_, rfl, hS.step 25 _ (.inr rfl), hH⟩
          · refine RegStep3.yes 18 false rfl (fun L u w1 hW hI => hI.1 18 _ rfl (hW.of 18 (by decide))) ?_; rintro L u w1 bA hL hW hD hU ⟨hS, hH⟩ hin hout; exact opw_move _ _ (.inl rfl) ((hin 25 103 rfl).trans (hS 25 _ rfl (hW.of 25 (by decide)))) ⟨_, rfl, hS.step 26 _ (.inr rfl), hH⟩
          · refine RegStep3.yes 26 true rfl (fun L u w1 hW hI => hI.1 26 _ rfl (hW.of 26 (by decide))) ?_; rintro L u w1 bA hL hW hD hU ⟨hS, hH⟩ hin hout; exact opw_loadRow _ _ rfl _ ((hout 11 (by kernel_rfl)).trans (by kernel_rfl)) 24 _ _ _ Tryd.underlying24 rfl HI.out (hH) ⟨_, rfl, hS.step 27 _ (.inr rfl), hH⟩
          · refine RegStep3.yes 26 true rfl (fun L u w1 hW hI => hI.1 26 _ rfl (hW.of 26 (by decide))) ?_; rintro L u w1 bA hL hW hD hU ⟨hS, hH⟩ hin hout; exact opw_loadRow _ _ rfl _ ((hout 4 (by kernel_rfl)).trans (by kernel_rfl)) 24 _ _ _ Tryd.underlying24 rfl HIA.out (hH.right.right) ⟨_, rfl, hS.step 28 _ (.inr rfl), hH⟩
          · refine RegStep3.yes 26 true rfl (fun L u w1 hW hI => hI.1 26 _ rfl (hW.of 26 (by decide))) ?_; rintro L u w1 bA hL hW hD hU ⟨hS, hH⟩ hin hout; exact opw_eqRow _ _ 5 32 _ _ X a Tryd.underlying24 Tryd.underlying5 infosz (by kernel_rfl) HXL.out HA.out rfl ((hin 27 105 rfl).trans (hS 27 _ rfl (hW.of 27 (by decide)))) ((hin 28 106 rfl).trans (hS 28 _ rfl (hW.of 28 (by decide)))) true HXA.out ⟨_, rfl, hS.step 29 _ (.inr rfl), hH⟩
          · refine RegStep3.yes 18 false rfl (fun L u w1 hW hI => hI.1 18 _ rfl (hW.of 18 (by decide))) ?_; rintro L u w1 bA hL hW hD hU ⟨hS, hH⟩ hin hout; exact opw_pickT _ _ _ _ rfl ((hin 26 104 rfl).trans (hS 26 _ rfl (hW.of 26 (by decide)))) ((hin 29 107 rfl).trans (hS 29 _ rfl (hW.of 29 (by decide)))) ⟨_, rfl, hS.step 30 _ (.inr rfl), hH⟩
          · refine RegStep3.plain rfl ?_; rintro L u w1 bA hL hW hD hU ⟨hS, hH⟩ hin hout; exact opw_pickF _ _ _ _ rfl ((hin 18 96 rfl).trans (hS 18 _ rfl (hW.of 18 (by decide)))) ((hin 30 108 rfl).trans (hS 30 _ rfl (hW.of 30 (by decide)))) ⟨_, rfl, hS.step 31 _ (.inr rfl), hH⟩
          · refine RegStep3.plain rfl ?_; rintro L u w1 bA hL hW hD hU ⟨hS, hH⟩ hin hout; exact opw_move _ _ (.inr rfl) ((hin 31 109 rfl).trans (hS 31 _ rfl (hW.of 31 (by decide)))) ⟨_, rfl, hS.step 32 _ (.inr rfl), hH⟩
        intro L u w9 hL ⟨hS, hH⟩
        have E := hS 32 _ rfl (hL 32 (by decide))
        simp only [frame_cons, frame_nil, E, Act.put, List.setIfInBounds_toArray, List.set_cons_zero, List.set_cons_succ]
        have H9 := Lib.hid hH
        clear hL hS hH E
        go_wp2
        go_ret
        exact ⟨rfl, H9.out.right.right.right⟩
    ·
      have HXA : Hid ((X == a) = false) := Lib.hid (by rw [HX.out]; exact beq_eq_false_iff_ne.2 (fun e => hc e.symm))
      have HAZ : Hid ((a == List.replicate 32 (0 : UInt8)) = false) := Lib.hid (by exact beq_eq_false_iff_ne.2 hc)
      clear hc
      rcases hrg with hrg | hrg | hrg
      ·
        have HR48 : Hid (cmpZ .geq (c.toNat : Int) 48 = some false) := Lib.hid (by simp only [cmpZ]; simp; omega)
        have HR97 : Hid (cmpZ .geq (c.toNat : Int) 97 = some false) := Lib.hid (by simp only [cmpZ]; simp; omega)
        clear hrg
        go_wp2_with (first
          | (fail)
          | ((first | (with_reducible refine wpList_plain rfl ?_) | ((with_reducible refine wpList_yes _ _ rfl ?_ ?_); (focus rfl))); intro _ hk; (first
            | (refine opw_cmp .geq _ _ _ _ .u8 (c.toNat : Int) 48 false rfl rfl rfl HR48.out (hk _ _ ?_))
            | (refine opw_cmp .geq _ _ _ _ .u8 (c.toNat : Int) 97 false rfl rfl rfl HR97.out (hk _ _ ?_))); simp only [Act.put, List.setIfInBounds_toArray, List.set_cons_zero, List.set_cons_succ]))
        refine wp_region_inv3 (fun L u w' => Slots (fun kk => ([some (.int .i64 21), some (.bool false), some (.bool false), some (.bool true), some (.bool true), some (.agg (bcells X).toArray), some (.agg (bcells a).toArray), some (.bool false), some (.bool false), some (.bool false), some undef, some undef, some undef, some undef, some undef, some (.bool false), some (.bool true), some (.bool true), some (.bool true), some undef, some undef, some undef, some undef, some undef, some undef, some undef, some undef, some undef, some undef, some undef, some undef, some (.bool true), some (.bool true)] : List (Option Value)).getD kk none) L u ∧ Has st (sep (blk p11 (.cells (bcells X).toArray 24 (0, 0))) (sep (blk p5 (.cells (bcells b).toArray 24 (0, 0))) (sep (blk p4 (.cells (bcells a).toArray 24 (0, 0))) R))) w') (by kernel_rfl) (by decide +kernel) (by decide +kernel) (by kernel_rfl) (by kernel_rfl) (fun u => ⟨Slots.start _ u, H8.out.drew⟩) ?_ ?_
        · refine ⟨?_, ?_, ?_, ?_, ?_, ?_, ?_, ?_, ?_, ?_, ?_, ?_, ?_, ?_, ?_, ?_, ?_, ?_, ?_, ?_, ?_, ?_, ?_, ?_, ?_, ?_, ?_, ?_, ?_, ?_, ?_, ?_, ?_, trivial⟩
          · refine RegStep3.plain rfl ?_; rintro L u w1 bA hL hW hD hU ⟨hS, hH⟩ hin hout; exact opw_move _ _ (.inl rfl) ((hout 12 (by kernel_rfl)).trans (by kernel_rfl)) ⟨_, rfl, hS.step 0 _ (.inr rfl), hH⟩
          · refine RegStep3.plain rfl ?_; rintro L u w1 bA hL hW hD hU ⟨hS, hH⟩ hin hout; exact opw_cmp .eql _ _ _ _ .i64 _ _ false rfl ((hin 0 78 rfl).trans (hS 0 _ rfl (hW.of 0 (by decide)))) rfl (by decide) ⟨_, rfl, hS.step 1 _ (.inr rfl), hH⟩
          · refine RegStep3.plain rfl ?_; rintro L u w1 bA hL hW hD hU ⟨hS, hH⟩ hin hout; exact opw_move _ _ (.inl rfl) ((hout 13 (by kernel_rfl)).trans (by kernel_rfl)) ⟨_, rfl, hS.step 2 _ (.inr rfl), hH⟩
          · refine RegStep3.plain rfl ?_; rintro L u w1 bA hL hW hD hU ⟨hS, hH⟩ hin hout; exact opw_eqBool _ _ _ _ _ _ Tryd.underlying4 rfl ((hin 1 79 rfl).trans (hS 1 _ rfl (hW.of 1 (by decide)))) ((hin 2 80 rfl).trans (hS 2 _ rfl (hW.of 2 (by decide)))) true rfl ⟨_, rfl, hS.step 3 _ (.inr rfl), hH⟩
          · refine RegStep3.plain rfl ?_; rintro L u w1 bA hL hW hD hU ⟨hS, hH⟩ hin hout; exact opw_move _ _ (.inl rfl) ((hin 3 81 rfl).trans (hS 3 _ rfl (hW.of 3 (by decide)))) ⟨_, rfl, hS.step 4 _ (.inr rfl), hH⟩
          · refine RegStep3.yes 4 true rfl (fun L u w1 hW hI => hI.1 4 _ rfl (hW.of 4 (by decide))) ?_; rintro L u w1 bA hL hW hD hU ⟨hS, hH⟩ hin hout; exact opw_loadRow _ _ rfl _ ((hout 11 (by kernel_rfl)).trans (by kernel_rfl)) 24 _ _ _ Tryd.underlying24 rfl HI.out (hH) ⟨_, rfl, hS.step 5 _ (.inr rfl), hH⟩
          · refine RegStep3.yes 4 true rfl (fun L u w1 hW hI => hI.1 4 _ rfl (hW.of 4 (by decide))) ?_; rintro L u w1 bA hL hW hD hU ⟨hS, hH⟩ hin hout; exact opw_loadRow _ _ rfl _ ((hout 4 (by kernel_rfl)).trans (by kernel_rfl)) 24 _ _ _ Tryd.underlying24 rfl HIA.out (hH.right.right) ⟨_, rfl, hS.step 6 _ (.inr rfl), hH⟩
          · refine RegStep3.yes 4 true rfl (fun L u w1 hW hI => hI.1 4 _ rfl (hW.of 4 (by decide))) ?_; rintro L u w1 bA hL hW hD hU ⟨hS, hH⟩ hin hout; exact opw_eqRow _ _ 5 32 _ _ X a Tryd.underlying24 Tryd.underlying5 infosz (by kernel_rfl) HXL.out HA.out rfl ((hin 5 83 rfl).trans (hS 5 _ rfl (hW.of 5 (by decide)))) ((hin 6 84 rfl).trans (hS 6 _ rfl (hW.of 6 (by decide)))) false HXA.out ⟨_, rfl, hS.step 7 _ (.inr rfl), hH⟩
          · refine RegStep3.yes 4 true rfl (fun L u w1 hW hI => hI.1 4 _ rfl (hW.of 4 (by decide))) ?_; rintro L u w1 bA hL hW hD hU ⟨hS, hH⟩ hin hout; exact opw_move _ _ (.inl rfl) ((hout 13 (by kernel_rfl)).trans (by kernel_rfl)) ⟨_, rfl, hS.step 8 _ (.inr rfl), hH⟩
          · refine RegStep3.yes 4 true rfl (fun L u w1 hW hI => hI.1 4 _ rfl (hW.of 4 (by decide))) ?_; rintro L u w1 bA hL hW hD hU ⟨hS, hH⟩ hin hout; exact opw_move _ _ (.inl rfl) ((hin 8 86 rfl).trans (hS 8 _ rfl (hW.of 8 (by decide)))) ⟨_, rfl, hS.step 9 _ (.inr rfl), hH⟩
          · refine RegStep3.no 9 true rfl ?_; rintro L u w1 hL hW hD ⟨hS, hH⟩; exact ⟨hS 9 _ rfl (hW.of 9 (by decide)), hS.step 10 _ (.inr rfl), hH⟩
          · refine RegStep3.no 9 true rfl ?_; rintro L u w1 hL hW hD ⟨hS, hH⟩; exact ⟨hS 9 _ rfl (hW.of 9 (by decide)), hS.step 11 _ (.inr rfl), hH⟩
          · refine RegStep3.no 9 true rfl ?_; rintro L u w1 hL hW hD ⟨hS, hH⟩; exact ⟨hS 9 _ rfl (hW.of 9 (by decide)), hS.step 12 _ (.inr rfl), hH⟩
          · refine RegStep3.no 9 true rfl ?_; rintro L u w1 hL hW hD ⟨hS, hH⟩; exact ⟨hS 9 _ rfl (hW.of 9 (by decide)), hS.step 13 _ (.inr rfl), hH⟩
          · refine RegStep3.no 9 true rfl ?_; rintro L u w1 hL hW hD ⟨hS, hH⟩; exact ⟨hS 9 _ rfl (hW.of 9 (by decide)), hS.step 14 _ (.inr rfl), hH⟩
          · refine RegStep3.yes 4 true rfl (fun L u w1 hW hI => hI.1 4 _ rfl (hW.of 4 (by decide))) ?_; rintro L u w1 bA hL hW hD hU ⟨hS, hH⟩ hin hout; exact opw_pickF _ _ _ _ rfl ((hin 9 87 rfl).trans (hS 9 _ rfl (hW.of 9 (by decide)))) rfl ⟨_, rfl, hS.step 15 _ (.inr rfl), hH⟩
          · refine RegStep3.yes 4 true rfl (fun L u w1 hW hI => hI.1 4 _ rfl (hW.of 4 (by decide))) ?_; rintro L u w1 bA hL hW hD hU ⟨hS, hH⟩ hin hout; exact opw_eqBool _ _ _ _ _ _ Tryd.underlying4 rfl ((hin 7 85 rfl).trans (hS 7 _ rfl (hW.of 7 (by decide)))) ((hin 15 93 rfl).trans (hS 15 _ rfl (hW.of 15 (by decide)))) true rfl ⟨_, rfl, hS.step 16 _ (.inr rfl), hH⟩
          · refine RegStep3.plain rfl ?_; rintro L u w1 bA hL hW hD hU ⟨hS, hH⟩ hin hout; exact opw_pickT _ _ _ _ rfl ((hin 4 82 rfl).trans (hS 4 _ rfl (hW.of 4 (by decide)))) ((hin 16 94 rfl).trans (hS 16 _ rfl (hW.of 16 (by decide)))) ⟨_, rfl, hS.step 17 _ (.inr rfl), hH⟩
          · refine RegStep3.plain rfl ?_; rintro L u w1 bA hL hW hD hU ⟨hS, hH⟩ hin hout; exact opw_move _ _ (.inl rfl) ((hin 17 95 rfl).trans (hS 17 _ rfl (hW.of 17 (by decide)))) ⟨_, rfl, hS.step 18 _ (.inr rfl), hH⟩
          · refine RegStep3.no 18 false rfl ?_; rintro L u w1 hL hW hD ⟨hS, hH⟩; exact ⟨hS 18 _ rfl (hW.of 18 (by decide)), hS.step 19 _ (.inr rfl), hH⟩
          · refine RegStep3.no 18 false rfl ?_; rintro L u w1 hL hW hD ⟨hS, hH⟩; exact ⟨hS 18 _ rfl (hW.of 18 (by decide)), hS.step 20 _ (.inr rfl), hH⟩
          · refine RegStep3.no 18 false rfl ?_; rintro L u w1 hL hW hD ⟨hS, hH⟩; exact ⟨hS 18 _ rfl (hW.of 18 (by decide)), hS.step 21 _ (.inr rfl), hH⟩
          · refine RegStep3.noU 21 true rfl ?_; rintro L u w1 hL hW hD ⟨hS, hH⟩; exact ⟨hS 21 _ rfl (hW.of 21 (by decide)), hS.step 22 _ (.inr rfl), hH⟩
          · refine RegStep3.noU 21 true rfl ?_; rintro L u w1 hL hW hD ⟨hS, hH⟩; exact ⟨hS 21 _ rfl (hW.of 21 (by decide)), hS.step 23 _ (.inr rfl), hH⟩
          · refine RegStep3.noU 21 true rfl ?_; rintro L u w1 hL hW hD ⟨hS, hH⟩; exact ⟨hS 21 _ rfl (hW.of 21 (by decide)), hS.step 24 _ (.inr rfl), hH⟩
          · refine RegStep3.no 18 false rfl ?_; rintro L u w1 hL hW hD ⟨hS, hH⟩; exact ⟨hS 18 _ rfl (hW.of 18 (by decide)), hS.step 25 _ (.inr rfl), hH⟩
          · refine RegStep3.no 18 false rfl ?_; rintro L u w1 hL hW hD ⟨hS, hH⟩; exact ⟨hS 18 _ rfl (hW.of 18 (by decide)), hS.step 26 _ (.inr rfl), hH⟩
          · refine RegStep3.noU 26 true rfl ?_; rintro L u w1 hL hW hD ⟨hS, hH⟩; exact ⟨hS 26 _ rfl (hW.of 26 (by decide)), hS.step 27 _ (.inr rfl), hH⟩
          · refine RegStep3.noU 26 true rfl ?_; rintro L u w1 hL hW hD ⟨hS, hH⟩; exact ⟨hS 26 _ rfl (hW.of 26 (by decide)), hS.step 28 _ (.inr rfl), hH⟩
          · refine RegStep3.noU 26 true rfl ?_; rintro L u w1 hL hW hD ⟨hS, hH⟩; exact ⟨hS 26 _ rfl (hW.of 26 (by decide)), hS.step 29 _ (.inr rfl), hH⟩
          · refine RegStep3.no 18 false rfl ?_; rintro L u w1 hL hW hD ⟨hS, hH⟩; exact ⟨hS 18 _ rfl (hW.of 18 (by decide)), hS.step 30 _ (.inr rfl), hH⟩
          · refine RegStep3.plain rfl ?_; rintro L u w1 bA hL hW hD hU ⟨hS, hH⟩ hin hout; exact opw_pickT _ _ _ _ rfl ((hin 18 96 rfl).trans (hS 18 _ rfl (hW.of 18 (by decide)))) rfl ⟨_, rfl, hS.step 31 _ (.inr rfl), hH⟩
          · refine RegStep3.plain rfl ?_; rintro L u w1 bA hL hW hD hU ⟨hS, hH⟩ hin hout; exact opw_move _ _ (.inr rfl) ((hin 31 109 rfl).trans (hS 31 _ rfl (hW.of 31 (by decide)))) ⟨_, rfl, hS.step 32 _ (.inr rfl), hH⟩
        intro L u w9 hL ⟨hS, hH⟩
        have E := hS 32 _ rfl (hL 32 (by decide))
        simp only [frame_cons, frame_nil, E, Act.put, List.setIfInBounds_toArray, List.set_cons_zero, List.set_cons_succ]
        have H9 := Lib.hid hH
        clear hL hS hH E
        go_wp2
        go_ret
        exact ⟨rfl, H9.out.right.right.right⟩
      ·
        have HR48 : Hid (cmpZ .geq (c.toNat : Int) 48 = some true) := Lib.hid (by simp only [cmpZ]; simp; omega)
        have HR57 : Hid (cmpZ .leq (c.toNat : Int) 57 = some false) := Lib.hid (by simp only [cmpZ]; simp; omega)
        have HR97 : Hid (cmpZ .geq (c.toNat : Int) 97 = some false) := Lib.hid (by simp only [cmpZ]; simp; omega)
        clear hrg
        go_wp2_with (first
          | (fail)
          | ((first | (with_reducible refine wpList_plain rfl ?_) | ((with_reducible refine wpList_yes _ _ rfl ?_ ?_); (focus rfl))); intro _ hk; (first
            | (refine opw_cmp .geq _ _ _ _ .u8 (c.toNat : Int) 48 true rfl rfl rfl HR48.out (hk _ _ ?_))
            | (refine opw_cmp .leq _ _ _ _ .u8 (c.toNat : Int) 57 false rfl rfl rfl HR57.out (hk _ _ ?_))
            | (refine opw_cmp .geq _ _ _ _ .u8 (c.toNat : Int) 97 false rfl rfl rfl HR97.out (hk _ _ ?_))); simp only [Act.put, List.setIfInBounds_toArray, List.set_cons_zero, List.set_cons_succ]))
        refine wp_region_inv3 (fun L u w' => Slots (fun kk => ([some (.int .i64 21), some (.bool false), some (.bool false), some (.bool true), some (.bool true), some (.agg (bcells X).toArray), some (.agg (bcells a).toArray), some (.bool false), some (.bool false), some (.bool false), some undef, some undef, some undef, some undef, some undef, some (.bool false), some (.bool true), some (.bool true), some (.bool true), some undef, some undef, some undef, some undef, some undef, some undef, some undef, some undef, some undef, some undef, some undef, some undef, some (.bool true), some (.bool true)] : List (Option Value)).getD kk none) L u ∧ Has st (sep (blk p11 (.cells (bcells X).toArray 24 (0, 0))) (sep (blk p5 (.cells (bcells b).toArray 24 (0, 0))) (sep (blk p4 (.cells (bcells a).toArray 24 (0, 0))) R))) w') (by kernel_rfl) (by decide +kernel) (by decide +kernel) (by kernel_rfl) (by kernel_rfl) (fun u => ⟨Slots.start _ u, H8.out.drew⟩) ?_ ?_
        · refine ⟨?_, ?_, ?_, ?_, ?_, ?_, ?_, ?_, ?_, ?_, ?_, ?_, ?_, ?_, ?_, ?_, ?_, ?_, ?_, ?_, ?_, ?_, ?_, ?_, ?_, ?_, ?_, ?_, ?_, ?_, ?_, ?_, ?_, trivial⟩
          · refine RegStep3.plain rfl ?_; rintro L u w1 bA hL hW hD hU ⟨hS, hH⟩ hin hout; exact opw_move _ _ (.inl rfl) ((hout 12 (by kernel_rfl)).trans (by kernel_rfl)) ⟨_, rfl, hS.step 0 _ (.inr rfl), hH⟩
          · refine RegStep3.plain rfl ?_; rintro L u w1 bA hL hW hD hU ⟨hS, hH⟩ hin hout; exact opw_cmp .eql _ _ _ _ .i64 _ _ false rfl ((hin 0 78 rfl).trans (hS 0 _ rfl (hW.of 0 (by decide)))) rfl (by decide) ⟨_, rfl, hS.step 1 _ (.inr rfl), hH⟩
          · refine RegStep3.plain rfl ?_; rintro L u w1 bA hL hW hD hU ⟨hS, hH⟩ hin hout; exact opw_move _ _ (.inl rfl) ((hout 13 (by kernel_rfl)).trans (by kernel_rfl)) ⟨_, rfl, hS.step 2 _ (.inr rfl), hH⟩
          · refine RegStep3.plain rfl ?_; rintro L u w1 bA hL hW hD hU ⟨hS, hH⟩ hin hout; exact opw_eqBool _ _ _ _ _ _ Tryd.underlying4 rfl ((hin 1 79 rfl).trans (hS 1 _ rfl (hW.of 1 (by decide)))) ((hin 2 80 rfl).trans (hS 2 _ rfl (hW.of 2 (by decide)))) true rfl ⟨_, rfl, hS.step 3 _ (.inr rfl), hH⟩
          · refine RegStep3.plain rfl ?_; rintro L u w1 bA hL hW hD hU ⟨hS, hH⟩ hin hout; exact opw_move _ _ (.inl rfl) ((hin 3 81 rfl).trans (hS 3 _ rfl (hW.of 3 (by decide)))) ⟨_, rfl, hS.step 4 _ (.inr rfl), hH⟩
          · refine RegStep3.yes 4 true rfl (fun L u w1 hW hI => hI.1 4 _ rfl (hW.of 4 (by decide))) ?_; rintro L u w1 bA hL hW hD hU ⟨hS, hH⟩ hin hout; exact opw_loadRow _ _ rfl _ ((hout 11 (by kernel_rfl)).trans (by kernel_rfl)) 24 _ _ _ Tryd.underlying24 rfl HI.out (hH) ⟨_, rfl, hS.step 5 _ (.inr rfl), hH⟩
          · refine RegStep3.yes 4 true rfl (fun L u w1 hW hI => hI.1 4 _ rfl (hW.of 4 (by decide))) ?_; rintro L u w1 bA hL hW hD hU ⟨hS, hH⟩ hin hout; exact opw_loadRow _ _ rfl _ ((hout 4 (by kernel_rfl)).trans (by kernel_rfl)) 24 _ _ _ Tryd.underlying24 rfl HIA.out (hH.right.right) ⟨_, rfl, hS.step 6 _ (.inr rfl), hH⟩
          · refine RegStep3.yes 4 true rfl (fun L u w1 hW hI => hI.1 4 _ rfl (hW.of 4 (by decide))) ?_; rintro L u w1 bA hL hW hD hU ⟨hS, hH⟩ hin hout; exact opw_eqRow _ _ 5 32 _ _ X a Tryd.underlying24 Tryd.underlying5 infosz (by kernel_rfl) HXL.out HA.out rfl ((hin 5 83 rfl).trans (hS 5 _ rfl (hW.of 5 (by decide)))) ((hin 6 84 rfl).trans (hS 6 _ rfl (hW.of 6 (by decide)))) false HXA.out ⟨_, rfl, hS.step 7 _ (.inr rfl), hH⟩
          · refine RegStep3.yes 4 true rfl (fun L u w1 hW hI => hI.1 4 _ rfl (hW.of 4 (by decide))) ?_; rintro L u w1 bA hL hW hD hU ⟨hS, hH⟩ hin hout; exact opw_move _ _ (.inl rfl) ((hout 13 (by kernel_rfl)).trans (by kernel_rfl)) ⟨_, rfl, hS.step 8 _ (.inr rfl), hH⟩
          · refine RegStep3.yes 4 true rfl (fun L u w1 hW hI => hI.1 4 _ rfl (hW.of 4 (by decide))) ?_; rintro L u w1 bA hL hW hD hU ⟨hS, hH⟩ hin hout; exact opw_move _ _ (.inl rfl) ((hin 8 86 rfl).trans (hS 8 _ rfl (hW.of 8 (by decide)))) ⟨_, rfl, hS.step 9 _ (.inr rfl), hH⟩
          · refine RegStep3.no 9 true rfl ?_; rintro L u w1 hL hW hD ⟨hS, hH⟩; exact ⟨hS 9 _ rfl (hW.of 9 (by decide)), hS.step 10 _ (.inr rfl), hH⟩
          · refine RegStep3.no 9 true rfl ?_; rintro L u w1 hL hW hD ⟨hS, hH⟩; exact ⟨hS 9 _ rfl (hW.of 9 (by decide)), hS.step 11 _ (.inr rfl), hH⟩
          · refine RegStep3.no 9 true rfl ?_; rintro L u w1 hL hW hD ⟨hS, hH⟩; exact ⟨hS 9 _ rfl (hW.of 9 (by decide)), hS.step 12 _ (.inr rfl), hH⟩
          · refine RegStep3.no 9 true rfl ?_; rintro L u w1 hL hW hD ⟨hS, hH⟩; exact ⟨hS 9 _ rfl (hW.of 9 (by decide)), hS.step 13 _ (.inr rfl), hH⟩
          · refine RegStep3.no 9 true rfl ?_; rintro L u w1 hL hW hD ⟨hS, hH⟩; exact ⟨hS 9 _ rfl (hW.of 9 (by decide)), hS.step 14 _ (.inr rfl), hH⟩
          · refine RegStep3.yes 4 true rfl (fun L u w1 hW hI => hI.1 4 _ rfl (hW.of 4 (by decide))) ?_; rintro L u w1 bA hL hW hD hU ⟨hS, hH⟩ hin hout; exact opw_pickF _ _ _ _ rfl ((hin 9 87 rfl).trans (hS 9 _ rfl (hW.of 9 (by decide)))) rfl ⟨_, rfl, hS.step 15 _ (.inr rfl), hH⟩
          · refine RegStep3.yes 4 true rfl (fun L u w1 hW hI => hI.1 4 _ rfl (hW.of 4 (by decide))) ?_; rintro L u w1 bA hL hW hD hU ⟨hS, hH⟩ hin hout; exact opw_eqBool _ _ _ _ _ _ Tryd.underlying4 rfl ((hin 7 85 rfl).trans (hS 7 _ rfl (hW.of 7 (by decide)))) ((hin 15 93 rfl).trans (hS 15 _ rfl (hW.of 15 (by decide)))) true rfl ⟨_, rfl, hS.step 16 _ (.inr rfl), hH⟩
          · refine RegStep3.plain rfl ?_; rintro L u w1 bA hL hW hD hU ⟨hS, hH⟩ hin hout; exact opw_pickT _ _ _ _ rfl ((hin 4 82 rfl).trans (hS 4 _ rfl (hW.of 4 (by decide)))) ((hin 16 94 rfl).trans (hS 16 _ rfl (hW.of 16 (by decide)))) ⟨_, rfl, hS.step 17 _ (.inr rfl), hH⟩
          · refine RegStep3.plain rfl ?_; rintro L u w1 bA hL hW hD hU ⟨hS, hH⟩ hin hout; exact opw_move _ _ (.inl rfl) ((hin 17 95 rfl).trans (hS 17 _ rfl (hW.of 17 (by decide)))) ⟨_, rfl, hS.step 18 _ (.inr rfl), hH⟩
          · refine RegStep3.no 18 false rfl ?_; rintro L u w1 hL hW hD ⟨hS, hH⟩; exact ⟨hS 18 _ rfl (hW.of 18 (by decide)), hS.step 19 _ (.inr rfl), hH⟩
          · refine RegStep3.no 18 false rfl ?_; rintro L u w1 hL hW hD ⟨hS, hH⟩; exact ⟨hS 18 _ rfl (hW.of 18 (by decide)), hS.step 20 _ (.inr rfl), hH⟩
          · refine RegStep3.no 18 false rfl ?_; rintro L u w1 hL hW hD ⟨hS, hH⟩; exact ⟨hS 18 _ rfl (hW.of 18 (by decide)), hS.step 21 _ (.inr rfl), hH⟩
          · refine RegStep3.noU 21 true rfl ?_; rintro L u w1 hL hW hD ⟨hS, hH⟩; exact ⟨hS 21 _ rfl (hW.of 21 (by decide)), hS.step 22 _ (.inr rfl), hH⟩
          · refine RegStep3.noU 21 true rfl ?_; rintro L u w1 hL hW hD ⟨hS, hH⟩; exact ⟨hS 21 _ rfl (hW.of 21 (by decide)), hS.step 23 _ (.inr rfl), hH⟩
          · refine RegStep3.noU 21 true rfl ?_; rintro L u w1 hL hW hD ⟨hS, hH⟩; exact ⟨hS 21 _ rfl (hW.of 21 (by decide)), hS.step 24 _ (.inr rfl), hH⟩
          · refine RegStep3.no 18 false rfl ?_; rintro L u w1 hL hW hD ⟨hS, hH⟩; exact ⟨hS 18 _ rfl (hW.of 18 (by decide)), hS.step 25 _ (.inr rfl), hH⟩
          · refine RegStep3.no 18 false rfl ?_; rintro L u w1 hL hW hD ⟨hS, hH⟩; exact ⟨hS 18 _ rfl (hW.of 18 (by decide)), hS.step 26 _ (.inr rfl), hH⟩
          · refine RegStep3.noU 26 true rfl ?_; rintro L u w1 hL hW hD ⟨hS, hH⟩; exact ⟨hS 26 _ rfl (hW.of 26 (by decide)), hS.step 27 _ (.inr rfl), hH⟩
          · refine RegStep3.noU 26 true rfl ?_; rintro L u w1 hL hW hD ⟨hS, hH⟩; exact ⟨hS 26 _ rfl (hW.of 26 (by decide)), hS.step 28 _ (.inr rfl), hH⟩
          · refine RegStep3.noU 26 true rfl ?_; rintro L u w1 hL hW hD ⟨hS, hH⟩; exact ⟨hS 26 _ rfl (hW.of 26 (by decide)), hS.step 29 _ (.inr rfl), hH⟩
          · refine RegStep3.no 18 false rfl ?_; rintro L u w1 hL hW hD ⟨hS, hH⟩; exact ⟨hS 18 _ rfl (hW.of 18 (by decide)), hS.step 30 _ (.inr rfl), hH⟩
          · refine RegStep3.plain rfl ?_; rintro L u w1 bA hL hW hD hU ⟨hS, hH⟩ hin hout; exact opw_pickT _ _ _ _ rfl ((hin 18 96 rfl).trans (hS 18 _ rfl (hW.of 18 (by decide)))) rfl ⟨_, rfl, hS.step 31 _ (.inr rfl), hH⟩
          · refine RegStep3.plain rfl ?_; rintro L u w1 bA hL hW hD hU ⟨hS, hH⟩ hin hout; exact opw_move _ _ (.inr rfl) ((hin 31 109 rfl).trans (hS 31 _ rfl (hW.of 31 (by decide)))) ⟨_, rfl, hS.step 32 _ (.inr rfl), hH⟩
        intro L u w9 hL ⟨hS, hH⟩
        have E := hS 32 _ rfl (hL 32 (by decide))
        simp only [frame_cons, frame_nil, E, Act.put, List.setIfInBounds_toArray, List.set_cons_zero, List.set_cons_succ]
        have H9 := Lib.hid hH
        clear hL hS hH E
        go_wp2
        go_ret
        exact ⟨rfl, H9.out.right.right.right⟩
      ·
        have HR48 : Hid (cmpZ .geq (c.toNat : Int) 48 = some true) := Lib.hid (by simp only [cmpZ]; simp; omega)
        have HR57 : Hid (cmpZ .leq (c.toNat : Int) 57 = some false) := Lib.hid (by simp only [cmpZ]; simp; omega)
        have HR97 : Hid (cmpZ .geq (c.toNat : Int) 97 = some true) := Lib.hid (by simp only [cmpZ]; simp; omega)
        have HR102 : Hid (cmpZ .leq (c.toNat : Int) 102 = some false) := Lib.hid (by simp only [cmpZ]; simp; omega)
        clear hrg
        go_wp2_with (first
          | (fail)
          | ((first | (with_reducible refine wpList_plain rfl ?_) | ((with_reducible refine wpList_yes _ _ rfl ?_ ?_); (focus rfl))); intro _ hk; (first
            | (refine opw_cmp .geq _ _ _ _ .u8 (c.toNat : Int) 48 true rfl rfl rfl HR48.out (hk _ _ ?_))
            | (refine opw_cmp .leq _ _ _ _ .u8 (c.toNat : Int) 57 false rfl rfl rfl HR57.out (hk _ _ ?_))
            | (refine opw_cmp .geq _ _ _ _ .u8 (c.toNat : Int) 97 true rfl rfl rfl HR97.out (hk _ _ ?_))
            | (refine opw_cmp .leq _ _ _ _ .u8 (c.toNat : Int) 102 false rfl rfl rfl HR102.out (hk _ _ ?_))); simp only [Act.put, List.setIfInBounds_toArray, List.set_cons_zero, List.set_cons_succ]))
        refine wp_region_inv3 (fun L u w' => Slots (fun kk => ([some (.int .i64 21), some (.bool false), some (.bool false), some (.bool true), some (.bool true), some (.agg (bcells X).toArray), some (.agg (bcells a).toArray), some (.bool false), some (.bool false), some (.bool false), some undef, some undef, some undef, some undef, some undef, some (.bool false), some (.bool true), some (.bool true), some (.bool true), some undef, some undef, some undef, some undef, some undef, some undef, some undef, some undef, some undef, some undef, some undef, some undef, some (.bool true), some (.bool true)] : List (Option Value)).getD kk none) L u ∧ Has st (sep (blk p11 (.cells (bcells X).toArray 24 (0, 0))) (sep (blk p5 (.cells (bcells b).toArray 24 (0, 0))) (sep (blk p4 (.cells (bcells a).toArray 24 (0, 0))) R))) w') (by kernel_rfl) (by decide +kernel) (by decide +kernel) (by kernel_rfl) (by kernel_rfl) (fun u => ⟨Slots.start _ u, H8.out.drew⟩) ?_ ?_
        · refine ⟨?_, ?_, ?_, ?_, ?_, ?_, ?_, ?_, ?_, ?_, ?_, ?_, ?_, ?_, ?_, ?_, ?_, ?_, ?_, ?_, ?_, ?_, ?_, ?_, ?_, ?_, ?_, ?_, ?_, ?_, ?_, ?_, ?_, trivial⟩
          · refine RegStep3.plain rfl ?_; rintro L u w1 bA hL hW hD hU ⟨hS, hH⟩ hin hout; exact opw_move _ _ (.inl rfl) ((hout 12 (by kernel_rfl)).trans (by kernel_rfl)) ⟨_, rfl, hS.step 0 _ (.inr rfl), hH⟩
          · refine RegStep3.plain rfl ?_; rintro L u w1 bA hL hW hD hU ⟨hS, hH⟩ hin hout; exact opw_cmp .eql _ _ _ _ .i64 _ _ false rfl ((hin 0 78 rfl).trans (hS 0 _ rfl (hW.of 0 (by decide)))) rfl (by decide) ⟨_, rfl, hS.step 1 _ (.inr rfl), hH⟩
          · refine RegStep3.plain rfl ?_; rintro L u w1 bA hL hW hD hU ⟨hS, hH⟩ hin hout; exact opw_move _ _ (.inl rfl) ((hout 13 (by kernel_rfl)).trans (by kernel_rfl)) ⟨_, rfl, hS.step 2 _ (.inr rfl), hH⟩
          · refine RegStep3.plain rfl ?_; rintro L u w1 bA hL hW hD hU ⟨hS, hH⟩ hin hout; exact opw_eqBool _ _ _ _ _ _ Tryd.underlying4 rfl ((hin 1 79 rfl).trans (hS 1 _ rfl (hW.of 1 (by decide)))) ((hin 2 80 rfl).trans (hS 2 _ rfl (hW.of 2 (by decide)))) true rfl ⟨_, rfl, hS.step 3 _ (.inr rfl), hH⟩
          · refine RegStep3.plain rfl ?_; rintro L u w1 bA hL hW hD hU ⟨hS, hH⟩ hin hout; exact opw_move _ _ (.inl rfl) ((hin 3 81 rfl).trans (hS 3 _ rfl (hW.of 3 (by decide)))) ⟨_, rfl, hS.step 4 _ (.inr rfl), hH⟩
          · refine RegStep3.yes 4 true rfl (fun L u w1 hW hI => hI.1 4 _ rfl (hW.of 4 (by decide))) ?_; rintro L u w1 bA hL hW hD hU ⟨hS, hH⟩ hin hout; exact opw_loadRow _ _ rfl _ ((hout 11 (by kernel_rfl)).trans (by kernel_rfl)) 24 _ _ _ Tryd.underlying24 rfl HI.out (hH) ⟨_, rfl, hS.step 5 _ (.inr rfl), hH⟩
          · refine RegStep3.yes 4 true rfl (fun L u w1 hW hI => hI.1 4 _ rfl (hW.of 4 (by decide))) ?_; rintro L u w1 bA hL hW hD hU ⟨hS, hH⟩ hin hout; exact opw_loadRow _ _ rfl _ ((hout 4 (by kernel_rfl)).trans (by kernel_rfl)) 24 _ _ _ Tryd.underlying24 rfl HIA.out (hH.right.right) ⟨_, rfl, hS.step 6 _ (.inr rfl), hH⟩
          · refine RegStep3.yes 4 true rfl (fun L u w1 hW hI => hI.1 4 _ rfl (hW.of 4 (by decide))) ?_; rintro L u w1 bA hL hW hD hU ⟨hS, hH⟩ hin hout; exact opw_eqRow _ _ 5 32 _ _ X a Tryd.underlying24 Tryd.underlying5 infosz (by kernel_rfl) HXL.out HA.out rfl ((hin 5 83 rfl).trans (hS 5 _ rfl (hW.of 5 (by decide)))) ((hin 6 84 rfl).trans (hS 6 _ rfl (hW.of 6 (by decide)))) false HXA.out ⟨_, rfl, hS.step 7 _ (.inr rfl), hH⟩
          · refine RegStep3.yes 4 true rfl (fun L u w1 hW hI => hI.1 4 _ rfl (hW.of 4 (by decide))) ?_; rintro L u w1 bA hL hW hD hU ⟨hS, hH⟩ hin hout; exact opw_move _ _ (.inl rfl) ((hout 13 (by kernel_rfl)).trans (by kernel_rfl)) ⟨_, rfl, hS.step 8 _ (.inr rfl), hH⟩
          · refine RegStep3.yes 4 true rfl (fun L u w1 hW hI => hI.1 4 _ rfl (hW.of 4 (by decide))) ?_; rintro L u w1 bA hL hW hD hU ⟨hS, hH⟩ hin hout; exact opw_move _ _ (.inl rfl) ((hin 8 86 rfl).trans (hS 8 _ rfl (hW.of 8 (by decide)))) ⟨_, rfl, hS.step 9 _ (.inr rfl), hH⟩
          · refine RegStep3.no 9 true rfl ?_; rintro L u w1 hL hW hD ⟨hS, hH⟩; exact ⟨hS 9 _ rfl (hW.of 9 (by decide)), hS.step 10 _ (.inr rfl), hH⟩
          · refine RegStep3.no 9 true rfl ?_; rintro L u w1 hL hW hD ⟨hS, hH⟩; exact ⟨hS 9 _ rfl (hW.of 9 (by decide)), hS.step 11 _ (.inr rfl), hH⟩
          · refine RegStep3.no 9 true rfl ?_; rintro L u w1 hL hW hD ⟨hS, hH⟩; exact ⟨hS 9 _ rfl (hW.of 9 (by decide)), hS.step 12 _ (.inr rfl), hH⟩
          · refine RegStep3.no 9 true rfl ?_; rintro L u w1 hL hW hD ⟨hS, hH⟩; exact ⟨hS 9 _ rfl (hW.of 9 (by decide)), hS.step 13 _ (.inr rfl), hH⟩
          · refine RegStep3.no 9 true rfl ?_; rintro L u w1 hL hW hD ⟨hS, hH⟩; exact ⟨hS 9 _ rfl (hW.of 9 (by decide)), hS.step 14 _ (.inr rfl), hH⟩
          · refine RegStep3.yes 4 true rfl (fun L u w1 hW hI => hI.1 4 _ rfl (hW.of 4 (by decide))) ?_; rintro L u w1 bA hL hW hD hU ⟨hS, hH⟩ hin hout; exact opw_pickF _ _ _ _ rfl ((hin 9 87 rfl).trans (hS 9 _ rfl (hW.of 9 (by decide)))) rfl ⟨_, rfl, hS.step 15 _ (.inr rfl), hH⟩
          · refine RegStep3.yes 4 true rfl (fun L u w1 hW hI => hI.1 4 _ rfl (hW.of 4 (by decide))) ?_; rintro L u w1 bA hL hW hD hU ⟨hS, hH⟩ hin hout; exact opw_eqBool _ _ _ _ _ _ Tryd.underlying4 rfl ((hin 7 85 rfl).trans (hS 7 _ rfl (hW.of 7 (by decide)))) ((hin 15 93 rfl).trans (hS 15 _ rfl (hW.of 15 (by decide)))) true rfl ⟨_, rfl, hS.step 16 _ (.inr rfl), hH⟩
          · refine RegStep3.plain rfl ?_; rintro L u w1 bA hL hW hD hU ⟨hS, hH⟩ hin hout; exact opw_pickT _ _ _ _ rfl ((hin 4 82 rfl).trans (hS 4 _ rfl (hW.of 4 (by decide)))) ((hin 16 94 rfl).trans (hS 16 _ rfl (hW.of 16 (by decide)))) ⟨_, rfl, hS.step 17 _ (.inr rfl), hH⟩
          · refine RegStep3.plain rfl ?_; rintro L u w1 bA hL hW hD hU ⟨hS, hH⟩ hin hout; exact opw_move _ _ (.inl rfl) ((hin 17 95 rfl).trans (hS 17 _ rfl (hW.of 17 (by decide)))) ⟨_, rfl, hS.step 18 _ (.inr rfl), hH⟩
          · refine RegStep3.no 18 false rfl ?_; rintro L u w1 hL hW hD ⟨hS, hH⟩; exact ⟨hS 18 _ rfl (hW.of 18 (by decide)), hS.step 19 _ (.inr rfl), hH⟩
          · refine RegStep3.no 18 false rfl ?_; rintro L u w1 hL hW hD ⟨hS, hH⟩; exact ⟨hS 18 _ rfl (hW.of 18 (by decide)), hS.step 20 _ (.inr rfl), hH⟩
          · refine RegStep3.no 18 false rfl ?_; rintro L u w1 hL hW hD ⟨hS, hH⟩; exact ⟨hS 18 _ rfl (hW.of 18 (by decide)), hS.step 21 _ (.inr rfl), hH⟩
          · refine RegStep3.noU 21 true rfl ?_; rintro L u w1 hL hW hD ⟨hS, hH⟩; exact ⟨hS 21 _ rfl (hW.of 21 (by decide)), hS.step 22 _ (.inr rfl), hH⟩
          · refine RegStep3.noU 21 true rfl ?_; rintro L u w1 hL hW hD ⟨hS, hH⟩; exact ⟨hS 21 _ rfl (hW.of 21 (by decide)), hS.step 23 _ (.inr rfl), hH⟩
          · refine RegStep3.noU 21 true rfl ?_; rintro L u w1 hL hW hD ⟨hS, hH⟩; exact ⟨hS 21 _ rfl (hW.of 21 (by decide)), hS.step 24 _ (.inr rfl), hH⟩
          · refine RegStep3.no 18 false rfl ?_; rintro L u w1 hL hW hD ⟨hS, hH⟩; exact ⟨hS 18 _ rfl (hW.of 18 (by decide)), hS.step 25 _ (.inr rfl), hH⟩
          · refine RegStep3.no 18 false rfl ?_; rintro L u w1 hL hW hD ⟨hS, hH⟩; exact ⟨hS 18 _ rfl (hW.of 18 (by decide)), hS.step 26 _ (.inr rfl), hH⟩
          · refine RegStep3.noU 26 true rfl ?_; rintro L u w1 hL hW hD ⟨hS, hH⟩; exact ⟨hS 26 _ rfl (hW.of 26 (by decide)), hS.step 27 _ (.inr rfl), hH⟩
          · refine RegStep3.noU 26 true rfl ?_; rintro L u w1 hL hW hD ⟨hS, hH⟩; exact ⟨hS 26 _ rfl (hW.of 26 (by decide)), hS.step 28 _ (.inr rfl), hH⟩
          · refine RegStep3.noU 26 true rfl ?_; rintro L u w1 hL hW hD ⟨hS, hH⟩; exact ⟨hS 26 _ rfl (hW.of 26 (by decide)), hS.step 29 _ (.inr rfl), hH⟩
          · refine RegStep3.no 18 false rfl ?_; rintro L u w1 hL hW hD ⟨hS, hH⟩; exact ⟨hS 18 _ rfl (hW.of 18 (by decide)), hS.step 30 _ (.inr rfl), hH⟩
          · refine RegStep3.plain rfl ?_; rintro L u w1 bA hL hW hD hU ⟨hS, hH⟩ hin hout; exact opw_pickT _ _ _ _ rfl ((hin 18 96 rfl).trans (hS 18 _ rfl (hW.of 18 (by decide)))) rfl ⟨_, rfl, hS.step 31 _ (.inr rfl), hH⟩
          · refine RegStep3.plain rfl ?_; rintro L u w1 bA hL hW hD hU ⟨hS, hH⟩ hin hout; exact opw_move _ _ (.inr rfl) ((hin 31 109 rfl).trans (hS 31 _ rfl (hW.of 31 (by decide)))) ⟨_, rfl, hS.step 32 _ (.inr rfl), hH⟩
        intro L u w9 hL ⟨hS, hH⟩
        have E := hS 32 _ rfl (hL 32 (by decide))
        simp only [frame_cons, frame_nil, E, Act.put, List.setIfInBounds_toArray, List.set_cons_zero, List.set_cons_succ]
        have H9 := Lib.hid hH
        clear hL hS hH E
        go_wp2
        go_ret
        exact ⟨rfl, H9.out.right.right.right⟩
end Go.Proofs.YtijcjjinafpomaaDoor
