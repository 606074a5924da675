/-
  coldstorelaw03.ShaSums.
-/
import Derived.Test.YtijcjjinafpomaaDoorAlive3
namespace Go.Proofs.YtijcjjinafpomaaDoor
open Go.RowKit Go.Sl Go.Sha
set_option linter.unusedVariables false
set_option linter.unusedSimpArgs false
set_option maxRecDepth 100000 in
set_option maxHeartbeats 4000000 in
theorem sums_any (st : World) (R : HProp) (hk : Keys st R) (hst : Start st R) (b : List UInt8) (A : Option Addr) (c : Nat) (hs : Sees st R 1 (.slice A b.length c) b.length (bcells b)) (l x y : List UInt8) (hx : x.length = 32) (hy : y.length = 32) (w : World) (h : Has st R w) :
    Calls Tryd.prog 3 #[.slice A b.length c, .string (str l), .agg (bcells x).toArray, .agg (bcells y).toArray] w fun e w' => e = .returned (.bool true) ∧ Has st R w' := by
  have HH := Lib.hid h
  have HK := Lib.hid hk
  have HST := Lib.hid hst
  have HX := Lib.hid hx
  have HY := Lib.hid hy
  have HS := Lib.hid hs
  clear h hk hst hx hy hs
  by_cases hb3 : b.length ≤ 300
  · have HZ1 : Hid (cmpZ .gtr (b.length : Int) 300 = some false) := Lib.hid (by simp only [cmpZ]; simp; omega)
    by_cases hl1 : l.length ≤ 100
    · have HZ2 : Hid (cmpZ .gtr (l.length : Int) 100 = some false) := Lib.hid (by simp only [cmpZ]; simp; omega)
      by_cases hok : okS l = true
      · obtain ⟨X, hX⟩ : ∃ X, X = part l 64 := ⟨_, rfl⟩
        have hXl : X.length = 32 := by rw [hX]; exact part_length _ _
        have HP1 : Hid (∀ RR w, Has st RR w → Calls Tryd.prog 8 #[.string (str l)] w fun e w' => e = .returned (.tuple #[.agg (bcells X).toArray, .int .i64 0]) ∧ Has st RR w') := Lib.hid fun RR w h => by
          have := parse_any st RR (str l) w h (by rw [str_size]; omega)
          rw [show (str l).data.toList = l by simp [str], parse_yes hok, ← hX] at this
          exact this
        have HP2 : Hid (∀ RR w, Has st RR w → Calls Tryd.prog 9 #[.string (str l)] w fun e w' => e = .returned (.tuple #[.agg (bcells X).toArray, .bool true]) ∧ Has st RR w') := Lib.hid fun RR w h => by
          have := refparse_any st RR (str l) w h (by rw [str_size]; omega)
          rw [show (str l).data.toList = l by simp [str], refparse_yes hok, ← hX] at this
          exact this
        have hi32 : (Tryd.prog.info? 24).map (·.size) = some (bcells X).toArray.size := by simp only [List.size_toArray, bcells_length, hXl]; exact infoID
        have hz2 : (bcells (List.replicate 32 (0 : UInt8))).toArray.size = (bcells X).toArray.size := by simp only [List.size_toArray, bcells_length, hXl]; rfl
        have hix : (Tryd.prog.info? 24).map (·.size) = some (bcells x).toArray.size := by simp only [List.size_toArray, bcells_length, HX.out]; exact infoID
        have hiy : (Tryd.prog.info? 24).map (·.size) = some (bcells y).toArray.size := by simp only [List.size_toArray, bcells_length, HY.out]; exact infoID
        have HI := Lib.hid hi32
        have HI2 := Lib.hid hz2
        have HIX := Lib.hid hix
        have HIY := Lib.hid hiy
        have HXL := Lib.hid hXl
        clear hX hXl hi32 hz2 hix hiy hok
        go_enter Tryd.func3, Tryd.ntmps3
        go_wp2_with (first
          | (go_at_call 7; refine (alive_any st _ HK.out.up.up HST.out.up.up _ H2.out).mono ?_; rintro e w3 ⟨rfl, h3⟩; have H3 := Lib.hid h3; clear h3)
          | (go_at_call 8; refine (HP1.out _ _ H3.out).mono ?_; rintro e w4 ⟨rfl, h4⟩; have H4 := Lib.hid h4; clear h4)
          | (go_at_call 9; refine (HP2.out _ _ H6.out).mono ?_; rintro e w7 ⟨rfl, h7⟩; have H7 := Lib.hid h7; clear h7)
          | ((first | (with_reducible refine wpList_plain rfl ?_) | ((with_reducible refine wpList_yes _ _ rfl ?_ ?_); (focus rfl))); intro _ hk; (first
            | (refine opw_box 24 (.agg (bcells x).toArray) (bcells x).toArray rfl rfl rfl HH.out (fun p6 w1 hp h1 => hk _ _ ?_); clear hp; have H1 := Lib.hid h1; clear h1)
            | (refine opw_box 24 (.agg (bcells y).toArray) (bcells y).toArray rfl rfl rfl H1.out (fun p7 w2 hp h2 => hk _ _ ?_); clear hp; have H2 := Lib.hid h2; clear h2)
            | (refine opw_len _ _ _ Tryd.underlying22 A b.length c rfl rfl (hk _ _ ?_))
            | (refine opw_lenStr _ _ Tryd.underlying9 l rfl rfl (hk _ _ ?_))
            | (refine opw_cmp .gtr _ _ _ _ .i64 (b.length : Int) 300 false rfl rfl rfl HZ1.out (hk _ _ ?_))
            | (refine opw_cmp .gtr _ _ _ _ .i64 (l.length : Int) 100 false rfl rfl rfl HZ2.out (hk _ _ ?_))
            | (have _k := H7; refine opw_alloc 24 (.agg (bcells (List.replicate 32 0)).toArray) (bcells (List.replicate 32 0)).toArray rfl zeroID rfl H7.out (fun p11 w8 hp h8 => hk _ _ ?_); clear hp; have H8 := Lib.hid h8; clear h8)
            | (refine opw_alloc 24 (.agg (bcells (List.replicate 32 0)).toArray) (bcells (List.replicate 32 0)).toArray rfl zeroID rfl H4.out (fun p9 w5 hp h5 => hk _ _ ?_); clear hp; have H5 := Lib.hid h5; clear h5)
            | (have _k := H8; refine opw_storeRow 24 _ _ rfl p11 (bcells X).toArray rfl rfl 24 (bcells (List.replicate 32 0)).toArray HI.out HI2.out (bcells_all _) H8.out (fun w9 h9 => hk _ _ ?_); have H9 := Lib.hid h9; clear h9)
            | (refine opw_storeRow 24 _ _ rfl p9 (bcells X).toArray rfl rfl 24 (bcells (List.replicate 32 0)).toArray HI.out HI2.out (bcells_all _) H5.out (fun w6 h6 => hk _ _ ?_); have H6 := Lib.hid h6; clear h6)); simp only [Act.put, List.setIfInBounds_toArray, List.set_cons_zero, List.set_cons_succ]))
        obtain ⟨SB, hSB⟩ : ∃ SB, SB = sha b := ⟨_, rfl⟩
        have hSBl : SB.length = 32 := by rw [hSB]; exact sha_length _
        obtain ⟨LB, hLB⟩ : ∃ LB, LB = lessB x y := ⟨_, rfl⟩
        obtain ⟨TX, hTX⟩ : ∃ TX, TX = hex x := ⟨_, rfl⟩
        have C1 : Hid (∀ w, Has st (sep (blk p11 (.cells (bcells X).toArray 24 (0, 0))) (sep (blk p9 (.cells (bcells X).toArray 24 (0, 0))) (sep (blk p7 (.cells (bcells y).toArray 24 (0, 0))) (sep (blk p6 (.cells (bcells x).toArray 24 (0, 0))) R)))) w → Calls Tryd.prog 10 #[.slice A b.length c] w fun e w' => e = .returned (.agg (bcells SB).toArray) ∧ Has st (sep (blk p11 (.cells (bcells X).toArray 24 (0, 0))) (sep (blk p9 (.cells (bcells X).toArray 24 (0, 0))) (sep (blk p7 (.cells (bcells y).toArray 24 (0, 0))) (sep (blk p6 (.cells (bcells x).toArray 24 (0, 0))) R)))) w') := Lib.hid fun w h => by rw [hSB]; exact shaOf_any st _ b _ HK.out.up.up.up.up HST.out.up.up.up.up w h (fun w2 h2 => HS.out w2 h2.right.right.right.right) (by omega)
        have C2 : Hid (∀ w, Has st (sep (blk p11 (.cells (bcells X).toArray 24 (0, 0))) (sep (blk p9 (.cells (bcells X).toArray 24 (0, 0))) (sep (blk p7 (.cells (bcells y).toArray 24 (0, 0))) (sep (blk p6 (.cells (bcells x).toArray 24 (0, 0))) R)))) w → Calls Tryd.prog 11 #[.slice A b.length c] w fun e w' => e = .returned (.agg (bcells SB).toArray) ∧ Has st (sep (blk p11 (.cells (bcells X).toArray 24 (0, 0))) (sep (blk p9 (.cells (bcells X).toArray 24 (0, 0))) (sep (blk p7 (.cells (bcells y).toArray 24 (0, 0))) (sep (blk p6 (.cells (bcells x).toArray 24 (0, 0))) R)))) w') := Lib.hid fun w h => by rw [hSB]; exact refOf_any st _ b _ w h (fun w2 h2 => HS.out w2 h2.right.right.right.right) (by omega)
        have C3 : Hid (∀ w, Has st (sep (blk p11 (.cells (bcells X).toArray 24 (0, 0))) (sep (blk p9 (.cells (bcells X).toArray 24 (0, 0))) (sep (blk p7 (.cells (bcells y).toArray 24 (0, 0))) (sep (blk p6 (.cells (bcells x).toArray 24 (0, 0))) R)))) w → Calls Tryd.prog 12 #[.agg (bcells x).toArray, .agg (bcells y).toArray] w fun e w' => e = .returned (.bool LB) ∧ Has st (sep (blk p11 (.cells (bcells X).toArray 24 (0, 0))) (sep (blk p9 (.cells (bcells X).toArray 24 (0, 0))) (sep (blk p7 (.cells (bcells y).toArray 24 (0, 0))) (sep (blk p6 (.cells (bcells x).toArray 24 (0, 0))) R)))) w') := Lib.hid fun w h => by rw [hLB]; exact less_any st _ x y HX.out HY.out w h
        have C4 : Hid (∀ w, Has st (sep (blk p11 (.cells (bcells X).toArray 24 (0, 0))) (sep (blk p9 (.cells (bcells X).toArray 24 (0, 0))) (sep (blk p7 (.cells (bcells y).toArray 24 (0, 0))) (sep (blk p6 (.cells (bcells x).toArray 24 (0, 0))) R)))) w → Calls Tryd.prog 13 #[.agg (bcells x).toArray, .agg (bcells y).toArray] w fun e w' => e = .returned (.bool LB) ∧ Has st (sep (blk p11 (.cells (bcells X).toArray 24 (0, 0))) (sep (blk p9 (.cells (bcells X).toArray 24 (0, 0))) (sep (blk p7 (.cells (bcells y).toArray 24 (0, 0))) (sep (blk p6 (.cells (bcells x).toArray 24 (0, 0))) R)))) w') := Lib.hid fun w h => by rw [hLB]; exact refless_any st _ x y HX.out HY.out w h
        have C5 : Hid (∀ w, Has st (sep (blk p11 (.cells (bcells X).toArray 24 (0, 0))) (sep (blk p9 (.cells (bcells X).toArray 24 (0, 0))) (sep (blk p7 (.cells (bcells y).toArray 24 (0, 0))) (sep (blk p6 (.cells (bcells x).toArray 24 (0, 0))) R)))) w → Calls Tryd.prog 14 #[.agg (bcells x).toArray] w fun e w' => e = .returned (.string (str TX)) ∧ Has st (sep (blk p11 (.cells (bcells X).toArray 24 (0, 0))) (sep (blk p9 (.cells (bcells X).toArray 24 (0, 0))) (sep (blk p7 (.cells (bcells y).toArray 24 (0, 0))) (sep (blk p6 (.cells (bcells x).toArray 24 (0, 0))) R)))) w') := Lib.hid fun w h => by rw [hTX]; exact text_any st _ x HX.out w h
        have C6 : Hid (∀ w, Has st (sep (blk p11 (.cells (bcells X).toArray 24 (0, 0))) (sep (blk p9 (.cells (bcells X).toArray 24 (0, 0))) (sep (blk p7 (.cells (bcells y).toArray 24 (0, 0))) (sep (blk p6 (.cells (bcells x).toArray 24 (0, 0))) R)))) w → Calls Tryd.prog 15 #[.agg (bcells x).toArray] w fun e w' => e = .returned (.string (str TX)) ∧ Has st (sep (blk p11 (.cells (bcells X).toArray 24 (0, 0))) (sep (blk p9 (.cells (bcells X).toArray 24 (0, 0))) (sep (blk p7 (.cells (bcells y).toArray 24 (0, 0))) (sep (blk p6 (.cells (bcells x).toArray 24 (0, 0))) R)))) w') := Lib.hid fun w h => by rw [hTX]; exact reftext_any st _ x HX.out w h
        have HSBL := Lib.hid hSBl
        clear hSB hSBl hLB hTX
        refine wp_region_inv3 (fun L u w' => Slots (fun kk => ([some (.slice A b.length c), some (.agg (bcells SB).toArray), some (.slice A b.length c), some (.agg (bcells SB).toArray), some (.bool true), some (.bool true), some (.agg (bcells X).toArray), some (.agg (bcells X).toArray), some (.bool true), some (.bool true), some (.bool true), some (.int .i64 0), some (.bool true), some (.bool true), some (.bool true), some (.bool true), some (.bool true), some (.bool true), some (.bool true), some undef, some undef, some (.bool true), some (.bool true), some (.bool true), some (.agg (bcells x).toArray), some (.agg (bcells y).toArray), some (.bool LB), some (.agg (bcells x).toArray), some (.agg (bcells y).toArray), some (.bool LB), some (.bool true), some (.bool true), some (.bool true), some (.agg (bcells x).toArray), some (.string (str TX)), some (.agg (bcells x).toArray), some (.string (str TX)), some (.bool true), some (.bool true), some (.bool true)] : List (Option Value)).getD kk none) L u ∧ Has st (sep (blk p11 (.cells (bcells X).toArray 24 (0, 0))) (sep (blk p9 (.cells (bcells X).toArray 24 (0, 0))) (sep (blk p7 (.cells (bcells y).toArray 24 (0, 0))) (sep (blk p6 (.cells (bcells x).toArray 24 (0, 0))) R)))) w') (by kernel_rfl) (by decide +kernel) (by decide +kernel) (by kernel_rfl) (by kernel_rfl) (fun u => ⟨Slots.start _ u, H9.out.drew⟩) ?_ ?_
        · refine ⟨?_, ?_, ?_, ?_, ?_, ?_, ?_, ?_, ?_, ?_, ?_, ?_, ?_, ?_, ?_, ?_, ?_, ?_, ?_, ?_, ?_, ?_, ?_, ?_, ?_, ?_, ?_, ?_, ?_, ?_, ?_, ?_, ?_, ?_, ?_, ?_, ?_, ?_, ?_, ?_, trivial⟩
          · refine RegStep3.plain rfl ?_; rintro L u w1 bA hL hW hD hU ⟨hS, hH⟩ hin hout; exact opw_move _ _ (.inl rfl) ((hout 0 (by kernel_rfl)).trans (by kernel_rfl)) ⟨_, rfl, hS.step 0 _ (.inr rfl), hH⟩
          · refine RegStep3.plain rfl ?_; rintro L u w1 bA hL hW hD hU ⟨hS, hH⟩ hin hout; exact opw_call_ret _ _ _ [(.slice A b.length c)] rfl (by kernel_rfl) (list2 ((hin 0 33 rfl).trans (hS 0 _ rfl (hW.of 0 (by decide)))) rfl) (C1.out _ hH) (fun e w2 he => by obtain ⟨rfl, h2⟩ := he; exact ⟨_, rfl, _, rfl, hS.step 1 _ (.inr rfl), h2⟩)
          · refine RegStep3.plain rfl ?_; rintro L u w1 bA hL hW hD hU ⟨hS, hH⟩ hin hout; exact opw_move _ _ (.inl rfl) ((hout 0 (by kernel_rfl)).trans (by kernel_rfl)) ⟨_, rfl, hS.step 2 _ (.inr rfl), hH⟩
          · refine RegStep3.plain rfl ?_; rintro L u w1 bA hL hW hD hU ⟨hS, hH⟩ hin hout; exact opw_call_ret _ _ _ [(.slice A b.length c)] rfl (by kernel_rfl) (list2 ((hin 2 35 rfl).trans (hS 2 _ rfl (hW.of 2 (by decide)))) rfl) (C2.out _ hH) (fun e w2 he => by obtain ⟨rfl, h2⟩ := he; exact ⟨_, rfl, _, rfl, hS.step 3 _ (.inr rfl), h2⟩)
          · refine RegStep3.plain rfl ?_; rintro L u w1 bA hL hW hD hU ⟨hS, hH⟩ hin hout; exact opw_eqRow _ _ 5 32 _ _ SB SB Tryd.underlying24 Tryd.underlying5 infosz (by kernel_rfl) HSBL.out HSBL.out rfl ((hin 1 34 rfl).trans (hS 1 _ rfl (hW.of 1 (by decide)))) ((hin 3 36 rfl).trans (hS 3 _ rfl (hW.of 3 (by decide)))) true (beq_self_eq_true _) ⟨_, rfl, hS.step 4 _ (.inr rfl), hH⟩
          · refine RegStep3.plain rfl ?_; rintro L u w1 bA hL hW hD hU ⟨hS, hH⟩ hin hout; exact opw_move _ _ (.inl rfl) ((hin 4 37 rfl).trans (hS 4 _ rfl (hW.of 4 (by decide)))) ⟨_, rfl, hS.step 5 _ (.inr rfl), hH⟩
          · refine RegStep3.yes 5 true rfl (fun L u w1 hW hI => hI.1 5 _ rfl (hW.of 5 (by decide))) ?_; rintro L u w1 bA hL hW hD hU ⟨hS, hH⟩ hin hout; exact opw_loadRow _ _ rfl _ ((hout 9 (by kernel_rfl)).trans (by kernel_rfl)) 24 _ _ _ Tryd.underlying24 rfl HI.out (hH.right) ⟨_, rfl, hS.step 6 _ (.inr rfl), hH⟩
          · refine RegStep3.yes 5 true rfl (fun L u w1 hW hI => hI.1 5 _ rfl (hW.of 5 (by decide))) ?_; rintro L u w1 bA hL hW hD hU ⟨hS, hH⟩ hin hout; exact opw_loadRow _ _ rfl _ ((hout 11 (by kernel_rfl)).trans (by kernel_rfl)) 24 _ _ _ Tryd.underlying24 rfl HI.out (hH) ⟨_, rfl, hS.step 7 _ (.inr rfl), hH⟩
          · refine RegStep3.yes 5 true rfl (fun L u w1 hW hI => hI.1 5 _ rfl (hW.of 5 (by decide))) ?_; rintro L u w1 bA hL hW hD hU ⟨hS, hH⟩ hin hout; exact opw_eqRow _ _ 5 32 _ _ X X Tryd.underlying24 Tryd.underlying5 infosz (by kernel_rfl) HXL.out HXL.out rfl ((hin 6 39 rfl).trans (hS 6 _ rfl (hW.of 6 (by decide)))) ((hin 7 40 rfl).trans (hS 7 _ rfl (hW.of 7 (by decide)))) true (beq_self_eq_true _) ⟨_, rfl, hS.step 8 _ (.inr rfl), hH⟩
          · refine RegStep3.plain rfl ?_; rintro L u w1 bA hL hW hD hU ⟨hS, hH⟩ hin hout; exact opw_pickT _ _ _ _ rfl ((hin 5 38 rfl).trans (hS 5 _ rfl (hW.of 5 (by decide)))) ((hin 8 41 rfl).trans (hS 8 _ rfl (hW.of 8 (by decide)))) ⟨_, rfl, hS.step 9 _ (.inr rfl), hH⟩
          · refine RegStep3.plain rfl ?_; rintro L u w1 bA hL hW hD hU ⟨hS, hH⟩ hin hout; exact opw_move _ _ (.inl rfl) ((hin 9 42 rfl).trans (hS 9 _ rfl (hW.of 9 (by decide)))) ⟨_, rfl, hS.step 10 _ (.inr rfl), hH⟩
          · refine RegStep3.yes 10 true rfl (fun L u w1 hW hI => hI.1 10 _ rfl (hW.of 10 (by decide))) ?_; rintro L u w1 bA hL hW hD hU ⟨hS, hH⟩ hin hout; exact opw_move _ _ (.inl rfl) ((hout 10 (by kernel_rfl)).trans (by kernel_rfl)) ⟨_, rfl, hS.step 11 _ (.inr rfl), hH⟩
          · refine RegStep3.yes 10 true rfl (fun L u w1 hW hI => hI.1 10 _ rfl (hW.of 10 (by decide))) ?_; rintro L u w1 bA hL hW hD hU ⟨hS, hH⟩ hin hout; exact opw_cmp .eql _ _ _ _ .i64 _ _ true rfl ((hin 11 44 rfl).trans (hS 11 _ rfl (hW.of 11 (by decide)))) rfl (by decide) ⟨_, rfl, hS.step 12 _ (.inr rfl), hH⟩
          · refine RegStep3.yes 10 true rfl (fun L u w1 hW hI => hI.1 10 _ rfl (hW.of 10 (by decide))) ?_; rintro L u w1 bA hL hW hD hU ⟨hS, hH⟩ hin hout; exact opw_move _ _ (.inl rfl) ((hout 12 (by kernel_rfl)).trans (by kernel_rfl)) ⟨_, rfl, hS.step 13 _ (.inr rfl), hH⟩
          · refine RegStep3.yes 10 true rfl (fun L u w1 hW hI => hI.1 10 _ rfl (hW.of 10 (by decide))) ?_; rintro L u w1 bA hL hW hD hU ⟨hS, hH⟩ hin hout; exact opw_eqBool _ _ _ _ _ _ Tryd.underlying4 rfl ((hin 12 45 rfl).trans (hS 12 _ rfl (hW.of 12 (by decide)))) ((hin 13 46 rfl).trans (hS 13 _ rfl (hW.of 13 (by decide)))) true (beq_self_eq_true _) ⟨_, rfl, hS.step 14 _ (.inr rfl), hH⟩
          · refine RegStep3.plain rfl ?_; rintro L u w1 bA hL hW hD hU ⟨hS, hH⟩ hin hout; exact opw_pickT _ _ _ _ rfl ((hin 10 43 rfl).trans (hS 10 _ rfl (hW.of 10 (by decide)))) ((hin 14 47 rfl).trans (hS 14 _ rfl (hW.of 14 (by decide)))) ⟨_, rfl, hS.step 15 _ (.inr rfl), hH⟩
          · refine RegStep3.plain rfl ?_; rintro L u w1 bA hL hW hD hU ⟨hS, hH⟩ hin hout; exact opw_move _ _ (.inl rfl) ((hin 15 48 rfl).trans (hS 15 _ rfl (hW.of 15 (by decide)))) ⟨_, rfl, hS.step 16 _ (.inr rfl), hH⟩
          · refine RegStep3.yes 16 true rfl (fun L u w1 hW hI => hI.1 16 _ rfl (hW.of 16 (by decide))) ?_; rintro L u w1 bA hL hW hD hU ⟨hS, hH⟩ hin hout; exact opw_move _ _ (.inl rfl) ((hout 12 (by kernel_rfl)).trans (by kernel_rfl)) ⟨_, rfl, hS.step 17 _ (.inr rfl), hH⟩
          · refine RegStep3.yes 16 true rfl (fun L u w1 hW hI => hI.1 16 _ rfl (hW.of 16 (by decide))) ?_; rintro L u w1 bA hL hW hD hU ⟨hS, hH⟩ hin hout; exact opw_move _ _ (.inl rfl) ((hin 17 50 rfl).trans (hS 17 _ rfl (hW.of 17 (by decide)))) ⟨_, rfl, hS.step 18 _ (.inr rfl), hH⟩
          · refine RegStep3.no 18 false rfl ?_; rintro L u w1 hL hW hD ⟨hS, hH⟩; exact ⟨hS 18 _ rfl (hW.of 18 (by decide)), hS.step 19 _ (.inr rfl), hH⟩
          · refine RegStep3.no 18 false rfl ?_; rintro L u w1 hL hW hD ⟨hS, hH⟩; exact ⟨hS 18 _ rfl (hW.of 18 (by decide)), hS.step 20 _ (.inr rfl), hH⟩
          · refine RegStep3.yes 16 true rfl (fun L u w1 hW hI => hI.1 16 _ rfl (hW.of 16 (by decide))) ?_; rintro L u w1 bA hL hW hD hU ⟨hS, hH⟩ hin hout; exact opw_pickT _ _ _ _ rfl ((hin 18 51 rfl).trans (hS 18 _ rfl (hW.of 18 (by decide)))) rfl ⟨_, rfl, hS.step 21 _ (.inr rfl), hH⟩
          · refine RegStep3.plain rfl ?_; rintro L u w1 bA hL hW hD hU ⟨hS, hH⟩ hin hout; exact opw_pickT _ _ _ _ rfl ((hin 16 49 rfl).trans (hS 16 _ rfl (hW.of 16 (by decide)))) ((hin 21 54 rfl).trans (hS 21 _ rfl (hW.of 21 (by decide)))) ⟨_, rfl, hS.step 22 _ (.inr rfl), hH⟩
          · refine RegStep3.plain rfl ?_; rintro L u w1 bA hL hW hD hU ⟨hS, hH⟩ hin hout; exact opw_move _ _ (.inl rfl) ((hin 22 55 rfl).trans (hS 22 _ rfl (hW.of 22 (by decide)))) ⟨_, rfl, hS.step 23 _ (.inr rfl), hH⟩
          · refine RegStep3.yes 23 true rfl (fun L u w1 hW hI => hI.1 23 _ rfl (hW.of 23 (by decide))) ?_; rintro L u w1 bA hL hW hD hU ⟨hS, hH⟩ hin hout; exact opw_loadRow _ _ rfl _ ((hout 6 (by kernel_rfl)).trans (by kernel_rfl)) 24 _ _ _ Tryd.underlying24 rfl HIX.out (hH.right.right.right) ⟨_, rfl, hS.step 24 _ (.inr rfl), hH⟩
          · refine RegStep3.yes 23 true rfl (fun L u w1 hW hI => hI.1 23 _ rfl (hW.of 23 (by decide))) ?_; rintro L u w1 bA hL hW hD hU ⟨hS, hH⟩ hin hout; exact opw_loadRow _ _ rfl _ ((hout 7 (by kernel_rfl)).trans (by kernel_rfl)) 24 _ _ _ Tryd.underlying24 rfl HIY.out (hH.right.right) ⟨_, rfl, hS.step 25 _ (.inr rfl), hH⟩
          · refine RegStep3.yes 23 true rfl (fun L u w1 hW hI => hI.1 23 _ rfl (hW.of 23 (by decide))) ?_; rintro L u w1 bA hL hW hD hU ⟨hS, hH⟩ hin hout; exact opw_call_ret _ _ _ [(.agg (bcells x).toArray), (.agg (bcells y).toArray)] rfl (by kernel_rfl) (list2 ((hin 24 57 rfl).trans (hS 24 _ rfl (hW.of 24 (by decide)))) (list2 ((hin 25 58 rfl).trans (hS 25 _ rfl (hW.of 25 (by decide)))) rfl)) (C3.out _ hH) (fun e w2 he => by obtain ⟨rfl, h2⟩ := he; exact ⟨_, rfl, _, rfl, hS.step 26 _ (.inr rfl), h2⟩)
          · refine RegStep3.yes 23 true rfl (fun L u w1 hW hI => hI.1 23 _ rfl (hW.of 23 (by decide))) ?_; rintro L u w1 bA hL hW hD hU ⟨hS, hH⟩ hin hout; exact opw_loadRow _ _ rfl _ ((hout 6 (by kernel_rfl)).trans (by kernel_rfl)) 24 _ _ _ Tryd.underlying24 rfl HIX.out (hH.right.right.right) ⟨_, rfl, hS.step 27 _ (.inr rfl), hH⟩
          · refine RegStep3.yes 23 true rfl (fun L u w1 hW hI => hI.1 23 _ rfl (hW.of 23 (by decide))) ?_; rintro L u w1 bA hL hW hD hU ⟨hS, hH⟩ hin hout; exact opw_loadRow _ _ rfl _ ((hout 7 (by kernel_rfl)).trans (by kernel_rfl)) 24 _ _ _ Tryd.underlying24 rfl HIY.out (hH.right.right) ⟨_, rfl, hS.step 28 _ (.inr rfl), hH⟩
          · refine RegStep3.yes 23 true rfl (fun L u w1 hW hI => hI.1 23 _ rfl (hW.of 23 (by decide))) ?_; rintro L u w1 bA hL hW hD hU ⟨hS, hH⟩ hin hout; exact opw_call_ret _ _ _ [(.agg (bcells x).toArray), (.agg (bcells y).toArray)] rfl (by kernel_rfl) (list2 ((hin 27 60 rfl).trans (hS 27 _ rfl (hW.of 27 (by decide)))) (list2 ((hin 28 61 rfl).trans (hS 28 _ rfl (hW.of 28 (by decide)))) rfl)) (C4.out _ hH) (fun e w2 he => by obtain ⟨rfl, h2⟩ := he; exact ⟨_, rfl, _, rfl, hS.step 29 _ (.inr rfl), h2⟩)
          · refine RegStep3.yes 23 true rfl (fun L u w1 hW hI => hI.1 23 _ rfl (hW.of 23 (by decide))) ?_; rintro L u w1 bA hL hW hD hU ⟨hS, hH⟩ hin hout; exact opw_eqBool _ _ _ _ _ _ Tryd.underlying4 rfl ((hin 26 59 rfl).trans (hS 26 _ rfl (hW.of 26 (by decide)))) ((hin 29 62 rfl).trans (hS 29 _ rfl (hW.of 29 (by decide)))) true (beq_self_eq_true _) ⟨_, rfl, hS.step 30 _ (.inr rfl), hH⟩
          · refine RegStep3.plain rfl ?_; rintro L u w1 bA hL hW hD hU ⟨hS, hH⟩ hin hout; exact opw_pickT _ _ _ _ rfl ((hin 23 56 rfl).trans (hS 23 _ rfl (hW.of 23 (by decide)))) ((hin 30 63 rfl).trans (hS 30 _ rfl (hW.of 30 (by decide)))) ⟨_, rfl, hS.step 31 _ (.inr rfl), hH⟩
          · refine RegStep3.plain rfl ?_; rintro L u w1 bA hL hW hD hU ⟨hS, hH⟩ hin hout; exact opw_move _ _ (.inl rfl) ((hin 31 64 rfl).trans (hS 31 _ rfl (hW.of 31 (by decide)))) ⟨_, rfl, hS.step 32 _ (.inr rfl), hH⟩
          · refine RegStep3.yes 32 true rfl (fun L u w1 hW hI => hI.1 32 _ rfl (hW.of 32 (by decide))) ?_; rintro L u w1 bA hL hW hD hU ⟨hS, hH⟩ hin hout; exact opw_loadRow _ _ rfl _ ((hout 6 (by kernel_rfl)).trans (by kernel_rfl)) 24 _ _ _ Tryd.underlying24 rfl HIX.out (hH.right.right.right) ⟨_, rfl, hS.step 33 _ (.inr rfl), hH⟩
          · refine RegStep3.yes 32 true rfl (fun L u w1 hW hI => hI.1 32 _ rfl (hW.of 32 (by decide))) ?_; rintro L u w1 bA hL hW hD hU ⟨hS, hH⟩ hin hout; exact opw_call_ret _ _ _ [(.agg (bcells x).toArray)] rfl (by kernel_rfl) (list2 ((hin 33 66 rfl).trans (hS 33 _ rfl (hW.of 33 (by decide)))) rfl) (C5.out _ hH) (fun e w2 he => by obtain ⟨rfl, h2⟩ := he; exact ⟨_, rfl, _, rfl, hS.step 34 _ (.inr rfl), h2⟩)
          · refine RegStep3.yes 32 true rfl (fun L u w1 hW hI => hI.1 32 _ rfl (hW.of 32 (by decide))) ?_; rintro L u w1 bA hL hW hD hU ⟨hS, hH⟩ hin hout; exact opw_loadRow _ _ rfl _ ((hout 6 (by kernel_rfl)).trans (by kernel_rfl)) 24 _ _ _ Tryd.underlying24 rfl HIX.out (hH.right.right.right) ⟨_, rfl, hS.step 35 _ (.inr rfl), hH⟩
          · refine RegStep3.yes 32 true rfl (fun L u w1 hW hI => hI.1 32 _ rfl (hW.of 32 (by decide))) ?_; rintro L u w1 bA hL hW hD hU ⟨hS, hH⟩ hin hout; exact opw_call_ret _ _ _ [(.agg (bcells x).toArray)] rfl (by kernel_rfl) (list2 ((hin 35 68 rfl).trans (hS 35 _ rfl (hW.of 35 (by decide)))) rfl) (C6.out _ hH) (fun e w2 he => by obtain ⟨rfl, h2⟩ := he; exact ⟨_, rfl, _, rfl, hS.step 36 _ (.inr rfl), h2⟩)
          · refine RegStep3.yes 32 true rfl (fun L u w1 hW hI => hI.1 32 _ rfl (hW.of 32 (by decide))) ?_; rintro L u w1 bA hL hW hD hU ⟨hS, hH⟩ hin hout; exact opw_cmpStr .eql _ _ _ _ TX TX true rfl ((hin 34 67 rfl).trans (hS 34 _ rfl (hW.of 34 (by decide)))) ((hin 36 69 rfl).trans (hS 36 _ rfl (hW.of 36 (by decide)))) (congrArg some (beq_self_eq_true _)) ⟨_, rfl, hS.step 37 _ (.inr rfl), hH⟩
          · refine RegStep3.plain rfl ?_; rintro L u w1 bA hL hW hD hU ⟨hS, hH⟩ hin hout; exact opw_pickT _ _ _ _ rfl ((hin 32 65 rfl).trans (hS 32 _ rfl (hW.of 32 (by decide)))) ((hin 37 70 rfl).trans (hS 37 _ rfl (hW.of 37 (by decide)))) ⟨_, rfl, hS.step 38 _ (.inr rfl), hH⟩
          · refine RegStep3.plain rfl ?_; rintro L u w1 bA hL hW hD hU ⟨hS, hH⟩ hin hout; exact opw_move _ _ (.inr rfl) ((hin 38 71 rfl).trans (hS 38 _ rfl (hW.of 38 (by decide)))) ⟨_, rfl, hS.step 39 _ (.inr rfl), hH⟩
        intro L u w10 hL ⟨hS, hH⟩
        have E := hS 39 _ rfl (hL 39 (by decide))
        simp only [frame_cons, frame_nil, E, Act.put, List.setIfInBounds_toArray, List.set_cons_zero, List.set_cons_succ]
        have H10 := Lib.hid hH
        clear hL hS hH E
        go_wp2
        go_ret
        exact ⟨rfl, H10.out.right.right.right.right⟩
      · rw [Bool.not_eq_true] at hok
        obtain ⟨X, hX⟩ : ∃ X, X = List.replicate 32 (0 : UInt8) := ⟨_, rfl⟩
        have hXl : X.length = 32 := by rw [hX]; rfl
        have HP1 : Hid (∀ RR w, Has st RR w → Calls Tryd.prog 8 #[.string (str l)] w fun e w' => e = .returned (.tuple #[.agg (bcells X).toArray, .int .i64 21]) ∧ Has st RR w') := Lib.hid fun RR w h => by
          have := parse_any st RR (str l) w h (by rw [str_size]; omega)
          rw [show (str l).data.toList = l by simp [str], parse_no hok, ← hX] at this
          exact this
        have HP2 : Hid (∀ RR w, Has st RR w → Calls Tryd.prog 9 #[.string (str l)] w fun e w' => e = .returned (.tuple #[.agg (bcells X).toArray, .bool false]) ∧ Has st RR w') := Lib.hid fun RR w h => by
          have := refparse_any st RR (str l) w h (by rw [str_size]; omega)
          rw [show (str l).data.toList = l by simp [str], refparse_no hok, ← hX] at this
          exact this
        have hi32 : (Tryd.prog.info? 24).map (·.size) = some (bcells X).toArray.size := by simp only [List.size_toArray, bcells_length, hXl]; exact infoID
        have hz2 : (bcells (List.replicate 32 (0 : UInt8))).toArray.size = (bcells X).toArray.size := by simp only [List.size_toArray, bcells_length, hXl]; rfl
        have hix : (Tryd.prog.info? 24).map (·.size) = some (bcells x).toArray.size := by simp only [List.size_toArray, bcells_length, HX.out]; exact infoID
        have hiy : (Tryd.prog.info? 24).map (·.size) = some (bcells y).toArray.size := by simp only [List.size_toArray, bcells_length, HY.out]; exact infoID
        have HI := Lib.hid hi32
        have HI2 := Lib.hid hz2
        have HIX := Lib.hid hix
        have HIY := Lib.hid hiy
        have HXL := Lib.hid hXl
        clear hX hXl hi32 hz2 hix hiy hok
        go_enter Tryd.func3, Tryd.ntmps3
        go_wp2_with (first
          | (go_at_call 7; refine (alive_any st _ HK.out.up.up HST.out.up.up _ H2.out).mono ?_; rintro e w3 ⟨rfl, h3⟩; have H3 := Lib.hid h3; clear h3)
          | (go_at_call 8; refine (HP1.out _ _ H3.out).mono ?_; rintro e w4 ⟨rfl, h4⟩; have H4 := Lib.hid h4; clear h4)
          | (go_at_call 9; refine (HP2.out _ _ H6.out).mono ?_; rintro e w7 ⟨rfl, h7⟩; have H7 := Lib.hid h7; clear h7)
          | ((first | (with_reducible refine wpList_plain rfl ?_) | ((with_reducible refine wpList_yes _ _ rfl ?_ ?_); (focus rfl))); intro _ hk; (first
            | (refine opw_box 24 (.agg (bcells x).toArray) (bcells x).toArray rfl rfl rfl HH.out (fun p6 w1 hp h1 => hk _ _ ?_); clear hp; have H1 := Lib.hid h1; clear h1)
            | (refine opw_box 24 (.agg (bcells y).toArray) (bcells y).toArray rfl rfl rfl H1.out (fun p7 w2 hp h2 => hk _ _ ?_); clear hp; have H2 := Lib.hid h2; clear h2)
            | (refine opw_len _ _ _ Tryd.underlying22 A b.length c rfl rfl (hk _ _ ?_))
            | (refine opw_lenStr _ _ Tryd.underlying9 l rfl rfl (hk _ _ ?_))
            | (refine opw_cmp .gtr _ _ _ _ .i64 (b.length : Int) 300 false rfl rfl rfl HZ1.out (hk _ _ ?_))
            | (refine opw_cmp .gtr _ _ _ _ .i64 (l.length : Int) 100 false rfl rfl rfl HZ2.out (hk _ _ ?_))
            | (have _k := H7; refine opw_alloc 24 (.agg (bcells (List.replicate 32 0)).toArray) (bcells (List.replicate 32 0)).toArray rfl zeroID rfl H7.out (fun p11 w8 hp h8 => hk _ _ ?_); clear hp; have H8 := Lib.hid h8; clear h8)
            | (refine opw_alloc 24 (.agg (bcells (List.replicate 32 0)).toArray) (bcells (List.replicate 32 0)).toArray rfl zeroID rfl H4.out (fun p9 w5 hp h5 => hk _ _ ?_); clear hp; have H5 := Lib.hid h5; clear h5)
            | (have _k := H8; refine opw_storeRow 24 _ _ rfl p11 (bcells X).toArray rfl rfl 24 (bcells (List.replicate 32 0)).toArray HI.out HI2.out (bcells_all _) H8.out (fun w9 h9 => hk _ _ ?_); have H9 := Lib.hid h9; clear h9)
            | (refine opw_storeRow 24 _ _ rfl p9 (bcells X).toArray rfl rfl 24 (bcells (List.replicate 32 0)).toArray HI.out HI2.out (bcells_all _) H5.out (fun w6 h6 => hk _ _ ?_); have H6 := Lib.hid h6; clear h6)); simp only [Act.put, List.setIfInBounds_toArray, List.set_cons_zero, List.set_cons_succ]))
        obtain ⟨SB, hSB⟩ : ∃ SB, SB = sha b := ⟨_, rfl⟩
        have hSBl : SB.length = 32 := by rw [hSB]; exact sha_length _
        obtain ⟨LB, hLB⟩ : ∃ LB, LB = lessB x y := ⟨_, rfl⟩
        obtain ⟨TX, hTX⟩ : ∃ TX, TX = hex x := ⟨_, rfl⟩
        have C1 : Hid (∀ w, Has st (sep (blk p11 (.cells (bcells X).toArray 24 (0, 0))) (sep (blk p9 (.cells (bcells X).toArray 24 (0, 0))) (sep (blk p7 (.cells (bcells y).toArray 24 (0, 0))) (sep (blk p6 (.cells (bcells x).toArray 24 (0, 0))) R)))) w → Calls Tryd.prog 10 #[.slice A b.length c] w fun e w' => e = .returned (.agg (bcells SB).toArray) ∧ Has st (sep (blk p11 (.cells (bcells X).toArray 24 (0, 0))) (sep (blk p9 (.cells (bcells X).toArray 24 (0, 0))) (sep (blk p7 (.cells (bcells y).toArray 24 (0, 0))) (sep (blk p6 (.cells (bcells x).toArray 24 (0, 0))) R)))) w') := Lib.hid fun w h => by rw [hSB]; exact shaOf_any st _ b _ HK.out.up.up.up.up HST.out.up.up.up.up w h (fun w2 h2 => HS.out w2 h2.right.right.right.right) (by omega)
        have C2 : Hid (∀ w, Has st (sep (blk p11 (.cells (bcells X).toArray 24 (0, 0))) (sep (blk p9 (.cells (bcells X).toArray 24 (0, 0))) (sep (blk p7 (.cells (bcells y).toArray 24 (0, 0))) (sep (blk p6 (.cells (bcells x).toArray 24 (0, 0))) R)))) w → Calls Tryd.prog 11 #[.slice A b.length c] w fun e w' => e = .returned (.agg (bcells SB).toArray) ∧ Has st (sep (blk p11 (.cells (bcells X).toArray 24 (0, 0))) (sep (blk p9 (.cells (bcells X).toArray 24 (0, 0))) (sep (blk p7 (.cells (bcells y).toArray 24 (0, 0))) (sep (blk p6 (.cells (bcells x).toArray 24 (0, 0))) R)))) w') := Lib.hid fun w h => by rw [hSB]; exact refOf_any st _ b _ w h (fun w2 h2 => HS.out w2 h2.right.right.right.right) (by omega)
        have C3 : Hid (∀ w, Has st (sep (blk p11 (.cells (bcells X).toArray 24 (0, 0))) (sep (blk p9 (.cells (bcells X).toArray 24 (0, 0))) (sep (blk p7 (.cells (bcells y).toArray 24 (0, 0))) (sep (blk p6 (.cells (bcells x).toArray 24 (0, 0))) R)))) w → Calls Tryd.prog 12 #[.agg (bcells x).toArray, .agg (bcells y).toArray] w fun e w' => e = .returned (.bool LB) ∧ Has st (sep (blk p11 (.cells (bcells X).toArray 24 (0, 0))) (sep (blk p9 (.cells (bcells X).toArray 24 (0, 0))) (sep (blk p7 (.cells (bcells y).toArray 24 (0, 0))) (sep (blk p6 (.cells (bcells x).toArray 24 (0, 0))) R)))) w') := Lib.hid fun w h => by rw [hLB]; exact less_any st _ x y HX.out HY.out w h
        have C4 : Hid (∀ w, Has st (sep (blk p11 (.cells (bcells X).toArray 24 (0, 0))) (sep (blk p9 (.cells (bcells X).toArray 24 (0, 0))) (sep (blk p7 (.cells (bcells y).toArray 24 (0, 0))) (sep (blk p6 (.cells (bcells x).toArray 24 (0, 0))) R)))) w → Calls Tryd.prog 13 #[.agg (bcells x).toArray, .agg (bcells y).toArray] w fun e w' => e = .returned (.bool LB) ∧ Has st (sep (blk p11 (.cells (bcells X).toArray 24 (0, 0))) (sep (blk p9 (.cells (bcells X).toArray 24 (0, 0))) (sep (blk p7 (.cells (bcells y).toArray 24 (0, 0))) (sep (blk p6 (.cells (bcells x).toArray 24 (0, 0))) R)))) w') := Lib.hid fun w h => by rw [hLB]; exact refless_any st _ x y HX.out HY.out w h
        have C5 : Hid (∀ w, Has st (sep (blk p11 (.cells (bcells X).toArray 24 (0, 0))) (sep (blk p9 (.cells (bcells X).toArray 24 (0, 0))) (sep (blk p7 (.cells (bcells y).toArray 24 (0, 0))) (sep (blk p6 (.cells (bcells x).toArray 24 (0, 0))) R)))) w → Calls Tryd.prog 14 #[.agg (bcells x).toArray] w fun e w' => e = .returned (.string (str TX)) ∧ Has st (sep (blk p11 (.cells (bcells X).toArray 24 (0, 0))) (sep (blk p9 (.cells (bcells X).toArray 24 (0, 0))) (sep (blk p7 (.cells (bcells y).toArray 24 (0, 0))) (sep (blk p6 (.cells (bcells x).toArray 24 (0, 0))) R)))) w') := Lib.hid fun w h => by rw [hTX]; exact text_any st _ x HX.out w h
        have C6 : Hid (∀ w, Has st (sep (blk p11 (.cells (bcells X).toArray 24 (0, 0))) (sep (blk p9 (.cells (bcells X).toArray 24 (0, 0))) (sep (blk p7 (.cells (bcells y).toArray 24 (0, 0))) (sep (blk p6 (.cells (bcells x).toArray 24 (0, 0))) R)))) w → Calls Tryd.prog 15 #[.agg (bcells x).toArray] w fun e w' => e = .returned (.string (str TX)) ∧ Has st (sep (blk p11 (.cells (bcells X).toArray 24 (0, 0))) (sep (blk p9 (.cells (bcells X).toArray 24 (0, 0))) (sep (blk p7 (.cells (bcells y).toArray 24 (0, 0))) (sep (blk p6 (.cells (bcells x).toArray 24 (0, 0))) R)))) w') := Lib.hid fun w h => by rw [hTX]; exact reftext_any st _ x HX.out w h
        have HSBL := Lib.hid hSBl
        clear hSB hSBl hLB hTX
        refine wp_region_inv3 (fun L u w' => Slots (fun kk => ([some (.slice A b.length c), some (.agg (bcells SB).toArray), some (.slice A b.length c), some (.agg (bcells SB).toArray), some (.bool true), some (.bool true), some (.agg (bcells X).toArray), some (.agg (bcells X).toArray), some (.bool true), some (.bool true), some (.bool true), some (.int .i64 21), some (.bool false), some (.bool false), some (.bool true), some (.bool true), some (.bool true), some (.bool false), some (.bool false), some (.int .i64 21), some (.bool true), some (.bool true), some (.bool true), some (.bool true), some (.agg (bcells x).toArray), some (.agg (bcells y).toArray), some (.bool LB), some (.agg (bcells x).toArray), some (.agg (bcells y).toArray), some (.bool LB), some (.bool true), some (.bool true), some (.bool true), some (.agg (bcells x).toArray), some (.string (str TX)), some (.agg (bcells x).toArray), some (.string (str TX)), some (.bool true), some (.bool true), some (.bool true)] : List (Option Value)).getD kk none) L u ∧ Has st (sep (blk p11 (.cells (bcells X).toArray 24 (0, 0))) (sep (blk p9 (.cells (bcells X).toArray 24 (0, 0))) (sep (blk p7 (.cells (bcells y).toArray 24 (0, 0))) (sep (blk p6 (.cells (bcells x).toArray 24 (0, 0))) R)))) w') (by kernel_rfl) (by decide +kernel) (by decide +kernel) (by kernel_rfl) (by kernel_rfl) (fun u => ⟨Slots.start _ u, H9.out.drew⟩) ?_ ?_
        · refine ⟨?_, ?_, ?_, ?_, ?_, ?_, ?_, ?_, ?_, ?_, ?_, ?_, ?_, ?_, ?_, ?_, ?_, ?_, ?_, ?_, ?_, ?_, ?_, ?_, ?_, ?_, ?_, ?_, ?_, ?_, ?_, ?_, ?_, ?_, ?_, ?_, ?_, ?_, ?_, ?_, trivial⟩
          · refine RegStep3.plain rfl ?_; rintro L u w1 bA hL hW hD hU ⟨hS, hH⟩ hin hout; exact opw_move _ _ (.inl rfl) ((hout 0 (by kernel_rfl)).trans (by kernel_rfl)) ⟨_, rfl, hS.step 0 _ (.inr rfl), hH⟩
          · refine RegStep3.plain rfl ?_; rintro L u w1 bA hL hW hD hU ⟨hS, hH⟩ hin hout; exact opw_call_ret _ _ _ [(.slice A b.length c)] rfl (by kernel_rfl) (list2 ((hin 0 33 rfl).trans (hS 0 _ rfl (hW.of 0 (by decide)))) rfl) (C1.out _ hH) (fun e w2 he => by obtain ⟨rfl, h2⟩ := he; exact ⟨_, rfl, _, rfl, hS.step 1 _ (.inr rfl), h2⟩)
          · refine RegStep3.plain rfl ?_; rintro L u w1 bA hL hW hD hU ⟨hS, hH⟩ hin hout; exact opw_move _ _ (.inl rfl) ((hout 0 (by kernel_rfl)).trans (by kernel_rfl)) ⟨_, rfl, hS.step 2 _ (.inr rfl), hH⟩
          · refine RegStep3.plain rfl ?_; rintro L u w1 bA hL hW hD hU ⟨hS, hH⟩ hin hout; exact opw_call_ret _ _ _ [(.slice A b.length c)] rfl (by kernel_rfl) (list2 ((hin 2 35 rfl).trans (hS 2 _ rfl (hW.of 2 (by decide)))) rfl) (C2.out _ hH) (fun e w2 he => by obtain ⟨rfl, h2⟩ := he; exact ⟨_, rfl, _, rfl, hS.step 3 _ (.inr rfl), h2⟩)
          · refine RegStep3.plain rfl ?_; rintro L u w1 bA hL hW hD hU ⟨hS, hH⟩ hin hout; exact opw_eqRow _ _ 5 32 _ _ SB SB Tryd.underlying24 Tryd.underlying5 infosz (by kernel_rfl) HSBL.out HSBL.out rfl ((hin 1 34 rfl).trans (hS 1 _ rfl (hW.of 1 (by decide)))) ((hin 3 36 rfl).trans (hS 3 _ rfl (hW.of 3 (by decide)))) true (beq_self_eq_true _) ⟨_, rfl, hS.step 4 _ (.inr rfl), hH⟩
          · refine RegStep3.plain rfl ?_; rintro L u w1 bA hL hW hD hU ⟨hS, hH⟩ hin hout; exact opw_move _ _ (.inl rfl) ((hin 4 37 rfl).trans (hS 4 _ rfl (hW.of 4 (by decide)))) ⟨_, rfl, hS.step 5 _ (.inr rfl), hH⟩
          · refine RegStep3.yes 5 true rfl (fun L u w1 hW hI => hI.1 5 _ rfl (hW.of 5 (by decide))) ?_; rintro L u w1 bA hL hW hD hU ⟨hS, hH⟩ hin hout; exact opw_loadRow _ _ rfl _ ((hout 9 (by kernel_rfl)).trans (by kernel_rfl)) 24 _ _ _ Tryd.underlying24 rfl HI.out (hH.right) ⟨_, rfl, hS.step 6 _ (.inr rfl), hH⟩
          · refine RegStep3.yes 5 true rfl (fun L u w1 hW hI => hI.1 5 _ rfl (hW.of 5 (by decide))) ?_; rintro L u w1 bA hL hW hD hU ⟨hS, hH⟩ hin hout; exact opw_loadRow _ _ rfl _ ((hout 11 (by kernel_rfl)).trans (by kernel_rfl)) 24 _ _ _ Tryd.underlying24 rfl HI.out (hH) ⟨_, rfl, hS.step 7 _ (.inr rfl), hH⟩
          · refine RegStep3.yes 5 true rfl (fun L u w1 hW hI => hI.1 5 _ rfl (hW.of 5 (by decide))) ?_; rintro L u w1 bA hL hW hD hU ⟨hS, hH⟩ hin hout; exact opw_eqRow _ _ 5 32 _ _ X X Tryd.underlying24 Tryd.underlying5 infosz (by kernel_rfl) HXL.out HXL.out rfl ((hin 6 39 rfl).trans (hS 6 _ rfl (hW.of 6 (by decide)))) ((hin 7 40 rfl).trans (hS 7 _ rfl (hW.of 7 (by decide)))) true (beq_self_eq_true _) ⟨_, rfl, hS.step 8 _ (.inr rfl), hH⟩
          · refine RegStep3.plain rfl ?_; rintro L u w1 bA hL hW hD hU ⟨hS, hH⟩ hin hout; exact opw_pickT _ _ _ _ rfl ((hin 5 38 rfl).trans (hS 5 _ rfl (hW.of 5 (by decide)))) ((hin 8 41 rfl).trans (hS 8 _ rfl (hW.of 8 (by decide)))) ⟨_, rfl, hS.step 9 _ (.inr rfl), hH⟩
          · refine RegStep3.plain rfl ?_; rintro L u w1 bA hL hW hD hU ⟨hS, hH⟩ hin hout; exact opw_move _ _ (.inl rfl) ((hin 9 42 rfl).trans (hS 9 _ rfl (hW.of 9 (by decide)))) ⟨_, rfl, hS.step 10 _ (.inr rfl), hH⟩
          · refine RegStep3.yes 10 true rfl (fun L u w1 hW hI => hI.1 10 _ rfl (hW.of 10 (by decide))) ?_; rintro L u w1 bA hL hW hD hU ⟨hS, hH⟩ hin hout; exact opw_move _ _ (.inl rfl) ((hout 10 (by kernel_rfl)).trans (by kernel_rfl)) ⟨_, rfl, hS.step 11 _ (.inr rfl), hH⟩
          · refine RegStep3.yes 10 true rfl (fun L u w1 hW hI => hI.1 10 _ rfl (hW.of 10 (by decide))) ?_; rintro L u w1 bA hL hW hD hU ⟨hS, hH⟩ hin hout; exact opw_cmp .eql _ _ _ _ .i64 _ _ false rfl ((hin 11 44 rfl).trans (hS 11 _ rfl (hW.of 11 (by decide)))) rfl (by decide) ⟨_, rfl, hS.step 12 _ (.inr rfl), hH⟩
          · refine RegStep3.yes 10 true rfl (fun L u w1 hW hI => hI.1 10 _ rfl (hW.of 10 (by decide))) ?_; rintro L u w1 bA hL hW hD hU ⟨hS, hH⟩ hin hout; exact opw_move _ _ (.inl rfl) ((hout 12 (by kernel_rfl)).trans (by kernel_rfl)) ⟨_, rfl, hS.step 13 _ (.inr rfl), hH⟩
          · refine RegStep3.yes 10 true rfl (fun L u w1 hW hI => hI.1 10 _ rfl (hW.of 10 (by decide))) ?_; rintro L u w1 bA hL hW hD hU ⟨hS, hH⟩ hin hout; exact opw_eqBool _ _ _ _ _ _ Tryd.underlying4 rfl ((hin 12 45 rfl).trans (hS 12 _ rfl (hW.of 12 (by decide)))) ((hin 13 46 rfl).trans (hS 13 _ rfl (hW.of 13 (by decide)))) true (beq_self_eq_true _) ⟨_, rfl, hS.step 14 _ (.inr rfl), hH⟩
          · refine RegStep3.plain rfl ?_; rintro L u w1 bA hL hW hD hU ⟨hS, hH⟩ hin hout; exact opw_pickT _ _ _ _ rfl ((hin 10 43 rfl).trans (hS 10 _ rfl (hW.of 10 (by decide)))) ((hin 14 47 rfl).trans (hS 14 _ rfl (hW.of 14 (by decide)))) ⟨_, rfl, hS.step 15 _ (.inr rfl), hH⟩
          · refine RegStep3.plain rfl ?_; rintro L u w1 bA hL hW hD hU ⟨hS, hH⟩ hin hout; exact opw_move _ _ (.inl rfl) ((hin 15 48 rfl).trans (hS 15 _ rfl (hW.of 15 (by decide)))) ⟨_, rfl, hS.step 16 _ (.inr rfl), hH⟩
          · refine RegStep3.yes 16 true rfl (fun L u w1 hW hI => hI.1 16 _ rfl (hW.of 16 (by decide))) ?_; rintro L u w1 bA hL hW hD hU ⟨hS, hH⟩ hin hout; exact opw_move _ _ (.inl rfl) ((hout 12 (by kernel_rfl)).trans (by kernel_rfl)) ⟨_, rfl, hS.step 17 _ (.inr rfl), hH⟩
          · refine RegStep3.yes 16 true rfl (fun L u w1 hW hI => hI.1 16 _ rfl (hW.of 16 (by decide))) ?_; rintro L u w1 bA hL hW hD hU ⟨hS, hH⟩ hin hout; exact opw_move _ _ (.inl rfl) ((hin 17 50 rfl).trans (hS 17 _ rfl (hW.of 17 (by decide)))) ⟨_, rfl, hS.step 18 _ (.inr rfl), hH⟩
          · refine RegStep3.yes 18 false rfl (fun L u w1 hW hI => hI.1 18 _ rfl (hW.of 18 (by decide))) ?_; rintro L u w1 bA hL hW hD hU ⟨hS, hH⟩ hin hout; exact opw_move _ _ (.inl rfl) ((hout 10 (by kernel_rfl)).trans (by kernel_rfl)) ⟨_, rfl, hS.step 19 _ (.inr rfl), hH⟩
          · refine RegStep3.yes 18 false rfl (fun L u w1 hW hI => hI.1 18 _ rfl (hW.of 18 (by decide))) ?_; rintro L u w1 bA hL hW hD hU ⟨hS, hH⟩ hin hout; exact opw_cmp .eql _ _ _ _ .i64 _ _ true rfl ((hin 19 52 rfl).trans (hS 19 _ rfl (hW.of 19 (by decide)))) rfl (by decide) ⟨_, rfl, hS.step 20 _ (.inr rfl), hH⟩
          · refine RegStep3.yes 16 true rfl (fun L u w1 hW hI => hI.1 16 _ rfl (hW.of 16 (by decide))) ?_; rintro L u w1 bA hL hW hD hU ⟨hS, hH⟩ hin hout; exact opw_pickF _ _ _ _ rfl ((hin 18 51 rfl).trans (hS 18 _ rfl (hW.of 18 (by decide)))) ((hin 20 53 rfl).trans (hS 20 _ rfl (hW.of 20 (by decide)))) ⟨_, rfl, hS.step 21 _ (.inr rfl), hH⟩
          · refine RegStep3.plain rfl ?_; rintro L u w1 bA hL hW hD hU ⟨hS, hH⟩ hin hout; exact opw_pickT _ _ _ _ rfl ((hin 16 49 rfl).trans (hS 16 _ rfl (hW.of 16 (by decide)))) ((hin 21 54 rfl).trans (hS 21 _ rfl (hW.of 21 (by decide)))) ⟨_, rfl, hS.step 22 _ (.inr rfl), hH⟩
          · refine RegStep3.plain rfl ?_; rintro L u w1 bA hL hW hD hU ⟨hS, hH⟩ hin hout; exact opw_move _ _ (.inl rfl) ((hin 22 55 rfl).trans (hS 22 _ rfl (hW.of 22 (by decide)))) ⟨_, rfl, hS.step 23 _ (.inr rfl), hH⟩
          · refine RegStep3.yes 23 true rfl (fun L u w1 hW hI => hI.1 23 _ rfl (hW.of 23 (by decide))) ?_; rintro L u w1 bA hL hW hD hU ⟨hS, hH⟩ hin hout; exact opw_loadRow _ _ rfl _ ((hout 6 (by kernel_rfl)).trans (by kernel_rfl)) 24 _ _ _ Tryd.underlying24 rfl HIX.out (hH.right.right.right) ⟨_, rfl, hS.step 24 _ (.inr rfl), hH⟩
          · refine RegStep3.yes 23 true rfl (fun L u w1 hW hI => hI.1 23 _ rfl (hW.of 23 (by decide))) ?_; rintro L u w1 bA hL hW hD hU ⟨hS, hH⟩ hin hout; exact opw_loadRow _ _ rfl _ ((hout 7 (by kernel_rfl)).trans (by kernel_rfl)) 24 _ _ _ Tryd.underlying24 rfl HIY.out (hH.right.right) ⟨_, rfl, hS.step 25 _ (.inr rfl), hH⟩
          · refine RegStep3.yes 23 true rfl (fun L u w1 hW hI => hI.1 23 _ rfl (hW.of 23 (by decide))) ?_; rintro L u w1 bA hL hW hD hU ⟨hS, hH⟩ hin hout; exact opw_call_ret _ _ _ [(.agg (bcells x).toArray), (.agg (bcells y).toArray)] rfl (by kernel_rfl) (list2 ((hin 24 57 rfl).trans (hS 24 _ rfl (hW.of 24 (by decide)))) (list2 ((hin 25 58 rfl).trans (hS 25 _ rfl (hW.of 25 (by decide)))) rfl)) (C3.out _ hH) (fun e w2 he => by obtain ⟨rfl, h2⟩ := he; exact ⟨_, rfl, _, rfl, hS.step 26 _ (.inr rfl), h2⟩)
          · refine RegStep3.yes 23 true rfl (fun L u w1 hW hI => hI.1 23 _ rfl (hW.of 23 (by decide))) ?_; rintro L u w1 bA hL hW hD hU ⟨hS, hH⟩ hin hout; exact opw_loadRow _ _ rfl _ ((hout 6 (by kernel_rfl)).trans (by kernel_rfl)) 24 _ _ _ Tryd.underlying24 rfl HIX.out (hH.right.right.right) ⟨_, rfl, hS.step 27 _ (.inr rfl), hH⟩
          · refine RegStep3.yes 23 true rfl (fun L u w1 hW hI => hI.1 23 _ rfl (hW.of 23 (by decide))) ?_; rintro L u w1 bA hL hW hD hU ⟨hS, hH⟩ hin hout; exact opw_loadRow _ _ rfl _ ((hout 7 (by kernel_rfl)).trans (by kernel_rfl)) 24 _ _ _ Tryd.underlying24 rfl HIY.out (hH.right.right) ⟨_, rfl, hS.step 28 _ (.inr rfl), hH⟩
          · refine RegStep3.yes 23 true rfl (fun L u w1 hW hI => hI.1 23 _ rfl (hW.of 23 (by decide))) ?_; rintro L u w1 bA hL hW hD hU ⟨hS, hH⟩ hin hout; exact opw_call_ret _ _ _ [(.agg (bcells x).toArray), (.agg (bcells y).toArray)] rfl (by kernel_rfl) (list2 ((hin 27 60 rfl).trans (hS 27 _ rfl (hW.of 27 (by decide)))) (list2 ((hin 28 61 rfl).trans (hS 28 _ rfl (hW.of 28 (by decide)))) rfl)) (C4.out _ hH) (fun e w2 he => by obtain ⟨rfl, h2⟩ := he; exact ⟨_, rfl, _, rfl, hS.step 29 _ (.inr rfl), h2⟩)
          · refine RegStep3.yes 23 true rfl (fun L u w1 hW hI => hI.1 23 _ rfl (hW.of 23 (by decide))) ?_; rintro L u w1 bA hL hW hD hU ⟨hS, hH⟩ hin hout; exact opw_eqBool _ _ _ _ _ _ Tryd.underlying4 rfl ((hin 26 59 rfl).trans (hS 26 _ rfl (hW.of 26 (by decide)))) ((hin 29 62 rfl).trans (hS 29 _ rfl (hW.of 29 (by decide)))) true (beq_self_eq_true _) ⟨_, rfl, hS.step 30 _ (.inr rfl), hH⟩
          · refine RegStep3.plain rfl ?_; rintro L u w1 bA hL hW hD hU ⟨hS, hH⟩ hin hout; exact opw_pickT _ _ _ _ rfl ((hin 23 56 rfl).trans (hS 23 _ rfl (hW.of 23 (by decide)))) ((hin 30 63 rfl).trans (hS 30 _ rfl (hW.of 30 (by decide)))) ⟨_, rfl, hS.step 31 _ (.inr rfl), hH⟩
          · refine RegStep3.plain rfl ?_; rintro L u w1 bA hL hW hD hU ⟨hS, hH⟩ hin hout; exact opw_move _ _ (.inl rfl) ((hin 31 64 rfl).trans (hS 31 _ rfl (hW.of 31 (by decide)))) ⟨_, rfl, hS.step 32 _ (.inr rfl), hH⟩
          · refine RegStep3.yes 32 true rfl (fun L u w1 hW hI => hI.1 32 _ rfl (hW.of 32 (by decide))) ?_; rintro L u w1 bA hL hW hD hU ⟨hS, hH⟩ hin hout; exact opw_loadRow _ _ rfl _ ((hout 6 (by kernel_rfl)).trans (by kernel_rfl)) 24 _ _ _ Tryd.underlying24 rfl HIX.out (hH.right.right.right) ⟨_, rfl, hS.step 33 _ (.inr rfl), hH⟩
          · refine RegStep3.yes 32 true rfl (fun L u w1 hW hI => hI.1 32 _ rfl (hW.of 32 (by decide))) ?_; rintro L u w1 bA hL hW hD hU ⟨hS, hH⟩ hin hout; exact opw_call_ret _ _ _ [(.agg (bcells x).toArray)] rfl (by kernel_rfl) (list2 ((hin 33 66 rfl).trans (hS 33 _ rfl (hW.of 33 (by decide)))) rfl) (C5.out _ hH) (fun e w2 he => by obtain ⟨rfl, h2⟩ := he; exact ⟨_, rfl, _, rfl, hS.step 34 _ (.inr rfl), h2⟩)
          · refine RegStep3.yes 32 true rfl (fun L u w1 hW hI => hI.1 32 _ rfl (hW.of 32 (by decide))) ?_; rintro L u w1 bA hL hW hD hU ⟨hS, hH⟩ hin hout; exact opw_loadRow _ _ rfl _ ((hout 6 (by kernel_rfl)).trans (by kernel_rfl)) 24 _ _ _ Tryd.underlying24 rfl HIX.out (hH.right.right.right) ⟨_, rfl, hS.step 35 _ (.inr rfl), hH⟩
          · refine RegStep3.yes 32 true rfl (fun L u w1 hW hI => hI.1 32 _ rfl (hW.of 32 (by decide))) ?_; rintro L u w1 bA hL hW hD hU ⟨hS, hH⟩ hin hout; exact opw_call_ret _ _ _ [(.agg (bcells x).toArray)] rfl (by kernel_rfl) (list2 ((hin 35 68 rfl).trans (hS 35 _ rfl (hW.of 35 (by decide)))) rfl) (C6.out _ hH) (fun e w2 he => by obtain ⟨rfl, h2⟩ := he; exact ⟨_, rfl, _, rfl, hS.step 36 _ (.inr rfl), h2⟩)
          · refine RegStep3.yes 32 true rfl (fun L u w1 hW hI => hI.1 32 _ rfl (hW.of 32 (by decide))) ?_; rintro L u w1 bA hL hW hD hU ⟨hS, hH⟩ hin hout; exact opw_cmpStr .eql _ _ _ _ TX TX true rfl ((hin 34 67 rfl).trans (hS 34 _ rfl (hW.of 34 (by decide)))) ((hin 36 69 rfl).trans (hS 36 _ rfl (hW.of 36 (by decide)))) (congrArg some (beq_self_eq_true _)) ⟨_, rfl, hS.step 37 _ (.inr rfl), hH⟩
          · refine RegStep3.plain rfl ?_; rintro L u w1 bA hL hW hD hU ⟨hS, hH⟩ hin hout; exact opw_pickT _ _ _ _ rfl ((hin 32 65 rfl).trans (hS 32 _ rfl (hW.of 32 (by decide)))) ((hin 37 70 rfl).trans (hS 37 _ rfl (hW.of 37 (by decide)))) ⟨_, rfl, hS.step 38 _ (.inr rfl), hH⟩
          · refine RegStep3.plain rfl ?_; rintro L u w1 bA hL hW hD hU ⟨hS, hH⟩ hin hout; exact opw_move _ _ (.inr rfl) ((hin 38 71 rfl).trans (hS 38 _ rfl (hW.of 38 (by decide)))) ⟨_, rfl, hS.step 39 _ (.inr rfl), hH⟩
        intro L u w10 hL ⟨hS, hH⟩
        have E := hS 39 _ rfl (hL 39 (by decide))
        simp only [frame_cons, frame_nil, E, Act.put, List.setIfInBounds_toArray, List.set_cons_zero, List.set_cons_succ]
        have H10 := Lib.hid hH
        clear hL hS hH E
        go_wp2
        go_ret
        exact ⟨rfl, H10.out.right.right.right.right⟩
    · have HZ2 : Hid (cmpZ .gtr (l.length : Int) 100 = some true) := Lib.hid (by simp only [cmpZ]; simp; omega)
      clear hl1 hb3
      go_enter Tryd.func3, Tryd.ntmps3
      go_wp2_with (first
        | (go_at_call 7; refine (alive_any st _ HK.out.up.up HST.out.up.up _ H2.out).mono ?_; rintro e w3 ⟨rfl, h3⟩; have H3 := Lib.hid h3; clear h3)
        | ((first | (with_reducible refine wpList_plain rfl ?_) | ((with_reducible refine wpList_yes _ _ rfl ?_ ?_); (focus rfl))); intro _ hk; (first
          | (refine opw_box 24 (.agg (bcells x).toArray) (bcells x).toArray rfl rfl rfl HH.out (fun p6 w1 hp h1 => hk _ _ ?_); clear hp; have H1 := Lib.hid h1; clear h1)
          | (refine opw_box 24 (.agg (bcells y).toArray) (bcells y).toArray rfl rfl rfl H1.out (fun p7 w2 hp h2 => hk _ _ ?_); clear hp; have H2 := Lib.hid h2; clear h2)
          | (refine opw_len _ _ _ Tryd.underlying22 A b.length c rfl rfl (hk _ _ ?_))
          | (refine opw_lenStr _ _ Tryd.underlying9 l rfl rfl (hk _ _ ?_))
          | (refine opw_cmp .gtr _ _ _ _ .i64 (b.length : Int) 300 false rfl rfl rfl HZ1.out (hk _ _ ?_))
          | (refine opw_cmp .gtr _ _ _ _ .i64 (l.length : Int) 100 true rfl rfl rfl HZ2.out (hk _ _ ?_))); simp only [Act.put, List.setIfInBounds_toArray, List.set_cons_zero, List.set_cons_succ]))
      go_ret
      exact ⟨rfl, H3.out.right.right⟩
  · have HZ1 : Hid (cmpZ .gtr (b.length : Int) 300 = some true) := Lib.hid (by simp only [cmpZ]; simp; omega)
    clear hb3
    go_enter Tryd.func3, Tryd.ntmps3
    go_wp2_with (first
      | (go_at_call 7; refine (alive_any st _ HK.out.up.up HST.out.up.up _ H2.out).mono ?_; rintro e w3 ⟨rfl, h3⟩; have H3 := Lib.hid h3; clear h3)
      | ((first | (with_reducible refine wpList_plain rfl ?_) | ((with_reducible refine wpList_yes _ _ rfl ?_ ?_); (focus rfl))); intro _ hk; (first
        | (refine opw_box 24 (.agg (bcells x).toArray) (bcells x).toArray rfl rfl rfl HH.out (fun p6 w1 hp h1 => hk _ _ ?_); clear hp; have H1 := Lib.hid h1; clear h1)
        | (refine opw_box 24 (.agg (bcells y).toArray) (bcells y).toArray rfl rfl rfl H1.out (fun p7 w2 hp h2 => hk _ _ ?_); clear hp; have H2 := Lib.hid h2; clear h2)
        | (refine opw_len _ _ _ Tryd.underlying22 A b.length c rfl rfl (hk _ _ ?_))
        | (refine opw_lenStr _ _ Tryd.underlying9 l rfl rfl (hk _ _ ?_))
        | (refine opw_cmp .gtr _ _ _ _ .i64 (b.length : Int) 300 true rfl rfl rfl HZ1.out (hk _ _ ?_))); simp only [Act.put, List.setIfInBounds_toArray, List.set_cons_zero, List.set_cons_succ]))
    go_ret
    exact ⟨rfl, H3.out.right.right⟩
end Go.Proofs.YtijcjjinafpomaaDoor
