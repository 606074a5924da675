/-
  coldstorelaw03.ShaParts.
-/
import Derived.Test.YtijcjjinafpomaaDoorSlice
namespace Go.Proofs.YtijcjjinafpomaaDoor
open Go.RowKit Go.Sl Go.Sha
set_option linter.unusedVariables false
set_option linter.unusedSimpArgs false
def PartsI (st : World) (R : HProp) (p : Nat) (b : List UInt8) (N : Nat) (v6 v7 v27 : Value) (w : World) : Prop :=
  ∃ (i d : Nat) (A' : Option Addr) (c' : Nat), i ≤ N ∧ d ≤ b.length ∧ v27 = .int .i64 ((i : Nat) : Int) ∧ v7 = .int .i64 ((d : Nat) : Int) ∧ v6 = .slice A' (b.length - d) c' ∧ Sees st R 1 (.slice A' (b.length - d) c') (b.length - d) (bcells (b.drop d)) ∧ Has st (sep (hash p (b.take d)) R) w
set_option maxRecDepth 100000 in
set_option maxHeartbeats 8000000 in
theorem parts_any (st : World) (R : HProp) (hk : Keys st R) (hst : Start st R) (b : List UInt8) (A : Option Addr) (c : Nat) (hs : Sees st R 1 (.slice A b.length c) b.length (bcells b)) (cs : List Int) (B : Option Addr) (cc : Nat) (hcs : Sees st R 1 (.slice B cs.length cc) cs.length (icells cs)) (w : World) (h : Has st R w) :
    Calls Tryd.prog 4 #[.slice A b.length c, .slice B cs.length cc] w fun e w' => e = .returned (.bool true) ∧ Has st R w' := by
  have hbc := (hs w h).le
  have hcc := (hcs w h).le_cap
  have HCC := Lib.hid hcc
  have HH := Lib.hid h
  have HK := Lib.hid hk
  have HST := Lib.hid hst
  have HS := Lib.hid hs
  have HCS := Lib.hid hcs
  clear h hk hst hs hcs hcc
  by_cases hb3 : b.length ≤ 300
  · have HZ1 : Hid (cmpZ .gtr (b.length : Int) 300 = some false) := Lib.hid (by simp only [cmpZ]; simp; omega)
    by_cases hl1 : cs.length ≤ 40
    · have HZ2 : Hid (cmpZ .gtr (cs.length : Int) 40 = some false) := Lib.hid (by simp only [cmpZ]; simp; omega)
      go_enter Tryd.func4, Tryd.ntmps4
      go_wp2_with (first
        | (go_at_call 7; refine (alive_any st R HK.out HST.out _ HH.out).mono ?_; rintro e w1 ⟨rfl, h1⟩; have H1 := Lib.hid h1; clear h1)
        | ((first | (with_reducible refine wpList_plain rfl ?_) | ((with_reducible refine wpList_yes _ _ rfl ?_ ?_); (focus rfl))); intro _ hk; (first
          | (refine opw_len _ _ _ Tryd.underlying22 A b.length c rfl rfl (hk _ _ ?_))
          | (refine opw_len _ _ _ Tryd.underlying35 B cs.length cc rfl rfl (hk _ _ ?_))
          | (refine opw_cmp .gtr _ _ _ _ .i64 (b.length : Int) 300 false rfl rfl rfl HZ1.out (hk _ _ ?_))
          | (refine opw_cmp .gtr _ _ _ _ .i64 (cs.length : Int) 40 false rfl rfl rfl HZ2.out (hk _ _ ?_))
          | (refine opw_alloc 39 (.agg (hcells false ⟨0, 0, 0, 0, 0, 0, 0, 0⟩ (.slice none 0 0) 0)) (hcells false ⟨0, 0, 0, 0, 0, 0, 0, 0⟩ (.slice none 0 0) 0) rfl zeroHash rfl H1.out (fun p w2 hp h2 => hk _ _ ?_); clear hp; have H2 := Lib.hid (hash_new h2); clear h2)); simp only [Act.put, List.setIfInBounds_toArray, List.set_cons_zero, List.set_cons_succ]))
      go_loopw [6, 7, 27] (PartsI st R p b cs.length) (fun v6 v7 v27 _ => cs.length - (intOf v27).toNat)
      case atStart => exact ⟨0, 0, A, c, Nat.zero_le _, Nat.zero_le _, rfl, rfl, rfl, HS.out, H2.out⟩
      case round =>
        obtain ⟨i, d, A', c', hi, hd, rfl, rfl, rfl, hs6, h3⟩ := hrel
        have hbc' := (hs6 wr h3.right).le
        have HS6 := Lib.hid hs6
        clear hs6 H1 H2 HH
        have hdl : (b.drop d).length = b.length - d := List.length_drop
        have HDL := Lib.hid hdl
        by_cases hlt : i < cs.length
        · obtain ⟨bb, off, hB, hcell⟩ := (HCS.out wr h3.right).at (by omega)
          subst hB
          obtain ⟨z, hz⟩ : ∃ z, z = cs[i] := ⟨_, rfl⟩
          have hz2 := hcell i _ (icells_get hlt)
          rw [← hz] at hz2
          have HZC := Lib.hid hz2
          obtain ⟨m, hm⟩ : ∃ m : Nat, (m : Int) = z % 128 := ⟨(z % 128).toNat, by omega⟩
          have b1 : bits .and .i64 z 127 = (m : Int) := by rw [hm]; exact i64_and_mask z 7 (by decide)
          obtain ⟨k1, hk1⟩ : ∃ k, k = b.length - d + 1 := ⟨_, rfl⟩
          have b2 : binZ .add .i64 ((b.length - d : Nat) : Int) 1 = some (k1 : Int) := by rw [hk1]; exact bin_add (b.length - d) 1 (by omega)
          obtain ⟨q, hq⟩ : ∃ q, q = m % k1 := ⟨_, rfl⟩
          have b3 : binZ .rem .i64 (m : Int) (k1 : Int) = some (q : Int) := by rw [hq]; exact bin_rem m k1 (by omega)
          have hqd : q ≤ b.length - d := by have := Nat.mod_lt m (show k1 > 0 by omega); omega
          have hqc : q ≤ c' := by omega
          obtain ⟨d2, hd2⟩ : ∃ d2, d2 = d + q := ⟨_, rfl⟩
          have b4 : binZ .add .i64 (d : Int) (q : Int) = some (d2 : Int) := by rw [hd2]; exact bin_add d q (by omega)
          obtain ⟨B2, hB2⟩ : ∃ B2, B2 = b.take d2 := ⟨_, rfl⟩
          have hd2b : d2 ≤ b.length := by omega
          have hB2l : B2.length = d2 := by rw [hB2, List.length_take]; omega
          have hB2t : b.take d ++ (b.drop d).take q = B2 := by rw [hB2, hd2, List.take_add]
          have hsT : Sees st R 1 (.slice (subA 1 A' 0 c') q c') ((b.drop d).take q).length (bcells ((b.drop d).take q)) := by
            have e : ((b.drop d).take q).length = q := by rw [List.length_take, hdl]; omega
            rw [e]; exact HS6.out.takeB q hqd
          have hsD : Sees st R 1 (.slice (subA 1 A' q c') (b.length - d2) (c' - q)) (b.length - d2) (bcells (b.drop d2)) := by
            have := HS6.out.dropB hdl q hqd
            rw [List.drop_drop, ← hd2, show b.length - d - q = b.length - d2 by omega] at this
            exact this
          have hsT2 : Sees st R 1 (.slice (subA 1 A 0 c) d2 c) B2.length (bcells B2) := by rw [hB2l, hB2]; exact HS.out.takeB d2 hd2b
          have hW : ∀ w, Has st (sep (hash p (b.take d)) R) w → Calls Tryd.prog 16 #[.pointer (some ⟨p, 0, none⟩), .slice (subA 1 A' 0 c') q c'] w fun e w' => e = .returned (.tuple #[]) ∧ Has st (sep (hash p B2) R) w' := fun w h => by
            have := write_any st R p (b.take d) ((b.drop d).take q) _ HK.out HST.out w h hsT (by rw [List.length_take, List.length_take]; omega)
            rw [hB2t] at this; exact this
          obtain ⟨SM, hSM⟩ : ∃ SM, SM = sha B2 := ⟨_, rfl⟩
          have hSMl : SM.length = 32 := by rw [hSM]; exact sha_length _
          have hSu : ∀ w, Has st (sep (hash p B2) R) w → Calls Tryd.prog 17 #[.pointer (some ⟨p, 0, none⟩)] w fun e w' => e = .returned (.agg (bcells SM).toArray) ∧ Has st (sep (hash p B2) R) w' := fun w h => by rw [hSM]; exact sum_any st R p B2 HK.out HST.out w h (by omega)
          have hLn : ∀ w, Has st (sep (hash p B2) R) w → Calls Tryd.prog 18 #[.pointer (some ⟨p, 0, none⟩)] w fun e w' => e = .returned (.int .i64 (d2 : Int)) ∧ Has st (sep (hash p B2) R) w' := fun w h => (hlen_any st R p B2 w h).mono fun e w' h' => ⟨by rw [← hB2l]; exact h'.1, h'.2 ▸ h⟩
          have hOf : ∀ w, Has st (sep (hash p B2) R) w → Calls Tryd.prog 10 #[.slice (subA 1 A 0 c) d2 c] w fun e w' => e = .returned (.agg (bcells SM).toArray) ∧ Has st (sep (hash p B2) R) w' := fun w h => by rw [hSM]; exact shaOf_any st _ B2 _ HK.out.up HST.out.up w h (fun w2 h2 => hsT2 w2 h2.right) (by omega)
          have HW := Lib.hid hW
          have HSU := Lib.hid hSu
          have HLN := Lib.hid hLn
          have HOF := Lib.hid hOf
          have HSD := Lib.hid hsD
          have HSML := Lib.hid hSMl
          have HB2 := Lib.hid hB2
          have HB1 := Lib.hid b1
          have HBB2 := Lib.hid b2
          have HB3 := Lib.hid b3
          have HB4 := Lib.hid b4
          have HD2 := Lib.hid hd2
          have hdb : b.length - d - q = b.length - d2 := by omega
          have HDB := Lib.hid hdb
          have H3 := Lib.hid h3
          have hd2b2 : d2 ≤ c := by omega
          clear hz hz2 hm b1 b2 b3 b4 hq hk1 hd2 hB2 hB2l hB2t hsT hsD hsT2 hW hSM hSMl hSu hLn hOf hcell hdl hdb h3
          go_wp2_with (first
            | (go_at_call 16; refine (HW.out _ H3.out).mono ?_; rintro e w4 ⟨rfl, h4⟩; have H4 := Lib.hid h4; clear h4)
            | ((first | (with_reducible refine wpList_plain rfl ?_) | ((with_reducible refine wpList_yes _ _ rfl ?_ ?_); (focus rfl))); intro _ hk; (first
              | (refine opw_indexSl 35 3 _ _ rfl Tryd.underlying35 infoi bb off cs.length cc i rfl rfl hlt (hk _ _ ?_))
              | (refine opw_load1 3 _ rfl _ Tryd.underlying3 rfl ⟨bb, off + i, none⟩ (.int .i64 z) rfl HZC.out (hk _ _ ?_))
              | (refine opw_bits .and _ _ _ _ .i64 z 127 (m : Int) (.inl rfl) rfl rfl rfl HB1.out (hk _ _ ?_))
              | (refine opw_len _ _ _ Tryd.underlying22 A' (b.length - d) c' rfl rfl (hk _ _ ?_))
              | (refine opw_bin .add _ _ _ _ .i64 ((b.length - d : Nat) : Int) 1 (k1 : Int) rfl rfl rfl HBB2.out (hk _ _ ?_))
              | (refine opw_bin .rem _ _ _ _ .i64 (m : Int) (k1 : Int) (q : Int) rfl rfl rfl HB3.out (hk _ _ ?_))
              | (refine opw_bin .add _ _ _ _ .i64 (d : Int) (q : Int) (d2 : Int) rfl rfl rfl HB4.out (hk _ _ ?_))
              | (refine opw_slH 22 5 _ _ rfl Tryd.underlying22 infosz A' (b.length - d) c' rfl hbc' .i64 q rfl hqd (hk _ _ ?_))
              | (refine opw_slL 22 5 _ _ rfl Tryd.underlying22 infosz A' (b.length - d) c' rfl hbc' .i64 q rfl hqd (hk _ _ ?_))); simp only [Act.put, List.setIfInBounds_toArray, List.set_cons_zero, List.set_cons_succ]))
          refine wp_region_inv3 (fun L u w' => Slots (fun kk => ([some (.agg (bcells SM).toArray), some (.slice A b.length c), some (.int .i64 ((d2 : Nat) : Int)), some (.slice (subA 1 A 0 c) d2 c), some (.agg (bcells SM).toArray), some (.bool false), some (.bool false), some (.int .i64 ((d2 : Nat) : Int)), some (.int .i64 ((d2 : Nat) : Int)), some (.bool false), some (.bool false)] : List (Option Value)).getD kk none) L u ∧ Has st (sep (hash p B2) R) w') (by kernel_rfl) (by decide +kernel) (by decide +kernel) (by kernel_rfl) (by kernel_rfl) (fun u => ⟨Slots.start _ u, H4.out.drew⟩) ?_ ?_
          · refine ⟨?_, ?_, ?_, ?_, ?_, ?_, ?_, ?_, ?_, ?_, ?_, trivial⟩
            · refine RegStep3.plain rfl ?_; rintro L u w1 bA hL hW hD hU ⟨hS, hH⟩ hin hout; exact opw_call_ret _ _ _ [(.pointer (some ⟨p, 0, none⟩))] rfl (by kernel_rfl) (list2 ((hout 5 (by kernel_rfl)).trans (by kernel_rfl)) rfl) (HSU.out _ hH) (fun e w2 he => by obtain ⟨rfl, h2⟩ := he; exact ⟨_, rfl, _, rfl, hS.step 0 _ (.inr rfl), h2⟩)
            · refine RegStep3.plain rfl ?_; rintro L u w1 bA hL hW hD hU ⟨hS, hH⟩ hin hout; exact opw_move _ _ (.inl rfl) ((hout 0 (by kernel_rfl)).trans (by kernel_rfl)) ⟨_, rfl, hS.step 1 _ (.inr rfl), hH⟩
            · refine RegStep3.plain rfl ?_; rintro L u w1 bA hL hW hD hU ⟨hS, hH⟩ hin hout; exact opw_move _ _ (.inl rfl) ((hout 7 (by kernel_rfl)).trans (by kernel_rfl)) ⟨_, rfl, hS.step 2 _ (.inr rfl), hH⟩
            · refine RegStep3.plain rfl ?_; rintro L u w1 bA hL hW hD hU ⟨hS, hH⟩ hin hout; exact opw_slH 22 5 _ _ rfl Tryd.underlying22 infosz A b.length c ((hin 1 48 rfl).trans (hS 1 _ rfl (hW.of 1 (by decide)))) hbc .i64 d2 ((hin 2 49 rfl).trans (hS 2 _ rfl (hW.of 2 (by decide)))) hd2b ⟨_, rfl, hS.step 3 _ (.inr rfl), hH⟩
            · refine RegStep3.plain rfl ?_; rintro L u w1 bA hL hW hD hU ⟨hS, hH⟩ hin hout; exact opw_call_ret _ _ _ [(.slice (subA 1 A 0 c) d2 c)] rfl (by kernel_rfl) (list2 ((hin 3 50 rfl).trans (hS 3 _ rfl (hW.of 3 (by decide)))) rfl) (HOF.out _ hH) (fun e w2 he => by obtain ⟨rfl, h2⟩ := he; exact ⟨_, rfl, _, rfl, hS.step 4 _ (.inr rfl), h2⟩)
            · refine RegStep3.plain rfl ?_; rintro L u w1 bA hL hW hD hU ⟨hS, hH⟩ hin hout; exact opw_neRow _ _ 5 32 _ _ SM SM Tryd.underlying24 Tryd.underlying5 infosz (by kernel_rfl) HSML.out HSML.out rfl ((hin 0 47 rfl).trans (hS 0 _ rfl (hW.of 0 (by decide)))) ((hin 4 51 rfl).trans (hS 4 _ rfl (hW.of 4 (by decide)))) false (by simp) ⟨_, rfl, hS.step 5 _ (.inr rfl), hH⟩
            · refine RegStep3.plain rfl ?_; rintro L u w1 bA hL hW hD hU ⟨hS, hH⟩ hin hout; exact opw_move _ _ (.inl rfl) ((hin 5 52 rfl).trans (hS 5 _ rfl (hW.of 5 (by decide)))) ⟨_, rfl, hS.step 6 _ (.inr rfl), hH⟩
            · refine RegStep3.yes 6 false rfl (fun L u w1 hW hI => hI.1 6 _ rfl (hW.of 6 (by decide))) ?_; rintro L u w1 bA hL hW hD hU ⟨hS, hH⟩ hin hout; exact opw_call_ret _ _ _ [(.pointer (some ⟨p, 0, none⟩))] rfl (by kernel_rfl) (list2 ((hout 5 (by kernel_rfl)).trans (by kernel_rfl)) rfl) (HLN.out _ hH) (fun e w2 he => by obtain ⟨rfl, h2⟩ := he; exact ⟨_, rfl, _, rfl, hS.step 7 _ (.inr rfl), h2⟩)
            · refine RegStep3.yes 6 false rfl (fun L u w1 hW hI => hI.1 6 _ rfl (hW.of 6 (by decide))) ?_; rintro L u w1 bA hL hW hD hU ⟨hS, hH⟩ hin hout; exact opw_move _ _ (.inl rfl) ((hout 7 (by kernel_rfl)).trans (by kernel_rfl)) ⟨_, rfl, hS.step 8 _ (.inr rfl), hH⟩
            · refine RegStep3.yes 6 false rfl (fun L u w1 hW hI => hI.1 6 _ rfl (hW.of 6 (by decide))) ?_; rintro L u w1 bA hL hW hD hU ⟨hS, hH⟩ hin hout; exact opw_cmp .neq _ _ _ _ .i64 _ _ false rfl ((hin 7 54 rfl).trans (hS 7 _ rfl (hW.of 7 (by decide)))) ((hin 8 55 rfl).trans (hS 8 _ rfl (hW.of 8 (by decide)))) (by simp [cmpZ]) ⟨_, rfl, hS.step 9 _ (.inr rfl), hH⟩
            · refine RegStep3.plain rfl ?_; rintro L u w1 bA hL hW hD hU ⟨hS, hH⟩ hin hout; exact opw_pickF _ _ _ _ rfl ((hin 6 53 rfl).trans (hS 6 _ rfl (hW.of 6 (by decide)))) ((hin 9 56 rfl).trans (hS 9 _ rfl (hW.of 9 (by decide)))) ⟨_, rfl, hS.step 10 _ (.inr rfl), hH⟩
          intro L u w9 hL ⟨hS, hH⟩
          have E := hS 10 _ rfl (hL 10 (by decide))
          simp only [frame_cons, frame_nil, E, Act.put, List.setIfInBounds_toArray, List.set_cons_zero, List.set_cons_succ]
          have H9 := Lib.hid hH
          clear hL hS hH E
          go_wp2
          go_roundw
          case rel =>
            have hrel2 : PartsI st R p b cs.length (.slice (subA 1 A' q c') (b.length - d - q) (c' - q)) (.int .i64 (d2 : Int)) (.int .i64 ((i : Int) + 1)) w9 := by
              rw [HDB.out]
              exact ⟨i + 1, d2, _, _, by omega, hd2b, by go_num, rfl, rfl, HSD.out, by rw [← HB2.out]; exact H9.out⟩
            first | exact hrel2 | ((repeat apply Exists.intro); exact ⟨hrel2, rfl⟩)
          case measure => simp [intOf]; omega
        · obtain rfl : i = cs.length := by omega
          obtain ⟨SB, hSB⟩ : ∃ SB, SB = sha b := ⟨_, rfl⟩
          have hSBl : SB.length = 32 := by rw [hSB]; exact sha_length _
          obtain ⟨T, hT⟩ : ∃ T, T = hex SB := ⟨_, rfl⟩
          have hTl : T.length = 64 := by rw [hT, hex_length, hSBl]
          have hl0 : lessB SB SB = false := less_all SB SB (fun _ _ => rfl) rfl
          have HW : Hid (∀ w, Has st (sep (hash p (b.take d)) R) w → Calls Tryd.prog 16 #[.pointer (some ⟨p, 0, none⟩), .slice A' (b.length - d) c'] w fun e w' => e = .returned (.tuple #[]) ∧ Has st (sep (hash p b) R) w') := Lib.hid fun w h => by
            have := write_any st R p (b.take d) (b.drop d) (.slice A' (b.length - d) c') HK.out HST.out w h (by rw [hdl]; exact HS6.out) (by rw [List.length_take, List.length_drop]; omega)
            rw [List.take_append_drop] at this; exact this
          have HSU : Hid (∀ w, Has st (sep (hash p b) R) w → Calls Tryd.prog 17 #[.pointer (some ⟨p, 0, none⟩)] w fun e w' => e = .returned (.agg (bcells SB).toArray) ∧ Has st (sep (hash p b) R) w') := Lib.hid fun w h => by rw [hSB]; exact sum_any st R p b HK.out HST.out w h (by omega)
          have HTX : Hid (∀ RR w, Has st RR w → Calls Tryd.prog 14 #[.agg (bcells SB).toArray] w fun e w' => e = .returned (.string (str T)) ∧ Has st RR w') := Lib.hid fun RR w h => by rw [hT]; exact text_any st RR SB hSBl w h
          have HPA : Hid (∀ RR w, Has st RR w → Calls Tryd.prog 8 #[.string (str T)] w fun e w' => e = .returned (.tuple #[.agg (bcells SB).toArray, .int .i64 0]) ∧ Has st RR w') := Lib.hid fun RR w h => by
            have := parse_any st RR (str T) w h (by rw [str_size, hTl]; decide)
            rw [show (str T).data.toList = T by simp [str], hT, parse_hex SB hSBl, ← hT] at this
            exact this
          have HLS : Hid (∀ RR w, Has st RR w → Calls Tryd.prog 12 #[.agg (bcells SB).toArray, .agg (bcells SB).toArray] w fun e w' => e = .returned (.bool false) ∧ Has st RR w') := Lib.hid fun RR w h => by rw [← hl0]; exact less_any st RR SB SB hSBl hSBl w h
          have HOF : Hid (∀ p12 p11 w, Has st (sep (blk p12 (.cells (bcells SB).toArray 24 (0, 0))) (sep (blk p11 (.cells (bcells SB).toArray 24 (0, 0))) (sep (hash p b) R))) w → Calls Tryd.prog 10 #[.slice A b.length c] w fun e w' => e = .returned (.agg (bcells SB).toArray) ∧ Has st (sep (blk p12 (.cells (bcells SB).toArray 24 (0, 0))) (sep (blk p11 (.cells (bcells SB).toArray 24 (0, 0))) (sep (hash p b) R))) w') := Lib.hid fun p12 p11 w h => by
            have := shaOf_any st _ b _ HK.out.up.up.up HST.out.up.up.up w h (fun w2 h2 => HS.out w2 h2.right.right.right) (by omega)
            rw [← hSB] at this
            exact this
          have HLN : Hid (∀ p12 p11 w, Has st (sep (blk p12 (.cells (bcells SB).toArray 24 (0, 0))) (sep (blk p11 (.cells (bcells SB).toArray 24 (0, 0))) (sep (hash p b) R))) w → Calls Tryd.prog 18 #[.pointer (some ⟨p, 0, none⟩)] w fun e w' => e = .returned (.int .i64 (b.length : Int)) ∧ Has st (sep (blk p12 (.cells (bcells SB).toArray 24 (0, 0))) (sep (blk p11 (.cells (bcells SB).toArray 24 (0, 0))) (sep (hash p b) R))) w') := Lib.hid fun p12 p11 w h => (hlen_any st (sep (blk p12 (.cells (bcells SB).toArray 24 (0, 0))) (sep (blk p11 (.cells (bcells SB).toArray 24 (0, 0))) R)) p b w (h.cast (by ac_rfl))).mono fun e w' h' => ⟨h'.1, h'.2 ▸ h⟩
          have hi32 : (Tryd.prog.info? 24).map (·.size) = some (bcells SB).toArray.size := by simp only [List.size_toArray, bcells_length, hSBl]; exact infoID
          have hz2 : (bcells (List.replicate 32 (0 : UInt8))).toArray.size = (bcells SB).toArray.size := by simp only [List.size_toArray, bcells_length, hSBl]; rfl
          have HI := Lib.hid hi32
          have HI2 := Lib.hid hz2
          have HSBL := Lib.hid hSBl
          have H3 := Lib.hid h3
          clear hSB hSBl hT hTl hl0 hdl hi32 hz2 h3
          go_wp2_with (first
            | (go_at_call 16; refine (HW.out _ H3.out).mono ?_; rintro e w4 ⟨rfl, h4⟩; have H4 := Lib.hid h4; clear h4)
            | (go_at_call 17; refine (HSU.out _ H4.out).mono ?_; rintro e w5 ⟨rfl, h5⟩; have H5 := Lib.hid h5; clear h5)
            | (go_at_call 14; refine (HTX.out _ _ H7.out).mono ?_; rintro e w8 ⟨rfl, h8⟩; have H8 := Lib.hid h8; clear h8)
            | (go_at_call 8; refine (HPA.out _ _ H8.out).mono ?_; rintro e w9 ⟨rfl, h9⟩; have H9 := Lib.hid h9; clear h9)
            | ((first | (with_reducible refine wpList_plain rfl ?_) | ((with_reducible refine wpList_yes _ _ rfl ?_ ?_); (focus rfl))); intro _ hk; (first
              | (have _k := H9; refine opw_alloc 24 (.agg (bcells (List.replicate 32 0)).toArray) (bcells (List.replicate 32 0)).toArray rfl zeroID rfl H9.out (fun p12 w10 hp h10 => hk _ _ ?_); clear hp; have H10 := Lib.hid h10; clear h10)
              | (refine opw_alloc 24 (.agg (bcells (List.replicate 32 0)).toArray) (bcells (List.replicate 32 0)).toArray rfl zeroID rfl H5.out (fun p11 w6 hp h6 => hk _ _ ?_); clear hp; have H6 := Lib.hid h6; clear h6)
              | (have _k := H10; refine opw_storeRow 24 _ _ rfl p12 (bcells SB).toArray rfl rfl 24 (bcells (List.replicate 32 0)).toArray HI.out HI2.out (bcells_all _) H10.out (fun w11 h11 => hk _ _ ?_); have H11 := Lib.hid h11; clear h11)
              | (refine opw_storeRow 24 _ _ rfl p11 (bcells SB).toArray rfl rfl 24 (bcells (List.replicate 32 0)).toArray HI.out HI2.out (bcells_all _) H6.out (fun w7 h7 => hk _ _ ?_); have H7 := Lib.hid h7; clear h7)
              | (refine opw_loadRow 24 _ rfl p11 rfl 24 (bcells SB).toArray (0, 0) _ Tryd.underlying24 rfl HI.out H7.out (hk _ _ ?_))); simp only [Act.put, List.setIfInBounds_toArray, List.set_cons_zero, List.set_cons_succ]))
          refine wp_region_inv3 (fun L u w' => Slots (fun kk => ([some (.agg (bcells SB).toArray), some (.slice A b.length c), some (.agg (bcells SB).toArray), some (.bool true), some (.bool true), some (.int .i64 ((b.length : Nat) : Int)), some (.slice A b.length c), some (.int .i64 ((b.length : Nat) : Int)), some (.bool true), some (.bool true), some (.bool true), some (.agg (bcells SB).toArray), some (.agg (bcells SB).toArray), some (.bool true), some (.bool true), some (.bool true), some (.int .i64 0), some (.bool true), some (.bool true), some (.bool true), some (.agg (bcells SB).toArray), some (.agg (bcells SB).toArray), some (.bool false), some (.bool true), some (.bool true), some (.bool true)] : List (Option Value)).getD kk none) L u ∧ Has st (sep (blk p12 (.cells (bcells SB).toArray 24 (0, 0))) (sep (blk p11 (.cells (bcells SB).toArray 24 (0, 0))) (sep (hash p b) R))) w') (by kernel_rfl) (by decide +kernel) (by decide +kernel) (by kernel_rfl) (by kernel_rfl) (fun u => ⟨Slots.start _ u, H11.out.drew⟩) ?_ ?_
          · refine ⟨?_, ?_, ?_, ?_, ?_, ?_, ?_, ?_, ?_, ?_, ?_, ?_, ?_, ?_, ?_, ?_, ?_, ?_, ?_, ?_, ?_, ?_, ?_, ?_, ?_, ?_, trivial⟩
            · refine RegStep3.plain rfl ?_; rintro L u w1 bA hL hW hD hU ⟨hS, hH⟩ hin hout; exact opw_loadRow _ _ rfl _ ((hout 11 (by kernel_rfl)).trans (by kernel_rfl)) 24 _ _ _ Tryd.underlying24 rfl HI.out (hH.right) ⟨_, rfl, hS.step 0 _ (.inr rfl), hH⟩
            · refine RegStep3.plain rfl ?_; rintro L u w1 bA hL hW hD hU ⟨hS, hH⟩ hin hout; exact opw_move _ _ (.inl rfl) ((hout 0 (by kernel_rfl)).trans (by kernel_rfl)) ⟨_, rfl, hS.step 1 _ (.inr rfl), hH⟩
            · refine RegStep3.plain rfl ?_; rintro L u w1 bA hL hW hD hU ⟨hS, hH⟩ hin hout; exact opw_call_ret _ _ _ [(.slice A b.length c)] rfl (by kernel_rfl) (list2 ((hin 1 69 rfl).trans (hS 1 _ rfl (hW.of 1 (by decide)))) rfl) (HOF.out _ _ _ hH) (fun e w2 he => by obtain ⟨rfl, h2⟩ := he; exact ⟨_, rfl, _, rfl, hS.step 2 _ (.inr rfl), h2⟩)
            · refine RegStep3.plain rfl ?_; rintro L u w1 bA hL hW hD hU ⟨hS, hH⟩ hin hout; exact opw_eqRow _ _ 5 32 _ _ SB SB Tryd.underlying24 Tryd.underlying5 infosz (by kernel_rfl) HSBL.out HSBL.out rfl ((hin 0 68 rfl).trans (hS 0 _ rfl (hW.of 0 (by decide)))) ((hin 2 70 rfl).trans (hS 2 _ rfl (hW.of 2 (by decide)))) true (beq_self_eq_true _) ⟨_, rfl, hS.step 3 _ (.inr rfl), hH⟩
            · refine RegStep3.plain rfl ?_; rintro L u w1 bA hL hW hD hU ⟨hS, hH⟩ hin hout; exact opw_move _ _ (.inl rfl) ((hin 3 71 rfl).trans (hS 3 _ rfl (hW.of 3 (by decide)))) ⟨_, rfl, hS.step 4 _ (.inr rfl), hH⟩
            · refine RegStep3.yes 4 true rfl (fun L u w1 hW hI => hI.1 4 _ rfl (hW.of 4 (by decide))) ?_; rintro L u w1 bA hL hW hD hU ⟨hS, hH⟩ hin hout; exact opw_call_ret _ _ _ [(.pointer (some ⟨p, 0, none⟩))] rfl (by kernel_rfl) (list2 ((hout 5 (by kernel_rfl)).trans (by kernel_rfl)) rfl) (HLN.out _ _ _ hH) (fun e w2 he => by obtain ⟨rfl, h2⟩ := he; exact ⟨_, rfl, _, rfl, hS.step 5 _ (.inr rfl), h2⟩)
            · refine RegStep3.yes 4 true rfl (fun L u w1 hW hI => hI.1 4 _ rfl (hW.of 4 (by decide))) ?_; rintro L u w1 bA hL hW hD hU ⟨hS, hH⟩ hin hout; exact opw_move _ _ (.inl rfl) ((hout 0 (by kernel_rfl)).trans (by kernel_rfl)) ⟨_, rfl, hS.step 6 _ (.inr rfl), hH⟩
            · refine RegStep3.yes 4 true rfl (fun L u w1 hW hI => hI.1 4 _ rfl (hW.of 4 (by decide))) ?_; rintro L u w1 bA hL hW hD hU ⟨hS, hH⟩ hin hout; exact opw_len _ _ _ Tryd.underlying22 A (b.length) c rfl ((hin 6 74 rfl).trans (hS 6 _ rfl (hW.of 6 (by decide)))) ⟨_, rfl, hS.step 7 _ (.inr rfl), hH⟩
            · refine RegStep3.yes 4 true rfl (fun L u w1 hW hI => hI.1 4 _ rfl (hW.of 4 (by decide))) ?_; rintro L u w1 bA hL hW hD hU ⟨hS, hH⟩ hin hout; exact opw_cmp .eql _ _ _ _ .i64 _ _ true rfl ((hin 5 73 rfl).trans (hS 5 _ rfl (hW.of 5 (by decide)))) ((hin 7 75 rfl).trans (hS 7 _ rfl (hW.of 7 (by decide)))) (by simp [cmpZ]) ⟨_, rfl, hS.step 8 _ (.inr rfl), hH⟩
            · refine RegStep3.plain rfl ?_; rintro L u w1 bA hL hW hD hU ⟨hS, hH⟩ hin hout; exact opw_pickT _ _ _ _ rfl ((hin 4 72 rfl).trans (hS 4 _ rfl (hW.of 4 (by decide)))) ((hin 8 76 rfl).trans (hS 8 _ rfl (hW.of 8 (by decide)))) ⟨_, rfl, hS.step 9 _ (.inr rfl), hH⟩
            · refine RegStep3.plain rfl ?_; rintro L u w1 bA hL hW hD hU ⟨hS, hH⟩ hin hout; exact opw_move _ _ (.inl rfl) ((hin 9 77 rfl).trans (hS 9 _ rfl (hW.of 9 (by decide)))) ⟨_, rfl, hS.step 10 _ (.inr rfl), hH⟩
            · refine RegStep3.yes 10 true rfl (fun L u w1 hW hI => hI.1 10 _ rfl (hW.of 10 (by decide))) ?_; rintro L u w1 bA hL hW hD hU ⟨hS, hH⟩ hin hout; exact opw_loadRow _ _ rfl _ ((hout 12 (by kernel_rfl)).trans (by kernel_rfl)) 24 _ _ _ Tryd.underlying24 rfl HI.out (hH) ⟨_, rfl, hS.step 11 _ (.inr rfl), hH⟩
            · refine RegStep3.yes 10 true rfl (fun L u w1 hW hI => hI.1 10 _ rfl (hW.of 10 (by decide))) ?_; rintro L u w1 bA hL hW hD hU ⟨hS, hH⟩ hin hout; exact opw_loadRow _ _ rfl _ ((hout 11 (by kernel_rfl)).trans (by kernel_rfl)) 24 _ _ _ Tryd.underlying24 rfl HI.out (hH.right) ⟨_, rfl, hS.step 12 _ (.inr rfl), hH⟩
            · refine RegStep3.yes 10 true rfl (fun L u w1 hW hI => hI.1 10 _ rfl (hW.of 10 (by decide))) ?_; rintro L u w1 bA hL hW hD hU ⟨hS, hH⟩ hin hout; exact opw_eqRow _ _ 5 32 _ _ SB SB Tryd.underlying24 Tryd.underlying5 infosz (by kernel_rfl) HSBL.out HSBL.out rfl ((hin 11 79 rfl).trans (hS 11 _ rfl (hW.of 11 (by decide)))) ((hin 12 80 rfl).trans (hS 12 _ rfl (hW.of 12 (by decide)))) true (beq_self_eq_true _) ⟨_, rfl, hS.step 13 _ (.inr rfl), hH⟩
            · refine RegStep3.plain rfl ?_; rintro L u w1 bA hL hW hD hU ⟨hS, hH⟩ hin hout; exact opw_pickT _ _ _ _ rfl ((hin 10 78 rfl).trans (hS 10 _ rfl (hW.of 10 (by decide)))) ((hin 13 81 rfl).trans (hS 13 _ rfl (hW.of 13 (by decide)))) ⟨_, rfl, hS.step 14 _ (.inr rfl), hH⟩
            · refine RegStep3.plain rfl ?_; rintro L u w1 bA hL hW hD hU ⟨hS, hH⟩ hin hout; exact opw_move _ _ (.inl rfl) ((hin 14 82 rfl).trans (hS 14 _ rfl (hW.of 14 (by decide)))) ⟨_, rfl, hS.step 15 _ (.inr rfl), hH⟩
            · refine RegStep3.yes 15 true rfl (fun L u w1 hW hI => hI.1 15 _ rfl (hW.of 15 (by decide))) ?_; rintro L u w1 bA hL hW hD hU ⟨hS, hH⟩ hin hout; exact opw_move _ _ (.inl rfl) ((hout 13 (by kernel_rfl)).trans (by kernel_rfl)) ⟨_, rfl, hS.step 16 _ (.inr rfl), hH⟩
            · refine RegStep3.yes 15 true rfl (fun L u w1 hW hI => hI.1 15 _ rfl (hW.of 15 (by decide))) ?_; rintro L u w1 bA hL hW hD hU ⟨hS, hH⟩ hin hout; exact opw_cmp .eql _ _ _ _ .i64 _ _ true rfl ((hin 16 84 rfl).trans (hS 16 _ rfl (hW.of 16 (by decide)))) rfl (by simp [cmpZ]) ⟨_, rfl, hS.step 17 _ (.inr rfl), hH⟩
            · refine RegStep3.plain rfl ?_; rintro L u w1 bA hL hW hD hU ⟨hS, hH⟩ hin hout; exact opw_pickT _ _ _ _ rfl ((hin 15 83 rfl).trans (hS 15 _ rfl (hW.of 15 (by decide)))) ((hin 17 85 rfl).trans (hS 17 _ rfl (hW.of 17 (by decide)))) ⟨_, rfl, hS.step 18 _ (.inr rfl), hH⟩
            · refine RegStep3.plain rfl ?_; rintro L u w1 bA hL hW hD hU ⟨hS, hH⟩ hin hout; exact opw_move _ _ (.inl rfl) ((hin 18 86 rfl).trans (hS 18 _ rfl (hW.of 18 (by decide)))) ⟨_, rfl, hS.step 19 _ (.inr rfl), hH⟩
            · refine RegStep3.yes 19 true rfl (fun L u w1 hW hI => hI.1 19 _ rfl (hW.of 19 (by decide))) ?_; rintro L u w1 bA hL hW hD hU ⟨hS, hH⟩ hin hout; exact opw_loadRow _ _ rfl _ ((hout 11 (by kernel_rfl)).trans (by kernel_rfl)) 24 _ _ _ Tryd.underlying24 rfl HI.out (hH.right) ⟨_, rfl, hS.step 20 _ (.inr rfl), hH⟩
            · refine RegStep3.yes 19 true rfl (fun L u w1 hW hI => hI.1 19 _ rfl (hW.of 19 (by decide))) ?_; rintro L u w1 bA hL hW hD hU ⟨hS, hH⟩ hin hout; exact opw_loadRow _ _ rfl _ ((hout 11 (by kernel_rfl)).trans (by kernel_rfl)) 24 _ _ _ Tryd.underlying24 rfl HI.out (hH.right) ⟨_, rfl, hS.step 21 _ (.inr rfl), hH⟩
            · refine RegStep3.yes 19 true rfl (fun L u w1 hW hI => hI.1 19 _ rfl (hW.of 19 (by decide))) ?_; rintro L u w1 bA hL hW hD hU ⟨hS, hH⟩ hin hout; exact opw_call_ret _ _ _ [(.agg (bcells SB).toArray), (.agg (bcells SB).toArray)] rfl (by kernel_rfl) (list2 ((hin 20 88 rfl).trans (hS 20 _ rfl (hW.of 20 (by decide)))) (list2 ((hin 21 89 rfl).trans (hS 21 _ rfl (hW.of 21 (by decide)))) rfl)) (HLS.out _ _ hH) (fun e w2 he => by obtain ⟨rfl, h2⟩ := he; exact ⟨_, rfl, _, rfl, hS.step 22 _ (.inr rfl), h2⟩)
            · refine RegStep3.yes 19 true rfl (fun L u w1 hW hI => hI.1 19 _ rfl (hW.of 19 (by decide))) ?_; rintro L u w1 bA hL hW hD hU ⟨hS, hH⟩ hin hout; exact opw_not _ _ _ rfl ((hin 22 90 rfl).trans (hS 22 _ rfl (hW.of 22 (by decide)))) true rfl ⟨_, rfl, hS.step 23 _ (.inr rfl), hH⟩
            · refine RegStep3.plain rfl ?_; rintro L u w1 bA hL hW hD hU ⟨hS, hH⟩ hin hout; exact opw_pickT _ _ _ _ rfl ((hin 19 87 rfl).trans (hS 19 _ rfl (hW.of 19 (by decide)))) ((hin 23 91 rfl).trans (hS 23 _ rfl (hW.of 23 (by decide)))) ⟨_, rfl, hS.step 24 _ (.inr rfl), hH⟩
            · refine RegStep3.plain rfl ?_; rintro L u w1 bA hL hW hD hU ⟨hS, hH⟩ hin hout; exact opw_move _ _ (.inr rfl) ((hin 24 92 rfl).trans (hS 24 _ rfl (hW.of 24 (by decide)))) ⟨_, rfl, hS.step 25 _ (.inr rfl), hH⟩
          intro L u w12 hL ⟨hS, hH⟩
          have E := hS 25 _ rfl (hL 25 (by decide))
          simp only [frame_cons, frame_nil, E, Act.put, List.setIfInBounds_toArray, List.set_cons_zero, List.set_cons_succ]
          have H12 := Lib.hid hH
          clear hL hS hH E
          go_wp2
          go_ret
          exact ⟨rfl, H12.out.right.right.right⟩
    · have HZ2 : Hid (cmpZ .gtr (cs.length : Int) 40 = some true) := Lib.hid (by simp only [cmpZ]; simp; omega)
      clear hl1 hb3 hbc
      go_enter Tryd.func4, Tryd.ntmps4
      go_wp2_with (first
        | (go_at_call 7; refine (alive_any st R HK.out HST.out _ HH.out).mono ?_; rintro e w1 ⟨rfl, h1⟩; have H1 := Lib.hid h1; clear h1)
        | ((first | (with_reducible refine wpList_plain rfl ?_) | ((with_reducible refine wpList_yes _ _ rfl ?_ ?_); (focus rfl))); intro _ hk; (first
          | (refine opw_len _ _ _ Tryd.underlying22 A b.length c rfl rfl (hk _ _ ?_))
          | (refine opw_len _ _ _ Tryd.underlying35 B cs.length cc rfl rfl (hk _ _ ?_))
          | (refine opw_cmp .gtr _ _ _ _ .i64 (b.length : Int) 300 false rfl rfl rfl HZ1.out (hk _ _ ?_))
          | (refine opw_cmp .gtr _ _ _ _ .i64 (cs.length : Int) 40 true rfl rfl rfl HZ2.out (hk _ _ ?_))); simp only [Act.put, List.setIfInBounds_toArray, List.set_cons_zero, List.set_cons_succ]))
      go_ret
      exact ⟨rfl, H1.out⟩
  · have HZ1 : Hid (cmpZ .gtr (b.length : Int) 300 = some true) := Lib.hid (by simp only [cmpZ]; simp; omega)
    clear hb3 hbc
    go_enter Tryd.func4, Tryd.ntmps4
    go_wp2_with (first
      | (go_at_call 7; refine (alive_any st R HK.out HST.out _ HH.out).mono ?_; rintro e w1 ⟨rfl, h1⟩; have H1 := Lib.hid h1; clear h1)
      | ((first | (with_reducible refine wpList_plain rfl ?_) | ((with_reducible refine wpList_yes _ _ rfl ?_ ?_); (focus rfl))); intro _ hk; (first
        | (refine opw_len _ _ _ Tryd.underlying22 A b.length c rfl rfl (hk _ _ ?_))
        | (refine opw_len _ _ _ Tryd.underlying35 B cs.length cc rfl rfl (hk _ _ ?_))
        | (refine opw_cmp .gtr _ _ _ _ .i64 (b.length : Int) 300 true rfl rfl rfl HZ1.out (hk _ _ ?_))); simp only [Act.put, List.setIfInBounds_toArray, List.set_cons_zero, List.set_cons_succ]))
    go_ret
    exact ⟨rfl, H1.out⟩
end Go.Proofs.YtijcjjinafpomaaDoor
