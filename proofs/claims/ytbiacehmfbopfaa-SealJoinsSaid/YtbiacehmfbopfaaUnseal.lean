/-
  Layer 4: Unseal.
-/
import Derived.Test.YtbiacehmfbopfaaSeal
import Derived.Test.YtbiacehmfbopfaaVres
import Derived.Test.YtbiacehmfbopfaaReader
namespace Go.Proofs.Ytbiacehmfbopfaa
open Go.RowKit Go.Sl Go.Crc
set_option linter.unusedVariables false
set_option linter.unusedSimpArgs false
def innerB (b : List UInt8) : List UInt8 := (b.take (b.length - 4)).drop 1
theorem innerB_length (b : List UInt8) : (innerB b).length = b.length - 5 := by unfold innerB; rw [List.length_drop, List.length_take]; omega
/-- what is unsealed, the error's number -/
def unsealR (k : UInt8) (b : List UInt8) : List UInt8 × Int :=
  if b.length < 5 then ([], 20) else if (sealB (b.getD 0 0) (innerB b) == b) = false then ([], 36) else if b.getD 0 0 = k then (innerB b, 0) else ([], 21)
set_option maxRecDepth 100000 in
set_option maxHeartbeats 4000000 in
theorem unseal_any (st : World) (R : HProp) (k : UInt8) (b : List UInt8) (A0 : Option Addr) (c0 : Nat) (w : World) (h : Has st R w) (hs : Sees st R 1 (.slice A0 b.length c0) b.length (bcells b)) (hb : b.length ≤ 140737488355000) :
    Calls Try.prog 10 #[.int .u8 (k.toNat : Int), .slice A0 b.length c0] w fun e w' => ∃ A c, e = .returned (.tuple #[.slice A (unsealR k b).1.length c, .int .i64 (unsealR k b).2]) ∧ Has st (sep (row 5 1 (.slice A (unsealR k b).1.length c) (unsealR k b).1.length (bcells (unsealR k b).1)) R) w' := by
  have hbc := (hs w h).le
  by_cases hl : b.length < 5
  · have hu : unsealR k b = ([], 20) := by unfold unsealR; rw [if_pos hl]
    have HU := Lib.hid hu
    have HZ : Hid (cmpZ .lss (b.length : Int) 5 = some true) := Lib.hid (by simp only [cmpZ]; simp; omega)
    have HH := Lib.hid h
    clear hu h hs hl hbc
    go_enter Try.func10, Try.ntmps10
    go_wp2_with (first
      | (fail)
      | ((first | (with_reducible refine wpList_plain rfl ?_) | ((with_reducible refine wpList_yes _ _ rfl ?_ ?_); (focus rfl))); intro _ hk; (first
        | (refine opw_len _ _ _ Try.underlying22 A0 b.length c0 rfl rfl (hk _ _ ?_))
        | (refine opw_cmp .lss _ _ _ _ .i64 (b.length : Int) 5 true rfl rfl rfl HZ.out (hk _ _ ?_))); simp only [Act.put, List.setIfInBounds_toArray, List.set_cons_zero, List.set_cons_succ]))
    go_ret2
    rw [HU.out]
    exact ⟨none, 0, rfl, HH.out.row_nil 5 1⟩
  · have HZ : Hid (cmpZ .lss (b.length : Int) 5 = some false) := Lib.hid (by simp only [cmpZ]; simp; omega)
    obtain ⟨m, hm⟩ : ∃ m, m = b.length - 4 := ⟨_, rfl⟩
    have hm1 : 1 ≤ m := by omega
    have hmb : m ≤ b.length := by omega
    have hmc : m ≤ c0 := by omega
    have b1 : binZ .sub .i64 (b.length : Int) 4 = some (m : Int) := by rw [hm]; exact bin_sub b.length 4 (by omega) (by omega)
    obtain ⟨x, hx⟩ : ∃ x, x = b.getD 0 0 := ⟨_, rfl⟩
    obtain ⟨I, hI⟩ : ∃ I, I = innerB b := ⟨_, rfl⟩
    have hIl : I.length = m - 1 := by rw [hI, innerB_length]; omega
    obtain ⟨S, hS⟩ : ∃ S, S = sealB x I := ⟨_, rfl⟩
    have hSl : S.length = b.length := by rw [hS, sealB_length, hIl]; omega
    have hsI : Sees st R 1 (.slice (subA 1 (subA 1 A0 0 c0) 1 c0) (m - 1) (c0 - 1)) I.length (bcells I) := by
      have h1 := hs.takeB m hmb
      have h2 := h1.dropB (by rw [List.length_take]; omega) 1 hm1
      rw [hIl, hI]; unfold innerB; rw [← hm]; exact h2
    obtain ⟨bb, off, hA, hcell⟩ := (hs w h).at (by omega)
    subst hA
    have hg0 : b[0]? = some x := by rw [hx, List.getD_eq_getElem?_getD, List.getElem?_eq_getElem (show 0 < b.length by omega)]; rfl
    have hc0 : ∀ w, Has st R w → w.cell? ⟨bb, off + 0, none⟩ = some (.int .u8 (x.toNat : Int)) := fun w h => (hs w h).cell (by simp [bcells, bcell, hg0])
    have hse : ∀ w, Has st R w → Calls Try.prog 12 #[.int .u8 (x.toNat : Int), .slice (subA 1 (subA 1 (some ⟨bb, off, none⟩) 0 c0) 1 c0) (m - 1) (c0 - 1)] w fun e w' => ∃ A c, e = .returned (.slice A S.length c) ∧ Has st (sep (row 5 1 (.slice A S.length c) S.length (bcells S)) R) w' := fun w h => by rw [hS]; exact seal_any st R x I _ w h hsI (by omega)
    have hcl : ∀ G w, Has st (sep G R) w → Calls Try.prog 21 #[.slice (subA 1 (subA 1 (some ⟨bb, off, none⟩) 0 c0) 1 c0) (m - 1) (c0 - 1)] w fun e w' => ∃ A c, e = .returned (.slice A I.length c) ∧ Has st (sep (row 5 1 (.slice A I.length c) I.length (bcells I)) (sep G R)) w' := fun G w h => clone_any st (sep G R) I _ w h (fun w2 h2 => hsI w2 h2.right) (by omega)
    have hru : unsealR k b = if (S == b) = false then ([], 36) else if x = k then (I, 0) else ([], 21) := by unfold unsealR; rw [if_neg hl, hS, hI, hx]
    have HS := Lib.hid hs
    have HB1 := Lib.hid b1
    have HC0 := Lib.hid hc0
    have HSE := Lib.hid hse
    have HCL := Lib.hid hcl
    have HRU := Lib.hid hru
    have HSL := Lib.hid hSl
    have HH := Lib.hid h
    have h0 : 0 < b.length := by omega
    clear hm b1 hx hI hIl hS hSl hsI hcell hg0 hc0 hse hcl hru hs h hl
    by_cases heq : (S == b) = false
    ·
      have hu : unsealR k b = ([], 36) := by rw [HRU.out, if_pos heq]
      have HU := Lib.hid hu
      have HNE : Hid (cmpS .neq S b = some true) := Lib.hid (by simp only [cmpS]; rw [heq]; rfl)
      clear hu
      clear heq
      go_enter Try.func10, Try.ntmps10
      go_wp2_with (first
        | (fail)
        | ((first | (with_reducible refine wpList_plain rfl ?_) | ((with_reducible refine wpList_yes _ _ rfl ?_ ?_); (focus rfl))); intro _ hk; (first
          | (refine opw_len _ _ _ Try.underlying22 (some ⟨bb, off, none⟩) b.length c0 rfl rfl (hk _ _ ?_))
          | (refine opw_cmp .lss _ _ _ _ .i64 (b.length : Int) 5 false rfl rfl rfl HZ.out (hk _ _ ?_))
          | (refine opw_bin .sub _ _ _ _ .i64 (b.length : Int) 4 (m : Int) rfl rfl rfl HB1.out (hk _ _ ?_))
          | (refine opw_slH 22 5 _ _ rfl Try.underlying22 sizeB (some ⟨bb, off, none⟩) b.length c0 rfl hbc .i64 m rfl hmb (hk _ _ ?_))); simp only [Act.put, List.setIfInBounds_toArray, List.set_cons_zero, List.set_cons_succ]))
      refine wp_region_inv3 (fun L u w' => Slots (fun kk => ([some (.slice (some ⟨bb, off, none⟩) b.length c0), some (.pointer (some ⟨bb, off + 0, none⟩)), some (.int .u8 ((x).toNat : Int)), some (.slice (subA 1 (some ⟨bb, off, none⟩) 0 c0) m c0), some (.slice (subA 1 (subA 1 (some ⟨bb, off, none⟩) 0 c0) 1 c0) (m - 1) (c0 - 1)), none, some (.string (str S)), some (.slice (some ⟨bb, off, none⟩) b.length c0), some (.string (str b)), some (.bool true), some (.bool true)] : List (Option Value)).getD kk none) L u ∧ Has st (sep (vres (L 5) (u 5) 5 1 S.length (bcells S)) R) w') (by kernel_rfl) (by decide +kernel) (by decide +kernel) (by kernel_rfl) (by kernel_rfl) (fun u => ⟨Slots.start _ u, HH.out.drew.vres_no⟩) ?_ ?_
      · refine ⟨?_, ?_, ?_, ?_, ?_, ?_, ?_, ?_, ?_, ?_, ?_, trivial⟩
        · refine RegStep3.plain rfl ?_; rintro L u w1 bA hL hW hD hU ⟨hS, hH⟩ hin hout; exact opw_move _ _ (.inl rfl) ((hout 1 (by kernel_rfl)).trans (by kernel_rfl)) ⟨_, rfl, hS.step 0 _ (.inr rfl), hH⟩
        · refine RegStep3.plain rfl ?_; rintro L u w1 bA hL hW hD hU ⟨hS, hH⟩ hin hout; exact opw_indexSl _ _ _ _ rfl Try.underlying22 sizeB (bb) (off) (b.length) (c0) (0) ((hin 0 16 rfl).trans (hS 0 _ rfl (hW.of 0 (by decide)))) _ rfl h0 ⟨_, rfl, hS.step 1 _ (.inr rfl), hH⟩
        · refine RegStep3.plain rfl ?_; rintro L u w1 bA hL hW hD hU ⟨hS, hH⟩ hin hout; exact opw_load1 _ _ rfl _ Try.underlying5 rfl _ _ ((hin 1 17 rfl).trans (hS 1 _ rfl (hW.of 1 (by decide)))) (HC0.out _ hH.right) ⟨_, rfl, hS.step 2 _ (.inr rfl), hH⟩
        · refine RegStep3.plain rfl ?_; rintro L u w1 bA hL hW hD hU ⟨hS, hH⟩ hin hout; exact opw_move _ _ (.inl rfl) ((hout 6 (by kernel_rfl)).trans (by kernel_rfl)) ⟨_, rfl, hS.step 3 _ (.inr rfl), hH⟩
        · refine RegStep3.plain rfl ?_; rintro L u w1 bA hL hW hD hU ⟨hS, hH⟩ hin hout; exact opw_slL 22 5 _ _ rfl Try.underlying22 sizeB (subA 1 (some ⟨bb, off, none⟩) 0 c0) m c0 ((hin 3 19 rfl).trans (hS 3 _ rfl (hW.of 3 (by decide)))) hmc .i64 1 rfl hm1 ⟨_, rfl, hS.step 4 _ (.inr rfl), hH⟩
        · refine RegStep3.plain rfl ?_; rintro L u w1 bA hL hW hD hU ⟨hS, hH⟩ hin hout; exact opw_call_ret _ _ _ [(.int .u8 ((x).toNat : Int)), (.slice (subA 1 (subA 1 (some ⟨bb, off, none⟩) 0 c0) 1 c0) (m - 1) (c0 - 1))] rfl (by kernel_rfl) (list2 ((hin 2 18 rfl).trans (hS 2 _ rfl (hW.of 2 (by decide)))) (list2 ((hin 4 20 rfl).trans (hS 4 _ rfl (hW.of 4 (by decide)))) rfl)) (HSE.out _ (hH.vres_new hL)) (fun e w2 he => by obtain ⟨A, c, rfl, h2⟩ := he; exact ⟨_, rfl, _, rfl, hS.step 5 _ (.inl rfl), (show Has st (sep (vres true (.slice A S.length c) 5 1 S.length (bcells S)) R) w2 from (h2.vres_mk).cast (by ac_rfl))⟩)
        · refine RegStep3.plain rfl ?_; rintro L u w1 bA hL hW hD hU ⟨hS, hH⟩ hin hout; exact opw_toStr _ _ 5 _ Try.underlying22 Try.underlying5 Try.underlying9 rfl _ S.length S (hin 5 21 rfl) (hH.vres_rd (hW.of 5 (by decide))) ⟨_, rfl, hS.step 6 _ (.inr rfl), hH⟩
        · refine RegStep3.plain rfl ?_; rintro L u w1 bA hL hW hD hU ⟨hS, hH⟩ hin hout; exact opw_move _ _ (.inl rfl) ((hout 1 (by kernel_rfl)).trans (by kernel_rfl)) ⟨_, rfl, hS.step 7 _ (.inr rfl), hH⟩
        · refine RegStep3.plain rfl ?_; rintro L u w1 bA hL hW hD hU ⟨hS, hH⟩ hin hout; exact opw_toStr _ _ 5 _ Try.underlying22 Try.underlying5 Try.underlying9 rfl _ b.length b ((hin 7 23 rfl).trans (hS 7 _ rfl (hW.of 7 (by decide)))) (HS.out _ hH.right) ⟨_, rfl, hS.step 8 _ (.inr rfl), hH⟩
        · refine RegStep3.plain rfl ?_; rintro L u w1 bA hL hW hD hU ⟨hS, hH⟩ hin hout; exact opw_cmpStr .neq _ _ _ _ S b true rfl ((hin 6 22 rfl).trans (hS 6 _ rfl (hW.of 6 (by decide)))) ((hin 8 24 rfl).trans (hS 8 _ rfl (hW.of 8 (by decide)))) HNE.out ⟨_, rfl, hS.step 9 _ (.inr rfl), hH⟩
        · refine RegStep3.plain rfl ?_; rintro L u w1 bA hL hW hD hU ⟨hS, hH⟩ hin hout; exact opw_move _ _ (.inr rfl) ((hin 9 25 rfl).trans (hS 9 _ rfl (hW.of 9 (by decide)))) ⟨_, rfl, hS.step 10 _ (.inr rfl), hH⟩
      intro L u w2 hL ⟨hS, hH⟩
      have E10 := hS 10 _ rfl (hL 10 (by decide))
      simp only [frame_cons, frame_nil, E10, Act.put, List.setIfInBounds_toArray, List.set_cons_zero, List.set_cons_succ]
      have H2 := Lib.hid hH
      clear hL hS hH E10
      go_wp2_with (first
        | (fail)
        | ((first | (with_reducible refine wpList_plain rfl ?_) | ((with_reducible refine wpList_yes _ _ rfl ?_ ?_); (focus rfl))); intro _ hk; (first
          | (refine opw_indexSl 22 5 _ _ rfl Try.underlying22 sizeB bb off b.length c0 0 rfl rfl h0 (hk _ _ ?_))
          | (refine opw_load1 5 _ rfl _ Try.underlying5 rfl ⟨bb, off + 0, none⟩ (.int .u8 (x.toNat : Int)) rfl (HC0.out _ H2.out.right) (hk _ _ ?_))); simp only [Act.put, List.setIfInBounds_toArray, List.set_cons_zero, List.set_cons_succ]))
      go_ret2
      rw [HU.out]
      exact ⟨none, 0, rfl, H2.out.right.row_nil 5 1⟩
    · rw [Bool.not_eq_false] at heq
      by_cases hk : x = k
      ·
        have hu : unsealR k b = (I, 0) := by rw [HRU.out, if_neg (by rw [heq]; decide), if_pos hk]
        have HU := Lib.hid hu
        have HNE : Hid (cmpS .neq S b = some false) := Lib.hid (by simp only [cmpS]; rw [heq]; rfl)
        clear hu
        have HK : Hid (cmpZ .neq (x.toNat : Int) (k.toNat : Int) = some false) := Lib.hid (by simp only [cmpZ]; simp [hk])
        clear hk
        clear heq
        go_enter Try.func10, Try.ntmps10
        go_wp2_with (first
          | (fail)
          | ((first | (with_reducible refine wpList_plain rfl ?_) | ((with_reducible refine wpList_yes _ _ rfl ?_ ?_); (focus rfl))); intro _ hk; (first
            | (refine opw_len _ _ _ Try.underlying22 (some ⟨bb, off, none⟩) b.length c0 rfl rfl (hk _ _ ?_))
            | (refine opw_cmp .lss _ _ _ _ .i64 (b.length : Int) 5 false rfl rfl rfl HZ.out (hk _ _ ?_))
            | (refine opw_bin .sub _ _ _ _ .i64 (b.length : Int) 4 (m : Int) rfl rfl rfl HB1.out (hk _ _ ?_))
            | (refine opw_slH 22 5 _ _ rfl Try.underlying22 sizeB (some ⟨bb, off, none⟩) b.length c0 rfl hbc .i64 m rfl hmb (hk _ _ ?_))); simp only [Act.put, List.setIfInBounds_toArray, List.set_cons_zero, List.set_cons_succ]))
        refine wp_region_inv3 (fun L u w' => Slots (fun kk => ([some (.slice (some ⟨bb, off, none⟩) b.length c0), some (.pointer (some ⟨bb, off + 0, none⟩)), some (.int .u8 ((x).toNat : Int)), some (.slice (subA 1 (some ⟨bb, off, none⟩) 0 c0) m c0), some (.slice (subA 1 (subA 1 (some ⟨bb, off, none⟩) 0 c0) 1 c0) (m - 1) (c0 - 1)), none, some (.string (str S)), some (.slice (some ⟨bb, off, none⟩) b.length c0), some (.string (str b)), some (.bool false), some (.bool false)] : List (Option Value)).getD kk none) L u ∧ Has st (sep (vres (L 5) (u 5) 5 1 S.length (bcells S)) R) w') (by kernel_rfl) (by decide +kernel) (by decide +kernel) (by kernel_rfl) (by kernel_rfl) (fun u => ⟨Slots.start _ u, HH.out.drew.vres_no⟩) ?_ ?_
        · refine ⟨?_, ?_, ?_, ?_, ?_, ?_, ?_, ?_, ?_, ?_, ?_, trivial⟩
          · refine RegStep3.plain rfl ?_; rintro L u w1 bA hL hW hD hU ⟨hS, hH⟩ hin hout; exact opw_move _ _ (.inl rfl) ((hout 1 (by kernel_rfl)).trans (by kernel_rfl)) ⟨_, rfl, hS.step 0 _ (.inr rfl), hH⟩
          · refine RegStep3.plain rfl ?_; rintro L u w1 bA hL hW hD hU ⟨hS, hH⟩ hin hout; exact opw_indexSl _ _ _ _ rfl Try.underlying22 sizeB (bb) (off) (b.length) (c0) (0) ((hin 0 16 rfl).trans (hS 0 _ rfl (hW.of 0 (by decide)))) _ rfl h0 ⟨_, rfl, hS.step 1 _ (.inr rfl), hH⟩
          · refine RegStep3.plain rfl ?_; rintro L u w1 bA hL hW hD hU ⟨hS, hH⟩ hin hout; exact opw_load1 _ _ rfl _ Try.underlying5 rfl _ _ ((hin 1 17 rfl).trans (hS 1 _ rfl (hW.of 1 (by decide)))) (HC0.out _ hH.right) ⟨_, rfl, hS.step 2 _ (.inr rfl), hH⟩
          · refine RegStep3.plain rfl ?_; rintro L u w1 bA hL hW hD hU ⟨hS, hH⟩ hin hout; exact opw_move _ _ (.inl rfl) ((hout 6 (by kernel_rfl)).trans (by kernel_rfl)) ⟨_, rfl, hS.step 3 _ (.inr rfl), hH⟩
          · refine RegStep3.plain rfl ?_; rintro L u w1 bA hL hW hD hU ⟨hS, hH⟩ hin hout; exact opw_slL 22 5 _ _ rfl Try.underlying22 sizeB (subA 1 (some ⟨bb, off, none⟩) 0 c0) m c0 ((hin 3 19 rfl).trans (hS 3 _ rfl (hW.of 3 (by decide)))) hmc .i64 1 rfl hm1 ⟨_, rfl, hS.step 4 _ (.inr rfl), hH⟩
          · refine RegStep3.plain rfl ?_; rintro L u w1 bA hL hW hD hU ⟨hS, hH⟩ hin hout; exact opw_call_ret _ _ _ [(.int .u8 ((x).toNat : Int)), (.slice (subA 1 (subA 1 (some ⟨bb, off, none⟩) 0 c0) 1 c0) (m - 1) (c0 - 1))] rfl (by kernel_rfl) (list2 ((hin 2 18 rfl).trans (hS 2 _ rfl (hW.of 2 (by decide)))) (list2 ((hin 4 20 rfl).trans (hS 4 _ rfl (hW.of 4 (by decide)))) rfl)) (HSE.out _ (hH.vres_new hL)) (fun e w2 he => by obtain ⟨A, c, rfl, h2⟩ := he; exact ⟨_, rfl, _, rfl, hS.step 5 _ (.inl rfl), (show Has st (sep (vres true (.slice A S.length c) 5 1 S.length (bcells S)) R) w2 from (h2.vres_mk).cast (by ac_rfl))⟩)
          · refine RegStep3.plain rfl ?_; rintro L u w1 bA hL hW hD hU ⟨hS, hH⟩ hin hout; exact opw_toStr _ _ 5 _ Try.underlying22 Try.underlying5 Try.underlying9 rfl _ S.length S (hin 5 21 rfl) (hH.vres_rd (hW.of 5 (by decide))) ⟨_, rfl, hS.step 6 _ (.inr rfl), hH⟩
          · refine RegStep3.plain rfl ?_; rintro L u w1 bA hL hW hD hU ⟨hS, hH⟩ hin hout; exact opw_move _ _ (.inl rfl) ((hout 1 (by kernel_rfl)).trans (by kernel_rfl)) ⟨_, rfl, hS.step 7 _ (.inr rfl), hH⟩
          · refine RegStep3.plain rfl ?_; rintro L u w1 bA hL hW hD hU ⟨hS, hH⟩ hin hout; exact opw_toStr _ _ 5 _ Try.underlying22 Try.underlying5 Try.underlying9 rfl _ b.length b ((hin 7 23 rfl).trans (hS 7 _ rfl (hW.of 7 (by decide)))) (HS.out _ hH.right) ⟨_, rfl, hS.step 8 _ (.inr rfl), hH⟩
          · refine RegStep3.plain rfl ?_; rintro L u w1 bA hL hW hD hU ⟨hS, hH⟩ hin hout; exact opw_cmpStr .neq _ _ _ _ S b false rfl ((hin 6 22 rfl).trans (hS 6 _ rfl (hW.of 6 (by decide)))) ((hin 8 24 rfl).trans (hS 8 _ rfl (hW.of 8 (by decide)))) HNE.out ⟨_, rfl, hS.step 9 _ (.inr rfl), hH⟩
          · refine RegStep3.plain rfl ?_; rintro L u w1 bA hL hW hD hU ⟨hS, hH⟩ hin hout; exact opw_move _ _ (.inr rfl) ((hin 9 25 rfl).trans (hS 9 _ rfl (hW.of 9 (by decide)))) ⟨_, rfl, hS.step 10 _ (.inr rfl), hH⟩
        intro L u w2 hL ⟨hS, hH⟩
        have E10 := hS 10 _ rfl (hL 10 (by decide))
        simp only [frame_cons, frame_nil, E10, Act.put, List.setIfInBounds_toArray, List.set_cons_zero, List.set_cons_succ]
        have H2 := Lib.hid hH
        clear hL hS hH E10
        go_wp2_with (first
          | (go_at_call 21; refine (HCL.out _ _ H2.out).mono ?_; rintro e w3 ⟨A3, c3, rfl, h3⟩; have H3 := Lib.hid h3; clear h3)
          | ((first | (with_reducible refine wpList_plain rfl ?_) | ((with_reducible refine wpList_yes _ _ rfl ?_ ?_); (focus rfl))); intro _ hk; (first
            | (refine opw_indexSl 22 5 _ _ rfl Try.underlying22 sizeB bb off b.length c0 0 rfl rfl h0 (hk _ _ ?_))
            | (refine opw_load1 5 _ rfl _ Try.underlying5 rfl ⟨bb, off + 0, none⟩ (.int .u8 (x.toNat : Int)) rfl (HC0.out _ H2.out.right) (hk _ _ ?_))
            | (refine opw_cmp .neq _ _ _ _ .u8 (x.toNat : Int) (k.toNat : Int) false rfl rfl rfl HK.out (hk _ _ ?_))
            | (refine opw_slL 22 5 _ _ rfl Try.underlying22 sizeB (subA 1 (some ⟨bb, off, none⟩) 0 c0) m c0 rfl hmc .i64 1 rfl hm1 (hk _ _ ?_))); simp only [Act.put, List.setIfInBounds_toArray, List.set_cons_zero, List.set_cons_succ]))
        go_ret2
        rw [HU.out]
        exact ⟨A3, c3, rfl, H3.out.drop2⟩
      ·
        have hu : unsealR k b = ([], 21) := by rw [HRU.out, if_neg (by rw [heq]; decide), if_neg hk]
        have HU := Lib.hid hu
        have HNE : Hid (cmpS .neq S b = some false) := Lib.hid (by simp only [cmpS]; rw [heq]; rfl)
        clear hu
        have HK : Hid (cmpZ .neq (x.toNat : Int) (k.toNat : Int) = some true) := Lib.hid (by simp only [cmpZ]; simp; intro e; exact hk (UInt8.toNat_inj.1 (by omega)))
        clear hk
        clear heq
        go_enter Try.func10, Try.ntmps10
        go_wp2_with (first
          | (fail)
          | ((first | (with_reducible refine wpList_plain rfl ?_) | ((with_reducible refine wpList_yes _ _ rfl ?_ ?_); (focus rfl))); intro _ hk; (first
            | (refine opw_len _ _ _ Try.underlying22 (some ⟨bb, off, none⟩) b.length c0 rfl rfl (hk _ _ ?_))
            | (refine opw_cmp .lss _ _ _ _ .i64 (b.length : Int) 5 false rfl rfl rfl HZ.out (hk _ _ ?_))
            | (refine opw_bin .sub _ _ _ _ .i64 (b.length : Int) 4 (m : Int) rfl rfl rfl HB1.out (hk _ _ ?_))
            | (refine opw_slH 22 5 _ _ rfl Try.underlying22 sizeB (some ⟨bb, off, none⟩) b.length c0 rfl hbc .i64 m rfl hmb (hk _ _ ?_))); simp only [Act.put, List.setIfInBounds_toArray, List.set_cons_zero, List.set_cons_succ]))
        refine wp_region_inv3 (fun L u w' => Slots (fun kk => ([some (.slice (some ⟨bb, off, none⟩) b.length c0), some (.pointer (some ⟨bb, off + 0, none⟩)), some (.int .u8 ((x).toNat : Int)), some (.slice (subA 1 (some ⟨bb, off, none⟩) 0 c0) m c0), some (.slice (subA 1 (subA 1 (some ⟨bb, off, none⟩) 0 c0) 1 c0) (m - 1) (c0 - 1)), none, some (.string (str S)), some (.slice (some ⟨bb, off, none⟩) b.length c0), some (.string (str b)), some (.bool false), some (.bool false)] : List (Option Value)).getD kk none) L u ∧ Has st (sep (vres (L 5) (u 5) 5 1 S.length (bcells S)) R) w') (by kernel_rfl) (by decide +kernel) (by decide +kernel) (by kernel_rfl) (by kernel_rfl) (fun u => ⟨Slots.start _ u, HH.out.drew.vres_no⟩) ?_ ?_
        · refine ⟨?_, ?_, ?_, ?_, ?_, ?_, ?_, ?_, ?_, ?_, ?_, trivial⟩
          · refine RegStep3.plain rfl ?_; rintro L u w1 bA hL hW hD hU ⟨hS, hH⟩ hin hout; exact opw_move _ _ (.inl rfl) ((hout 1 (by kernel_rfl)).trans (by kernel_rfl)) ⟨_, rfl, hS.step 0 _ (.inr rfl), hH⟩
          · refine RegStep3.plain rfl ?_; rintro L u w1 bA hL hW hD hU ⟨hS, hH⟩ hin hout; exact opw_indexSl _ _ _ _ rfl Try.underlying22 sizeB (bb) (off) (b.length) (c0) (0) ((hin 0 16 rfl).trans (hS 0 _ rfl (hW.of 0 (by decide)))) _ rfl h0 ⟨_, rfl, hS.step 1 _ (.inr rfl), hH⟩
          · refine RegStep3.plain rfl ?_; rintro L u w1 bA hL hW hD hU ⟨hS, hH⟩ hin hout; exact opw_load1 _ _ rfl _ Try.underlying5 rfl _ _ ((hin 1 17 rfl).trans (hS 1 _ rfl (hW.of 1 (by decide)))) (HC0.out _ hH.right) ⟨_, rfl, hS.step 2 _ (.inr rfl), hH⟩
          · refine RegStep3.plain rfl ?_; rintro L u w1 bA hL hW hD hU ⟨hS, hH⟩ hin hout; exact opw_move _ _ (.inl rfl) ((hout 6 (by kernel_rfl)).trans (by kernel_rfl)) ⟨_, rfl, hS.step 3 _ (.inr rfl), hH⟩
          · refine RegStep3.plain rfl ?_; rintro L u w1 bA hL hW hD hU ⟨hS, hH⟩ hin hout; exact opw_slL 22 5 _ _ rfl Try.underlying22 sizeB (subA 1 (some ⟨bb, off, none⟩) 0 c0) m c0 ((hin 3 19 rfl).trans (hS 3 _ rfl (hW.of 3 (by decide)))) hmc .i64 1 rfl hm1 ⟨_, rfl, hS.step 4 _ (.inr rfl), hH⟩
          · refine RegStep3.plain rfl ?_; rintro L u w1 bA hL hW hD hU ⟨hS, hH⟩ hin hout; exact opw_call_ret _ _ _ [(.int .u8 ((x).toNat : Int)), (.slice (subA 1 (subA 1 (some ⟨bb, off, none⟩) 0 c0) 1 c0) (m - 1) (c0 - 1))] rfl (by kernel_rfl) (list2 ((hin 2 18 rfl).trans (hS 2 _ rfl (hW.of 2 (by decide)))) (list2 ((hin 4 20 rfl).trans (hS 4 _ rfl (hW.of 4 (by decide)))) rfl)) (HSE.out _ (hH.vres_new hL)) (fun e w2 he => by obtain ⟨A, c, rfl, h2⟩ := he; exact ⟨_, rfl, _, rfl, hS.step 5 _ (.inl rfl), (show Has st (sep (vres true (.slice A S.length c) 5 1 S.length (bcells S)) R) w2 from (h2.vres_mk).cast (by ac_rfl))⟩)
          · refine RegStep3.plain rfl ?_; rintro L u w1 bA hL hW hD hU ⟨hS, hH⟩ hin hout; exact opw_toStr _ _ 5 _ Try.underlying22 Try.underlying5 Try.underlying9 rfl _ S.length S (hin 5 21 rfl) (hH.vres_rd (hW.of 5 (by decide))) ⟨_, rfl, hS.step 6 _ (.inr rfl), hH⟩
          · refine RegStep3.plain rfl ?_; rintro L u w1 bA hL hW hD hU ⟨hS, hH⟩ hin hout; exact opw_move _ _ (.inl rfl) ((hout 1 (by kernel_rfl)).trans (by kernel_rfl)) ⟨_, rfl, hS.step 7 _ (.inr rfl), hH⟩
          · refine RegStep3.plain rfl ?_; rintro L u w1 bA hL hW hD hU ⟨hS, hH⟩ hin hout; exact opw_toStr _ _ 5 _ Try.underlying22 Try.underlying5 Try.underlying9 rfl _ b.length b ((hin 7 23 rfl).trans (hS 7 _ rfl (hW.of 7 (by decide)))) (HS.out _ hH.right) ⟨_, rfl, hS.step 8 _ (.inr rfl), hH⟩
          · refine RegStep3.plain rfl ?_; rintro L u w1 bA hL hW hD hU ⟨hS, hH⟩ hin hout; exact opw_cmpStr .neq _ _ _ _ S b false rfl ((hin 6 22 rfl).trans (hS 6 _ rfl (hW.of 6 (by decide)))) ((hin 8 24 rfl).trans (hS 8 _ rfl (hW.of 8 (by decide)))) HNE.out ⟨_, rfl, hS.step 9 _ (.inr rfl), hH⟩
          · refine RegStep3.plain rfl ?_; rintro L u w1 bA hL hW hD hU ⟨hS, hH⟩ hin hout; exact opw_move _ _ (.inr rfl) ((hin 9 25 rfl).trans (hS 9 _ rfl (hW.of 9 (by decide)))) ⟨_, rfl, hS.step 10 _ (.inr rfl), hH⟩
        intro L u w2 hL ⟨hS, hH⟩
        have E10 := hS 10 _ rfl (hL 10 (by decide))
        simp only [frame_cons, frame_nil, E10, Act.put, List.setIfInBounds_toArray, List.set_cons_zero, List.set_cons_succ]
        have H2 := Lib.hid hH
        clear hL hS hH E10
        go_wp2_with (first
          | (fail)
          | ((first | (with_reducible refine wpList_plain rfl ?_) | ((with_reducible refine wpList_yes _ _ rfl ?_ ?_); (focus rfl))); intro _ hk; (first
            | (refine opw_indexSl 22 5 _ _ rfl Try.underlying22 sizeB bb off b.length c0 0 rfl rfl h0 (hk _ _ ?_))
            | (refine opw_load1 5 _ rfl _ Try.underlying5 rfl ⟨bb, off + 0, none⟩ (.int .u8 (x.toNat : Int)) rfl (HC0.out _ H2.out.right) (hk _ _ ?_))
            | (refine opw_cmp .neq _ _ _ _ .u8 (x.toNat : Int) (k.toNat : Int) true rfl rfl rfl HK.out (hk _ _ ?_))); simp only [Act.put, List.setIfInBounds_toArray, List.set_cons_zero, List.set_cons_succ]))
        go_ret2
        rw [HU.out]
        exact ⟨none, 0, rfl, H2.out.right.row_nil 5 1⟩
end Go.Proofs.Ytbiacehmfbopfaa
