/-
  coldstoreref03: letter, digit, Text.
-/
import Derived.Test.YtijcjjinafpomaaDoorShaText
namespace Go.Proofs.YtijcjjinafpomaaDoor
open Go.RowKit Go.Sl Go.Sha
set_option linter.unusedVariables false
set_option linter.unusedSimpArgs false
set_option maxHeartbeats 400000 in
theorem letter_any (n : Nat) (hn : n < 16) (w : World) : Calls Tryd.prog 24 #[.int .u8 (n : Int)] w fun e w' => e = .returned (.int .u8 ((hexd n).toNat : Int)) ∧ w = w' := by
  have hb0 : (0 : Int) ≤ (n : Int) := by omega
  have hb1 : (n : Int) < 16 := by omega
  by_cases h : n < 10
  · have e : ((hexd n).toNat : Int) = 48 + (n : Int) := by unfold hexd; rw [if_pos h, UInt8.toNat_ofNat']; omega
    have HE := Lib.hid e
    clear e
    go_enter Tryd.func24, Tryd.ntmps24
    go_wp2
    go_ret
    refine ⟨?_, rfl⟩
    rw [HE.out]
    simp [IntKind.wrap, IntKind.signed, IntKind.bits]
    try omega
  · have e : ((hexd n).toNat : Int) = 87 + (n : Int) := by unfold hexd; rw [if_neg h, UInt8.toNat_ofNat']; omega
    have HE := Lib.hid e
    clear e
    go_enter Tryd.func24, Tryd.ntmps24
    go_wp2
    go_ret
    refine ⟨?_, rfl⟩
    rw [HE.out]
    simp [IntKind.wrap, IntKind.signed, IntKind.bits]
    try omega
def digitN (c : Nat) : Nat := if 48 ≤ c ∧ c ≤ 57 then c - 48 else if 97 ≤ c ∧ c ≤ 102 then c - 87 else 16
set_option maxRecDepth 100000 in
set_option maxHeartbeats 1000000 in
theorem digit_any (c : UInt8) (w : World) : Calls Tryd.prog 20 #[.int .u8 (c.toNat : Int)] w fun e w' => e = .returned (.int .u8 (digitN c.toNat : Int)) ∧ w = w' := by
  obtain ⟨n, hn⟩ : ∃ n, n = c.toNat := ⟨_, rfl⟩
  have hlt := c.toNat_lt
  rw [← hn] at hlt ⊢
  clear hn
  have hb0 : (0 : Int) ≤ (n : Int) := by omega
  have hb1 : (n : Int) < 256 := by omega
  obtain ⟨d, hd⟩ : ∃ d, d = digitN n := ⟨_, rfl⟩
  rw [← hd]
  unfold digitN at hd
  by_cases h1 : 48 ≤ n
  · by_cases h2 : n ≤ 57
    · rw [if_pos ⟨h1, h2⟩] at hd
      have HD := Lib.hid hd
      clear hd
      go_enter Tryd.func20, Tryd.ntmps20
      go_wp2
      go_ret
      exact ⟨by rw [HD.out]; simp; omega, rfl⟩
    · rw [if_neg (by omega)] at hd
      by_cases h3 : 97 ≤ n
      · by_cases h4 : n ≤ 102
        · rw [if_pos ⟨h3, h4⟩] at hd
          have HD := Lib.hid hd
          clear hd
          go_enter Tryd.func20, Tryd.ntmps20
          go_wp2
          go_ret
          exact ⟨by rw [HD.out]; simp; omega, rfl⟩
        · rw [if_neg (by omega)] at hd
          subst hd
          go_enter Tryd.func20, Tryd.ntmps20
          go_wp2
          go_ret
          exact ⟨rfl, rfl⟩
      · rw [if_neg (by omega)] at hd
        subst hd
        go_enter Tryd.func20, Tryd.ntmps20
        go_wp2
        go_ret
        exact ⟨rfl, rfl⟩
  · rw [if_neg (by omega), if_neg (by omega)] at hd
    subst hd
    go_enter Tryd.func20, Tryd.ntmps20
    go_wp2
    go_ret
    exact ⟨rfl, rfl⟩
set_option maxRecDepth 100000 in
set_option maxHeartbeats 2000000 in
theorem reftext_any (st : World) (R : HProp) (x : List UInt8) (hx : x.length = 32) (w : World) (h : Has st R w) :
    Calls Tryd.prog 15 #[.agg (bcells x).toArray] w fun e w' => e = .returned (.string ⟨(hex x).toArray⟩) ∧ Has st R w' := by
  have HA := Lib.hid hx
  have HH := Lib.hid h
  clear hx h
  go_enter Tryd.func15, Tryd.ntmps15
  go_wp2_with ((with_reducible refine wpList_plain rfl ?_); intro _ hk; (first
    | (refine opw_box 24 (.agg (bcells x).toArray) (bcells x).toArray rfl rfl rfl HH.out (fun p w1 hp h1 => hk _ _ ?_); clear hp; have H1 := Lib.hid h1; clear h1)); simp only [Act.put, List.setIfInBounds_toArray, List.set_cons_zero, List.set_cons_succ])
  go_loopw [4, 3] (TextI st (sep (blk p (.cells (bcells x).toArray 24 (0, 0))) R) x) (fun v _ _ => 32 - (intOf v).toNat)
  case atStart => exact ⟨0, _, _, Nat.zero_le _, rfl, rfl, H1.out.row_empty 5 1⟩
  case round =>
    obtain ⟨i, A, c, hi, rfl, rfl, h3⟩ := hrel
    clear H1
    by_cases hlt : i < 32
    · obtain ⟨n, hn⟩ : ∃ n, n = 2 * i := ⟨_, rfl⟩
      rw [← hn] at h3 ⊢
      have hnb : n ≤ 64 := by omega
      obtain ⟨X, hX⟩ : ∃ X, X = x.getD i 0 := ⟨_, rfl⟩
      have hXb := X.toNat_lt
      obtain ⟨d1, hd1⟩ : ∃ d, d = X.toNat / 16 := ⟨_, rfl⟩
      obtain ⟨d2, hd2⟩ : ∃ d, d = X.toNat % 16 := ⟨_, rfl⟩
      have hd1b : d1 < 16 := by omega
      have hd2b : d2 < 16 := by omega
      have b1 : binZ .quo .u8 (X.toNat : Int) 16 = some (d1 : Int) := by
        have e : (X.toNat : Int).tdiv (16 : Int) = (d1 : Int) := by rw [Int.tdiv_eq_ediv_of_nonneg (by omega)]; omega
        unfold binZ
        rw [if_neg (by decide), e]
        simp [IntKind.wrap, IntKind.signed, IntKind.bits]
        omega
      have b2 : binZ .rem .u8 (X.toNat : Int) 16 = some (d2 : Int) := by rw [hd2]; exact bin_rem X.toNat 16 (by decide)
      have HC : Hid (∀ w', Has st (sep (row 5 1 (.slice A n c) n (bcells (hex (x.take i)))) (sep (blk p (.cells (bcells x).toArray 24 (0, 0))) R)) w' → w'.cell? ⟨p, 0 + i, none⟩ = some (.int .u8 (X.toNat : Int))) := Lib.hid fun w' h' => by
        rw [hX]; exact getD_blk h'.second i (by rw [HA.out]; exact hlt)
      have hnext : bcells (hex (x.take i)) ++ [Value.int .u8 ((hexd d1).toNat : Int), Value.int .u8 ((hexd d2).toNat : Int)] = bcells (hex (x.take (i + 1))) := by
        rw [take_getD x i (by rw [HA.out]; exact hlt), hex_snoc, hd1, hd2, hX]
        exact bcells_append _ [_, _]
      have HN := Lib.hid hn
      have HB1 := Lib.hid b1
      have HB2 := Lib.hid b2
      have HNX := Lib.hid hnext
      have H3 := Lib.hid h3
      clear hn hX hd1 hd2 b1 b2 hnext h3
      go_wp2_with (fail)
      refine wp_region_inv2 (fun L u w' => Slots (fun kk => ([some (.slice A n c), some (.int .i64 ((i : Nat) : Int)), some (.pointer (some ⟨p, 0 + i, none⟩)), some (.int .u8 ((X).toNat : Int)), some (.int .u8 (d1 : Int)), some (.int .u8 ((hexd d1).toNat : Int)), some (.int .i64 ((i : Nat) : Int)), some (.pointer (some ⟨p, 0 + i, none⟩)), some (.int .u8 ((X).toNat : Int)), some (.int .u8 (d2 : Int)), some (.int .u8 ((hexd d2).toNat : Int)), none, none, none] : List (Option Value)).getD kk none) L u ∧ TailN st 5 (.slice A n c) n (bcells (hex (x.take i))) [.int .u8 ((hexd d1).toNat : Int), .int .u8 ((hexd d2).toNat : Int)] (sep (blk p (.cells (bcells x).toArray 24 (0, 0))) R) 11 12 13 L u w') (by kernel_rfl) (by decide +kernel) (by decide +kernel) (by kernel_rfl) (fun u => ⟨Slots.start _ u, TailN.start H3.out.drew u⟩) ?_ ?_
      · refine ⟨?_, ?_, ?_, ?_, ?_, ?_, ?_, ?_, ?_, ?_, ?_, ?_, ?_, ?_, trivial⟩
        all_goals (refine RegStep2.plain rfl ?_; rintro L u w1 b hL hW hD hU ⟨hS, hH⟩ hin hout)
        · exact opw_move _ _ (.inl rfl) ((hin 13 3 rfl).trans ((hU 13 _ _ rfl rfl (hD.nots 14 13 0 hL (by decide +kernel))).trans (by kernel_rfl))) ⟨_, rfl, hS.step 0 _ (.inr rfl), hH.pure 0 _ (by decide)⟩
        · exact opw_move _ _ (.inl rfl) ((hout 4 (by kernel_rfl)).trans (by kernel_rfl)) ⟨_, rfl, hS.step 1 _ (.inr rfl), hH.pure 1 _ (by decide)⟩
        · exact opw_indexArr _ _ _ _ _ rfl Tryd.underlying24 infosz (p) (0) (i) ((hout 1 (by kernel_rfl)).trans (by kernel_rfl)) _ ((hin 1 11 rfl).trans (hS 1 _ rfl (hW.of 1 (by decide)))) hlt ⟨_, rfl, hS.step 2 _ (.inr rfl), hH.pure 2 _ (by decide)⟩
        · exact opw_load1 _ _ rfl _ Tryd.underlying5 rfl _ _ ((hin 2 12 rfl).trans (hS 2 _ rfl (hW.of 2 (by decide)))) (HC.out _ (hH.at hD 14 3 hL (by decide +kernel) (by decide +kernel) (by decide +kernel))) ⟨_, rfl, hS.step 3 _ (.inr rfl), hH.pure 3 _ (by decide)⟩
        · exact opw_bin .quo _ _ _ _ .u8 _ _ _ rfl ((hin 3 13 rfl).trans (hS 3 _ rfl (hW.of 3 (by decide)))) rfl HB1.out ⟨_, rfl, hS.step 4 _ (.inr rfl), hH.pure 4 _ (by decide)⟩
        · exact opw_call_ret _ _ _ [.int .u8 (d1 : Int)] rfl (by kernel_rfl) (list2 ((hin 4 14 rfl).trans (hS 4 _ rfl (hW.of 4 (by decide)))) rfl) (letter_any d1 hd1b w1) (fun e w2 he => by obtain ⟨rfl, rfl⟩ := he; exact ⟨_, rfl, _, rfl, hS.step 5 _ (.inr rfl), hH.pure 5 _ (by decide)⟩)
        · exact opw_move _ _ (.inl rfl) ((hout 4 (by kernel_rfl)).trans (by kernel_rfl)) ⟨_, rfl, hS.step 6 _ (.inr rfl), hH.pure 6 _ (by decide)⟩
        · exact opw_indexArr _ _ _ _ _ rfl Tryd.underlying24 infosz (p) (0) (i) ((hout 1 (by kernel_rfl)).trans (by kernel_rfl)) _ ((hin 6 16 rfl).trans (hS 6 _ rfl (hW.of 6 (by decide)))) hlt ⟨_, rfl, hS.step 7 _ (.inr rfl), hH.pure 7 _ (by decide)⟩
        · exact opw_load1 _ _ rfl _ Tryd.underlying5 rfl _ _ ((hin 7 17 rfl).trans (hS 7 _ rfl (hW.of 7 (by decide)))) (HC.out _ (hH.at hD 14 8 hL (by decide +kernel) (by decide +kernel) (by decide +kernel))) ⟨_, rfl, hS.step 8 _ (.inr rfl), hH.pure 8 _ (by decide)⟩
        · exact opw_bin .rem _ _ _ _ .u8 _ _ _ rfl ((hin 8 18 rfl).trans (hS 8 _ rfl (hW.of 8 (by decide)))) rfl HB2.out ⟨_, rfl, hS.step 9 _ (.inr rfl), hH.pure 9 _ (by decide)⟩
        · exact opw_call_ret _ _ _ [.int .u8 (d2 : Int)] rfl (by kernel_rfl) (list2 ((hin 9 19 rfl).trans (hS 9 _ rfl (hW.of 9 (by decide)))) rfl) (letter_any d2 hd2b w1) (fun e w2 he => by obtain ⟨rfl, rfl⟩ := he; exact ⟨_, rfl, _, rfl, hS.step 10 _ (.inr rfl), hH.pure 10 _ (by decide)⟩)
        · exact hH.lit hS rfl hL (hD.nots 1 12 11 hL (by decide +kernel)) (hD.nots 2 13 11 hL (by decide +kernel)) (by decide) _ 2 _ [(0, .int .u8 ((hexd d1).toNat : Int)), (1, .int .u8 ((hexd d2).toNat : Int))] rfl (pair2 ((hin 5 15 rfl).trans (hS 5 _ rfl (hW.of 5 (by decide)))) (pair2 ((hin 10 20 rfl).trans (hS 10 _ rfl (hW.of 10 (by decide)))) rfl)) rfl (by kernel_rfl)
        · exact hH.app hS rfl (hW.of 11 (by decide)) hL (hD.nots 1 13 12 hL (by decide +kernel)) (by decide) _ _ _ _ _ rfl Tryd.underlying22 infoB rfl ((hin 0 10 rfl).trans (hS 0 _ rfl (hW.of 0 (by decide)))) (hin 11 21 rfl) (by intro y hy; simp at hy; rcases hy with rfl | rfl <;> rfl) (by show n + 2 ≤ _; unfold maxLen; omega) (by show (n + 2) * 1 ≤ _; omega)
        · exact hH.asg hS rfl (hW.of 12 (by decide)) hL _ rfl (hin 12 22 rfl)
      intro L u w3 hL ⟨hS, hH⟩
      obtain ⟨A', c', e1, h4⟩ := hH.done (hL 13 (by decide))
      simp only [frame_cons, frame_nil, e1, Act.put, List.setIfInBounds_toArray, List.set_cons_zero, List.set_cons_succ]
      have H4 := Lib.hid h4
      clear hL hS hH e1 h4 H3
      go_wp2
      have hn := HN.out
      go_roundw
      case rel =>
        have hrel2 : TextI st (sep (blk p (.cells (bcells x).toArray 24 (0, 0))) R) x (.int .i64 ((i : Int) + 1)) (.slice A' (n + 2) c') w3 := by
          refine ⟨i + 1, A', c', by omega, by go_num, by rw [show 2 * (i + 1) = n + 2 by omega], ?_⟩
          rw [show 2 * (i + 1) = n + 2 by omega]
          exact H4.out.cast (by rw [HNX.out]; rfl)
        first | exact hrel2 | ((repeat apply Exists.intro); exact ⟨hrel2, rfl⟩)
      case measure => simp [intOf]; omega
    · obtain rfl : i = 32 := by omega
      have hr : Rd 1 wr (.slice A 64 c) 64 (bcells (hex x)) := by
        have := sees_row st _ 1 _ _ _ _ wr h3
        rw [List.take_of_length_le (by rw [HA.out]; exact Nat.le_refl _)] at this
        exact this
      have HR := Lib.hid hr
      have H3 := Lib.hid h3
      clear hr h3
      go_wp2_with (refine wp_string rfl 22 9 5 _ rfl Tryd.underlying22 Tryd.underlying5 Tryd.underlying9 (v := .slice A 64 c) (n := 64) (l := hex x) rfl HR.out ?_)
      go_ret
      exact ⟨rfl, H3.out.right.right⟩
end Go.Proofs.YtijcjjinafpomaaDoor
