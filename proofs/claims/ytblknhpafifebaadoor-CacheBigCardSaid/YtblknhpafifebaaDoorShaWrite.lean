/-
  (*sha.Hash).Write.
-/
import Derived.Test.YtblknhpafifebaaDoorShaHash
namespace Go.Proofs.YtblknhpafifebaaDoor
open Go.RowKit Go.Sl Go.Sha
set_option linter.unusedVariables false
set_option linter.unusedSimpArgs false

theorem infosz : (Tryd.prog.info? 5).map (·.size) = some 1 := by kernel_rfl
theorem infob : (Tryd.prog.info? 4).map (·.size) = some 1 := by kernel_rfl
theorem infosl : (Tryd.prog.info? 30).map (·.size) = some 1 := by kernel_rfl
theorem infoi : (Tryd.prog.info? 3).map (·.size) = some 1 := by kernel_rfl

/-- the loop over whole blocks -/
def WrAt (st : World) (R : HProp) (q : Nat) (S : S8) (X : List UInt8) (V : Value) (v5 : Value) (wr : World) : Prop :=
  ∃ j A c, v5 = .slice A (X.length - 64 * j) c ∧ 64 * j ≤ X.length ∧ (∀ w', Rd 1 w' V X.length (bcells X) → Rd 1 w' v5 (X.length - 64 * j) (bcells (X.drop (64 * j)))) ∧
    Has st (sep (wblk q 84 (run S X j).list) (sep (row 5 1 V X.length (bcells X)) R)) wr
def lenOf : Value → Nat
  | .slice _ n _ => n
  | _ => 0

set_option maxRecDepth 100000 in
set_option maxHeartbeats 4000000 in
theorem write_any (st : World) (R : HProp) (p : Nat) (m b : List UInt8) (v : Value) (hk : Keys st R) (hst : Start st R) (w : World) (h : Has st (sep (hash p m) R) w) (hs : Sees st R 1 v b.length (bcells b)) (hmb : m.length + b.length ≤ 140737488355000) :
    Calls Tryd.prog 36 #[.pointer (some ⟨p, 0, none⟩), v] w fun e w' => e = .returned (.tuple #[]) ∧ Has st (sep (hash p (m ++ b)) R) w' := by
  obtain ⟨Ab, cb, rfl⟩ := hs.form h.right
  have HS := Lib.hid hs
  have HKeys := Lib.hid hk
  have HST := Lib.hid hst
  clear hs hk hst
  have hll := left_length m
  have HLL : (left m).length < 64 := by omega
  clear hll
  have hXl : (left m ++ b).length = (left m).length + b.length := List.length_append
  obtain ⟨X, hX⟩ : ∃ X, X = left m ++ b := ⟨_, rfl⟩
  rw [← hX] at hXl
  have HX := Lib.hid hX
  have HXL := Lib.hid hXl
  clear hX hXl
  go_enter Tryd.func36, Tryd.ntmps36
  go_wp2_with (first
    | (go_at_call 42; refine (now_any st R p m HST.out _ h).mono ?_; rintro e w1 ⟨rfl, h1⟩)
    | (refine wpl_storeRow rfl 84 _ _ rfl w1.heap.size (wcells (state m).list).toArray rfl rfl 84 (wcells (List.replicate 8 0)).toArray info8 rfl (wcells_all _) (h1.alloc _) ?_; intro w2 h2; obtain ⟨x, hx, h3⟩ := openHash h2.second; obtain ⟨Al, cl, hv⟩ := (sees_seen st 1 x.v (left m).length (bcells (left m)) _).form h3.right; have c9 : w2.cell? ⟨p, 9, none⟩ = some (.slice Al (left m).length cl) := (h3.cell 9).trans (by rw [← hv]; rfl); have HV := Lib.hid hv; have HHX := Lib.hid hx; have H3 := Lib.hid h3; clear hv hx h2 h3)
    | (go_at_call 43; refine (bclone_any st _ (left m) _ _ H3.out (by rw [← HV.out]; exact (sees_seen st 1 x.v (left m).length (bcells (left m)) _).right) (by omega)).mono ?_; rintro e w4 ⟨A4, c4, rfl, h4⟩; have H4 := Lib.hid h4; clear h4 c9)
    | (refine wp_append (v := .slice A4 (left m).length c4) rfl _ _ 30 5 1 1 (.int .u8 0) rfl Tryd.underlying30 infoB rfl (by decide) rfl rfl H4.out (HS.out _ H4.out.right.right.right.right) (bcells_one b) (by unfold maxLen; omega) (by omega) ?_; intro A6 c6 w6 h6 hnil; clear hnil; rw [bcells_append, ← HX.out, ← HXL.out] at h6; have H6 := Lib.hid h6; clear h6))
  generalize hq : w1.heap.size = q at H3 H4 H6 ⊢
  rw [← HXL.out]
  clear hq
  go_loopw [5] (WrAt st (sep (hashBlk p m x) (sep (seenP 1 x.v (left m).length (bcells (left m))) R)) q (state m) X (.slice A6 X.length c6)) (fun v _ => lenOf v)
  case atStart => exact ⟨0, A6, c6, rfl, Nat.zero_le _, fun w' h => h, H6.out.cast (by simp only [run, wblk]; ac_rfl)⟩
  case round =>
    obtain ⟨j, A, c, rfl, hj, hR, h7⟩ := hrel
    have HR := Lib.hid hR
    have hlen : (X.drop (64 * j)).length = X.length - 64 * j := List.length_drop
    have hXL := HXL.out
    obtain ⟨n, hn⟩ : ∃ n, n = X.length - 64 * j := ⟨_, rfl⟩
    obtain ⟨S5, hS5⟩ : ∃ S5, S5 = run (state m) X j := ⟨_, rfl⟩
    rw [← hn] at hlen ⊢
    rw [← hS5] at h7
    have hnb : n ≤ 140737488355100 := by omega
    have HN := Lib.hid hn
    have HLen := Lib.hid hlen
    have HS5 := Lib.hid hS5
    clear hR hn hlen hS5 hXL H3 H4 H6
    by_cases h64 : 64 ≤ n
    · obtain ⟨M, hM⟩ : ∃ M, M = mix S5 (X.drop (64 * j)) := ⟨_, rfl⟩
      have HM : Hid (∀ w', Has st (sep (row 5 1 (.slice A6 X.length c6) X.length (bcells X)) (sep (wblk q 84 S5.list) (sep (hashBlk p m x) (sep (seenP 1 x.v (left m).length (bcells (left m))) R)))) w' →
          Calls Tryd.prog 44 #[.agg (wcells S5.list).toArray, .slice A n c] w' fun e w'' => e = .returned (.agg (wcells M.list).toArray) ∧ Has st (sep (row 5 1 (.slice A6 X.length c6) X.length (bcells X)) (sep (wblk q 84 S5.list) (sep (hashBlk p m x) (sep (seenP 1 x.v (left m).length (bcells (left m))) R)))) w'') := Lib.hid fun w' h' => by
        have hsee : Sees st (sep (row 5 1 (.slice A6 X.length c6) X.length (bcells X)) (sep (wblk q 84 S5.list) (sep (hashBlk p m x) (sep (seenP 1 x.v (left m).length (bcells (left m))) R)))) 1 (.slice A n c) n (bcells (X.drop (64 * j))) := fun w2 h2 => by
          have := HR.out w2 (sees_row st _ 1 _ _ _ _ w2 h2)
          rwa [← HN.out] at this
        have hl := HLen.out
        have := mix_any st _ S5 (X.drop (64 * j)) A c (by rw [hl]; exact hsee) (by omega) (fun w2 h2 => HKeys.out w2 h2.right.right.right.right) w' h'
        rw [hl, ← hM] at this
        exact this
      have HMM := Lib.hid hM
      clear hM
      have H7 := Lib.hid h7
      have hcap := (HR.out wr (sees_row st _ 1 _ _ _ _ wr h7.right)).le_cap
      rw [← HN.out] at hcap
      clear h7
      go_wp2_with (first
        | (refine wpl_loadRow rfl 84 _ rfl q rfl 84 (wcells S5.list).toArray _ _ Tryd.underlying84 rfl info8 H7.out ?_)
        | (go_at_call 44; refine (HM.out _ H7.out.second).mono ?_; rintro e w8 ⟨rfl, h8⟩; have H8 := Lib.hid h8.second; clear h8)
        | (refine wpl_storeRow rfl 84 _ _ rfl q (wcells M.list).toArray rfl rfl 84 (wcells S5.list).toArray info8 rfl (wcells_all _) H8.out ?_; intro w9 h9; have H9 := Lib.hid h9; clear h9)
        | (refine wp_slice rfl 30 5 1 _ _ _ _ rfl Tryd.underlying30 infosz (by decide) (A := A) (n := n) (cap := c) (xs := bcells (X.drop (64 * j))) rfl (by rw [HN.out]; exact HR.out _ (sees_row st _ 1 _ _ _ _ _ H9.out.second)) 64 n c (SlB.at .i64 64 0) (SlB.out n) (SlB.out c) (fun h => absurd rfl h) h64 (Nat.le_refl _) hcap.1 (Nat.le_refl _) ?_; intro A' c' hR2; have HR2 := Lib.hid hR2; clear hR2))
      have hn := HN.out
      have e1 : X.length - 64 * (j + 1) = n - 64 := by omega
      have hj2 : 64 * (j + 1) ≤ X.length := by omega
      go_roundw
      case rel =>
        refine ⟨j + 1, A', c', by rw [e1], hj2, fun w' hw => ?_, ?_⟩
        · have := HR2.out w' (by have := HR.out w' hw; rwa [← hn] at this)
          rw [e1]
          simp only [Nat.mul_one] at this
          rw [bcells_drop, List.drop_drop, bcells_take, List.take_of_length_le (by rw [List.length_drop]; omega)] at this
          exact this
        · have := H9.out
          rw [HMM.out, HS5.out] at this
          exact this.cast (by simp only [run, wblk] <;> ac_rfl)
      case measure => (simp [lenOf] <;> omega)
    · have hn := HN.out
      have hj3 : j = X.length / 64 := by omega
      have HS6 : Hid (S5 = state (m ++ b)) := Lib.hid (by rw [HS5.out, state_append, ← HX.out, hj3])
      have HL6 : Hid (X.drop (64 * j) = left (m ++ b)) := Lib.hid (by rw [left_append, ← HX.out, hj3])
      clear hn hj3
      obtain ⟨A5, hA5⟩ : ∃ A5, A5 = A := ⟨_, rfl⟩
      obtain ⟨n5, hn5⟩ : ∃ n5, n5 = n := ⟨_, rfl⟩
      obtain ⟨c5, hc5⟩ : ∃ c5, c5 = c := ⟨_, rfl⟩
      subst hA5 hn5 hc5
      have H5 := Lib.hid (h7.cast (by simp only [wblk]; ac_rfl) : Has st (sep (hashBlk p m x) (sep (wblk q 84 S5.list) (sep (row 5 1 (.slice A6 X.length c6) X.length (bcells X)) (sep (seenP 1 x.v (left m).length (bcells (left m))) R)))) wr)
      clear h7
      go_wp2_with (fail)
      refine wp_region_inv (fun L u w' => Slots (fun kk => ([some (.pointer (some ⟨p, 0, none⟩)), some (.pointer (some ⟨p, 0, none⟩)), some (.pointer (some ⟨p, 0, none⟩)), some (.pointer (some ⟨p, 0, none⟩)), some (.agg (wcells S5.list).toArray), some (.slice A5 n5 c5), some (.pointer (some ⟨p, 0, none⟩)), some (.pointer (some ⟨p, 0, none⟩)), some (.pointer (some ⟨p, 10, none⟩)), some (.int .i64 ((m.length : Nat) : Int)), some (.slice Ab b.length cb), some (.int .i64 ((b.length : Nat) : Int)), some (.int .i64 ((m.length + b.length : Nat) : Int)), some (.pointer (some ⟨p, 0, none⟩)), some (.pointer (some ⟨p, 0, none⟩)), none, some (.pointer (some ⟨p, 0, none⟩)), some (.pointer (some ⟨p, 1, none⟩)), none, some (.pointer (some ⟨p, 0, none⟩)), some (.pointer (some ⟨p, 9, none⟩)), none, some (.pointer (some ⟨p, 0, none⟩)), some (.pointer (some ⟨p, 10, none⟩)), none] : List (Option Value)).getD kk none) L u ∧ Has st (sep (blk p (.cells (hcells (if L 15 then true else x.b) (if L 18 then S5 else x.s) (if L 21 then .slice A5 n5 c5 else x.v) (if L 24 then m.length + b.length else m.length)) 86 (0, 0))) (sep (wblk q 84 S5.list) (sep (row 5 1 (.slice A6 X.length c6) X.length (bcells X)) (sep (seenP 1 x.v (left m).length (bcells (left m))) R)))) w') (by kernel_rfl) (by decide +kernel) (by decide +kernel) (fun u => ⟨Slots.start _ u, H5.out.drew⟩) ?_ ?_
      · refine ⟨?_, ?_, ?_, ?_, ?_, ?_, ?_, ?_, ?_, ?_, ?_, ?_, ?_, ?_, ?_, ?_, ?_, ?_, ?_, ?_, ?_, ?_, ?_, ?_, ?_, trivial⟩
        all_goals (refine RegStep.plain rfl ?_; rintro L u w1 hL hW hD ⟨hS, hH⟩ b0 hb)
        · exact opw_move _ _ (.inl rfl) (by rw [hb]; kernel_rfl) ⟨_, rfl, hS.step 0 _ (.inr rfl), hH⟩
        · exact opw_move _ _ (.inl rfl) (by rw [hb]; kernel_rfl) ⟨_, rfl, hS.step 1 _ (.inr rfl), hH⟩
        · exact opw_move _ _ (.inl rfl) (by rw [hb]; kernel_rfl) ⟨_, rfl, hS.step 2 _ (.inr rfl), hH⟩
        · exact opw_move _ _ (.inl rfl) (by rw [hb]; kernel_rfl) ⟨_, rfl, hS.step 3 _ (.inr rfl), hH⟩
        · exact opw_loadRow _ _ rfl q (by rw [hb]; kernel_rfl) _ (wcells S5.list).toArray _ _ Tryd.underlying84 rfl info8 hH.right ⟨_, rfl, hS.step 4 _ (.inr rfl), hH⟩
        · exact opw_move _ _ (.inl rfl) (by rw [hb]; kernel_rfl) ⟨_, rfl, hS.step 5 _ (.inr rfl), hH⟩
        · exact opw_move _ _ (.inl rfl) (by rw [hb]; kernel_rfl) ⟨_, rfl, hS.step 6 _ (.inr rfl), hH⟩
        · exact opw_nilCheck _ _ rfl ((show _ = u 6 by rw [hb]; kernel_rfl).trans (hS 6 _ rfl (hW.of 6 (by decide)))) ⟨_, rfl, hS.step 7 _ (.inr rfl), hH⟩
        · exact opw_field _ _ _ 10 rfl (by kernel_rfl) (p) (0) ((show _ = u 7 by rw [hb]; kernel_rfl).trans (hS 7 _ rfl (hW.of 7 (by decide)))) ⟨_, rfl, hS.step 8 _ (.inr rfl), hH⟩
        · exact opw_load1 _ _ rfl _ Tryd.underlying3 rfl _ _ ((show _ = u 8 by rw [hb]; kernel_rfl).trans (hS 8 _ rfl (hW.of 8 (by decide)))) (by have hn := hD.not 24 9 hL (by decide); simp only [hn] at hH; exact hH.cell 10) ⟨_, rfl, hS.step 9 _ (.inr rfl), hH⟩
        · exact opw_move _ _ (.inl rfl) (by rw [hb]; kernel_rfl) ⟨_, rfl, hS.step 10 _ (.inr rfl), hH⟩
        · exact opw_len _ _ _ Tryd.underlying30 Ab b.length cb rfl ((show _ = u 10 by rw [hb]; kernel_rfl).trans (hS 10 _ rfl (hW.of 10 (by decide)))) ⟨_, rfl, hS.step 11 _ (.inr rfl), hH⟩
        · exact opw_addNat _ _ _ _ (m.length) (b.length) rfl ((show _ = u 9 by rw [hb]; kernel_rfl).trans (hS 9 _ rfl (hW.of 9 (by decide)))) ((show _ = u 11 by rw [hb]; kernel_rfl).trans (hS 11 _ rfl (hW.of 11 (by decide)))) (by omega) ⟨_, rfl, hS.step 12 _ (.inr rfl), hH⟩
        · exact opw_nilCheck _ _ rfl ((show _ = u 0 by rw [hb]; kernel_rfl).trans (hS 0 _ rfl (hW.of 0 (by decide)))) ⟨_, rfl, hS.step 13 _ (.inr rfl), hH⟩
        · exact opw_field _ _ _ 0 rfl (by kernel_rfl) (p) (0) ((show _ = u 13 by rw [hb]; kernel_rfl).trans (hS 13 _ rfl (hW.of 13 (by decide)))) ⟨_, rfl, hS.step 14 _ (.inr rfl), hH⟩
        · (simp only [hL] at hH; exact opw_store1 _ _ _ rfl infob p 0 (.bool true) ((show _ = u 14 by rw [hb]; kernel_rfl).trans (hS 14 _ rfl (hW.of 14 (by decide)))) rfl rfl hH (by show 0 < 11; decide) (fun w2 h2 => ⟨_, rfl, hS.step 15 _ (.inl rfl), h2⟩))
        · exact opw_nilCheck _ _ rfl ((show _ = u 1 by rw [hb]; kernel_rfl).trans (hS 1 _ rfl (hW.of 1 (by decide)))) ⟨_, rfl, hS.step 16 _ (.inr rfl), hH⟩
        · exact opw_field _ _ _ 1 rfl (by kernel_rfl) (p) (0) ((show _ = u 16 by rw [hb]; kernel_rfl).trans (hS 16 _ rfl (hW.of 16 (by decide)))) ⟨_, rfl, hS.step 17 _ (.inr rfl), hH⟩
        · (simp only [hL] at hH; exact opw_storeMid _ _ _ rfl p 1 (wcells S5.list) ((show _ = u 17 by rw [hb]; kernel_rfl).trans (hS 17 _ rfl (hW.of 17 (by decide)))) ((show _ = u 4 by rw [hb]; kernel_rfl).trans (hS 4 _ rfl (hW.of 4 (by decide)))) info8 (wcells_one _) hH (by show 9 ≤ 11; decide) (fun w2 h2 => ⟨_, rfl, hS.step 18 _ (.inl rfl), h2⟩))
        · exact opw_nilCheck _ _ rfl ((show _ = u 2 by rw [hb]; kernel_rfl).trans (hS 2 _ rfl (hW.of 2 (by decide)))) ⟨_, rfl, hS.step 19 _ (.inr rfl), hH⟩
        · exact opw_field _ _ _ 9 rfl (by kernel_rfl) (p) (0) ((show _ = u 19 by rw [hb]; kernel_rfl).trans (hS 19 _ rfl (hW.of 19 (by decide)))) ⟨_, rfl, hS.step 20 _ (.inr rfl), hH⟩
        · (simp only [hL] at hH; exact opw_store1 _ _ _ rfl infosl p 9 (.slice A5 n5 c5) ((show _ = u 20 by rw [hb]; kernel_rfl).trans (hS 20 _ rfl (hW.of 20 (by decide)))) ((show _ = u 5 by rw [hb]; kernel_rfl).trans (hS 5 _ rfl (hW.of 5 (by decide)))) rfl hH (by show 9 < 11; decide) (fun w2 h2 => ⟨_, rfl, hS.step 21 _ (.inl rfl), h2⟩))
        · exact opw_nilCheck _ _ rfl ((show _ = u 3 by rw [hb]; kernel_rfl).trans (hS 3 _ rfl (hW.of 3 (by decide)))) ⟨_, rfl, hS.step 22 _ (.inr rfl), hH⟩
        · exact opw_field _ _ _ 10 rfl (by kernel_rfl) (p) (0) ((show _ = u 22 by rw [hb]; kernel_rfl).trans (hS 22 _ rfl (hW.of 22 (by decide)))) ⟨_, rfl, hS.step 23 _ (.inr rfl), hH⟩
        · (simp only [hL] at hH; exact opw_store1 _ _ _ rfl infoi p 10 (.int .i64 ((m.length + b.length : Nat) : Int)) ((show _ = u 23 by rw [hb]; kernel_rfl).trans (hS 23 _ rfl (hW.of 23 (by decide)))) ((show _ = u 12 by rw [hb]; kernel_rfl).trans (hS 12 _ rfl (hW.of 12 (by decide)))) rfl hH (by show 10 < 11; decide) (fun w2 h2 => ⟨_, rfl, hS.step 24 _ (.inl rfl), h2⟩))
      intro L u w3 hL ⟨hS, hH⟩
      rw [hL 15 (by decide), hL 18 (by decide), hL 21 (by decide), hL 24 (by decide)] at hH
      simp only [if_true] at hH
      simp only [frame_cons, frame_nil]
      have H8 := Lib.hid hH
      clear hL hS hH H5
      go_end0
      refine ⟨rfl, ?_⟩
      have h9 := (H8.out.cast (show _ = sep (row 5 1 (.slice A6 X.length c6) X.length (bcells X)) (sep (blk p (.cells (hcells true S5 (.slice A5 n5 c5) (m.length + b.length)) 86 (0, 0))) (sep (wblk q 84 S5.list) (sep (seenP 1 x.v (left m).length (bcells (left m))) R))) by ac_rfl)).row_seen
      have h10 := h9.seen_part (v' := .slice A5 n5 c5) (n' := n5) (xs' := bcells (X.drop (64 * j))) (fun w' hw => by have := HR.out w' hw; rwa [← HN.out] at this)
      have hl5 : n5 = (left (m ++ b)).length := by rw [← HL6.out, HLen.out]
      rw [HL6.out, hl5] at h10
      refine toHash ⟨true, S5, .slice A5 (left (m ++ b)).length c5⟩ (.inr ⟨rfl, HS6.out⟩) ?_
      have hml : (m ++ b).length = m.length + b.length := List.length_append
      unfold hashBlk
      rw [hml]
      have h11 := (h10.cast (show _ = sep (wblk q 84 S5.list) (sep (seenP 1 x.v (left m).length (bcells (left m))) (sep (blk p (.cells (hcells true S5 (.slice A5 (left (m ++ b)).length c5) (m.length + b.length)) 86 (0, 0))) (sep (seenP 1 (.slice A5 (left (m ++ b)).length c5) (left (m ++ b)).length (bcells (left (m ++ b)))) R))) by simp only [wblk]; ac_rfl)).right.right
      exact h11
end Go.Proofs.YtblknhpafifebaaDoor
