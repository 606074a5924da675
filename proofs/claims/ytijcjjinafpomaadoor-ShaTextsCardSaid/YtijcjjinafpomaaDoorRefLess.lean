/-
  coldstoreref03.Less.
-/
import Derived.Test.YtijcjjinafpomaaDoorShaLess
namespace Go.Proofs.YtijcjjinafpomaaDoor
open Go.RowKit Go.Sl Go.Sha
set_option linter.unusedVariables false
set_option linter.unusedSimpArgs false
theorem getD_blk {st : World} {R : HProp} {w : World} {g : Nat} {l : List UInt8} {t : TypeId} {fr : Nat × Nat} (h : Has st (sep (blk g (.cells (bcells l).toArray t fr)) R) w) (i : Nat) (hi : i < l.length) : w.cell? ⟨g, 0 + i, none⟩ = some (.int .u8 ((l.getD i 0).toNat : Int)) := by
  rw [Nat.zero_add, h.cell, List.getElem?_toArray]
  exact bget hi
def LessI (st : World) (R : HProp) (x y : List UInt8) (v : Value) (w : World) : Prop := ∃ i : Nat, i ≤ 32 ∧ v = .int .i64 ((i : Nat) : Int) ∧ (∀ j, j < i → x.getD j 0 = y.getD j 0) ∧ Has st R w
set_option maxRecDepth 100000 in
set_option maxHeartbeats 2000000 in
theorem refless_any (st : World) (R : HProp) (x y : List UInt8) (hx : x.length = 32) (hy : y.length = 32) (w : World) (h : Has st R w) :
    Calls Tryd.prog 13 #[.agg (bcells x).toArray, .agg (bcells y).toArray] w fun e w' => e = .returned (.bool (lessB x y)) ∧ Has st R w' := by
  have HA := Lib.hid hx
  have HB := Lib.hid hy
  have HH := Lib.hid h
  clear hx hy h
  go_enter Tryd.func13, Tryd.ntmps13
  go_wp2_with ((with_reducible refine wpList_plain rfl ?_); intro _ hk; (first
    | (refine opw_box 24 (.agg (bcells x).toArray) (bcells x).toArray rfl rfl rfl HH.out (fun p w1 hp h1 => hk _ _ ?_); clear hp; have H1 := Lib.hid h1; clear h1)
    | (refine opw_box 24 (.agg (bcells y).toArray) (bcells y).toArray rfl rfl rfl H1.out (fun q w2 hp h2 => hk _ _ ?_); clear hp; have H2 := Lib.hid h2; clear h2)); simp only [Act.put, List.setIfInBounds_toArray, List.set_cons_zero, List.set_cons_succ])
  go_loopw [5] (LessI st (sep (blk q (.cells (bcells y).toArray 24 (0, 0))) (sep (blk p (.cells (bcells x).toArray 24 (0, 0))) R)) x y) (fun v _ => 32 - (intOf v).toNat)
  case atStart => exact ⟨0, Nat.zero_le _, rfl, fun j hj => absurd hj (by omega), H2.out⟩
  case round =>
    obtain ⟨i, hi, rfl, hs, h3⟩ := hrel
    have HS := Lib.hid hs
    have H3 := Lib.hid h3
    clear hs h3 H2
    by_cases hlt : i < 32
    · obtain ⟨X, hX⟩ : ∃ X, X = x.getD i 0 := ⟨_, rfl⟩
      obtain ⟨Y, hY⟩ : ∃ Y, Y = y.getD i 0 := ⟨_, rfl⟩
      have HC : Hid (∀ w', Has st (sep (blk q (.cells (bcells y).toArray 24 (0, 0))) (sep (blk p (.cells (bcells x).toArray 24 (0, 0))) R)) w' → w'.cell? ⟨p, 0 + i, none⟩ = some (.int .u8 (X.toNat : Int)) ∧ w'.cell? ⟨q, 0 + i, none⟩ = some (.int .u8 (Y.toNat : Int))) := Lib.hid fun w' h' => by
        rw [hX, hY]
        exact ⟨getD_blk h'.second i (by rw [HA.out]; exact hlt), getD_blk h' i (by rw [HB.out]; exact hlt)⟩
      have HX := Lib.hid hX
      have HY := Lib.hid hY
      clear hX hY
      by_cases hXY : X = Y
      · have hz : cmpZ .neq (X.toNat : Int) (Y.toNat : Int) = some false := by rw [hXY]; simp [cmpZ]
        have HEQ := Lib.hid hXY
        have HZ := Lib.hid hz
        clear hXY hz
        go_wp2_with (fail)
        refine wp_region_inv2 (fun L u w' => Slots (fun kk => ([some (.int .i64 ((i : Nat) : Int)), some (.pointer (some ⟨p, 0 + i, none⟩)), some (.int .u8 ((X).toNat : Int)), some (.int .i64 ((i : Nat) : Int)), some (.pointer (some ⟨q, 0 + i, none⟩)), some (.int .u8 ((Y).toNat : Int)), some (.bool false)] : List (Option Value)).getD kk none) L u ∧ Has st (sep (blk q (.cells (bcells y).toArray 24 (0, 0))) (sep (blk p (.cells (bcells x).toArray 24 (0, 0))) R)) w') (by kernel_rfl) (by decide +kernel) (by decide +kernel) (by kernel_rfl) (fun u => ⟨Slots.start _ u, H3.out.drew⟩) ?_ ?_
        · refine ⟨?_, ?_, ?_, ?_, ?_, ?_, ?_, trivial⟩
          all_goals (refine RegStep2.plain rfl ?_; rintro L u w1 b hL hW hD hU ⟨hS, hH⟩ hin hout)
          · exact opw_move _ _ (.inl rfl) ((hout 5 (by kernel_rfl)).trans (by kernel_rfl)) ⟨_, rfl, hS.step 0 _ (.inr rfl), hH⟩
          · exact opw_indexArr _ _ _ _ _ rfl Tryd.underlying24 infosz (p) (0) (i) ((hout 2 (by kernel_rfl)).trans (by kernel_rfl)) _ ((hin 0 10 rfl).trans (hS 0 _ rfl (hW.of 0 (by decide)))) hlt ⟨_, rfl, hS.step 1 _ (.inr rfl), hH⟩
          · exact opw_load1 _ _ rfl _ Tryd.underlying5 rfl _ _ ((hin 1 11 rfl).trans (hS 1 _ rfl (hW.of 1 (by decide)))) ((HC.out _ hH).1) ⟨_, rfl, hS.step 2 _ (.inr rfl), hH⟩
          · exact opw_move _ _ (.inl rfl) ((hout 5 (by kernel_rfl)).trans (by kernel_rfl)) ⟨_, rfl, hS.step 3 _ (.inr rfl), hH⟩
          · exact opw_indexArr _ _ _ _ _ rfl Tryd.underlying24 infosz (q) (0) (i) ((hout 3 (by kernel_rfl)).trans (by kernel_rfl)) _ ((hin 3 13 rfl).trans (hS 3 _ rfl (hW.of 3 (by decide)))) hlt ⟨_, rfl, hS.step 4 _ (.inr rfl), hH⟩
          · exact opw_load1 _ _ rfl _ Tryd.underlying5 rfl _ _ ((hin 4 14 rfl).trans (hS 4 _ rfl (hW.of 4 (by decide)))) ((HC.out _ hH).2) ⟨_, rfl, hS.step 5 _ (.inr rfl), hH⟩
          · exact opw_cmp .neq _ _ _ _ .u8 _ _ _ rfl ((hin 2 12 rfl).trans (hS 2 _ rfl (hW.of 2 (by decide)))) ((hin 5 15 rfl).trans (hS 5 _ rfl (hW.of 5 (by decide)))) HZ.out ⟨_, rfl, hS.step 6 _ (.inr rfl), hH⟩
        intro L u w3 hL ⟨hS, hH⟩
        have E := hS 6 _ rfl (hL 6 (by decide))
        simp only [frame_cons, frame_nil, E, Act.put, List.setIfInBounds_toArray, List.set_cons_zero, List.set_cons_succ]
        have H4 := Lib.hid hH
        clear hL hS hH E H3
        go_wp2
        go_roundw
        case rel =>
          exact ⟨i + 1, by omega, by go_num, fun j hj => by
            by_cases e : j = i
            · subst e; rw [← HX.out, ← HY.out]; exact HEQ.out
            · exact HS.out j (by omega), H4.out⟩
        case measure => simp [intOf]; omega
      · have hz : cmpZ .neq (X.toNat : Int) (Y.toNat : Int) = some true := by
          simp only [cmpZ, Option.some.injEq, bne_iff_ne]
          intro e
          exact hXY (UInt8.toNat_inj.1 (by omega))
        have hl : lessB x y = decide (X < Y) := by
          rw [HX.out, HY.out] at hXY ⊢
          exact less_at x y i HS.out (by rw [HA.out]; exact hlt) (by rw [HB.out]; exact hlt) hXY
        have hz2 : cmpZ .lss (X.toNat : Int) (Y.toNat : Int) = some (lessB x y) := by
          rw [hl]
          simp only [cmpZ, Option.some.injEq, UInt8.lt_iff_toNat_lt, decide_eq_decide]
          omega
        have HNE := Lib.hid hXY
        have HZ := Lib.hid hz
        have HZ2 := Lib.hid hz2
        clear hXY hz hz2 hl
        go_wp2_with (fail)
        refine wp_region_inv2 (fun L u w' => Slots (fun kk => ([some (.int .i64 ((i : Nat) : Int)), some (.pointer (some ⟨p, 0 + i, none⟩)), some (.int .u8 ((X).toNat : Int)), some (.int .i64 ((i : Nat) : Int)), some (.pointer (some ⟨q, 0 + i, none⟩)), some (.int .u8 ((Y).toNat : Int)), some (.bool true)] : List (Option Value)).getD kk none) L u ∧ Has st (sep (blk q (.cells (bcells y).toArray 24 (0, 0))) (sep (blk p (.cells (bcells x).toArray 24 (0, 0))) R)) w') (by kernel_rfl) (by decide +kernel) (by decide +kernel) (by kernel_rfl) (fun u => ⟨Slots.start _ u, H3.out.drew⟩) ?_ ?_
        · refine ⟨?_, ?_, ?_, ?_, ?_, ?_, ?_, trivial⟩
          all_goals (refine RegStep2.plain rfl ?_; rintro L u w1 b hL hW hD hU ⟨hS, hH⟩ hin hout)
          · exact opw_move _ _ (.inl rfl) ((hout 5 (by kernel_rfl)).trans (by kernel_rfl)) ⟨_, rfl, hS.step 0 _ (.inr rfl), hH⟩
          · exact opw_indexArr _ _ _ _ _ rfl Tryd.underlying24 infosz (p) (0) (i) ((hout 2 (by kernel_rfl)).trans (by kernel_rfl)) _ ((hin 0 10 rfl).trans (hS 0 _ rfl (hW.of 0 (by decide)))) hlt ⟨_, rfl, hS.step 1 _ (.inr rfl), hH⟩
          · exact opw_load1 _ _ rfl _ Tryd.underlying5 rfl _ _ ((hin 1 11 rfl).trans (hS 1 _ rfl (hW.of 1 (by decide)))) ((HC.out _ hH).1) ⟨_, rfl, hS.step 2 _ (.inr rfl), hH⟩
          · exact opw_move _ _ (.inl rfl) ((hout 5 (by kernel_rfl)).trans (by kernel_rfl)) ⟨_, rfl, hS.step 3 _ (.inr rfl), hH⟩
          · exact opw_indexArr _ _ _ _ _ rfl Tryd.underlying24 infosz (q) (0) (i) ((hout 3 (by kernel_rfl)).trans (by kernel_rfl)) _ ((hin 3 13 rfl).trans (hS 3 _ rfl (hW.of 3 (by decide)))) hlt ⟨_, rfl, hS.step 4 _ (.inr rfl), hH⟩
          · exact opw_load1 _ _ rfl _ Tryd.underlying5 rfl _ _ ((hin 4 14 rfl).trans (hS 4 _ rfl (hW.of 4 (by decide)))) ((HC.out _ hH).2) ⟨_, rfl, hS.step 5 _ (.inr rfl), hH⟩
          · exact opw_cmp .neq _ _ _ _ .u8 _ _ _ rfl ((hin 2 12 rfl).trans (hS 2 _ rfl (hW.of 2 (by decide)))) ((hin 5 15 rfl).trans (hS 5 _ rfl (hW.of 5 (by decide)))) HZ.out ⟨_, rfl, hS.step 6 _ (.inr rfl), hH⟩
        intro L u w3 hL ⟨hS, hH⟩
        have E := hS 6 _ rfl (hL 6 (by decide))
        simp only [frame_cons, frame_nil, E, Act.put, List.setIfInBounds_toArray, List.set_cons_zero, List.set_cons_succ]
        have H4 := Lib.hid hH
        clear hL hS hH E H3
        go_wp2_with (fail)
        refine wp_region_inv2 (fun L u w' => Slots (fun kk => ([some (.int .i64 ((i : Nat) : Int)), some (.pointer (some ⟨p, 0 + i, none⟩)), some (.int .u8 ((X).toNat : Int)), some (.int .i64 ((i : Nat) : Int)), some (.pointer (some ⟨q, 0 + i, none⟩)), some (.int .u8 ((Y).toNat : Int)), some (.bool (lessB x y)), some (.bool (lessB x y))] : List (Option Value)).getD kk none) L u ∧ Has st (sep (blk q (.cells (bcells y).toArray 24 (0, 0))) (sep (blk p (.cells (bcells x).toArray 24 (0, 0))) R)) w') (by kernel_rfl) (by decide +kernel) (by decide +kernel) (by kernel_rfl) (fun u => ⟨Slots.start _ u, H4.out.drew⟩) ?_ ?_
        · refine ⟨?_, ?_, ?_, ?_, ?_, ?_, ?_, ?_, trivial⟩
          all_goals (refine RegStep2.plain rfl ?_; rintro L u w1 b hL hW hD hU ⟨hS, hH⟩ hin hout)
          · exact opw_move _ _ (.inl rfl) ((hout 5 (by kernel_rfl)).trans (by kernel_rfl)) ⟨_, rfl, hS.step 0 _ (.inr rfl), hH⟩
          · exact opw_indexArr _ _ _ _ _ rfl Tryd.underlying24 infosz (p) (0) (i) ((hout 2 (by kernel_rfl)).trans (by kernel_rfl)) _ ((hin 0 17 rfl).trans (hS 0 _ rfl (hW.of 0 (by decide)))) hlt ⟨_, rfl, hS.step 1 _ (.inr rfl), hH⟩
          · exact opw_load1 _ _ rfl _ Tryd.underlying5 rfl _ _ ((hin 1 18 rfl).trans (hS 1 _ rfl (hW.of 1 (by decide)))) ((HC.out _ hH).1) ⟨_, rfl, hS.step 2 _ (.inr rfl), hH⟩
          · exact opw_move _ _ (.inl rfl) ((hout 5 (by kernel_rfl)).trans (by kernel_rfl)) ⟨_, rfl, hS.step 3 _ (.inr rfl), hH⟩
          · exact opw_indexArr _ _ _ _ _ rfl Tryd.underlying24 infosz (q) (0) (i) ((hout 3 (by kernel_rfl)).trans (by kernel_rfl)) _ ((hin 3 20 rfl).trans (hS 3 _ rfl (hW.of 3 (by decide)))) hlt ⟨_, rfl, hS.step 4 _ (.inr rfl), hH⟩
          · exact opw_load1 _ _ rfl _ Tryd.underlying5 rfl _ _ ((hin 4 21 rfl).trans (hS 4 _ rfl (hW.of 4 (by decide)))) ((HC.out _ hH).2) ⟨_, rfl, hS.step 5 _ (.inr rfl), hH⟩
          · exact opw_cmp .lss _ _ _ _ .u8 _ _ _ rfl ((hin 2 19 rfl).trans (hS 2 _ rfl (hW.of 2 (by decide)))) ((hin 5 22 rfl).trans (hS 5 _ rfl (hW.of 5 (by decide)))) HZ2.out ⟨_, rfl, hS.step 6 _ (.inr rfl), hH⟩
          · exact opw_move _ _ (.inr rfl) ((hin 6 23 rfl).trans (hS 6 _ rfl (hW.of 6 (by decide)))) ⟨_, rfl, hS.step 7 _ (.inr rfl), hH⟩
        intro L2 u2 w4 hL ⟨hS, hH⟩
        have E := hS 7 _ rfl (hL 7 (by decide))
        simp only [frame_cons, frame_nil, E, Act.put, List.setIfInBounds_toArray, List.set_cons_zero, List.set_cons_succ]
        have H5 := Lib.hid hH
        clear hL hS hH E H4
        go_wp2
        go_ret
        exact ⟨rfl, H5.out.right.right⟩
    · obtain rfl : i = 32 := by omega
      have hl := less_all x y (fun j hj => HS.out j (by rw [HA.out] at hj; exact hj)) (by rw [HA.out, HB.out])
      have HL := Lib.hid hl
      clear hl
      go_wp2
      go_ret
      exact ⟨by rw [HL.out]; rfl, H3.out.right.right⟩
end Go.Proofs.YtijcjjinafpomaaDoor
