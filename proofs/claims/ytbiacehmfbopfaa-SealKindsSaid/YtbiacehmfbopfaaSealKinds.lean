/-
  coldstorelaw04.SealKinds.
-/
import Derived.Test.YtbiacehmfbopfaaSealLaw
namespace Go.Proofs.Ytbiacehmfbopfaa
open Go.RowKit Go.Sl Go.Crc
set_option linter.unusedVariables false
set_option linter.unusedSimpArgs false
set_option maxRecDepth 100000 in
set_option maxHeartbeats 4000000 in
theorem kinds_law (st : World) (R : HProp) (k o : UInt8) (b : List UInt8) (A : Option Addr) (c : Nat) (hs : Sees st R 1 (.slice A b.length c) b.length (bcells b)) (w : World) (h : Has st R w) :
    Calls Try.prog 6 #[.int .u8 (k.toNat : Int), .int .u8 (o.toNat : Int), .slice A b.length c] w fun e w' => e = .returned (.bool true) ∧ Has st R w' := by
  obtain ⟨Φ0, e0⟩ : ∃ X, X = R := ⟨_, rfl⟩
  rw [← e0] at h hs ⊢
  clear e0
  have C0 := Lib.hid h
  have SB := Lib.hid hs
  clear h hs
  by_cases hb3 : b.length ≤ 300
  · have HZ1 : Hid (cmpZ .gtr (b.length : Int) 300 = some false) := Lib.hid (by simp only [cmpZ]; simp; omega)
    obtain ⟨S, hS⟩ : ∃ S, S = sealB k b := ⟨_, rfl⟩
    have hSl : S.length = b.length + 5 := by rw [hS, sealB_length]
    obtain ⟨m, hm⟩ : ∃ m, m = b.length + 4 := ⟨_, rfl⟩
    obtain ⟨y, hy⟩ : ∃ y, y = S.getD m 0 := ⟨_, rfl⟩
    obtain ⟨S', hS'⟩ : ∃ S', S' = S.set m (y ^^^ 1) := ⟨_, rfl⟩
    obtain ⟨T, hT⟩ : ∃ T, T = S.take 4 := ⟨_, rfl⟩
    have hTl : T.length = 4 := by rw [hT, List.length_take]; omega
    have hSl' : S'.length = S.length := by rw [hS', List.length_set]
    have HSE : Hid (∀ Φ w, Has st Φ w → Sees st Φ 1 (.slice A b.length c) b.length (bcells b) → Calls Try.prog 12 #[.int .u8 (k.toNat : Int), .slice A b.length c] w fun e w' => ∃ A c, e = .returned (.slice A S.length c) ∧ Has st (sep (row 5 1 (.slice A S.length c) S.length (bcells S)) Φ) w') := Lib.hid fun Φ w h hs => by rw [hS]; exact seal_any st Φ k b _ w h hs (by omega)
    have HUK : Hid (∀ Φ A c w, Has st Φ w → Sees st Φ 1 (.slice A S.length c) S.length (bcells S) → Calls Try.prog 10 #[.int .u8 (k.toNat : Int), .slice A S.length c] w fun e w' => ∃ A c, e = .returned (.tuple #[.slice A b.length c, .int .i64 0]) ∧ Has st (sep (row 5 1 (.slice A b.length c) b.length (bcells b)) Φ) w') := Lib.hid fun Φ A c w h hs => by
      have := unseal_any st Φ k S A c w h hs (by omega)
      rw [show unsealR k S = (b, 0) by rw [hS, unseal_seal, if_pos rfl]] at this
      exact this
    have HUT : Hid (∀ Φ A c w, Has st Φ w → Sees st Φ 1 (.slice A 4 c) 4 (bcells T) → Calls Try.prog 10 #[.int .u8 (k.toNat : Int), .slice A 4 c] w fun e w' => ∃ A c, e = .returned (.tuple #[.slice A 0 c, .int .i64 20]) ∧ Has st (sep (row 5 1 (.slice A 0 c) 0 (bcells [])) Φ) w') := Lib.hid fun Φ A c w h hs => by
      rw [← hTl] at hs ⊢
      have := unseal_any st Φ k T A c w h hs (by omega)
      rw [unseal_short k T (by omega)] at this
      exact this
    have HUL : Hid (∀ Φ A c w, Has st Φ w → Sees st Φ 1 (.slice A S.length c) S.length (bcells S') → Calls Try.prog 10 #[.int .u8 (k.toNat : Int), .slice A S.length c] w fun e w' => ∃ A c, e = .returned (.tuple #[.slice A 0 c, .int .i64 36]) ∧ Has st (sep (row 5 1 (.slice A 0 c) 0 (bcells [])) Φ) w') := Lib.hid fun Φ A c w h hs => by
      rw [← hSl'] at hs ⊢
      have := unseal_any st Φ k S' A c w h hs (by omega)
      rw [show unsealR k S' = ([], 36) by rw [hS', hy, hm, hS]; exact last_turned k b] at this
      exact this
    have b1 : binZ .sub .i64 (S.length : Int) 1 = some (m : Int) := by rw [hm, show b.length + 4 = S.length - 1 by omega]; exact bin_sub S.length 1 (by omega) (by omega)
    have b2 : binZ .add .i64 (b.length : Int) 5 = some (S.length : Int) := by rw [hSl]; exact bin_add b.length 5 (by omega)
    have hmS : m < S.length := by omega
    have g1 : (bcells S)[m]? = some (.int .u8 (y.toNat : Int)) := by rw [hy]; simp [bcells, bcell, List.getD_eq_getElem?_getD, hmS]
    have g0 : S[0]? = some k := by rw [hS]; rfl
    have g2 : (bcells S)[0]? = some (.int .u8 (k.toNat : Int)) := by simp [bcells, bcell, g0]
    have hst : (bcells S).set m (.int .u8 ((y ^^^ 1).toNat : Int)) = bcells S' := by rw [hS']; simp [bcells, bcell, List.map_set]
    have B1 := Lib.hid b1
    have B2 := Lib.hid b2
    have G1 := Lib.hid g1
    have G2 := Lib.hid g2
    have HST := Lib.hid hst
    have HX := Lib.hid (xor1 y)
    have hS4 : 4 ≤ S.length := by omega
    have hS0 : 0 < S.length := by omega
    have hSm : S.length ≤ 400 := by omega
    have HT := Lib.hid hT
    have HEE : Hid (cmpZ .eql (S.length : Int) (S.length : Int) = some true) := Lib.hid (by simp [cmpZ])
    have HKK : Hid (cmpZ .eql (k.toNat : Int) (k.toNat : Int) = some true) := Lib.hid (by simp [cmpZ])
    by_cases hko : k = o
    ·
      have HUO : Hid (∀ Φ A c w, Has st Φ w → Sees st Φ 1 (.slice A S.length c) S.length (bcells S) → Calls Try.prog 10 #[.int .u8 (o.toNat : Int), .slice A S.length c] w fun e w' => ∃ A c, e = .returned (.tuple #[.slice A b.length c, .int .i64 0]) ∧ Has st (sep (row 5 1 (.slice A b.length c) b.length (bcells b)) Φ) w') := Lib.hid fun Φ A c w h hs => by
        have := unseal_any st Φ o S A c w h hs (by omega)
        rw [show unsealR o S = (b, 0) by rw [hS, unseal_seal, if_pos hko]] at this
        exact this
      have HKO : Hid (cmpZ .eql (k.toNat : Int) (o.toNat : Int) = some true) := Lib.hid (by simp only [cmpZ]; simp [hko])
      clear hS hSl hm hy hS' hT hTl hSl' b1 b2 g1 g0 g2 hst hko
      go_enter Try.func6, Try.ntmps6
      go_wp2_with (first
        | (have _k := C9; go_at_call 15; have hq := same_self b _ _ _ _ _ ((Sees.right (Sx.out.widen (fun w h => (U4.out _ (U5.out _ (U6.out _ (U7.out _ (U8.out _ (U9.out _ h))))))))) _ C9.out) ((Sees.right (SB.out.widen (fun w h => (U1.out _ (U2.out _ (U3.out _ (U4.out _ (U5.out _ (U6.out _ (U7.out _ (U8.out _ (U9.out _ h)))))))))))) _ C9.out); with_reducible refine hq.mono ?_; clear hq; rintro e w9 ⟨rfl, rfl⟩)
        | (have _k := C8; go_at_call 10; refine (HUK.out _ _ _ _ C8.out (Sees.right (Sb.out.widen (fun w h => (U7.out _ (U8.out _ h)))))).mono ?_; rintro e w9 ⟨Ai, ci, rfl, h9⟩; replace h9 := h9.second; obtain ⟨Φ9, e9⟩ : ∃ X : HProp, X = sep (row 5 1 (.slice Ai b.length ci) b.length (bcells b)) Φ8 := ⟨_, rfl⟩; rw [← e9] at h9; have U9 : Hid (∀ w, Has st Φ9 w → Has st Φ8 w) := Lib.hid (by rw [e9]; exact fun w h => h.right); have C9 := Lib.hid h9; clear h9 e9)
        | (have _k := C7; go_at_call 10; refine (HUL.out _ _ _ _ C7.out (sees_row st _ 1 _ _ _ _)).mono ?_; rintro e w9 ⟨Al, cl, rfl, h9⟩; replace h9 := h9.second; obtain ⟨Φ8, e8⟩ : ∃ X : HProp, X = sep (row 5 1 (.slice Al 0 cl) 0 (bcells [])) Φ7 := ⟨_, rfl⟩; rw [← e8] at h9; have U8 : Hid (∀ w, Has st Φ8 w → Has st Φ7 w) := Lib.hid (by rw [e8]; exact fun w h => h.right); have C8 := Lib.hid h9; clear h9 e8)
        | (have _k := C5; refine wp_append (v := .slice none 0 0) rfl _ _ 22 5 1 1 (.int .u8 0) rfl Try.underlying22 infoB rfl (by decide) rfl rfl (C5.out.row_nil 5 1) (sees_row st _ 1 _ _ _ _ _ C5.out) (bcells_one S) (by rw [Nat.zero_add]; unfold maxLen; omega) (by omega) ?_; intro Ab cb w9 h9 _; rw [Nat.zero_add, List.nil_append] at h9; rw [Nat.zero_add]; obtain ⟨bb, off, rfl, _⟩ := (sees_row st _ 1 _ _ _ _ _ h9).at hS0; replace h9 := h9.second; obtain ⟨Φ6, e6⟩ : ∃ X : HProp, X = sep (row 5 1 (.slice (some ⟨bb, off, none⟩) S.length cb) S.length (bcells S)) Φ5 := ⟨_, rfl⟩; rw [← e6] at h9; have U6 : Hid (∀ w, Has st Φ6 w → Has st Φ5 w) := Lib.hid (by rw [e6]; exact fun w h => h.right); have Sb : Hid (Sees st Φ6 1 (.slice (some ⟨bb, off, none⟩) S.length cb) S.length (bcells S)) := Lib.hid (by rw [e6]; exact sees_row st _ 1 _ _ _ _); have C6 := Lib.hid h9; clear h9 e6)
        | (have _k := C4; go_at_call 10; refine (HUT.out _ _ _ _ C4.out (by rw [HT.out]; exact (sees_row st _ 1 _ _ _ _).takeB 4 hS4)).mono ?_; rintro e w9 ⟨Az, cz, rfl, h9⟩; replace h9 := h9.second; obtain ⟨Φ5, e5⟩ : ∃ X : HProp, X = sep (row 5 1 (.slice Az 0 cz) 0 (bcells [])) Φ4 := ⟨_, rfl⟩; rw [← e5] at h9; have U5 : Hid (∀ w, Has st Φ5 w → Has st Φ4 w) := Lib.hid (by rw [e5]; exact fun w h => h.right); have C5 := Lib.hid h9; clear h9 e5)
        | (have _k := C3; go_at_call 10; refine (HUO.out _ _ _ _ C3.out (sees_row st _ 1 _ _ _ _)).mono ?_; rintro e w9 ⟨Ay, cy, rfl, h9⟩; replace h9 := h9.second; obtain ⟨Φ4, e4⟩ : ∃ X : HProp, X = sep (row 5 1 (.slice Ay b.length cy) b.length (bcells b)) Φ3 := ⟨_, rfl⟩; rw [← e4] at h9; have U4 : Hid (∀ w, Has st Φ4 w → Has st Φ3 w) := Lib.hid (by rw [e4]; exact fun w h => h.right); have C4 := Lib.hid h9; clear h9 e4)
        | (have _k := C2; go_at_call 10; refine (HUK.out _ _ _ _ C2.out (sees_row st _ 1 _ _ _ _)).mono ?_; rintro e w9 ⟨Ax, cx, rfl, h9⟩; replace h9 := h9.second; obtain ⟨Φ3, e3⟩ : ∃ X : HProp, X = sep (row 5 1 (.slice Ax b.length cx) b.length (bcells b)) Φ2 := ⟨_, rfl⟩; rw [← e3] at h9; have U3 : Hid (∀ w, Has st Φ3 w → Has st Φ2 w) := Lib.hid (by rw [e3]; exact fun w h => h.right); have Sx : Hid (Sees st Φ3 1 (.slice Ax b.length cx) b.length (bcells b)) := Lib.hid (by rw [e3]; exact sees_row st _ 1 _ _ _ _); have C3 := Lib.hid h9; clear h9 e3)
        | (have _k := C1; go_at_call 12; refine (HSE.out _ _ C1.out (SB.out.widen (fun w h => (U1.out _ h)))).mono ?_; rintro e w9 ⟨As, cs, rfl, h9⟩; obtain ⟨gs, rfl⟩ := h9.row_at (by omega); obtain ⟨Φ2, e2⟩ : ∃ X : HProp, X = Φ1 := ⟨_, rfl⟩; rw [← e2] at h9; have U2 : Hid (∀ w, Has st Φ2 w → Has st Φ1 w) := Lib.hid (by rw [e2]; exact fun w h => h); have C2 := Lib.hid h9; clear h9 e2)
        | (have _k := C0; go_at_call 9; refine (alive_any st Φ0 _ C0.out).mono ?_; rintro e w9 ⟨rfl, h9⟩; obtain ⟨Φ1, e1⟩ : ∃ X : HProp, X = Φ0 := ⟨_, rfl⟩; rw [← e1] at h9; have U1 : Hid (∀ w, Has st Φ1 w → Has st Φ0 w) := Lib.hid (by rw [e1]; exact fun w h => h); have C1 := Lib.hid h9; clear h9 e1)
        | ((first | (with_reducible refine wpList_plain rfl ?_) | ((with_reducible refine wpList_yes _ _ rfl ?_ ?_); (focus rfl))); intro _ hk; (first
          | (have _k := C6; refine opw_storeSl 5 _ _ rfl sizeB gs m (.int .u8 ((y ^^^ 1).toNat : Int)) rfl rfl rfl C6.out hmS (fun w9 h9 => hk _ _ ?_); rw [HST.out] at h9; obtain ⟨Φ7, e7⟩ : ∃ X : HProp, X = Φ6 := ⟨_, rfl⟩; rw [← e7] at h9; have U7 : Hid (∀ w, Has st Φ7 w → Has st Φ6 w) := Lib.hid (by rw [e7]; exact fun w h => h); have C7 := Lib.hid h9; clear h9 e7)
          | (refine opw_len _ _ _ Try.underlying22 A b.length c rfl rfl (hk _ _ ?_))
          | (refine opw_len _ _ _ Try.underlying22 (some ⟨gs, 0, none⟩) S.length cs rfl rfl (hk _ _ ?_))
          | (refine opw_len _ _ _ Try.underlying22 (some ⟨bb, off, none⟩) S.length cb rfl rfl (hk _ _ ?_))
          | (refine opw_cmp .gtr _ _ _ _ .i64 (b.length : Int) 300 false rfl rfl rfl HZ1.out (hk _ _ ?_))
          | (refine opw_min _ _ _ (S.length : Int) 4 4 rfl rfl rfl (by split <;> omega) (hk _ _ ?_))
          | (refine opw_slH 22 5 _ _ rfl Try.underlying22 sizeB (some ⟨gs, 0, none⟩) S.length cs rfl ((sees_row st _ 1 _ _ _ _ _ C4.out).le) .i64 4 rfl hS4 (hk _ _ ?_))
          | (refine opw_bin .sub _ _ _ _ .i64 (S.length : Int) 1 (m : Int) rfl rfl rfl B1.out (hk _ _ ?_))
          | (refine opw_bin .add _ _ _ _ .i64 (b.length : Int) 5 (S.length : Int) rfl rfl rfl B2.out (hk _ _ ?_))
          | (refine opw_index0 22 5 _ _ rfl Try.underlying22 sizeB gs S.length cs m rfl .i64 rfl hmS (hk _ _ ?_))
          | (refine opw_load1 5 _ rfl _ Try.underlying5 rfl ⟨gs, m, none⟩ (.int .u8 (y.toNat : Int)) rfl (row_cell C6.out G1.out) (hk _ _ ?_))
          | (refine opw_bits .xor _ _ _ _ .u8 (y.toNat : Int) 1 ((y ^^^ 1).toNat : Int) (.inr (.inr rfl)) rfl rfl rfl HX.out (hk _ _ ?_))
          | (refine opw_cmp .eql _ _ _ _ .i64 (S.length : Int) (S.length : Int) true rfl rfl rfl HEE.out (hk _ _ ?_))
          | (refine opw_cmp .eql _ _ _ _ .u8 (k.toNat : Int) (k.toNat : Int) true rfl rfl rfl HKK.out (hk _ _ ?_))
          | (refine opw_cmp .eql _ _ _ _ .u8 (k.toNat : Int) (o.toNat : Int) true rfl rfl rfl HKO.out (hk _ _ ?_))
          | (refine opw_indexSl 22 5 _ _ rfl Try.underlying22 sizeB bb off S.length cb 0 rfl .i64 rfl hS0 (hk _ _ ?_))
          | (refine opw_load1 5 _ rfl _ Try.underlying5 rfl ⟨bb, off + 0, none⟩ (.int .u8 (k.toNat : Int)) rfl (((Sees.right (Sb.out.widen (fun w h => (U7.out _ (U8.out _ (U9.out _ h)))))) _ C9.out).cell G2.out) (hk _ _ ?_))); simp only [Act.put, List.setIfInBounds_toArray, List.set_cons_zero, List.set_cons_succ]))
      go_ret
      exact ⟨rfl, (U1.out _ (U2.out _ (U3.out _ (U4.out _ (U5.out _ (U6.out _ (U7.out _ (U8.out _ (U9.out _ C9.out.right)))))))))⟩
    ·
      have HUO : Hid (∀ Φ A c w, Has st Φ w → Sees st Φ 1 (.slice A S.length c) S.length (bcells S) → Calls Try.prog 10 #[.int .u8 (o.toNat : Int), .slice A S.length c] w fun e w' => ∃ A c, e = .returned (.tuple #[.slice A 0 c, .int .i64 21]) ∧ Has st (sep (row 5 1 (.slice A 0 c) 0 (bcells ([] : List UInt8))) Φ) w') := Lib.hid fun Φ A c w h hs => by
        have := unseal_any st Φ o S A c w h hs (by omega)
        rw [show unsealR o S = (([] : List UInt8), 21) by rw [hS, unseal_seal, if_neg hko]] at this
        exact this
      have HKO : Hid (cmpZ .eql (k.toNat : Int) (o.toNat : Int) = some false) := Lib.hid (by simp only [cmpZ]; simp; intro e; exact hko (UInt8.toNat_inj.1 (by omega)))
      clear hS hSl hm hy hS' hT hTl hSl' b1 b2 g1 g0 g2 hst hko
      go_enter Try.func6, Try.ntmps6
      go_wp2_with (first
        | (have _k := C9; go_at_call 15; have hq := same_self b _ _ _ _ _ ((Sees.right (Sx.out.widen (fun w h => (U4.out _ (U5.out _ (U6.out _ (U7.out _ (U8.out _ (U9.out _ h))))))))) _ C9.out) ((Sees.right (SB.out.widen (fun w h => (U1.out _ (U2.out _ (U3.out _ (U4.out _ (U5.out _ (U6.out _ (U7.out _ (U8.out _ (U9.out _ h)))))))))))) _ C9.out); with_reducible refine hq.mono ?_; clear hq; rintro e w9 ⟨rfl, rfl⟩)
        | (have _k := C8; go_at_call 10; refine (HUK.out _ _ _ _ C8.out (Sees.right (Sb.out.widen (fun w h => (U7.out _ (U8.out _ h)))))).mono ?_; rintro e w9 ⟨Ai, ci, rfl, h9⟩; replace h9 := h9.second; obtain ⟨Φ9, e9⟩ : ∃ X : HProp, X = sep (row 5 1 (.slice Ai b.length ci) b.length (bcells b)) Φ8 := ⟨_, rfl⟩; rw [← e9] at h9; have U9 : Hid (∀ w, Has st Φ9 w → Has st Φ8 w) := Lib.hid (by rw [e9]; exact fun w h => h.right); have C9 := Lib.hid h9; clear h9 e9)
        | (have _k := C7; go_at_call 10; refine (HUL.out _ _ _ _ C7.out (sees_row st _ 1 _ _ _ _)).mono ?_; rintro e w9 ⟨Al, cl, rfl, h9⟩; replace h9 := h9.second; obtain ⟨Φ8, e8⟩ : ∃ X : HProp, X = sep (row 5 1 (.slice Al 0 cl) 0 (bcells [])) Φ7 := ⟨_, rfl⟩; rw [← e8] at h9; have U8 : Hid (∀ w, Has st Φ8 w → Has st Φ7 w) := Lib.hid (by rw [e8]; exact fun w h => h.right); have C8 := Lib.hid h9; clear h9 e8)
        | (have _k := C5; refine wp_append (v := .slice none 0 0) rfl _ _ 22 5 1 1 (.int .u8 0) rfl Try.underlying22 infoB rfl (by decide) rfl rfl (C5.out.row_nil 5 1) (sees_row st _ 1 _ _ _ _ _ C5.out) (bcells_one S) (by rw [Nat.zero_add]; unfold maxLen; omega) (by omega) ?_; intro Ab cb w9 h9 _; rw [Nat.zero_add, List.nil_append] at h9; rw [Nat.zero_add]; obtain ⟨bb, off, rfl, _⟩ := (sees_row st _ 1 _ _ _ _ _ h9).at hS0; replace h9 := h9.second; obtain ⟨Φ6, e6⟩ : ∃ X : HProp, X = sep (row 5 1 (.slice (some ⟨bb, off, none⟩) S.length cb) S.length (bcells S)) Φ5 := ⟨_, rfl⟩; rw [← e6] at h9; have U6 : Hid (∀ w, Has st Φ6 w → Has st Φ5 w) := Lib.hid (by rw [e6]; exact fun w h => h.right); have Sb : Hid (Sees st Φ6 1 (.slice (some ⟨bb, off, none⟩) S.length cb) S.length (bcells S)) := Lib.hid (by rw [e6]; exact sees_row st _ 1 _ _ _ _); have C6 := Lib.hid h9; clear h9 e6)
        | (have _k := C4; go_at_call 10; refine (HUT.out _ _ _ _ C4.out (by rw [HT.out]; exact (sees_row st _ 1 _ _ _ _).takeB 4 hS4)).mono ?_; rintro e w9 ⟨Az, cz, rfl, h9⟩; replace h9 := h9.second; obtain ⟨Φ5, e5⟩ : ∃ X : HProp, X = sep (row 5 1 (.slice Az 0 cz) 0 (bcells [])) Φ4 := ⟨_, rfl⟩; rw [← e5] at h9; have U5 : Hid (∀ w, Has st Φ5 w → Has st Φ4 w) := Lib.hid (by rw [e5]; exact fun w h => h.right); have C5 := Lib.hid h9; clear h9 e5)
        | (have _k := C3; go_at_call 10; refine (HUO.out _ _ _ _ C3.out (sees_row st _ 1 _ _ _ _)).mono ?_; rintro e w9 ⟨Ay, cy, rfl, h9⟩; replace h9 := h9.second; obtain ⟨Φ4, e4⟩ : ∃ X : HProp, X = sep (row 5 1 (.slice Ay 0 cy) 0 (bcells ([] : List UInt8))) Φ3 := ⟨_, rfl⟩; rw [← e4] at h9; have U4 : Hid (∀ w, Has st Φ4 w → Has st Φ3 w) := Lib.hid (by rw [e4]; exact fun w h => h.right); have C4 := Lib.hid h9; clear h9 e4)
        | (have _k := C2; go_at_call 10; refine (HUK.out _ _ _ _ C2.out (sees_row st _ 1 _ _ _ _)).mono ?_; rintro e w9 ⟨Ax, cx, rfl, h9⟩; replace h9 := h9.second; obtain ⟨Φ3, e3⟩ : ∃ X : HProp, X = sep (row 5 1 (.slice Ax b.length cx) b.length (bcells b)) Φ2 := ⟨_, rfl⟩; rw [← e3] at h9; have U3 : Hid (∀ w, Has st Φ3 w → Has st Φ2 w) := Lib.hid (by rw [e3]; exact fun w h => h.right); have Sx : Hid (Sees st Φ3 1 (.slice Ax b.length cx) b.length (bcells b)) := Lib.hid (by rw [e3]; exact sees_row st _ 1 _ _ _ _); have C3 := Lib.hid h9; clear h9 e3)
        | (have _k := C1; go_at_call 12; refine (HSE.out _ _ C1.out (SB.out.widen (fun w h => (U1.out _ h)))).mono ?_; rintro e w9 ⟨As, cs, rfl, h9⟩; obtain ⟨gs, rfl⟩ := h9.row_at (by omega); obtain ⟨Φ2, e2⟩ : ∃ X : HProp, X = Φ1 := ⟨_, rfl⟩; rw [← e2] at h9; have U2 : Hid (∀ w, Has st Φ2 w → Has st Φ1 w) := Lib.hid (by rw [e2]; exact fun w h => h); have C2 := Lib.hid h9; clear h9 e2)
        | (have _k := C0; go_at_call 9; refine (alive_any st Φ0 _ C0.out).mono ?_; rintro e w9 ⟨rfl, h9⟩; obtain ⟨Φ1, e1⟩ : ∃ X : HProp, X = Φ0 := ⟨_, rfl⟩; rw [← e1] at h9; have U1 : Hid (∀ w, Has st Φ1 w → Has st Φ0 w) := Lib.hid (by rw [e1]; exact fun w h => h); have C1 := Lib.hid h9; clear h9 e1)
        | ((first | (with_reducible refine wpList_plain rfl ?_) | ((with_reducible refine wpList_yes _ _ rfl ?_ ?_); (focus rfl))); intro _ hk; (first
          | (have _k := C6; refine opw_storeSl 5 _ _ rfl sizeB gs m (.int .u8 ((y ^^^ 1).toNat : Int)) rfl rfl rfl C6.out hmS (fun w9 h9 => hk _ _ ?_); rw [HST.out] at h9; obtain ⟨Φ7, e7⟩ : ∃ X : HProp, X = Φ6 := ⟨_, rfl⟩; rw [← e7] at h9; have U7 : Hid (∀ w, Has st Φ7 w → Has st Φ6 w) := Lib.hid (by rw [e7]; exact fun w h => h); have C7 := Lib.hid h9; clear h9 e7)
          | (refine opw_len _ _ _ Try.underlying22 A b.length c rfl rfl (hk _ _ ?_))
          | (refine opw_len _ _ _ Try.underlying22 (some ⟨gs, 0, none⟩) S.length cs rfl rfl (hk _ _ ?_))
          | (refine opw_len _ _ _ Try.underlying22 (some ⟨bb, off, none⟩) S.length cb rfl rfl (hk _ _ ?_))
          | (refine opw_cmp .gtr _ _ _ _ .i64 (b.length : Int) 300 false rfl rfl rfl HZ1.out (hk _ _ ?_))
          | (refine opw_min _ _ _ (S.length : Int) 4 4 rfl rfl rfl (by split <;> omega) (hk _ _ ?_))
          | (refine opw_slH 22 5 _ _ rfl Try.underlying22 sizeB (some ⟨gs, 0, none⟩) S.length cs rfl ((sees_row st _ 1 _ _ _ _ _ C4.out).le) .i64 4 rfl hS4 (hk _ _ ?_))
          | (refine opw_bin .sub _ _ _ _ .i64 (S.length : Int) 1 (m : Int) rfl rfl rfl B1.out (hk _ _ ?_))
          | (refine opw_bin .add _ _ _ _ .i64 (b.length : Int) 5 (S.length : Int) rfl rfl rfl B2.out (hk _ _ ?_))
          | (refine opw_index0 22 5 _ _ rfl Try.underlying22 sizeB gs S.length cs m rfl .i64 rfl hmS (hk _ _ ?_))
          | (refine opw_load1 5 _ rfl _ Try.underlying5 rfl ⟨gs, m, none⟩ (.int .u8 (y.toNat : Int)) rfl (row_cell C6.out G1.out) (hk _ _ ?_))
          | (refine opw_bits .xor _ _ _ _ .u8 (y.toNat : Int) 1 ((y ^^^ 1).toNat : Int) (.inr (.inr rfl)) rfl rfl rfl HX.out (hk _ _ ?_))
          | (refine opw_cmp .eql _ _ _ _ .i64 (S.length : Int) (S.length : Int) true rfl rfl rfl HEE.out (hk _ _ ?_))
          | (refine opw_cmp .eql _ _ _ _ .u8 (k.toNat : Int) (k.toNat : Int) true rfl rfl rfl HKK.out (hk _ _ ?_))
          | (refine opw_cmp .eql _ _ _ _ .u8 (k.toNat : Int) (o.toNat : Int) false rfl rfl rfl HKO.out (hk _ _ ?_))
          | (refine opw_indexSl 22 5 _ _ rfl Try.underlying22 sizeB bb off S.length cb 0 rfl .i64 rfl hS0 (hk _ _ ?_))
          | (refine opw_load1 5 _ rfl _ Try.underlying5 rfl ⟨bb, off + 0, none⟩ (.int .u8 (k.toNat : Int)) rfl (((Sees.right (Sb.out.widen (fun w h => (U7.out _ (U8.out _ (U9.out _ h)))))) _ C9.out).cell G2.out) (hk _ _ ?_))); simp only [Act.put, List.setIfInBounds_toArray, List.set_cons_zero, List.set_cons_succ]))
      go_ret
      exact ⟨rfl, (U1.out _ (U2.out _ (U3.out _ (U4.out _ (U5.out _ (U6.out _ (U7.out _ (U8.out _ (U9.out _ C9.out.right)))))))))⟩
  · have HZ1 : Hid (cmpZ .gtr (b.length : Int) 300 = some true) := Lib.hid (by simp only [cmpZ]; simp; omega)
    clear hb3
    go_enter Try.func6, Try.ntmps6
    go_wp2_with (first
      | (have _k := C0; go_at_call 9; refine (alive_any st Φ0 _ C0.out).mono ?_; rintro e w9 ⟨rfl, h9⟩; obtain ⟨Φ1, e1⟩ : ∃ X : HProp, X = Φ0 := ⟨_, rfl⟩; rw [← e1] at h9; have U1 : Hid (∀ w, Has st Φ1 w → Has st Φ0 w) := Lib.hid (by rw [e1]; exact fun w h => h); have C1 := Lib.hid h9; clear h9 e1)
      | ((first | (with_reducible refine wpList_plain rfl ?_) | ((with_reducible refine wpList_yes _ _ rfl ?_ ?_); (focus rfl))); intro _ hk; (first
        | (refine opw_len _ _ _ Try.underlying22 A b.length c rfl rfl (hk _ _ ?_))
        | (refine opw_cmp .gtr _ _ _ _ .i64 (b.length : Int) 300 true rfl rfl rfl HZ1.out (hk _ _ ?_))); simp only [Act.put, List.setIfInBounds_toArray, List.set_cons_zero, List.set_cons_succ]))
    go_ret
    exact ⟨rfl, (U1.out _ C1.out)⟩
end Go.Proofs.Ytbiacehmfbopfaa
