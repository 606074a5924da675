/-
  coldstorelaw04.alive.
-/
import Derived.Test.YtbiacehmfbopfaaSameL
import Derived.Test.YtbiacehmfbopfaaMark
namespace Go.Proofs.Ytbiacehmfbopfaa
open Go.RowKit Go.Sl Go.Crc
set_option linter.unusedVariables false
set_option linter.unusedSimpArgs false
abbrev d9 : List UInt8 := [49, 50, 51, 52, 53, 54, 55, 56, 57]
abbrev ab : List UInt8 := [97, 98]
abbrev la : List UInt8 := [97]
abbrev l1 : List UInt8 := [1]
theorem crc_d9 : crc d9 = 3808858755 := by decide +kernel
theorem crc_e : crc [] = 0 := by decide +kernel
theorem un_7 : unsealR 7 (sealB 7 ab) = (ab, 0) := by decide +kernel
theorem un_8 : unsealR 8 (sealB 7 ab) = ([], 21) := by decide +kernel
theorem un_e : unsealR 7 [] = ([], 20) := by decide +kernel
theorem chain_2 : (chainB [la, []]).length = 17 := by decide +kernel
theorem pre_2 : Pre (chainB [la, []] ++ l1) [la, []] l1 := ⟨linkB [] ++ l1, by decide +kernel, l1, by decide +kernel, rfl⟩
theorem pre_n : parse1 l1 = none := by decide +kernel
set_option maxRecDepth 100000 in
set_option maxHeartbeats 4000000 in
theorem alive_any (st : World) (R : HProp) (w : World) (h : Has st R w) :
    Calls Try.prog 9 #[] w fun e w' => e = .returned (.bool true) ∧ Has st R w' := by
  obtain ⟨Φ0, e0⟩ : ∃ X, X = R := ⟨_, rfl⟩
  rw [← e0] at h ⊢
  clear e0
  have C0 := Lib.hid h
  clear h
  obtain ⟨S, hS⟩ : ∃ S, S = sealB 7 ab := ⟨_, rfl⟩
  obtain ⟨C, hC⟩ : ∃ C, C = chainB [la, []] := ⟨_, rfl⟩
  have HS1 : Hid (∀ v w, Rd 1 w v 9 (bcells d9) → Calls Try.prog 13 #[v] w fun e w' => e = .returned (.int .u32 3808858755) ∧ w = w') := Lib.hid fun v w h => by
    have := crc_any d9 v w h
    rw [crc_d9] at this; exact this
  have HS0 : Hid (∀ w, Calls Try.prog 13 #[.slice none 0 0] w fun e w' => e = .returned (.int .u32 0) ∧ w = w') := Lib.hid fun w => by
    have := crc_any [] (.slice none 0 0) w (Rd.nil 1 w)
    rw [crc_e] at this; exact this
  have HSE : Hid (∀ Φ v w, Has st Φ w → Sees st Φ 1 v 2 (bcells ab) → Calls Try.prog 12 #[.int .u8 7, v] w fun e w' => ∃ A c, e = .returned (.slice A S.length c) ∧ Has st (sep (row 5 1 (.slice A S.length c) S.length (bcells S)) Φ) w') := Lib.hid fun Φ v w h hs => by rw [hS]; exact seal_any st Φ 7 ab v w h hs (by decide)
  have hSl : S.length = 7 := by rw [hS]; exact sealB_length _ _
  have hCl : C.length = 17 := by rw [hC]; exact chain_2
  have HU7 : Hid (∀ Φ A c w, Has st Φ w → Sees st Φ 1 (.slice A S.length c) S.length (bcells S) → Calls Try.prog 10 #[.int .u8 7, .slice A S.length c] w fun e w' => ∃ A c, e = .returned (.tuple #[.slice A 2 c, .int .i64 0]) ∧ Has st (sep (row 5 1 (.slice A 2 c) 2 (bcells ab)) Φ) w') := Lib.hid fun Φ A c w h hs => by
    have := unseal_any st Φ 7 S A c w h hs (by rw [hSl]; decide)
    rw [show unsealR 7 S = (ab, 0) by rw [hS]; exact un_7] at this; exact this
  have HU8 : Hid (∀ Φ A c w, Has st Φ w → Sees st Φ 1 (.slice A S.length c) S.length (bcells S) → Calls Try.prog 10 #[.int .u8 8, .slice A S.length c] w fun e w' => ∃ A c, e = .returned (.tuple #[.slice A 0 c, .int .i64 21]) ∧ Has st (sep (row 5 1 (.slice A 0 c) 0 (bcells [])) Φ) w') := Lib.hid fun Φ A c w h hs => by
    have := unseal_any st Φ 8 S A c w h hs (by rw [hSl]; decide)
    rw [show unsealR 8 S = ([], 21) by rw [hS]; exact un_8] at this; exact this
  have HUE : Hid (∀ Φ w, Has st Φ w → Calls Try.prog 10 #[.int .u8 7, .slice none 0 0] w fun e w' => ∃ A c, e = .returned (.tuple #[.slice A 0 c, .int .i64 20]) ∧ Has st (sep (row 5 1 (.slice A 0 c) 0 (bcells [])) Φ) w') := Lib.hid fun Φ w h => by
    have := unseal_any st Φ 7 [] none 0 w h (sees_nil st Φ) (by decide)
    rw [un_e] at this; exact this
  have HCH : Hid (∀ Φ v w, Has st Φ w → SeesL st Φ v [la, []] → Calls Try.prog 18 #[v] w fun e w' => ∃ A c, e = .returned (.slice A C.length c) ∧ Has st (sep (row 5 1 (.slice A C.length c) C.length (bcells C)) Φ) w') := Lib.hid fun Φ v w h hs => by rw [hC]; exact chain_any st Φ [la, []] v w h hs (by rw [chain_2]; decide)
  obtain ⟨D, hD⟩ : ∃ D, D = C ++ l1 := ⟨_, rfl⟩
  have HUC : Hid (∀ Φ v w, Has st Φ w → Sees st Φ 1 v D.length (bcells D) → Calls Try.prog 19 #[v] w fun e w' => ∃ G A c B d, e = .returned (.tuple #[.slice A 2 c, .slice B 1 d]) ∧ Has st (sep G Φ) w') := Lib.hid fun Φ v w h hs => by
    have := unchain_any st Φ D v [la, []] l1 (by rw [hD, hC]; exact pre_2) pre_n w h hs (by rw [hD, List.length_append, hCl]; decide)
    exact this.mono fun e w' ⟨G, A, c, B, d, he, _, _, h⟩ => ⟨G, A, c, B, d, he, h⟩
  have HZC : Hid (cmpZ .eql (C.length : Int) 17 = some true) := Lib.hid (by rw [hCl]; rfl)
  have HZS : Hid (cmpZ .eql (S.length : Int) 7 = some true) := Lib.hid (by rw [hSl]; rfl)
  have hC17 : C.length ≤ 17 := by omega
  have HAP : Hid (bcells C ++ bcells l1 = bcells D) := Lib.hid (by rw [hD]; exact bcells_append C l1)
  have HLN : Hid (C.length + 1 = D.length) := Lib.hid (by rw [hD]; simp)
  clear hS hC hD hSl hCl
  go_enter Try.func9, Try.ntmps9
  go_wp2_with (first
    | (have _k := C14; go_at_call 19; refine (HUC.out _ _ _ C14.out Sj.out).mono ?_; rintro e w9 ⟨G, Ap, cp, Bp, dp, rfl, h9⟩; obtain ⟨Φ15, e15⟩ : ∃ X : HProp, X = sep G Φ14 := ⟨_, rfl⟩; rw [← e15] at h9; have U15 : Hid (∀ w, Has st Φ15 w → Has st Φ14 w) := Lib.hid (by rw [e15]; exact fun w h => h.right); have C15 := Lib.hid h9; clear h9 e15)
    | (have _k := C13; refine wp_append (v := .slice Ah C.length ch) rfl _ _ 22 5 1 1 (.int .u8 0) rfl Try.underlying22 infoB rfl (by decide) rfl rfl (BK.out _ C13.out) (Se.out _ C13.out) (bcells_one l1) (by show C.length + 1 ≤ _; unfold maxLen; omega) (by show (C.length + 1) * 1 ≤ _; omega) ?_; intro Aj cj w9 h9 _; rw [HAP.out] at h9; replace h9 : Has st (sep (row 5 1 (.slice Aj D.length cj) D.length (bcells D)) Φ11) w9 := (by rw [← HLN.out]; exact h9.drop2); obtain ⟨Φ14, e14⟩ : ∃ X : HProp, X = sep (row 5 1 (.slice Aj D.length cj) D.length (bcells D)) Φ11 := ⟨_, rfl⟩; rw [← e14] at h9; have U14 : Hid (∀ w, Has st Φ14 w → Has st Φ11 w) := Lib.hid (by rw [e14]; exact fun w h => h.right); have Sj : Hid (Sees st Φ14 1 (.slice Aj D.length cj) D.length (bcells D)) := Lib.hid (by rw [e14]; exact sees_row st _ 1 _ _ _ _); have C14 := Lib.hid h9; clear h9 e14; show wpList _ _ _ _ (Act.put _ _ (.slice Aj (C.length + 1) cj)) _; rw [HLN.out])
    | (have _k := C11; go_at_call 18; refine (HCH.out _ _ _ C11.out Sd.out).mono ?_; rintro e w9 ⟨Ah, ch, rfl, h9⟩; obtain ⟨Φ12, e12⟩ : ∃ X : HProp, X = sep (row 5 1 (.slice Ah C.length ch) C.length (bcells C)) Φ11 := ⟨_, rfl⟩; rw [← e12] at h9; have U12 : Hid (∀ w, Has st Φ12 w → Has st Φ11 w) := Lib.hid (by rw [e12]; exact fun w h => h.right); have BR : Hid (∀ {X : HProp} w, Has st (sep X Φ12) w → Has st (sep (row 5 1 (.slice Ah C.length ch) C.length (bcells C)) (sep X Φ11)) w) := Lib.hid (by rw [e12]; exact fun w h => h.second); have Sh : Hid (Sees st Φ12 1 (.slice Ah C.length ch) C.length (bcells C)) := Lib.hid (by rw [e12]; exact sees_row st _ 1 _ _ _ _); have C12 := Lib.hid h9; clear h9 e12)
    | (have _k := C7; go_at_call 10; refine (HUE.out _ _ C7.out).mono ?_; rintro e w9 ⟨Ax, cx, rfl, h9⟩; obtain ⟨Φ8, e8⟩ : ∃ X : HProp, X = sep (row 5 1 (.slice Ax 0 cx) 0 (bcells [])) Φ7 := ⟨_, rfl⟩; rw [← e8] at h9; have U8 : Hid (∀ w, Has st Φ8 w → Has st Φ7 w) := Lib.hid (by rw [e8]; exact fun w h => h.right); have C8 := Lib.hid h9; clear h9 e8)
    | (have _k := C6; go_at_call 10; refine (HU8.out _ _ _ _ C6.out (Ss.out.widen (fun w h => (U6.out _ h)))).mono ?_; rintro e w9 ⟨Av, cv, rfl, h9⟩; obtain ⟨Φ7, e7⟩ : ∃ X : HProp, X = sep (row 5 1 (.slice Av 0 cv) 0 (bcells [])) Φ6 := ⟨_, rfl⟩; rw [← e7] at h9; have U7 : Hid (∀ w, Has st Φ7 w → Has st Φ6 w) := Lib.hid (by rw [e7]; exact fun w h => h.right); have C7 := Lib.hid h9; clear h9 e7)
    | (have _k := C5; go_at_call 10; refine (HU7.out _ _ _ _ C5.out Ss.out).mono ?_; rintro e w9 ⟨Au, cu, rfl, h9⟩; obtain ⟨Φ6, e6⟩ : ∃ X : HProp, X = sep (row 5 1 (.slice Au 2 cu) 2 (bcells ab)) Φ5 := ⟨_, rfl⟩; rw [← e6] at h9; have U6 : Hid (∀ w, Has st Φ6 w → Has st Φ5 w) := Lib.hid (by rw [e6]; exact fun w h => h.right); have Su : Hid (Sees st Φ6 1 (.slice Au 2 cu) 2 (bcells ab)) := Lib.hid (by rw [e6]; exact sees_row st _ 1 _ _ _ _); have C6 := Lib.hid h9; clear h9 e6)
    | (have _k := C4; go_at_call 12; refine (HSE.out _ _ _ C4.out Sb.out).mono ?_; rintro e w9 ⟨As, cs, rfl, h9⟩; obtain ⟨Φ5, e5⟩ : ∃ X : HProp, X = sep (row 5 1 (.slice As S.length cs) S.length (bcells S)) Φ4 := ⟨_, rfl⟩; rw [← e5] at h9; have U5 : Hid (∀ w, Has st Φ5 w → Has st Φ4 w) := Lib.hid (by rw [e5]; exact fun w h => h.right); have Ss : Hid (Sees st Φ5 1 (.slice As S.length cs) S.length (bcells S)) := Lib.hid (by rw [e5]; exact sees_row st _ 1 _ _ _ _); have C5 := Lib.hid h9; clear h9 e5)
    | (have _k := C2; go_at_call 13; with_reducible refine (HS0.out _).mono ?_; rintro e w9 ⟨rfl, rfl⟩)
    | (have _k := C2; go_at_call 13; refine (HS1.out _ _ (Sa.out _ C2.out)).mono ?_; rintro e w9 ⟨rfl, rfl⟩)
    | ((first | (with_reducible refine wpList_plain rfl ?_) | ((with_reducible refine wpList_yes _ _ rfl ?_ ?_); (focus rfl))); intro _ hk; (first
      | (have _k := C12; refine opw_lit 22 1 _ [(0, .int .u8 1)] 5 (bcells l1).toArray rfl rfl (by kernel_rfl) C12.out (fun qe w9 h9 => hk _ _ ?_); obtain ⟨Φ13, e13⟩ : ∃ X : HProp, X = sep (blk qe (.cells (bcells l1).toArray 5 (0, 0))) Φ12 := ⟨_, rfl⟩; rw [← e13] at h9; have U13 : Hid (∀ w, Has st Φ13 w → Has st Φ12 w) := Lib.hid (by rw [e13]; exact fun w h => h.right); have BK : Hid (∀ w, Has st Φ13 w → Has st (sep (row 5 1 (.slice Ah C.length ch) C.length (bcells C)) (sep (blk qe (.cells (bcells l1).toArray 5 (0, 0))) Φ11)) w) := Lib.hid (by rw [e13]; exact fun w h => BR.out w h); have Se : Hid (Sees st Φ13 1 (.slice (some ⟨qe, 0, none⟩) 1 1) l1.length (bcells l1)) := Lib.hid (by rw [e13]; exact (fun w h => rd_bytes (l := l1) h (by show 1 ≤ _; decide))); have C13 := Lib.hid h9; clear h9 e13)
      | (have _k := C10; refine opw_lit 35 2 _ [(0, .slice (some ⟨qc, 0, none⟩) 1 1), (1, .slice none 0 0)] 22 #[.slice (some ⟨qc, 0, none⟩) 1 1, .slice none 0 0] rfl rfl (by kernel_rfl) C10.out (fun qd w9 h9 => hk _ _ ?_); obtain ⟨Φ11, e11⟩ : ∃ X : HProp, X = sep (blk qd (.cells #[.slice (some ⟨qc, 0, none⟩) 1 1, .slice none 0 0] 22 (0, 0))) Φ10 := ⟨_, rfl⟩; rw [← e11] at h9; have U11 : Hid (∀ w, Has st Φ11 w → Has st Φ10 w) := Lib.hid (by rw [e11]; exact fun w h => h.right); have Sd : Hid (SeesL st Φ11 (.slice (some ⟨qd, 0, none⟩) 2 2) [la, []]) := Lib.hid (by rw [e11]; exact seesL_pair st _ qd _ _ _ _ 1 0 la [] Sc.out (sees_nil st _)); have C11 := Lib.hid h9; clear h9 e11)
      | (have _k := C9; refine opw_mark 22 5 _ rfl qc 1 1 rfl Try.underlying22 Try.underlying5 (Bc.out _ C9.out) (fun w9 h9 => hk _ _ ?_); obtain ⟨Φ10, e10⟩ : ∃ X : HProp, X = sep (blk qc (.cells (bcells la).toArray 5 ((bcells la).toArray.size, (bcells la).toArray.size + 1))) Φ8 := ⟨_, rfl⟩; rw [← e10] at h9; have V10 : Hid (∀ w, Has st Φ10 w → Has st Φ8 w) := Lib.hid (by rw [e10]; exact fun w h => h.right); have Sc : Hid (Sees st Φ10 1 (.slice (some ⟨qc, 0, none⟩) 1 1) la.length (bcells la)) := Lib.hid (by rw [e10]; exact fun w h => rd_bytes (l := la) h (by show 1 ≤ _; decide)); have C10 := Lib.hid h9; clear h9 e10)
      | (have _k := C8; refine opw_lit 22 1 _ [(0, .int .u8 97)] 5 (bcells la).toArray rfl rfl (by kernel_rfl) C8.out (fun qc w9 h9 => hk _ _ ?_); obtain ⟨Φ9, e9⟩ : ∃ X : HProp, X = sep (blk qc (.cells (bcells la).toArray 5 (0, 0))) Φ8 := ⟨_, rfl⟩; rw [← e9] at h9; have U9 : Hid (∀ w, Has st Φ9 w → Has st Φ8 w) := Lib.hid (by rw [e9]; exact fun w h => h.right); have Bc : Hid (∀ w, Has st Φ9 w → Has st (sep (blk qc (.cells (bcells la).toArray 5 (0, 0))) Φ8) w) := Lib.hid (by rw [e9]; exact (fun w h => h)); have C9 := Lib.hid h9; clear h9 e9)
      | (have _k := C3; refine opw_mark 22 5 _ rfl qb 2 2 rfl Try.underlying22 Try.underlying5 (Bb.out _ C3.out) (fun w9 h9 => hk _ _ ?_); obtain ⟨Φ4, e4⟩ : ∃ X : HProp, X = sep (blk qb (.cells (bcells ab).toArray 5 ((bcells ab).toArray.size, (bcells ab).toArray.size + 1))) Φ2 := ⟨_, rfl⟩; rw [← e4] at h9; have V4 : Hid (∀ w, Has st Φ4 w → Has st Φ2 w) := Lib.hid (by rw [e4]; exact fun w h => h.right); have Sb : Hid (Sees st Φ4 1 (.slice (some ⟨qb, 0, none⟩) 2 2) ab.length (bcells ab)) := Lib.hid (by rw [e4]; exact fun w h => rd_bytes (l := ab) h (by show 2 ≤ _; decide)); have C4 := Lib.hid h9; clear h9 e4)
      | (have _k := C2; refine opw_lit 22 2 _ [(0, .int .u8 97), (1, .int .u8 98)] 5 (bcells ab).toArray rfl rfl (by kernel_rfl) C2.out (fun qb w9 h9 => hk _ _ ?_); obtain ⟨Φ3, e3⟩ : ∃ X : HProp, X = sep (blk qb (.cells (bcells ab).toArray 5 (0, 0))) Φ2 := ⟨_, rfl⟩; rw [← e3] at h9; have U3 : Hid (∀ w, Has st Φ3 w → Has st Φ2 w) := Lib.hid (by rw [e3]; exact fun w h => h.right); have Bb : Hid (∀ w, Has st Φ3 w → Has st (sep (blk qb (.cells (bcells ab).toArray 5 (0, 0))) Φ2) w) := Lib.hid (by rw [e3]; exact (fun w h => h)); have C3 := Lib.hid h9; clear h9 e3)
      | (have _k := C1; refine opw_mark 22 5 _ rfl qa 9 9 rfl Try.underlying22 Try.underlying5 (Ba.out _ C1.out) (fun w9 h9 => hk _ _ ?_); obtain ⟨Φ2, e2⟩ : ∃ X : HProp, X = sep (blk qa (.cells (bcells d9).toArray 5 ((bcells d9).toArray.size, (bcells d9).toArray.size + 1))) Φ0 := ⟨_, rfl⟩; rw [← e2] at h9; have V2 : Hid (∀ w, Has st Φ2 w → Has st Φ0 w) := Lib.hid (by rw [e2]; exact fun w h => h.right); have Sa : Hid (Sees st Φ2 1 (.slice (some ⟨qa, 0, none⟩) 9 9) d9.length (bcells d9)) := Lib.hid (by rw [e2]; exact fun w h => rd_bytes (l := d9) h (by show 9 ≤ _; decide)); have C2 := Lib.hid h9; clear h9 e2)
      | (have _k := C0; refine opw_lit 22 9 _ [(0, .int .u8 49), (1, .int .u8 50), (2, .int .u8 51), (3, .int .u8 52), (4, .int .u8 53), (5, .int .u8 54), (6, .int .u8 55), (7, .int .u8 56), (8, .int .u8 57)] 5 (bcells d9).toArray rfl rfl (by kernel_rfl) C0.out (fun qa w9 h9 => hk _ _ ?_); obtain ⟨Φ1, e1⟩ : ∃ X : HProp, X = sep (blk qa (.cells (bcells d9).toArray 5 (0, 0))) Φ0 := ⟨_, rfl⟩; rw [← e1] at h9; have U1 : Hid (∀ w, Has st Φ1 w → Has st Φ0 w) := Lib.hid (by rw [e1]; exact fun w h => h.right); have Ba : Hid (∀ w, Has st Φ1 w → Has st (sep (blk qa (.cells (bcells d9).toArray 5 (0, 0))) Φ0) w) := Lib.hid (by rw [e1]; exact (fun w h => h)); have C1 := Lib.hid h9; clear h9 e1)
      | (refine opw_len _ _ _ Try.underlying22 As S.length cs rfl rfl (hk _ _ ?_))
      | (refine opw_len _ _ _ Try.underlying22 Ah C.length ch rfl rfl (hk _ _ ?_))
      | (refine opw_len _ _ _ Try.underlying35 Ap 2 cp rfl rfl (hk _ _ ?_))
      | (refine opw_len _ _ _ Try.underlying22 Bp 1 dp rfl rfl (hk _ _ ?_))
      | (refine opw_cmp .eql _ _ _ _ .i64 (S.length : Int) 7 true rfl rfl rfl HZS.out (hk _ _ ?_))
      | (refine opw_cmp .eql _ _ _ _ .i64 (C.length : Int) 17 true rfl rfl rfl HZC.out (hk _ _ ?_))
      | (refine opw_toStr _ _ 5 _ Try.underlying22 Try.underlying5 Try.underlying9 rfl (.slice Au 2 cu) 2 ab rfl ((Su.out.widen (fun w h => (U7.out _ (U8.out _ (V10.out _ (U11.out _ (U14.out _ (U15.out _ h)))))))) _ C15.out) (hk _ _ ?_))
      | (refine opw_cmpStr .eql _ _ _ _ ab ab true rfl rfl rfl rfl (hk _ _ ?_))); simp only [Act.put, List.setIfInBounds_toArray, List.set_cons_zero, List.set_cons_succ]))
  go_ret
  exact ⟨rfl, (V2.out _ (V4.out _ (U5.out _ (U6.out _ (U7.out _ (U8.out _ (V10.out _ (U11.out _ (U14.out _ (U15.out _ C15.out))))))))))⟩
end Go.Proofs.Ytbiacehmfbopfaa
