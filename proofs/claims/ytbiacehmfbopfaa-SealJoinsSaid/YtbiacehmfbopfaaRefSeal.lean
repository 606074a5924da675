/-
  coldstoreref04.Seal, Unseal.
-/
import Derived.Test.YtbiacehmfbopfaaRefSum
import Derived.Test.YtbiacehmfbopfaaRef
namespace Go.Proofs.Ytbiacehmfbopfaa
open Go.RowKit Go.Sl Go.Crc
set_option linter.unusedVariables false
set_option linter.unusedSimpArgs false
/-- a literal of two slices of bytes -/
theorem seesL_pair (st : World) (R : HProp) (g : Nat) (t : TypeId) (f : Nat × Nat) (A B : Option Addr) (c d : Nat) (l m : List UInt8) (hl : Sees st R 1 (.slice A l.length c) l.length (bcells l)) (hm : Sees st R 1 (.slice B m.length d) m.length (bcells m)) :
    SeesL st (sep (blk g (.cells #[.slice A l.length c, .slice B m.length d] t f)) R) (.slice (some ⟨g, 0, none⟩) 2 2) [l, m] := by
  refine ⟨[.slice A l.length c, .slice B m.length d], fun w hw => ⟨rfl, _, 2, rfl, Nat.le_refl _, by decide, .inr ⟨_, rfl, fun j u hu => ⟨rfl, ?_⟩⟩⟩, ?_⟩
  · show w.cell? ⟨g, 0 + j, none⟩ = _
    rw [Nat.zero_add, hw.cell]
    rw [← hu]; simp
  · intro i hi
    match i, hi with
    | 0, _ => exact ⟨A, c, rfl, hl.right⟩
    | 1, _ => exact ⟨B, d, rfl, hm.right⟩
set_option maxRecDepth 100000 in
set_option maxHeartbeats 2000000 in
theorem refseal_any (st : World) (R : HProp) (k : UInt8) (l : List UInt8) (v : Value) (w : World) (h : Has st R w) (hs : Sees st R 1 v l.length (bcells l)) (hb : l.length ≤ 1000000) :
    Calls Try.prog 16 #[.int .u8 (k.toNat : Int), v] w fun e w' => ∃ A c, e = .returned (.slice A (sealB k l).length c) ∧ Has st (sep (row 5 1 (.slice A (sealB k l).length c) (sealB k l).length (bcells (sealB k l))) R) w' := by
  obtain ⟨Av, cv, rfl⟩ := hs.form h
  obtain ⟨X, hX⟩ : ∃ X, X = crc (k :: l) := ⟨_, rfl⟩
  obtain ⟨L1, hL1⟩ : ∃ L1, L1 = k :: l := ⟨_, rfl⟩
  obtain ⟨E, hE⟩ : ∃ E, E = le X.toNat (held 4) := ⟨_, rfl⟩
  obtain ⟨S, hS⟩ : ∃ S, S = sealB k l := ⟨_, rfl⟩
  rw [← hS]
  have hc64 := conv_64 X
  have hL1l : L1.length = l.length + 1 := by rw [hL1]; rfl
  have hEl : E.length = 4 := by rw [hE, le_length]; rfl
  have hf1 : [[k], l].flatten = L1 := by rw [hL1]; simp
  have hf2 : [L1, E].flatten = S := by rw [hS, hL1, hE, hX]; simp [sealB, show held 4 = 4 from rfl]
  have hj1 : ∀ RR w v, Has st RR w → SeesL st RR v [[k], l] → Calls Try.prog 25 #[v] w fun e w' => ∃ A c, e = .returned (.slice A L1.length c) ∧ Has st (sep (row 5 1 (.slice A L1.length c) L1.length (bcells L1)) RR) w' := fun RR w v h hv => by
    have := join_any st RR v [[k], l] w h hv (by rw [hf1, hL1l]; omega)
    rw [hf1] at this; exact this
  have hj2 : ∀ RR w v, Has st RR w → SeesL st RR v [L1, E] → Calls Try.prog 25 #[v] w fun e w' => ∃ A c, e = .returned (.slice A S.length c) ∧ Has st (sep (row 5 1 (.slice A S.length c) S.length (bcells S)) RR) w' := fun RR w v h hv => by
    have := join_any st RR v [L1, E] w h hv (by rw [hf2, hS, sealB_length]; omega)
    rw [hf2] at this; exact this
  have hn : ∀ RR w, Has st RR w → Calls Try.prog 26 #[.int .u64 (X.toNat : Int), .int .i64 4] w fun e w' => ∃ A c, e = .returned (.slice A E.length c) ∧ Has st (sep (row 5 1 (.slice A E.length c) E.length (bcells E)) RR) w' := fun RR w h => by
    have := refNum_any st RR X.toNat 4 w (by have := X.toNat_lt; omega) h
    rw [← hE] at this; exact this
  have hsum : ∀ v w, Rd 1 w v L1.length (bcells L1) → Calls Try.prog 14 #[v] w fun e w' => e = .returned (.int .u32 (X.toNat : Int)) ∧ w = w' := fun v w hr => by
    have := refcrc_any L1 v w hr (by omega)
    rw [show crc L1 = X by rw [hX, hL1]] at this; exact this
  have HS := Lib.hid hs
  have HH := Lib.hid h
  have HC := Lib.hid hc64
  have HJ1 := Lib.hid hj1
  have HJ2 := Lib.hid hj2
  have HN := Lib.hid hn
  have HSM := Lib.hid hsum
  clear hs h hc64 hX hL1 hE hS hL1l hEl hf1 hf2 hj1 hj2 hn hsum
  go_enter Try.func16, Try.ntmps16
  go_wp2_with (first
    | (have _k := H6; go_at_call 25; refine (HJ2.out _ _ _ H6.out (seesL_pair st _ q6 _ _ A3 A5 c3 c5 L1 E (sees_row st _ 1 _ _ _ _).right (sees_row st _ 1 _ _ _ _))).mono ?_; rintro e w7 ⟨A7, c7, rfl, h7⟩; have H7 := Lib.hid h7; clear h7)
    | (go_at_call 25; refine (HJ1.out _ _ _ H2.out (seesL_pair st _ q2 _ _ (some ⟨q1, 0, none⟩) Av 1 cv [k] l (fun w hw => rd_bytes (l := [k]) hw (by show 1 ≤ _; decide)) HS.out.right)).mono ?_; rintro e w3 ⟨A3, c3, rfl, h3⟩; have H3 := Lib.hid h3; clear h3)
    | (go_at_call 14; refine (HSM.out _ _ (sees_row st _ 1 _ _ _ _ _ H3.out)).mono ?_; rintro e w4 ⟨rfl, rfl⟩)
    | (go_at_call 26; refine (HN.out _ _ H3.out).mono ?_; rintro e w5 ⟨A5, c5, rfl, h5⟩; have H5 := Lib.hid h5; clear h5)
    | ((first | (with_reducible refine wpList_plain rfl ?_) | ((with_reducible refine wpList_yes _ _ rfl ?_ ?_); (focus rfl))); intro _ hk; (first
      | (have _k := H5; refine opw_lit 35 2 _ [(0, .slice A3 L1.length c3), (1, .slice A5 E.length c5)] 22 #[.slice A3 L1.length c3, .slice A5 E.length c5] rfl rfl (by kernel_rfl) H5.out (fun q6 w6 h6 => hk _ _ ?_); have H6 := Lib.hid h6; clear h6)
      | (refine opw_lit 22 1 _ [(0, .int .u8 (k.toNat : Int))] 5 (bcells [k]).toArray rfl rfl (by kernel_rfl) HH.out (fun q1 w1 h1 => hk _ _ ?_); have H1 := Lib.hid h1; clear h1)
      | (refine opw_lit 35 2 _ [(0, .slice (some ⟨q1, 0, none⟩) 1 1), (1, .slice Av l.length cv)] 22 #[.slice (some ⟨q1, 0, none⟩) 1 1, .slice Av l.length cv] rfl rfl (by kernel_rfl) H1.out (fun q2 w2 h2 => hk _ _ ?_); have H2 := Lib.hid h2; clear h2)
      | (refine opw_conv _ _ _ .u32 .u64 (X.toNat : Int) (X.toNat : Int) rfl Try.underlying30 Try.underlying49 rfl HC.out (hk _ _ ?_))); simp only [Act.put, List.setIfInBounds_toArray, List.set_cons_zero, List.set_cons_succ]))
  go_ret
  refine ⟨A7, c7, rfl, ?_⟩
  exact H7.out.drop2.drop2.drop2.drop2.drop2
set_option maxRecDepth 100000 in
set_option maxHeartbeats 4000000 in
theorem refunseal_any (st : World) (R : HProp) (k : UInt8) (b : List UInt8) (A0 : Option Addr) (c0 : Nat) (w : World) (h : Has st R w) (hs : Sees st R 1 (.slice A0 b.length c0) b.length (bcells b)) (hb : b.length ≤ 1000000) :
    Calls Try.prog 11 #[.int .u8 (k.toNat : Int), .slice A0 b.length c0] w fun e w' => ∃ A c, e = .returned (.tuple #[.slice A (unsealR k b).1.length c, .int .i64 (unsealR k b).2]) ∧ Sees st R 1 (.slice A (unsealR k b).1.length c) (unsealR k b).1.length (bcells (unsealR k b).1) ∧ Has st R w' := by
  have hbc := (hs w h).le
  by_cases hl : b.length < 5
  · have hu : unsealR k b = ([], 20) := by unfold unsealR; rw [if_pos hl]
    have HU := Lib.hid hu
    have HZ : Hid (cmpZ .lss (b.length : Int) 5 = some true) := Lib.hid (by simp only [cmpZ]; simp; omega)
    have HH := Lib.hid h
    clear hu h hs hl hbc
    go_enter Try.func11, Try.ntmps11
    go_wp2_with (first
      | (fail)
      | ((first | (with_reducible refine wpList_plain rfl ?_) | ((with_reducible refine wpList_yes _ _ rfl ?_ ?_); (focus rfl))); intro _ hk; (first
        | (refine opw_len _ _ _ Try.underlying22 A0 b.length c0 rfl rfl (hk _ _ ?_))
        | (refine opw_cmp .lss _ _ _ _ .i64 (b.length : Int) 5 true rfl rfl rfl HZ.out (hk _ _ ?_))); simp only [Act.put, List.setIfInBounds_toArray, List.set_cons_zero, List.set_cons_succ]))
    go_ret2
    rw [HU.out]
    exact ⟨none, 0, rfl, sees_nil st R, HH.out⟩
  · have HZ : Hid (cmpZ .lss (b.length : Int) 5 = some false) := Lib.hid (by simp only [cmpZ]; simp; omega)
    obtain ⟨m, hm⟩ : ∃ m, m = b.length - 4 := ⟨_, rfl⟩
    have hm1 : 1 ≤ m := by omega
    have hmb : m ≤ b.length := by omega
    have b1 : binZ .sub .i64 (b.length : Int) 4 = some (m : Int) := by rw [hm]; exact bin_sub b.length 4 (by omega) (by omega)
    obtain ⟨x, hx⟩ : ∃ x, x = b.getD 0 0 := ⟨_, rfl⟩
    obtain ⟨I, hI⟩ : ∃ I, I = innerB b := ⟨_, rfl⟩
    have hIl : I.length = m - 1 := by rw [hI, innerB_length]; omega
    obtain ⟨S, hS⟩ : ∃ S, S = sealB x I := ⟨_, rfl⟩
    have hSl : S.length = b.length := by rw [hS, sealB_length, hIl]; omega
    have hsI : Sees st R 1 (.slice (subA 1 A0 1 c0) (m - 1) (c0 - 1)) I.length (bcells I) := by
      have h1 := hs.midB 1 m hm1 hmb
      rw [hIl, hI]; unfold innerB; rw [← hm, List.drop_take]; exact h1
    obtain ⟨bb, off, hA, hcell⟩ := (hs w h).at (by omega)
    subst hA
    have hg0 : b[0]? = some x := by rw [hx, List.getD_eq_getElem?_getD, List.getElem?_eq_getElem (show 0 < b.length by omega)]; rfl
    have hc0 : w.cell? ⟨bb, off + 0, none⟩ = some (.int .u8 (x.toNat : Int)) := (hs w h).cell (by simp [bcells, bcell, hg0])
    have hc0' : ∀ w, Has st R w → w.cell? ⟨bb, off + 0, none⟩ = some (.int .u8 (x.toNat : Int)) := fun w h => (hs w h).cell (by simp [bcells, bcell, hg0])
    have hse : ∀ w, Has st R w → Calls Try.prog 16 #[.int .u8 (x.toNat : Int), .slice (subA 1 (some ⟨bb, off, none⟩) 1 c0) (m - 1) (c0 - 1)] w fun e w' => ∃ A c, e = .returned (.slice A S.length c) ∧ Has st (sep (row 5 1 (.slice A S.length c) S.length (bcells S)) R) w' := fun w h => by rw [hS]; exact refseal_any st R x I _ w h hsI (by omega)
    have hru : unsealR k b = if (S == b) = false then ([], 36) else if x = k then (I, 0) else ([], 21) := by unfold unsealR; rw [if_neg hl, hS, hI, hx]
    rw [hIl] at hsI
    have HSI := Lib.hid hsI
    have HIL := Lib.hid hIl
    have HS := Lib.hid hs
    have HB1 := Lib.hid b1
    have HC0 := Lib.hid hc0'
    have HSE := Lib.hid hse
    have HRU := Lib.hid hru
    have HH := Lib.hid h
    have h0 : 0 < b.length := by omega
    clear hm b1 hx hI hIl hS hSl hsI hcell hg0 hc0 hc0' hse hru hs h hl
    by_cases heq : (S == b) = false
    ·
      have hu : unsealR k b = ([], 36) := by rw [HRU.out, if_pos heq]
      have HU := Lib.hid hu
      have HEQ := Lib.hid heq
      clear hu heq
      go_enter Try.func11, Try.ntmps11
      go_wp2_with (first
        | (go_at_call 16; refine (HSE.out _ HH.out).mono ?_; rintro e w2 ⟨A2, c2, rfl, h2⟩; have H2 := Lib.hid h2; clear h2)
        | (go_at_call 15; refine (same_any S b _ _ _ _ _ (sees_row st _ 1 _ _ _ _ _ H2.out) (HS.out _ H2.out.right)).mono ?_; rintro e w3 ⟨rfl, rfl⟩; rw [HEQ.out])
        | ((first | (with_reducible refine wpList_plain rfl ?_) | ((with_reducible refine wpList_yes _ _ rfl ?_ ?_); (focus rfl))); intro _ hk; (first
          | (refine opw_len _ _ _ Try.underlying22 (some ⟨bb, off, none⟩) b.length c0 rfl rfl (hk _ _ ?_))
          | (refine opw_cmp .lss _ _ _ _ .i64 (b.length : Int) 5 false rfl rfl rfl HZ.out (hk _ _ ?_))
          | (refine opw_bin .sub _ _ _ _ .i64 (b.length : Int) 4 (m : Int) rfl rfl rfl HB1.out (hk _ _ ?_))
          | (refine opw_slLH 22 5 _ _ _ rfl Try.underlying22 sizeB (some ⟨bb, off, none⟩) b.length c0 rfl hbc .i64 .i64 1 m rfl rfl hm1 hmb (hk _ _ ?_))
          | (refine opw_indexSl 22 5 _ _ rfl Try.underlying22 sizeB bb off b.length c0 0 rfl rfl h0 (hk _ _ ?_))
          | (have _k := H2; refine opw_load1 5 _ rfl _ Try.underlying5 rfl ⟨bb, off + 0, none⟩ (.int .u8 (x.toNat : Int)) rfl (HC0.out _ H2.out.right) (hk _ _ ?_))
          | (refine opw_load1 5 _ rfl _ Try.underlying5 rfl ⟨bb, off + 0, none⟩ (.int .u8 (x.toNat : Int)) rfl (HC0.out _ HH.out) (hk _ _ ?_))); simp only [Act.put, List.setIfInBounds_toArray, List.set_cons_zero, List.set_cons_succ]))
      go_ret2
      rw [HU.out]
      exact ⟨none, 0, rfl, sees_nil st R, H2.out.right⟩
    · rw [Bool.not_eq_false] at heq
      by_cases hk : x = k
      ·
        have hu : unsealR k b = (I, 0) := by rw [HRU.out, if_neg (by rw [heq]; decide), if_pos hk]
        have HU := Lib.hid hu
        have HEQ := Lib.hid heq
        clear hu heq
        have HK : Hid (cmpZ .neq (x.toNat : Int) (k.toNat : Int) = some false) := Lib.hid (by simp only [cmpZ]; simp [hk])
        clear hk
        go_enter Try.func11, Try.ntmps11
        go_wp2_with (first
          | (go_at_call 16; refine (HSE.out _ HH.out).mono ?_; rintro e w2 ⟨A2, c2, rfl, h2⟩; have H2 := Lib.hid h2; clear h2)
          | (go_at_call 15; refine (same_any S b _ _ _ _ _ (sees_row st _ 1 _ _ _ _ _ H2.out) (HS.out _ H2.out.right)).mono ?_; rintro e w3 ⟨rfl, rfl⟩; rw [HEQ.out])
          | ((first | (with_reducible refine wpList_plain rfl ?_) | ((with_reducible refine wpList_yes _ _ rfl ?_ ?_); (focus rfl))); intro _ hk; (first
            | (refine opw_len _ _ _ Try.underlying22 (some ⟨bb, off, none⟩) b.length c0 rfl rfl (hk _ _ ?_))
            | (refine opw_cmp .lss _ _ _ _ .i64 (b.length : Int) 5 false rfl rfl rfl HZ.out (hk _ _ ?_))
            | (refine opw_bin .sub _ _ _ _ .i64 (b.length : Int) 4 (m : Int) rfl rfl rfl HB1.out (hk _ _ ?_))
            | (refine opw_slLH 22 5 _ _ _ rfl Try.underlying22 sizeB (some ⟨bb, off, none⟩) b.length c0 rfl hbc .i64 .i64 1 m rfl rfl hm1 hmb (hk _ _ ?_))
            | (refine opw_indexSl 22 5 _ _ rfl Try.underlying22 sizeB bb off b.length c0 0 rfl rfl h0 (hk _ _ ?_))
            | (have _k := H2; refine opw_load1 5 _ rfl _ Try.underlying5 rfl ⟨bb, off + 0, none⟩ (.int .u8 (x.toNat : Int)) rfl (HC0.out _ H2.out.right) (hk _ _ ?_))
            | (refine opw_load1 5 _ rfl _ Try.underlying5 rfl ⟨bb, off + 0, none⟩ (.int .u8 (x.toNat : Int)) rfl (HC0.out _ HH.out) (hk _ _ ?_))
            | (refine opw_cmp .neq _ _ _ _ .u8 (x.toNat : Int) (k.toNat : Int) false rfl rfl rfl HK.out (hk _ _ ?_))); simp only [Act.put, List.setIfInBounds_toArray, List.set_cons_zero, List.set_cons_succ]))
        go_ret2
        rw [HU.out]
        simp only
        rw [HIL.out]
        exact ⟨_, _, rfl, HSI.out, H2.out.right⟩
      ·
        have hu : unsealR k b = ([], 21) := by rw [HRU.out, if_neg (by rw [heq]; decide), if_neg hk]
        have HU := Lib.hid hu
        have HEQ := Lib.hid heq
        clear hu heq
        have HK : Hid (cmpZ .neq (x.toNat : Int) (k.toNat : Int) = some true) := Lib.hid (by simp only [cmpZ]; simp; intro e; exact hk (UInt8.toNat_inj.1 (by omega)))
        clear hk
        go_enter Try.func11, Try.ntmps11
        go_wp2_with (first
          | (go_at_call 16; refine (HSE.out _ HH.out).mono ?_; rintro e w2 ⟨A2, c2, rfl, h2⟩; have H2 := Lib.hid h2; clear h2)
          | (go_at_call 15; refine (same_any S b _ _ _ _ _ (sees_row st _ 1 _ _ _ _ _ H2.out) (HS.out _ H2.out.right)).mono ?_; rintro e w3 ⟨rfl, rfl⟩; rw [HEQ.out])
          | ((first | (with_reducible refine wpList_plain rfl ?_) | ((with_reducible refine wpList_yes _ _ rfl ?_ ?_); (focus rfl))); intro _ hk; (first
            | (refine opw_len _ _ _ Try.underlying22 (some ⟨bb, off, none⟩) b.length c0 rfl rfl (hk _ _ ?_))
            | (refine opw_cmp .lss _ _ _ _ .i64 (b.length : Int) 5 false rfl rfl rfl HZ.out (hk _ _ ?_))
            | (refine opw_bin .sub _ _ _ _ .i64 (b.length : Int) 4 (m : Int) rfl rfl rfl HB1.out (hk _ _ ?_))
            | (refine opw_slLH 22 5 _ _ _ rfl Try.underlying22 sizeB (some ⟨bb, off, none⟩) b.length c0 rfl hbc .i64 .i64 1 m rfl rfl hm1 hmb (hk _ _ ?_))
            | (refine opw_indexSl 22 5 _ _ rfl Try.underlying22 sizeB bb off b.length c0 0 rfl rfl h0 (hk _ _ ?_))
            | (have _k := H2; refine opw_load1 5 _ rfl _ Try.underlying5 rfl ⟨bb, off + 0, none⟩ (.int .u8 (x.toNat : Int)) rfl (HC0.out _ H2.out.right) (hk _ _ ?_))
            | (refine opw_load1 5 _ rfl _ Try.underlying5 rfl ⟨bb, off + 0, none⟩ (.int .u8 (x.toNat : Int)) rfl (HC0.out _ HH.out) (hk _ _ ?_))
            | (refine opw_cmp .neq _ _ _ _ .u8 (x.toNat : Int) (k.toNat : Int) true rfl rfl rfl HK.out (hk _ _ ?_))); simp only [Act.put, List.setIfInBounds_toArray, List.set_cons_zero, List.set_cons_succ]))
        go_ret2
        rw [HU.out]
        exact ⟨none, 0, rfl, sees_nil st R, H2.out.right⟩
end Go.Proofs.Ytbiacehmfbopfaa
