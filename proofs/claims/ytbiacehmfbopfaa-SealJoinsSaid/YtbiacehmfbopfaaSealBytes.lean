/-
  coldstorelaw04.SealBytes.
-/
import Derived.Test.YtbiacehmfbopfaaAlive4
namespace Go.Proofs.Ytbiacehmfbopfaa
open Go.RowKit Go.Sl Go.Crc
set_option linter.unusedVariables false
set_option linter.unusedSimpArgs false
theorem innerB_seal (k : UInt8) (b : List UInt8) : innerB (sealB k b) = b := by
  unfold innerB
  rw [sealB_length, show b.length + 5 - 4 = b.length + 1 by omega]
  unfold sealB
  rw [List.take_append_of_le_length (by simp)]
  simp
theorem unseal_seal (k o : UInt8) (b : List UInt8) : unsealR o (sealB k b) = if k = o then (b, 0) else ([], 21) := by
  unfold unsealR
  rw [if_neg (by rw [sealB_length]; omega), innerB_seal, show (sealB k b).getD 0 0 = k from rfl, if_neg (by simp)]
theorem same_self (l : List UInt8) (n k : Nat) (u v : Value) (w : World) (hu : Rd 1 w u n (bcells l)) (hv : Rd 1 w v k (bcells l)) : Calls Try.prog 15 #[u, v] w fun e w' => e = .returned (.bool true) ∧ w = w' := by
  have := same_any l l n k u v w hu hv
  rw [beq_self_eq_true] at this; exact this
set_option maxRecDepth 100000 in
set_option maxHeartbeats 4000000 in
theorem bytes_law (st : World) (R : HProp) (k o : UInt8) (b : List UInt8) (A : Option Addr) (c : Nat) (hs : Sees st R 1 (.slice A b.length c) b.length (bcells b)) (w : World) (h : Has st R w) :
    Calls Try.prog 3 #[.int .u8 (k.toNat : Int), .int .u8 (o.toNat : Int), .slice A b.length c] w fun e w' => e = .returned (.bool true) ∧ Has st R w' := by
  obtain ⟨Φ0, e0⟩ : ∃ X, X = R := ⟨_, rfl⟩
  rw [← e0] at h hs ⊢
  clear e0
  have C0 := Lib.hid h
  have SB := Lib.hid hs
  clear h hs
  by_cases hb3 : b.length ≤ 300
  · have HZ1 : Hid (cmpZ .gtr (b.length : Int) 300 = some false) := Lib.hid (by simp only [cmpZ]; simp; omega)
    obtain ⟨U, hU⟩ : ∃ U, U = (unsealR k b).1 := ⟨_, rfl⟩
    obtain ⟨E, hE⟩ : ∃ E, E = (unsealR k b).2 := ⟨_, rfl⟩
    obtain ⟨S, hS⟩ : ∃ S, S = sealB k b := ⟨_, rfl⟩
    obtain ⟨X, hX⟩ : ∃ X, X = crc b := ⟨_, rfl⟩
    have hSl : S.length = b.length + 5 := by rw [hS, sealB_length]
    have HU : Hid (∀ Φ w, Has st Φ w → Sees st Φ 1 (.slice A b.length c) b.length (bcells b) → Calls Try.prog 10 #[.int .u8 (k.toNat : Int), .slice A b.length c] w fun e w' => ∃ A c, e = .returned (.tuple #[.slice A U.length c, .int .i64 E]) ∧ Has st (sep (row 5 1 (.slice A U.length c) U.length (bcells U)) Φ) w') := Lib.hid fun Φ w h hs => by rw [hU, hE]; exact unseal_any st Φ k b A c w h hs (by omega)
    have HRU : Hid (∀ Φ w, Has st Φ w → Sees st Φ 1 (.slice A b.length c) b.length (bcells b) → Calls Try.prog 11 #[.int .u8 (k.toNat : Int), .slice A b.length c] w fun e w' => ∃ A c, e = .returned (.tuple #[.slice A U.length c, .int .i64 E]) ∧ Sees st Φ 1 (.slice A U.length c) U.length (bcells U) ∧ Has st Φ w') := Lib.hid fun Φ w h hs => by rw [hU, hE]; exact refunseal_any st Φ k b A c w h hs (by omega)
    have HSE : Hid (∀ Φ w, Has st Φ w → Sees st Φ 1 (.slice A b.length c) b.length (bcells b) → Calls Try.prog 12 #[.int .u8 (k.toNat : Int), .slice A b.length c] w fun e w' => ∃ A c, e = .returned (.slice A S.length c) ∧ Has st (sep (row 5 1 (.slice A S.length c) S.length (bcells S)) Φ) w') := Lib.hid fun Φ w h hs => by rw [hS]; exact seal_any st Φ k b _ w h hs (by omega)
    have HRS : Hid (∀ Φ w, Has st Φ w → Sees st Φ 1 (.slice A b.length c) b.length (bcells b) → Calls Try.prog 16 #[.int .u8 (k.toNat : Int), .slice A b.length c] w fun e w' => ∃ A c, e = .returned (.slice A S.length c) ∧ Has st (sep (row 5 1 (.slice A S.length c) S.length (bcells S)) Φ) w') := Lib.hid fun Φ w h hs => by rw [hS]; exact refseal_any st Φ k b _ w h hs (by omega)
    have HC : Hid (∀ w, Rd 1 w (.slice A b.length c) b.length (bcells b) → Calls Try.prog 13 #[.slice A b.length c] w fun e w' => e = .returned (.int .u32 (X.toNat : Int)) ∧ w = w') := Lib.hid fun w h => by rw [hX]; exact crc_any b _ w h
    have HRC : Hid (∀ w, Rd 1 w (.slice A b.length c) b.length (bcells b) → Calls Try.prog 14 #[.slice A b.length c] w fun e w' => e = .returned (.int .u32 (X.toNat : Int)) ∧ w = w') := Lib.hid fun w h => by rw [hX]; exact refcrc_any b _ w h (by omega)
    have HEX : Hid (cmpZ .eql (X.toNat : Int) (X.toNat : Int) = some true) := Lib.hid (by simp [cmpZ])
    have HEE : Hid (cmpZ .eql E E = some true) := Lib.hid (by simp [cmpZ])
    by_cases hko : k = o
    ·
      have HUS : Hid (∀ Φ A c w, Has st Φ w → Sees st Φ 1 (.slice A S.length c) S.length (bcells S) → Calls Try.prog 10 #[.int .u8 (o.toNat : Int), .slice A S.length c] w fun e w' => ∃ A c, e = .returned (.tuple #[.slice A b.length c, .int .i64 0]) ∧ Has st (sep (row 5 1 (.slice A b.length c) b.length (bcells b)) Φ) w') := Lib.hid fun Φ A c w h hs => by
        have := unseal_any st Φ o S A c w h hs (by omega)
        rw [show unsealR o S = (b, 0) by rw [hS, unseal_seal, if_pos hko]] at this
        exact this
      have HKO : Hid (cmpZ .eql (k.toNat : Int) (o.toNat : Int) = some true) := Lib.hid (by simp only [cmpZ]; simp [hko])
      have HKN : Hid (cmpZ .neq (k.toNat : Int) (o.toNat : Int) = some false) := Lib.hid (by simp only [cmpZ]; simp [hko])
      clear hU hE hS hX hSl hko
      go_enter Try.func3, Try.ntmps3
      go_wp2_with (first
        | (have _k := C6; go_at_call 15; have hq := same_self b _ _ _ _ _ ((Sv.out.widen (fun w h => (U6.out _ h))) _ C6.out) ((SB.out.widen (fun w h => (U1.out _ (U2.out _ (U3.out _ (U4.out _ (U5.out _ (U6.out _ h)))))))) _ C6.out); with_reducible refine hq.mono ?_; clear hq; rintro e w9 ⟨rfl, rfl⟩)
        | (have _k := C6; go_at_call 15; have hq := same_self U _ _ _ _ _ ((Sx.out.widen (fun w h => (U3.out _ (U4.out _ (U5.out _ (U6.out _ h)))))) _ C6.out) ((Sy.out.widen (fun w h => (U4.out _ (U5.out _ (U6.out _ h))))) _ C6.out); with_reducible refine hq.mono ?_; clear hq; rintro e w9 ⟨rfl, rfl⟩)
        | (have _k := C6; go_at_call 15; have hq := same_self S _ _ _ _ _ ((Ss.out.widen (fun w h => (U5.out _ (U6.out _ h)))) _ C6.out) (St.out _ C6.out); with_reducible refine hq.mono ?_; clear hq; rintro e w9 ⟨rfl, rfl⟩)
        | (have _k := C5; go_at_call 16; refine (HRS.out _ _ C5.out (SB.out.widen (fun w h => (U1.out _ (U2.out _ (U3.out _ (U4.out _ (U5.out _ h)))))))).mono ?_; rintro e w9 ⟨At, ct, rfl, h9⟩; obtain ⟨Φ6, e6⟩ : ∃ X : HProp, X = sep (row 5 1 (.slice At S.length ct) S.length (bcells S)) Φ5 := ⟨_, rfl⟩; rw [← e6] at h9; have U6 : Hid (∀ w, Has st Φ6 w → Has st Φ5 w) := Lib.hid (by rw [e6]; exact fun w h => h.right); have St : Hid (Sees st Φ6 1 (.slice At S.length ct) S.length (bcells S)) := Lib.hid (by rw [e6]; exact sees_row st _ 1 _ _ _ _); have C6 := Lib.hid h9; clear h9 e6)
        | (have _k := C5; go_at_call 14; have hq := HRC.out _ ((SB.out.widen (fun w h => (U1.out _ (U2.out _ (U3.out _ (U4.out _ (U5.out _ h))))))) _ C5.out); with_reducible refine hq.mono ?_; clear hq; rintro e w9 ⟨rfl, rfl⟩)
        | (have _k := C5; go_at_call 13; have hq := HC.out _ ((SB.out.widen (fun w h => (U1.out _ (U2.out _ (U3.out _ (U4.out _ (U5.out _ h))))))) _ C5.out); with_reducible refine hq.mono ?_; clear hq; rintro e w9 ⟨rfl, rfl⟩)
        | (have _k := C4; go_at_call 10; refine (HUS.out _ _ _ _ C4.out Ss.out).mono ?_; rintro e w9 ⟨Av, cv, rfl, h9⟩; obtain ⟨Φ5, e5⟩ : ∃ X : HProp, X = sep (row 5 1 (.slice Av b.length cv) b.length (bcells b)) Φ4 := ⟨_, rfl⟩; rw [← e5] at h9; have U5 : Hid (∀ w, Has st Φ5 w → Has st Φ4 w) := Lib.hid (by rw [e5]; exact fun w h => h.right); have Sv : Hid (Sees st Φ5 1 (.slice Av b.length cv) b.length (bcells b)) := Lib.hid (by rw [e5]; exact sees_row st _ 1 _ _ _ _); have C5 := Lib.hid h9; clear h9 e5)
        | (have _k := C3; go_at_call 12; refine (HSE.out _ _ C3.out (SB.out.widen (fun w h => (U1.out _ (U2.out _ (U3.out _ h)))))).mono ?_; rintro e w9 ⟨As, cs, rfl, h9⟩; obtain ⟨Φ4, e4⟩ : ∃ X : HProp, X = sep (row 5 1 (.slice As S.length cs) S.length (bcells S)) Φ3 := ⟨_, rfl⟩; rw [← e4] at h9; have U4 : Hid (∀ w, Has st Φ4 w → Has st Φ3 w) := Lib.hid (by rw [e4]; exact fun w h => h.right); have Ss : Hid (Sees st Φ4 1 (.slice As S.length cs) S.length (bcells S)) := Lib.hid (by rw [e4]; exact sees_row st _ 1 _ _ _ _); have C4 := Lib.hid h9; clear h9 e4)
        | (have _k := C2; go_at_call 11; refine (HRU.out _ _ C2.out (SB.out.widen (fun w h => (U1.out _ (U2.out _ h))))).mono ?_; rintro e w9 ⟨Ay, cy, rfl, hsy, h9⟩; obtain ⟨Φ3, e3⟩ : ∃ X : HProp, X = Φ2 := ⟨_, rfl⟩; rw [← e3] at h9; have U3 : Hid (∀ w, Has st Φ3 w → Has st Φ2 w) := Lib.hid (by rw [e3]; exact fun w h => h); have Sy : Hid (Sees st Φ3 1 (.slice Ay U.length cy) U.length (bcells U)) := Lib.hid (by rw [e3]; exact hsy); have C3 := Lib.hid h9; clear h9 e3)
        | (have _k := C1; go_at_call 10; refine (HU.out _ _ C1.out (SB.out.widen (fun w h => (U1.out _ h)))).mono ?_; rintro e w9 ⟨Ax, cx, rfl, h9⟩; obtain ⟨Φ2, e2⟩ : ∃ X : HProp, X = sep (row 5 1 (.slice Ax U.length cx) U.length (bcells U)) Φ1 := ⟨_, rfl⟩; rw [← e2] at h9; have U2 : Hid (∀ w, Has st Φ2 w → Has st Φ1 w) := Lib.hid (by rw [e2]; exact fun w h => h.right); have Sx : Hid (Sees st Φ2 1 (.slice Ax U.length cx) U.length (bcells U)) := Lib.hid (by rw [e2]; exact sees_row st _ 1 _ _ _ _); have C2 := Lib.hid h9; clear h9 e2)
        | (have _k := C0; go_at_call 9; refine (alive_any st Φ0 _ C0.out).mono ?_; rintro e w9 ⟨rfl, h9⟩; obtain ⟨Φ1, e1⟩ : ∃ X : HProp, X = Φ0 := ⟨_, rfl⟩; rw [← e1] at h9; have U1 : Hid (∀ w, Has st Φ1 w → Has st Φ0 w) := Lib.hid (by rw [e1]; exact fun w h => h); have C1 := Lib.hid h9; clear h9 e1)
        | ((first | (with_reducible refine wpList_plain rfl ?_) | ((with_reducible refine wpList_yes _ _ rfl ?_ ?_); (focus rfl))); intro _ hk; (first
          | (refine opw_len _ _ _ Try.underlying22 A b.length c rfl rfl (hk _ _ ?_))
          | (refine opw_cmp .gtr _ _ _ _ .i64 (b.length : Int) 300 false rfl rfl rfl HZ1.out (hk _ _ ?_))
          | (refine opw_cmp .eql _ _ _ _ .u32 (X.toNat : Int) (X.toNat : Int) true rfl rfl rfl HEX.out (hk _ _ ?_))
          | (refine opw_cmp .eql _ _ _ _ .i64 E E true rfl rfl rfl HEE.out (hk _ _ ?_))
          | (refine opw_cmp .eql _ _ _ _ .u8 (k.toNat : Int) (o.toNat : Int) true rfl rfl rfl HKO.out (hk _ _ ?_))
          | (refine opw_cmp .neq _ _ _ _ .u8 (k.toNat : Int) (o.toNat : Int) false rfl rfl rfl HKN.out (hk _ _ ?_))); simp only [Act.put, List.setIfInBounds_toArray, List.set_cons_zero, List.set_cons_succ]))
      go_ret
      exact ⟨rfl, (U1.out _ (U2.out _ (U3.out _ (U4.out _ (U5.out _ (U6.out _ C6.out))))))⟩
    ·
      have HUS : Hid (∀ Φ A c w, Has st Φ w → Sees st Φ 1 (.slice A S.length c) S.length (bcells S) → Calls Try.prog 10 #[.int .u8 (o.toNat : Int), .slice A S.length c] w fun e w' => ∃ A c, e = .returned (.tuple #[.slice A 0 c, .int .i64 21]) ∧ Has st (sep (row 5 1 (.slice A 0 c) 0 (bcells ([] : List UInt8))) Φ) w') := Lib.hid fun Φ A c w h hs => by
        have := unseal_any st Φ o S A c w h hs (by omega)
        rw [show unsealR o S = (([] : List UInt8), 21) by rw [hS, unseal_seal, if_neg hko]] at this
        exact this
      have HKO : Hid (cmpZ .eql (k.toNat : Int) (o.toNat : Int) = some false) := Lib.hid (by simp only [cmpZ]; simp; intro e; exact hko (UInt8.toNat_inj.1 (by omega)))
      have HKN : Hid (cmpZ .neq (k.toNat : Int) (o.toNat : Int) = some true) := Lib.hid (by simp only [cmpZ]; simp; intro e; exact hko (UInt8.toNat_inj.1 (by omega)))
      clear hU hE hS hX hSl hko
      go_enter Try.func3, Try.ntmps3
      go_wp2_with (first
        | (have _k := C6; go_at_call 15; have hq := same_self U _ _ _ _ _ ((Sx.out.widen (fun w h => (U3.out _ (U4.out _ (U5.out _ (U6.out _ h)))))) _ C6.out) ((Sy.out.widen (fun w h => (U4.out _ (U5.out _ (U6.out _ h))))) _ C6.out); with_reducible refine hq.mono ?_; clear hq; rintro e w9 ⟨rfl, rfl⟩)
        | (have _k := C6; go_at_call 15; have hq := same_self S _ _ _ _ _ ((Ss.out.widen (fun w h => (U5.out _ (U6.out _ h)))) _ C6.out) (St.out _ C6.out); with_reducible refine hq.mono ?_; clear hq; rintro e w9 ⟨rfl, rfl⟩)
        | (have _k := C5; go_at_call 16; refine (HRS.out _ _ C5.out (SB.out.widen (fun w h => (U1.out _ (U2.out _ (U3.out _ (U4.out _ (U5.out _ h)))))))).mono ?_; rintro e w9 ⟨At, ct, rfl, h9⟩; obtain ⟨Φ6, e6⟩ : ∃ X : HProp, X = sep (row 5 1 (.slice At S.length ct) S.length (bcells S)) Φ5 := ⟨_, rfl⟩; rw [← e6] at h9; have U6 : Hid (∀ w, Has st Φ6 w → Has st Φ5 w) := Lib.hid (by rw [e6]; exact fun w h => h.right); have St : Hid (Sees st Φ6 1 (.slice At S.length ct) S.length (bcells S)) := Lib.hid (by rw [e6]; exact sees_row st _ 1 _ _ _ _); have C6 := Lib.hid h9; clear h9 e6)
        | (have _k := C5; go_at_call 14; have hq := HRC.out _ ((SB.out.widen (fun w h => (U1.out _ (U2.out _ (U3.out _ (U4.out _ (U5.out _ h))))))) _ C5.out); with_reducible refine hq.mono ?_; clear hq; rintro e w9 ⟨rfl, rfl⟩)
        | (have _k := C5; go_at_call 13; have hq := HC.out _ ((SB.out.widen (fun w h => (U1.out _ (U2.out _ (U3.out _ (U4.out _ (U5.out _ h))))))) _ C5.out); with_reducible refine hq.mono ?_; clear hq; rintro e w9 ⟨rfl, rfl⟩)
        | (have _k := C4; go_at_call 10; refine (HUS.out _ _ _ _ C4.out Ss.out).mono ?_; rintro e w9 ⟨Av, cv, rfl, h9⟩; obtain ⟨Φ5, e5⟩ : ∃ X : HProp, X = sep (row 5 1 (.slice Av 0 cv) 0 (bcells ([] : List UInt8))) Φ4 := ⟨_, rfl⟩; rw [← e5] at h9; have U5 : Hid (∀ w, Has st Φ5 w → Has st Φ4 w) := Lib.hid (by rw [e5]; exact fun w h => h.right); have Sv : Hid (Sees st Φ5 1 (.slice Av 0 cv) 0 (bcells ([] : List UInt8))) := Lib.hid (by rw [e5]; exact sees_row st _ 1 _ _ _ _); have C5 := Lib.hid h9; clear h9 e5)
        | (have _k := C3; go_at_call 12; refine (HSE.out _ _ C3.out (SB.out.widen (fun w h => (U1.out _ (U2.out _ (U3.out _ h)))))).mono ?_; rintro e w9 ⟨As, cs, rfl, h9⟩; obtain ⟨Φ4, e4⟩ : ∃ X : HProp, X = sep (row 5 1 (.slice As S.length cs) S.length (bcells S)) Φ3 := ⟨_, rfl⟩; rw [← e4] at h9; have U4 : Hid (∀ w, Has st Φ4 w → Has st Φ3 w) := Lib.hid (by rw [e4]; exact fun w h => h.right); have Ss : Hid (Sees st Φ4 1 (.slice As S.length cs) S.length (bcells S)) := Lib.hid (by rw [e4]; exact sees_row st _ 1 _ _ _ _); have C4 := Lib.hid h9; clear h9 e4)
        | (have _k := C2; go_at_call 11; refine (HRU.out _ _ C2.out (SB.out.widen (fun w h => (U1.out _ (U2.out _ h))))).mono ?_; rintro e w9 ⟨Ay, cy, rfl, hsy, h9⟩; obtain ⟨Φ3, e3⟩ : ∃ X : HProp, X = Φ2 := ⟨_, rfl⟩; rw [← e3] at h9; have U3 : Hid (∀ w, Has st Φ3 w → Has st Φ2 w) := Lib.hid (by rw [e3]; exact fun w h => h); have Sy : Hid (Sees st Φ3 1 (.slice Ay U.length cy) U.length (bcells U)) := Lib.hid (by rw [e3]; exact hsy); have C3 := Lib.hid h9; clear h9 e3)
        | (have _k := C1; go_at_call 10; refine (HU.out _ _ C1.out (SB.out.widen (fun w h => (U1.out _ h)))).mono ?_; rintro e w9 ⟨Ax, cx, rfl, h9⟩; obtain ⟨Φ2, e2⟩ : ∃ X : HProp, X = sep (row 5 1 (.slice Ax U.length cx) U.length (bcells U)) Φ1 := ⟨_, rfl⟩; rw [← e2] at h9; have U2 : Hid (∀ w, Has st Φ2 w → Has st Φ1 w) := Lib.hid (by rw [e2]; exact fun w h => h.right); have Sx : Hid (Sees st Φ2 1 (.slice Ax U.length cx) U.length (bcells U)) := Lib.hid (by rw [e2]; exact sees_row st _ 1 _ _ _ _); have C2 := Lib.hid h9; clear h9 e2)
        | (have _k := C0; go_at_call 9; refine (alive_any st Φ0 _ C0.out).mono ?_; rintro e w9 ⟨rfl, h9⟩; obtain ⟨Φ1, e1⟩ : ∃ X : HProp, X = Φ0 := ⟨_, rfl⟩; rw [← e1] at h9; have U1 : Hid (∀ w, Has st Φ1 w → Has st Φ0 w) := Lib.hid (by rw [e1]; exact fun w h => h); have C1 := Lib.hid h9; clear h9 e1)
        | ((first | (with_reducible refine wpList_plain rfl ?_) | ((with_reducible refine wpList_yes _ _ rfl ?_ ?_); (focus rfl))); intro _ hk; (first
          | (refine opw_len _ _ _ Try.underlying22 A b.length c rfl rfl (hk _ _ ?_))
          | (refine opw_cmp .gtr _ _ _ _ .i64 (b.length : Int) 300 false rfl rfl rfl HZ1.out (hk _ _ ?_))
          | (refine opw_cmp .eql _ _ _ _ .u32 (X.toNat : Int) (X.toNat : Int) true rfl rfl rfl HEX.out (hk _ _ ?_))
          | (refine opw_cmp .eql _ _ _ _ .i64 E E true rfl rfl rfl HEE.out (hk _ _ ?_))
          | (refine opw_cmp .eql _ _ _ _ .u8 (k.toNat : Int) (o.toNat : Int) false rfl rfl rfl HKO.out (hk _ _ ?_))
          | (refine opw_cmp .neq _ _ _ _ .u8 (k.toNat : Int) (o.toNat : Int) true rfl rfl rfl HKN.out (hk _ _ ?_))); simp only [Act.put, List.setIfInBounds_toArray, List.set_cons_zero, List.set_cons_succ]))
      go_ret
      exact ⟨rfl, (U1.out _ (U2.out _ (U3.out _ (U4.out _ (U5.out _ (U6.out _ C6.out))))))⟩
  · have HZ1 : Hid (cmpZ .gtr (b.length : Int) 300 = some true) := Lib.hid (by simp only [cmpZ]; simp; omega)
    clear hb3
    go_enter Try.func3, Try.ntmps3
    go_wp2_with (first
      | (have _k := C0; go_at_call 9; refine (alive_any st Φ0 _ C0.out).mono ?_; rintro e w9 ⟨rfl, h9⟩; obtain ⟨Φ1, e1⟩ : ∃ X : HProp, X = Φ0 := ⟨_, rfl⟩; rw [← e1] at h9; have U1 : Hid (∀ w, Has st Φ1 w → Has st Φ0 w) := Lib.hid (by rw [e1]; exact fun w h => h); have C1 := Lib.hid h9; clear h9 e1)
      | ((first | (with_reducible refine wpList_plain rfl ?_) | ((with_reducible refine wpList_yes _ _ rfl ?_ ?_); (focus rfl))); intro _ hk; (first
        | (refine opw_len _ _ _ Try.underlying22 A b.length c rfl rfl (hk _ _ ?_))
        | (refine opw_cmp .gtr _ _ _ _ .i64 (b.length : Int) 300 true rfl rfl rfl HZ1.out (hk _ _ ?_))); simp only [Act.put, List.setIfInBounds_toArray, List.set_cons_zero, List.set_cons_succ]))
    go_ret
    exact ⟨rfl, (U1.out _ C1.out)⟩
end Go.Proofs.Ytbiacehmfbopfaa
