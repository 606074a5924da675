/-
  CodeNums returns true.
-/
import Derived.Test.YtkmhopnpkilhiaaAlive2
import Derived.Test.YtkmhopnpkilhiaaSl2
namespace Go.Proofs.Ytkmhopnpkilhiaa
open Go.RowKit Go.Sl
set_option linter.unusedVariables false
set_option linter.unusedSimpArgs false

theorem le_take (n p q : Nat) (h : p ≤ q) : (le n q).take p = le n p := by
  unfold le
  rw [← List.map_take, List.take_range, Nat.min_eq_left h]

set_option maxHeartbeats 2000000 in
theorem nums_any (st : World) (R : HProp) (n : Nat) (a b : Int) (s : ByteArray) (hs : s.size ≤ 9223372036854775807) (w : World) (h : Has st R w) :
    Calls Try.prog 6 #[.int .u64 n, .int .i64 a, .int .i64 b, .string s] w fun e w' => e = .returned (.bool true) ∧ Has st R w' := by
  by_cases hlong : 60 < s.size
  · go_enter Try.func6, Try.ntmps6
    go_wp2_with (go_at_call 9; refine (alive_any st R _ h).mono ?_; rintro e w1 ⟨rfl, h1⟩)
    go_ret
    exact ⟨rfl, h1⟩
  · obtain ⟨i, hi, hi7⟩ : ∃ i : Nat, bits .and .i64 a 7 = (i : Int) ∧ i ≤ 7 := ⟨(a % 8).toNat, by rw [i64_and7]; omega, by omega⟩
    obtain ⟨j, hj, hj7⟩ : ∃ j : Nat, bits .and .i64 b 7 = (j : Int) ∧ j ≤ 7 := ⟨(b % 8).toNat, by rw [i64_and7]; omega, by omega⟩
    obtain ⟨zl, hz⟩ : ∃ zl, zl = [] ++ le s.size 4 ++ s.data.toList := ⟨_, rfl⟩
    have hsz : s.data.toList.length = s.size := rfl
    obtain ⟨k, hk⟩ : ∃ k, k = zl.length := ⟨_, rfl⟩
    have hk1 : k ≤ 4 + s.size := by rw [hk, hz, List.nil_append, List.length_append, le_length, hsz]; omega
    have hk2 : 4 + s.size ≤ k := by rw [hk, hz, List.nil_append, List.length_append, le_length, hsz]; omega
    obtain ⟨ll, hll⟩ : ∃ ll, ll = zl ++ [1] := ⟨_, rfl⟩
    obtain ⟨m, hm⟩ : ∃ m, m = ll.length := ⟨_, rfl⟩
    have hm1 : m ≤ k + 1 := by rw [hm, hll, List.length_append, ← hk]; exact Nat.le_refl _
    have hm2 : k + 1 ≤ m := by rw [hm, hll, List.length_append, ← hk]; exact Nat.le_refl _
    have hz0 : (bcells zl)[0]? = some (.int .u8 (s.size : Int)) := by
      rw [hz, List.nil_append, le_succ, show le s.size 3 = [UInt8.ofNat (s.size / 256 ^ 0)] ++ [UInt8.ofNat (s.size / 256 ^ 1), UInt8.ofNat (s.size / 256 ^ 2)] from rfl]
      simp [bcells, bcell]
      omega
    have htk : (bcells ll).take k = bcells zl := by rw [hll, ← bcells_append, hk, ← bcells_length zl, List.take_left]
    have HT : Hid (∀ X p w, Has st (sep (writer p []) X) w → Calls Try.prog 31 #[.pointer (some ⟨p, 0, none⟩), .string s] w fun e w' => e = .returned (.tuple #[]) ∧ Has st (sep (writer p zl) X) w') := by
      intro X p w h; rw [hz]; exact text_any st X p [] s w h (by simp; omega)
    have HB : Hid (∀ X p v w, Has st (sep (writer p []) X) w → Sees st X 1 v s.size (bcells s.data.toList) → Calls Try.prog 32 #[.pointer (some ⟨p, 0, none⟩), v] w fun e w' => e = .returned (.tuple #[]) ∧ Has st (sep (writer p zl) X) w') := by
      intro X p v w h hv; rw [hz]; exact bytes_any st X p [] s.data.toList v w h hv (by rw [hsz]; simp; omega)
    have HD : Hid (∀ X p w, Has st (sep (writer p zl) X) w → Calls Try.prog 33 #[.pointer (some ⟨p, 0, none⟩)] w fun e w' => ∃ A c, e = .returned (.slice A k c) ∧ Has st (sep (row 5 1 (.slice A k c) k (bcells zl)) (sep (writer p zl) X)) w') := by
      intro X p w h; rw [hk]; exact done_any st X p zl w h (by omega)
    have HD2 : Hid (∀ X p w, Has st (sep (writer p ll) X) w → Calls Try.prog 33 #[.pointer (some ⟨p, 0, none⟩)] w fun e w' => ∃ A c, e = .returned (.slice A m c) ∧ Has st (sep (row 5 1 (.slice A m c) m (bcells ll)) (sep (writer p ll) X)) w') := by
      intro X p w h; rw [hm]; exact done_any st X p ll w h (by omega)
    have HR : Hid (∀ X p v w, Has st (sep (writer p zl) X) w → Sees st X 1 v 1 (bcells [1]) → Calls Try.prog 34 #[.pointer (some ⟨p, 0, none⟩), v] w fun e w' => e = .returned (.tuple #[]) ∧ Has st (sep (writer p ll) X) w') := by
      intro X p v w h hv; rw [hll]; exact raw_any st X p zl [1] v w h hv (by rw [← hk]; simp; omega)
    have HZ0 := Lib.hid hz0
    have HTK := Lib.hid htk
    clear hz hk hll hm hsz hz0 htk
    have HN : Hid (∀ X p (x : Nat) w, x ≤ 7 → Has st (sep (writer p []) X) w → Calls Try.prog 30 #[.pointer (some ⟨p, 0, none⟩), .int .u64 n, .int .i64 (1 + (x : Int))] w fun e w' => e = .returned (.tuple #[]) ∧ Has st (sep (writer p (le n (1 + x))) X) w') := by
      intro X p x w hx h
      have := num_any st X p [] n (1 + (x : Int)) w h (by simp)
      rw [show held (1 + (x : Int)) = 1 + x by unfold held; rw [if_neg (by omega), if_neg (by omega)]; omega] at this
      exact this
    have HDN : Hid (∀ X p (x : Nat) w, x ≤ 7 → Has st (sep (writer p (le n (1 + x))) X) w → Calls Try.prog 33 #[.pointer (some ⟨p, 0, none⟩)] w fun e w' => ∃ A c, e = .returned (.slice A (1 + x) c) ∧ Has st (sep (row 5 1 (.slice A (1 + x) c) (1 + x) (bcells (le n (1 + x)))) (sep (writer p (le n (1 + x))) X)) w') := by
      intro X p x w hx h
      have := done_any st X p (le n (1 + x)) w h (by rw [le_length]; omega)
      rw [le_length] at this
      exact this
    rcases Nat.lt_or_ge j i with hij | hij
    · have hpq : (bcells (le n (1 + i))).take (1 + j) = bcells (le n (1 + j)) := by unfold bcells; rw [← List.map_take, le_take _ _ _ (by omega)]
      have HPQ := Lib.hid hpq
      clear hpq
      go_enter Try.func6, Try.ntmps6
      go_wp2_with (go_at_call 9; refine (alive_any st R _ h).mono ?_; rintro e w1 ⟨rfl, h1⟩)
      have h2 := writer_new (writer_new (writer_new (writer_new h1)))
      simp only [World.size_alloc] at h2
      refine (HN.out _ _ j _ hj7 h2.fourth).mono ?_
      rintro e w2 ⟨rfl, h3⟩
      go_wp2_with (fail)
      refine (HN.out _ _ i _ hi7 h3.fourth).mono ?_
      rintro e w3 ⟨rfl, h4⟩
      go_wp2_with (fail)
      refine (HT.out _ _ _ h4.fourth).mono ?_
      rintro e w4 ⟨rfl, h5⟩
      go_wp2_with (refine wp_bytes rfl 9 25 5 _ rfl Try.underlying9 Try.underlying25 Try.underlying5 rfl h5.fourth (by unfold maxLen; omega) ?_; intro A c w5 h6)
      refine (HB.out _ _ _ _ h6.second (sees_ro st 1 (.slice A s.size c) s.size (bcells s.data.toList) _)).mono ?_
      rintro e w6 ⟨rfl, h7'⟩
      have h7 := h7'.drop2
      go_wp2_with (fail)
      refine (HDN.out _ _ j _ hj7 h7.fourth).mono ?_
      rintro e w7 ⟨A1, c1, rfl, h8⟩
      go_wp2_with (fail)
      refine (HDN.out _ _ i _ hi7 h8.fifth).mono ?_
      rintro e w8 ⟨A2, c2, rfl, h9⟩
      have hrL := sees_row st 5 1 (.slice A2 (1 + i) c2) (1 + i) (bcells (le n (1 + i))) _ _ h9
      have hrS := sees_row st 5 1 (.slice A1 (1 + j) c1) (1 + j) (bcells (le n (1 + j))) _ _ h9.right.right
      have hcap := hrL.le_cap.1
      have hrT := hrL.take (m := 1 + j) (by omega)
      rw [Nat.mul_one, HPQ.out] at hrT
      go_wp2_with (go_at_call 13; refine (same_any (le n (1 + j)) (le n (1 + j)) _ _ _ _ _ hrT hrS).mono ?_; rintro e w9 ⟨rfl, rfl⟩)
      refine (HD.out _ _ _ h9.sixth).mono ?_
      rintro e w10 ⟨A4, c4, rfl, h10⟩
      go_wp2_with (fail)
      refine (HD.out _ _ _ h10.seventh).mono ?_
      rintro e w11 ⟨A5, c5, rfl, h11⟩
      have hrA := sees_row st 5 1 (.slice A4 k c4) k (bcells zl) _ _ h11.right.right
      have hrB := sees_row st 5 1 (.slice A5 k c5) k (bcells zl) _ _ h11
      go_wp2_with (go_at_call 13; refine (same_any zl zl _ _ _ _ _ hrA hrB).mono ?_; rintro e w12 ⟨rfl, rfl⟩)
      refine (HD.out _ _ _ h11.fourth).mono ?_
      rintro e w13 ⟨A6, c6, rfl, h13⟩
      go_wp2_with (fail)
      refine (HR.out _ _ _ _ (h13.alloc _).third (sees_lit1 st _ w13.heap.size 5 (0, 0) (.int .u8 1))).mono ?_
      rintro e w14 ⟨rfl, h14⟩
      go_wp2_with (fail)
      refine (HD2.out _ _ _ h14).mono ?_
      rintro e w15 ⟨A7, c7, rfl, h15⟩
      have hrF := sees_row st 5 1 (.slice A6 k c6) k (bcells zl) _ _ h15.right.right.right
      have hrG := (sees_row st 5 1 (.slice A7 m c7) m (bcells ll) _ _ h15).take (m := k) (by omega)
      have hcapm := (sees_row st 5 1 (.slice A7 m c7) m (bcells ll) _ _ h15).le_cap.1
      rw [Nat.mul_one, HTK.out] at hrG
      obtain ⟨b, off, cap, e6, _, _, hc6⟩ := hrF.open (by omega)
      have hcell := hc6 0 _ HZ0.out
      rw [Nat.add_zero] at hcell
      clear hc6
      injection e6 with e6 _ e7
      subst e6 e7
      have hkb : ((k : Int) == 4 + (s.size : Int)) = true := by simp; omega
      have hmb : ((m : Int) == (k : Int) + 1) = true := by simp; omega
      go_wp2_with (go_at_call 13; refine (same_any zl zl _ _ _ _ _ hrG hrF).mono ?_; rintro e w16 ⟨rfl, rfl⟩)
      go_ret
      exact ⟨rfl, by have hh := h15; iterate 11 replace hh := hh.right
                     exact hh⟩
    rcases Nat.lt_or_ge i j with hij2 | hij2
    · have hpq : (bcells (le n (1 + j))).take (1 + i) = bcells (le n (1 + i)) := by unfold bcells; rw [← List.map_take, le_take _ _ _ (by omega)]
      have HPQ := Lib.hid hpq
      clear hpq
      go_enter Try.func6, Try.ntmps6
      go_wp2_with (go_at_call 9; refine (alive_any st R _ h).mono ?_; rintro e w1 ⟨rfl, h1⟩)
      have h2 := writer_new (writer_new (writer_new (writer_new h1)))
      simp only [World.size_alloc] at h2
      refine (HN.out _ _ i _ hi7 h2.fourth).mono ?_
      rintro e w2 ⟨rfl, h3⟩
      go_wp2_with (fail)
      refine (HN.out _ _ j _ hj7 h3.fourth).mono ?_
      rintro e w3 ⟨rfl, h4⟩
      go_wp2_with (fail)
      refine (HT.out _ _ _ h4.fourth).mono ?_
      rintro e w4 ⟨rfl, h5⟩
      go_wp2_with (refine wp_bytes rfl 9 25 5 _ rfl Try.underlying9 Try.underlying25 Try.underlying5 rfl h5.fourth (by unfold maxLen; omega) ?_; intro A c w5 h6)
      refine (HB.out _ _ _ _ h6.second (sees_ro st 1 (.slice A s.size c) s.size (bcells s.data.toList) _)).mono ?_
      rintro e w6 ⟨rfl, h7'⟩
      have h7 := h7'.drop2
      go_wp2_with (fail)
      refine (HDN.out _ _ i _ hi7 h7.fourth).mono ?_
      rintro e w7 ⟨A1, c1, rfl, h8⟩
      go_wp2_with (fail)
      refine (HDN.out _ _ j _ hj7 h8.fifth).mono ?_
      rintro e w8 ⟨A2, c2, rfl, h9⟩
      have hrL := sees_row st 5 1 (.slice A2 (1 + j) c2) (1 + j) (bcells (le n (1 + j))) _ _ h9
      have hrS := sees_row st 5 1 (.slice A1 (1 + i) c1) (1 + i) (bcells (le n (1 + i))) _ _ h9.right.right
      have hcap := hrL.le_cap.1
      have hrT := hrL.take (m := 1 + i) (by omega)
      rw [Nat.mul_one, HPQ.out] at hrT
      go_wp2_with (go_at_call 13; refine (same_any (le n (1 + i)) (le n (1 + i)) _ _ _ _ _ hrT hrS).mono ?_; rintro e w9 ⟨rfl, rfl⟩)
      refine (HD.out _ _ _ h9.sixth).mono ?_
      rintro e w10 ⟨A4, c4, rfl, h10⟩
      go_wp2_with (fail)
      refine (HD.out _ _ _ h10.seventh).mono ?_
      rintro e w11 ⟨A5, c5, rfl, h11⟩
      have hrA := sees_row st 5 1 (.slice A4 k c4) k (bcells zl) _ _ h11.right.right
      have hrB := sees_row st 5 1 (.slice A5 k c5) k (bcells zl) _ _ h11
      go_wp2_with (go_at_call 13; refine (same_any zl zl _ _ _ _ _ hrA hrB).mono ?_; rintro e w12 ⟨rfl, rfl⟩)
      refine (HD.out _ _ _ h11.fourth).mono ?_
      rintro e w13 ⟨A6, c6, rfl, h13⟩
      go_wp2_with (fail)
      refine (HR.out _ _ _ _ (h13.alloc _).third (sees_lit1 st _ w13.heap.size 5 (0, 0) (.int .u8 1))).mono ?_
      rintro e w14 ⟨rfl, h14⟩
      go_wp2_with (fail)
      refine (HD2.out _ _ _ h14).mono ?_
      rintro e w15 ⟨A7, c7, rfl, h15⟩
      have hrF := sees_row st 5 1 (.slice A6 k c6) k (bcells zl) _ _ h15.right.right.right
      have hrG := (sees_row st 5 1 (.slice A7 m c7) m (bcells ll) _ _ h15).take (m := k) (by omega)
      have hcapm := (sees_row st 5 1 (.slice A7 m c7) m (bcells ll) _ _ h15).le_cap.1
      rw [Nat.mul_one, HTK.out] at hrG
      obtain ⟨b, off, cap, e6, _, _, hc6⟩ := hrF.open (by omega)
      have hcell := hc6 0 _ HZ0.out
      rw [Nat.add_zero] at hcell
      clear hc6
      injection e6 with e6 _ e7
      subst e6 e7
      have hkb : ((k : Int) == 4 + (s.size : Int)) = true := by simp; omega
      have hmb : ((m : Int) == (k : Int) + 1) = true := by simp; omega
      go_wp2_with (go_at_call 13; refine (same_any zl zl _ _ _ _ _ hrG hrF).mono ?_; rintro e w16 ⟨rfl, rfl⟩)
      go_ret
      exact ⟨rfl, by have hh := h15; iterate 11 replace hh := hh.right
                     exact hh⟩
    · obtain rfl : i = j := by omega
      have hpq : (bcells (le n (1 + i))).take (1 + i) = bcells (le n (1 + i)) := by unfold bcells; rw [← List.map_take, le_take _ _ _ (by omega)]
      have HPQ := Lib.hid hpq
      clear hpq
      go_enter Try.func6, Try.ntmps6
      go_wp2_with (go_at_call 9; refine (alive_any st R _ h).mono ?_; rintro e w1 ⟨rfl, h1⟩)
      have h2 := writer_new (writer_new (writer_new (writer_new h1)))
      simp only [World.size_alloc] at h2
      refine (HN.out _ _ i _ hi7 h2.fourth).mono ?_
      rintro e w2 ⟨rfl, h3⟩
      go_wp2_with (fail)
      refine (HN.out _ _ i _ hi7 h3.fourth).mono ?_
      rintro e w3 ⟨rfl, h4⟩
      go_wp2_with (fail)
      refine (HT.out _ _ _ h4.fourth).mono ?_
      rintro e w4 ⟨rfl, h5⟩
      go_wp2_with (refine wp_bytes rfl 9 25 5 _ rfl Try.underlying9 Try.underlying25 Try.underlying5 rfl h5.fourth (by unfold maxLen; omega) ?_; intro A c w5 h6)
      refine (HB.out _ _ _ _ h6.second (sees_ro st 1 (.slice A s.size c) s.size (bcells s.data.toList) _)).mono ?_
      rintro e w6 ⟨rfl, h7'⟩
      have h7 := h7'.drop2
      go_wp2_with (fail)
      refine (HDN.out _ _ i _ hi7 h7.fourth).mono ?_
      rintro e w7 ⟨A1, c1, rfl, h8⟩
      go_wp2_with (fail)
      refine (HDN.out _ _ i _ hi7 h8.fifth).mono ?_
      rintro e w8 ⟨A2, c2, rfl, h9⟩
      have hrL := sees_row st 5 1 (.slice A2 (1 + i) c2) (1 + i) (bcells (le n (1 + i))) _ _ h9
      have hrS := sees_row st 5 1 (.slice A1 (1 + i) c1) (1 + i) (bcells (le n (1 + i))) _ _ h9.right.right
      have hcap := hrL.le_cap.1
      have hrT := hrL.take (m := 1 + i) (by omega)
      rw [Nat.mul_one, HPQ.out] at hrT
      go_wp2_with (go_at_call 13; refine (same_any (le n (1 + i)) (le n (1 + i)) _ _ _ _ _ hrT hrS).mono ?_; rintro e w9 ⟨rfl, rfl⟩)
      refine (HD.out _ _ _ h9.sixth).mono ?_
      rintro e w10 ⟨A4, c4, rfl, h10⟩
      go_wp2_with (fail)
      refine (HD.out _ _ _ h10.seventh).mono ?_
      rintro e w11 ⟨A5, c5, rfl, h11⟩
      have hrA := sees_row st 5 1 (.slice A4 k c4) k (bcells zl) _ _ h11.right.right
      have hrB := sees_row st 5 1 (.slice A5 k c5) k (bcells zl) _ _ h11
      go_wp2_with (go_at_call 13; refine (same_any zl zl _ _ _ _ _ hrA hrB).mono ?_; rintro e w12 ⟨rfl, rfl⟩)
      refine (HD.out _ _ _ h11.fourth).mono ?_
      rintro e w13 ⟨A6, c6, rfl, h13⟩
      go_wp2_with (fail)
      refine (HR.out _ _ _ _ (h13.alloc _).third (sees_lit1 st _ w13.heap.size 5 (0, 0) (.int .u8 1))).mono ?_
      rintro e w14 ⟨rfl, h14⟩
      go_wp2_with (fail)
      refine (HD2.out _ _ _ h14).mono ?_
      rintro e w15 ⟨A7, c7, rfl, h15⟩
      have hrF := sees_row st 5 1 (.slice A6 k c6) k (bcells zl) _ _ h15.right.right.right
      have hrG := (sees_row st 5 1 (.slice A7 m c7) m (bcells ll) _ _ h15).take (m := k) (by omega)
      have hcapm := (sees_row st 5 1 (.slice A7 m c7) m (bcells ll) _ _ h15).le_cap.1
      rw [Nat.mul_one, HTK.out] at hrG
      obtain ⟨b, off, cap, e6, _, _, hc6⟩ := hrF.open (by omega)
      have hcell := hc6 0 _ HZ0.out
      rw [Nat.add_zero] at hcell
      clear hc6
      injection e6 with e6 _ e7
      subst e6 e7
      have hkb : ((k : Int) == 4 + (s.size : Int)) = true := by simp; omega
      have hmb : ((m : Int) == (k : Int) + 1) = true := by simp; omega
      go_wp2_with (go_at_call 13; refine (same_any zl zl _ _ _ _ _ hrG hrF).mono ?_; rintro e w16 ⟨rfl, rfl⟩)
      go_ret
      exact ⟨rfl, by have hh := h15; iterate 11 replace hh := hh.right
                     exact hh⟩
end Go.Proofs.Ytkmhopnpkilhiaa
