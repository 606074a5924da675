/-
  CodeMosts returns true: the whole.
-/
import Derived.Test.YtkmhopnpkilhiaaMosts
namespace Go.Proofs.Ytkmhopnpkilhiaa
open Go.RowKit Go.Sl
set_option linter.unusedVariables false
set_option linter.unusedSimpArgs false

theorem mosts_law (b : List UInt8) (c : Nat) (most : Int) (hb : b.length ≤ 200) (hc : c ≤ b.length + 4) :
    (c < 4 → rget ((le b.length 4 ++ b).take c) most = .error 20) ∧ (4 ≤ c → most.toNat < b.length → rget ((le b.length 4 ++ b).take c) most = .error 2) ∧
    (4 ≤ c → b.length ≤ most.toNat → c < b.length + 4 → rget ((le b.length 4 ++ b).take c) most = .error 20) ∧
    (c = b.length + 4 → b.length ≤ most.toNat → rget ((le b.length 4 ++ b).take c) most = .ok (b, [])) := by
  have hall : (le b.length 4 ++ b).length = b.length + 4 := by rw [List.length_append, le_length, Nat.add_comm]
  have hlen : ((le b.length 4 ++ b).take c).length = c := by rw [List.length_take, hall]; omega
  have h4 : 4 ≤ c → unle (((le b.length 4 ++ b).take c).take 4) = b.length := fun h => by
    rw [List.take_take, Nat.min_eq_left h, List.take_left' (le_length _ _), unle_le]
    exact Nat.mod_eq_of_lt (by omega)
  have hd : (((le b.length 4 ++ b).take c).drop 4).length = c - 4 := by rw [List.length_drop, hlen]
  refine ⟨fun h => ?_, fun h h1 => ?_, fun h h1 h2 => ?_, fun h h1 => ?_⟩
  · unfold rget; rw [if_pos (by rw [hlen]; exact h)]
  · unfold rget; rw [if_neg (by rw [hlen]; omega), h4 h, if_pos h1]
  · unfold rget; rw [if_neg (by rw [hlen]; omega), h4 h, if_neg (by omega), if_pos (by rw [hd]; omega)]
  · have e : ((le b.length 4 ++ b).take c).drop 4 = b := by
      rw [h, List.take_of_length_le (by rw [hall]; omega), List.drop_left' (le_length _ _)]
    unfold rget
    rw [if_neg (by rw [hlen]; omega), h4 (by omega), if_neg (by omega), e, if_neg (by omega), List.take_length, List.drop_length]

set_option maxHeartbeats 2000000 in
theorem mosts_any (st : World) (R : HProp) (b : List UInt8) (B : Option Addr) (d : Nat) (hs : Sees st R 1 (.slice B b.length d) b.length (bcells b)) (most cut : Int) (hm : most ≤ 9223372036854775807) (w : World) (h : Has st R w) :
    Calls Try.prog 8 #[.slice B b.length d, .int .i64 most, .int .i64 cut] w fun e w' => e = .returned (.bool true) ∧ Has st R w' := by
  have hmf := run_makeFunc
  have hbl : b.length ≤ 9223372036854775807 := by have := (hs w h).le_cap; unfold maxLen at this; omega
  have h0 := (h.alloc (.cells #[.slice B b.length d] 25 (0, 0))).alloc (.cells #[.int .i64 most] 3 (0, 0))
  rw [World.size_alloc] at h0
  by_cases hlong : 200 < b.length
  · go_enter Try.func8, Try.ntmps8
    go_wp2_with (go_at_call 9; refine (alive_any st _ _ h0).mono ?_; rintro e w1 ⟨rfl, h1⟩; have c1 := h1.second.cell 0)
    go_ret
    exact ⟨rfl, h1.right.right⟩
  · obtain ⟨n, hn⟩ : ∃ n, n = b.length := ⟨_, rfl⟩
    have hn200 : n ≤ 200 := by omega
    obtain ⟨all, hall⟩ : ∃ all, all = le b.length 4 ++ b := ⟨_, rfl⟩
    have halll : all.length = n + 4 := by rw [hall, List.length_append, le_length, hn, Nat.add_comm]
    have HBy : Hid (∀ p F w, Has st (sep (writer p []) F) w → (∀ w, Has st F w → Has st R w) → Calls Try.prog 32 #[.pointer (some ⟨p, 0, none⟩), .slice B n d] w fun e w' => e = .returned (.tuple #[]) ∧ Has st (sep (writer p all) F) w') := by
      intro p F w hw hF
      rw [hall, hn]
      exact bytes_any st F p [] b _ w hw (fun w hw => hs w (hF w hw)) (by simp; omega)
    have HDo : Hid (∀ p F w, Has st (sep (writer p all) F) w → Calls Try.prog 33 #[.pointer (some ⟨p, 0, none⟩)] w fun e w' => ∃ A c, e = .returned (.slice A (n + 4) c) ∧ Has st (sep (row 5 1 (.slice A (n + 4) c) (n + 4) (bcells all)) F) w') := by
      intro p F w hw
      refine (done_any st F p all w hw (by omega)).mono ?_
      rintro e w' ⟨A, c, rfl, h1⟩
      rw [halll] at h1 ⊢
      exact ⟨A, c, rfl, h1.drop2⟩
    rw [← hn] at h0 hs
    obtain ⟨q, hq, hq255⟩ : ∃ q : Nat, bits .and .i64 cut 255 = (q : Int) ∧ q ≤ 255 := ⟨(cut % 256).toNat, by rw [i64_and255]; omega, by omega⟩
    obtain ⟨k, hqk, hk⟩ : ∃ k : Nat, (q : Int) % ((n : Int) + 4 + 1) = (k : Int) ∧ k ≤ n + 4 := ⟨q % (n + 5), by rw [show (n : Int) + 4 + 1 = ((n + 5 : Nat) : Int) by omega]; norm_cast, by have := Nat.mod_lt q (show 0 < n + 5 by omega); omega⟩
    have HS := Lib.hid hs
    have HN := Lib.hid hn
    have HA := Lib.hid hall
    have HL := Lib.hid halll
    rw [← hn]
    clear hs hall halll hbl hlong hn
    go_enter Try.func8, Try.ntmps8
    go_wp2_with (first
      | (go_at_call 9; refine (alive_any st _ _ h0).mono ?_; rintro e w1 ⟨rfl, h1⟩; have c3 := h1.second.cell 0; have l3 := h1.second.lt; have l4 := h1.lt)
      | (go_at_call 32; refine (HBy.out _ _ _ (writer_new h1) (fun w h => h.right.right)).mono ?_; rintro e w2 ⟨rfl, h2⟩)
      | (go_at_call 33; refine (HDo.out _ _ _ h2).mono ?_; rintro e w3 ⟨A1, d1, rfl, h3⟩; have hcap := (sees_row st 5 1 (.slice A1 (n + 4) d1) (n + 4) (bcells all) _ _ h3).le_cap; have hkd : (k : Int) ≤ (d1 : Int) := by omega))
    have h4 := ((h3.alloc (.cells #[.slice none 0 0] 25)).alloc (.cells #[.int .i64 0] 37)).alloc (.cells #[.int .i64 0] 37)
    simp only [World.size_alloc] at h4
    have h5 : Has st (sep (sep (mosts (w.heap.size + 1) (w3.heap.size + 1) w.heap.size (w3.heap.size + 1 + 1) most 0 0 (.slice B n d)) (blk w3.heap.size (.cells #[.slice none 0 0] 25 (0, 0)))) (sep (row 5 1 (.slice A1 (n + 4) d1) (n + 4) (bcells all)) R)) _ := h4.cast (by unfold mosts; ac_rfl)
    have hlk : (all.take k).length = k := by rw [List.length_take, HL.out]; omega
    have hsl : Sees st (sep (row 5 1 (.slice A1 (n + 4) d1) (n + 4) (bcells all)) R) 1 (.slice A1 k d1) (all.take k).length (bcells (all.take k)) := fun w hw => by
      have := (sees_row st 5 1 (.slice A1 (n + 4) d1) (n + 4) (bcells all) _ _ hw).take (m := k) hk
      rw [hlk]
      rwa [Nat.mul_one, show (bcells all).take k = bcells (all.take k) from by unfold bcells; rw [List.map_take]] at this
    refine (decode_any st 36 _ (fun p W => call_f36 _ W) (all.take k) _ _ _ _ _ (mosts_reads st _ (w.heap.size + 1) (w3.heap.size + 1) w.heap.size w3.heap.size (w3.heap.size + 1 + 1) most hm B n d (by omega) (all.take k)) _ h5 hsl (by omega)).mono ?_
    rintro e w4 ⟨RB, c31, rfl, h6⟩
    have h7 : Has st (sep (sep (mosts (w.heap.size + 1) (w3.heap.size + 1) w.heap.size (w3.heap.size + 1 + 1) most (rcode (all.take k) most) (rcode (rrest (all.take k) most) n) (.slice B n d)) (gotP st (sep RB (sep (row 5 1 (.slice A1 (n + 4) d1) (n + 4) (bcells all)) R)) w3.heap.size (rgot (rrest (all.take k) most) n))) (sep RB (sep (row 5 1 (.slice A1 (n + 4) d1) (n + 4) (bcells all)) R))) w4 := by
      rcases qd_only h6 with ⟨_, h7⟩ | ⟨_, _, _, h7⟩ | ⟨_, h7⟩
      · exact h7
      · exact h7
      · exact absurd h7.pureL.1 id
    clear h4 h5 h6 hsl h0 h1 h2 h3 l3 l4 c3
    have h8 : Has st (sep (blk (w3.heap.size + 1) (.cells #[.int .i64 (rcode (all.take k) most)] 37 (0, 0))) (sep (blk w.heap.size (.cells #[.slice B n d] 25 (0, 0))) (sep (blk (w.heap.size + 1) (.cells #[.int .i64 most] 3 (0, 0))) (sep (blk (w3.heap.size + 1 + 1) (.cells #[.int .i64 (rcode (rrest (all.take k) most) n)] 37 (0, 0))) (sep (gotP st (sep RB (sep (row 5 1 (.slice A1 (n + 4) d1) (n + 4) (bcells all)) R)) w3.heap.size (rgot (rrest (all.take k) most) n)) (sep RB (sep (row 5 1 (.slice A1 (n + 4) d1) (n + 4) (bcells all)) R))))))) w4 := h7.cast (by unfold mosts; ac_rfl)
    clear h7
    have c10 := h8.cell 0
    have c3 := h8.second.cell 0
    have c4 := h8.third.cell 0
    have c11 := h8.fourth.cell 0
    have hend := h8.right.right.right.right.right.right.right
    obtain ⟨law1, law2, law3, law4⟩ := mosts_law b k most (by rw [← HN.out]; exact hn200) (by rw [← HN.out]; exact hk)
    rw [← HA.out] at law1 law2 law3 law4
    rw [← HN.out] at law2 law3 law4
    have hmn : IntKind.i64.wrap ((n : Int) + 4) = (n : Int) + 4 := IntWalk.i64_in _ ⟨by omega, by omega⟩
    rcases Nat.lt_or_ge k 4 with hk4 | hk4
    · have e1 : rcode (all.take k) most = 20 := by unfold rcode; rw [law1 hk4]
      rw [e1] at c10
      clear law1 law2 law3 law4 h8
      go_wp2
      go_ret
      exact ⟨rfl, hend⟩
    · rcases Nat.lt_or_ge most.toNat n with hm2 | hm2
      · have e1 : rcode (all.take k) most = 2 := by unfold rcode; rw [law2 hk4 hm2]
        have e2 : rrest (all.take k) most = all.take k := by unfold rrest; rw [law2 hk4 hm2]
        rw [e2] at c11 h8
        rw [e1] at c10
        clear law1 law2 law3 law4
        have hmx : max most 0 < (n : Int) := by omega
        obtain ⟨_, _, law3, law4⟩ := mosts_law b k (n : Int) (by rw [← HN.out]; exact hn200) (by rw [← HN.out]; exact hk)
        rw [← HA.out] at law3 law4
        rw [← HN.out] at law3 law4
        rcases Nat.lt_or_ge k (n + 4) with hk5 | hk5
        · have e3 : rcode (all.take k) n = 20 := by unfold rcode; rw [law3 hk4 (by omega) hk5]
          rw [e3] at c11
          clear h8 law3 law4 e1 e2 e3
          have hkb : ((k : Int) == (n : Int) + 4) = false := by simp; omega
          go_wp2
          all_goals (go_ret; exact ⟨rfl, hend⟩)
        · have hk6 : k = n + 4 := by omega
          have e3 : rcode (all.take k) n = 0 := by unfold rcode; rw [law4 hk6 (by omega)]
          have e4 : rgot (all.take k) n = some b := by unfold rgot; rw [law4 hk6 (by omega)]
          rw [e3] at c11
          rw [e4] at h8
          obtain ⟨A2, h9⟩ := h8.right.right.right.right.exL
          obtain ⟨d2, h10⟩ := h9.exL
          obtain ⟨hsg, h11⟩ := h10.assoc.pureL
          have hrg := hsg _ h11.right
          have hrb := HS.out _ hend
          rw [← HN.out] at hrg h11
          have c9 := h11.cell 0
          clear h8 h9 h10 h11 hsg law3 law4 e1 e2 e3 e4
          subst hk6
          go_wp2_with (go_at_call 13; refine (same_self b _ _ _ _ _ hrg hrb).mono ?_; rintro e w5 ⟨rfl, rfl⟩)
          all_goals (go_ret; exact ⟨rfl, hend⟩)
      · have hmx : ¬ max most 0 < (n : Int) := by omega
        rcases Nat.lt_or_ge k (n + 4) with hk5 | hk5
        · have e1 : rcode (all.take k) most = 20 := by unfold rcode; rw [law3 hk4 hm2 hk5]
          rw [e1] at c10
          clear law1 law2 law3 law4 h8 e1
          go_wp2
          all_goals (go_ret; exact ⟨rfl, hend⟩)
        · have hk6 : k = n + 4 := by omega
          have e1 : rcode (all.take k) most = 0 := by unfold rcode; rw [law4 hk6 hm2]
          rw [e1] at c10
          clear law1 law2 law3 law4 h8 e1
          subst hk6
          go_wp2
          all_goals (go_ret; exact ⟨rfl, hend⟩)
end Go.Proofs.Ytkmhopnpkilhiaa
