/-
  The reference's reader: Raw, Get, Some, End.
-/
import Derived.Test.YtkmhopnpkilhiaaBackLaw
namespace Go.Proofs.Ytkmhopnpkilhiaa
open Go.RowKit Go.Sl
set_option linter.unusedVariables false
set_option linter.unusedSimpArgs false

/-- the reference's Reader, by value -/
def rv (A : Option Addr) (n c : Nat) (e : Int) : Value := .agg #[.slice A n c, .int .i64 e]

set_option maxHeartbeats 400000 in
theorem refraw_ok (st : World) (R F : HProp) (hF : ∀ w, Has st F w → Has st R w) (l : List UInt8) (A : Option Addr) (c : Nat) (hs : Sees st R 1 (.slice A l.length c) l.length (bcells l)) (n : Int) (k : Nat) (hk : n.toNat = k) (hn : k ≤ l.length) (w : World) (h : Has st F w) :
    Calls Try.prog 49 #[.agg #[.slice A l.length c, .int .i64 0], .int .i64 n] w fun e w' => ∃ A1 c1 A2 c2, e = .returned (.tuple #[.agg #[.slice A2 (l.length - k) c2, .int .i64 0], .slice A1 k c1]) ∧
      Sees st R 1 (.slice A1 k c1) k (bcells (l.take k)) ∧ Sees st R 1 (.slice A2 (l.length - k) c2) (l.length - k) (bcells (l.drop k)) ∧ Has st F w' := by
  have hr := hs w (hF w h)
  obtain ⟨hcap, hmax⟩ := hr.le_cap
  unfold maxLen at hmax
  have h1 := h.alloc (.cells #[.slice A l.length c, .int .i64 0] 36)
  have hr1 := hs _ (hF _ h1.right)
  have h2 := h1.alloc (.cells #[.slice none 0 0, .int .i64 0] 36)
  rw [World.size_alloc] at h2
  have hr2 := hs _ (hF _ h2.right.right)
  have HS := Lib.hid hs
  clear hs
  by_cases hneg : n < 0
  · obtain rfl : k = 0 := by omega
    go_enter Try.func49, Try.ntmps49
    go_wp2_with (fail)
    have h3 := (h.alloc (.cells #[.slice A l.length c, .int .i64 0] 36 (0, 0))).alloc (.cells #[.slice A l.length c, .int .i64 0] 36 (0, 0))
    rw [World.size_alloc] at h3
    have hc0 := h3.cell 0
    have hc1 := h3.cell 1
    show bodyPost _ _ _ _ _ _
    refine ⟨rfl, .tuple #[.agg #[.slice A l.length c, .int .i64 0], .slice A 0 c], by simp [results, Try.results49, go_sem, hc0, hc1], A, c, A, c, rfl, fun w' hw' => ?_, fun w' hw' => ?_, h3.right.right⟩
    · have := (HS.out w' hw').take (m := 0) (Nat.zero_le _)
      simpa [bcells] using this
    · exact HS.out w' hw'
  · obtain ⟨k', rfl⟩ : ∃ k' : Nat, n = (k' : Int) := ⟨n.toNat, by omega⟩
    obtain rfl : k' = k := by omega
    go_enter Try.func49, Try.ntmps49
    go_wp2_with (refine wp_slice rfl 25 5 1 (.tmp 25) (some (.tmp 26)) none none rfl Try.underlying25 sizeB (by decide) rfl hr2 k' l.length c (SlB.at .i64 k' 0) (SlB.out _) (SlB.out _) (by simp) hn (Nat.le_refl _) hcap (Nat.le_refl _) ?_; intro A2 c2 hA2)
    have h3 := (h.alloc (.cells #[.slice A2 (l.length - k') c2, .int .i64 0] 36 (0, 0))).alloc (.cells #[.slice A2 (l.length - k') c2, .int .i64 0] 36 (0, 0))
    rw [World.size_alloc] at h3
    have hc0 := h3.cell 0
    have hc1 := h3.cell 1
    show bodyPost _ _ _ _ _ _
    refine ⟨rfl, .tuple #[.agg #[.slice A2 (l.length - k') c2, .int .i64 0], .slice A k' c], by simp [results, Try.results49, go_sem, hc0, hc1], A, c, A2, c2, rfl, fun w' hw' => ?_, fun w' hw' => ?_, h3.right.right⟩
    · have := (HS.out w' hw').take (m := k') hn
      simpa [bcells] using this
    · have := hA2 w' (HS.out w' hw')
      rw [part_bytes] at this
      rwa [show List.take (l.length - k') (l.drop k') = l.drop k' from List.take_of_length_le (by simp)] at this

set_option maxHeartbeats 400000 in
theorem refraw_no (st : World) (R : HProp) (l : List UInt8) (A : Option Addr) (c : Nat) (hll : l.length ≤ 9223372036854775807) (n : Int) (hn : l.length < n.toNat) (w : World) (h : Has st R w) :
    Calls Try.prog 49 #[.agg #[.slice A l.length c, .int .i64 0], .int .i64 n] w fun e w' => e = .returned (.tuple #[.agg #[.slice A l.length c, .int .i64 20], .slice none 0 0]) ∧ Has st R w' := by
  obtain ⟨k, rfl⟩ : ∃ k : Nat, n = (k : Int) := ⟨n.toNat, by omega⟩
  go_enter Try.func49, Try.ntmps49
  go_wp2_with (fail)
  have h3 := (h.alloc (.cells #[.slice A l.length c, .int .i64 20] 36 (0, 0))).alloc (.cells #[.slice A l.length c, .int .i64 20] 36 (0, 0))
  rw [World.size_alloc] at h3
  have hc0 := h3.cell 0
  have hc1 := h3.cell 1
  show bodyPost _ _ _ _ _ _
  exact ⟨rfl, .tuple #[.agg #[.slice A l.length c, .int .i64 20], .slice none 0 0], by simp [results, Try.results49, go_sem, hc0, hc1], rfl, h3.right.right⟩

set_option maxHeartbeats 400000 in
theorem end_any (st : World) (R : HProp) (A : Option Addr) (n c : Nat) (w : World) (h : Has st R w) :
    Calls Try.prog 23 #[.agg #[.slice A n c, .int .i64 0]] w fun e w' => e = .returned (.int .i64 (if n = 0 then 0 else 22)) ∧ Has st R w' := by
  by_cases hn : n = 0
  · subst hn
    have h1 := (h.alloc (.cells #[.slice A 0 c, .int .i64 0] 36 (0, 0))).right
    go_enter Try.func23, Try.ntmps23
    go_wp2_with (fail)
    go_ret
    exact ⟨rfl, h1⟩
  · rw [if_neg hn]
    have h0 : 0 < n := by omega
    have hb : decide ((0 : Int) < (n : Int)) = true := by simp; omega
    clear hn
    have h1 := (h.alloc (.cells #[.slice A n c, .int .i64 0] 36 (0, 0))).right
    go_enter Try.func23, Try.ntmps23
    go_wp2_with (fail)
    go_ret
    exact ⟨rfl, h1⟩

end Go.Proofs.Ytkmhopnpkilhiaa
