/-
  The reference's Get and Some.
-/
import Derived.Test.YtkmhopnpkilhiaaRefRead
import Derived.Deep.RegionWith
namespace Go.Proofs.Ytkmhopnpkilhiaa
open Go.RowKit Go.Sl
set_option linter.unusedVariables false
set_option linter.unusedSimpArgs false

theorem unle_drop (l : List UInt8) (j : Nat) (h : j < l.length) : unle (l.drop j) = 256 * unle (l.drop (j + 1)) + l[j].toNat := by
  rw [List.drop_eq_getElem_cons h, unle]; omega

set_option maxHeartbeats 1000000 in
theorem refget_ok (st : World) (R F : HProp) (hF : ∀ w, Has st F w → Has st R w) (l : List UInt8) (A : Option Addr) (c : Nat) (hs : Sees st R 1 (.slice A l.length c) l.length (bcells l)) (size : Int) (hn : held size ≤ l.length) (w : World) (h : Has st F w) :
    Calls Try.prog 47 #[.agg #[.slice A l.length c, .int .i64 0], .int .i64 size] w fun e w' => ∃ A2 c2, e = .returned (.tuple #[.agg #[.slice A2 (l.length - held size) c2, .int .i64 0], .int .u64 (unle (l.take (held size)))]) ∧
      Sees st R 1 (.slice A2 (l.length - held size) c2) (l.length - held size) (bcells (l.drop (held size))) ∧ Has st F w' := by
  have hh := held_pos size
  have hheld := fun w => refHeld_any size 1 8 w
  rw [clamp_held] at hheld
  generalize hk : held size = k at hh hn hheld ⊢
  clear hk
  have h1 := (h.alloc (.cells #[.slice A l.length c, .int .i64 0] 36)).alloc (.cells #[.slice none 0 0, .int .i64 0] 36)
  rw [World.size_alloc] at h1
  have hraw := fun w2 hw => refraw_ok st R _ (fun w h => hF w h.right.right) l A c hs k k (by omega) hn w2 (hw : Has st (sep (blk (w.heap.size + 1) (.cells #[.slice none 0 0, .int .i64 0] 36)) (sep (blk w.heap.size (.cells #[.slice A l.length c, .int .i64 0] 36)) F)) w2)
  have HRaw := Lib.hid hraw
  have HHeld := Lib.hid hheld
  have HS := Lib.hid hs
  have hd0 := h1.drew
  clear hraw hheld hs
  go_enter Try.func47, Try.ntmps47
  go_wp2_with (fail)
  go_region_with (first
    | (go_at_call 25; refine (HHeld.out _).mono ?_; rintro e w' ⟨rfl, rfl⟩)
    | (go_at_call 49; go_loud (refine (HRaw.out _ hd0).mono ?_; rintro e w1 ⟨A1, c1, A2, c2, rfl, hs1, hs2, h2⟩; have hc0 := h2.second.cell 0; have hf0 := h2.second.free 0; have hc1 := h2.second.cell 1; have hf1 := h2.second.free 1; have HS1 := Lib.hid hs1; have HS2 := Lib.hid hs2; clear hs1 hs2)))
  all_goals
    have h3 := (h2.second.set 0 (.slice A2 (l.length - k) c2)).set 1 (.int .i64 0)
    simp only [List.setIfInBounds_toArray, List.set_cons_zero, List.set_cons_succ] at h3
    generalize ((w1.setCell ⟨w.heap.size, 0, none⟩ (.slice A2 (l.length - k) c2)).setCell ⟨w.heap.size, 1, none⟩ (.int .i64 0)) = w3 at h3 ⊢
    clear hc0 hc1 hf0 hf1 h2 h1 hd0 h
    have hw1 : IntKind.i64.wrap ((k : Int) - 1) = (k : Int) - 1 := IntWalk.i64_in _ ⟨by omega, by omega⟩
    have hc0 := h3.cell 0
    have hc1 := h3.cell 1
    have hr0 := h3.second.cell 0
    have hr1 := h3.second.cell 1
    have hq0 := h3.second.free 0
    have hq1 := h3.second.free 1
    go_wp2_with (fail)
    go_loop [7, 8] (fun v7 v8 => ∃ j : Nat, j ≤ k ∧ v8 = .int .i64 ((j : Int) - 1) ∧ ∃ n : Nat, v7 = .int .u64 n ∧ Hid (n = unle ((l.take k).drop j))) (fun _ v8 => (intOf v8 + 1).toNat)
    case atStart => exact ⟨k, Nat.le_refl _, rfl, 0, rfl, by show _ = _; rw [List.drop_of_length_le (by rw [List.length_take]; omega)]; rfl⟩
    case round =>
      obtain ⟨j, hj, rfl, n, rfl, HE⟩ := hrel
      by_cases hlt : 0 < j
      · obtain ⟨i, rfl⟩ : ∃ i, j = i + 1 := ⟨j - 1, by omega⟩
        obtain ⟨b, off, cap, e, hc⟩ := Rd.open (HS1.out w3 (hF _ h3.right.right)) (by omega)
        have hlk : i < (l.take k).length := by rw [List.length_take]; omega
        have hcell := hc.2.2 i _ (bcells_get hlk)
        injection e with e1 e2 e3
        subst e1
        have hlt' := unle_lt ((l.take k).drop (i + 1))
        rw [← HE.out] at hlt'
        have hp : 256 ^ ((l.take k).drop (i + 1)).length ≤ 256 ^ 7 := Nat.pow_le_pow_right (by decide) (by rw [List.length_drop, List.length_take]; omega)
        have h7 : (256 : Nat) ^ 7 = 72057594037927936 := by decide
        have hn7 : n < 72057594037927936 := by omega
        have hw2 : ((i + 1 : Nat) : Int) - 1 = (i : Int) := by omega
        obtain ⟨x, hx⟩ : ∃ x : UInt8, x = (l.take k)[i] := ⟨_, rfl⟩
        rw [← hx] at hcell
        have hx8 := x.toNat_lt
        have hnew : 256 * n + x.toNat = unle ((l.take k).drop i) := by rw [unle_drop _ _ hlk, ← hx, ← HE.out]
        have HNew := Lib.hid hnew
        clear hnew hlt' hp h7 hx hlk
        rw [hw2]
        go_wp2
        go_round
        case rel => exact ⟨i, by omega, by go_num, 256 * n + x.toNat, by go_num, HNew⟩
        case measure => simp [intOf]
      · obtain rfl : j = 0 := by omega
        go_wp2
        have h4 := (h3.second.set 0 (.slice A2 (l.length - k) c2)).set 1 (.int .i64 0)
        simp only [List.setIfInBounds_toArray, List.set_cons_zero, List.set_cons_succ] at h4
        have hd0 := h4.cell 0
        have hd1 := h4.cell 1
        have hval : n = unle (l.take k) := HE.out
        show bodyPost _ _ _ _ _ _
        refine ⟨rfl, .tuple #[.agg #[.slice A2 (l.length - k) c2, .int .i64 0], .int .u64 n], by simp [results, Try.results47, go_sem, hd0, hd1], A2, c2, by rw [hval], HS2.out, h4.right.right⟩

set_option maxHeartbeats 1000000 in
theorem refget_no (st : World) (R : HProp) (l : List UInt8) (A : Option Addr) (c : Nat) (hll : l.length ≤ 9223372036854775807) (size : Int) (hn : l.length < held size) (w : World) (h : Has st R w) :
    Calls Try.prog 47 #[.agg #[.slice A l.length c, .int .i64 0], .int .i64 size] w fun e w' => e = .returned (.tuple #[.agg #[.slice A l.length c, .int .i64 20], .int .u64 0]) ∧ Has st R w' := by
  have hh := held_pos size
  have hheld := fun w => refHeld_any size 1 8 w
  rw [clamp_held] at hheld
  generalize hk : held size = k at hh hn hheld ⊢
  clear hk
  have h1 := (h.alloc (.cells #[.slice A l.length c, .int .i64 0] 36)).alloc (.cells #[.slice none 0 0, .int .i64 0] 36)
  rw [World.size_alloc] at h1
  have hraw := fun w2 hw => refraw_no st _ l A c hll k (by omega) w2 (hw : Has st (sep (blk (w.heap.size + 1) (.cells #[.slice none 0 0, .int .i64 0] 36)) (sep (blk w.heap.size (.cells #[.slice A l.length c, .int .i64 0] 36)) R)) w2)
  have HRaw := Lib.hid hraw
  have HHeld := Lib.hid hheld
  have hd0 := h1.drew
  clear hraw hheld
  go_enter Try.func47, Try.ntmps47
  go_wp2_with (fail)
  go_region_with (first
    | (go_at_call 25; refine (HHeld.out _).mono ?_; rintro e w' ⟨rfl, rfl⟩)
    | (go_at_call 49; refine (HRaw.out _ hd0).mono ?_; rintro e w1 ⟨rfl, h2⟩; have hc0 := h2.second.cell 0; have hf0 := h2.second.free 0; have hc1 := h2.second.cell 1; have hf1 := h2.second.free 1))
  all_goals
    have h3 := (h2.second.set 0 (.slice A l.length c)).set 1 (.int .i64 20)
    simp only [List.setIfInBounds_toArray, List.set_cons_zero, List.set_cons_succ] at h3
    generalize ((w1.setCell ⟨w.heap.size, 0, none⟩ (.slice A l.length c)).setCell ⟨w.heap.size, 1, none⟩ (.int .i64 20)) = w3 at h3 ⊢
    clear hc0 hc1 hf0 hf1 h2 h1 hd0 h
    have hc0 := h3.cell 0
    have hc1 := h3.cell 1
    have hr0 := h3.second.cell 0
    have hr1 := h3.second.cell 1
    have hq0 := h3.second.free 0
    have hq1 := h3.second.free 1
    go_wp2_with (fail)
    go_loop [7, 8] (fun v7 v8 => v7 = .int .u64 0 ∧ v8 = .int .i64 (-1)) (fun _ v8 => 0)
    case atStart => exact ⟨rfl, rfl⟩
    case round =>
      obtain ⟨rfl, rfl⟩ := hrel
      go_wp2
      have h4 := (h3.second.set 0 (.slice A l.length c)).set 1 (.int .i64 20)
      simp only [List.setIfInBounds_toArray, List.set_cons_zero, List.set_cons_succ] at h4
      have hd0 := h4.cell 0
      have hd1 := h4.cell 1
      show bodyPost _ _ _ _ _ _
      exact ⟨rfl, .tuple #[.agg #[.slice A l.length c, .int .i64 20], .int .u64 0], by simp [results, Try.results47, go_sem, hd0, hd1], rfl, h4.right.right⟩
end Go.Proofs.Ytkmhopnpkilhiaa
