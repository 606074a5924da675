/-
  The reference's Some.
-/
import Derived.Test.YtkmhopnpkilhiaaRefGet
namespace Go.Proofs.Ytkmhopnpkilhiaa
open Go.RowKit Go.Sl
set_option linter.unusedVariables false
set_option linter.unusedSimpArgs false

def RefSome (st : World) (R F : HProp) (l : List UInt8) (A : Option Addr) (c : Nat) (most : Int) (e : Ending) (w' : World) : Prop :=
  match rget l most with
  | .error x => e = .returned (.tuple #[.agg #[.slice A l.length c, .int .i64 x], .slice none 0 0]) ∧ Has st F w'
  | .ok (x, r) => ∃ A1 c1 A2 c2, e = .returned (.tuple #[.agg #[.slice A2 r.length c2, .int .i64 0], .slice A1 x.length c1]) ∧
      Sees st R 1 (.slice A1 x.length c1) x.length (bcells x) ∧ Sees st R 1 (.slice A2 r.length c2) r.length (bcells r) ∧ Has st F w'

set_option maxHeartbeats 1000000 in
theorem refsome_any (st : World) (R F : HProp) (hF : ∀ w, Has st F w → Has st R w) (l : List UInt8) (A : Option Addr) (c : Nat) (hs : Sees st R 1 (.slice A l.length c) l.length (bcells l)) (most : Int) (hm : most ≤ 9223372036854775807) (w : World) (h : Has st F w) :
    Calls Try.prog 48 #[.agg #[.slice A l.length c, .int .i64 0], .int .i64 most] w (RefSome st R F l A c most) := by
  have hll : l.length ≤ 9223372036854775807 := by have := (hs w (hF w h)).le_cap; unfold maxLen at this; omega
  have h1 := (h.alloc (.cells #[.slice A l.length c, .int .i64 0] 36)).alloc (.cells #[.slice none 0 0, .int .i64 0] 36)
  rw [World.size_alloc] at h1
  by_cases hl : l.length < 4
  · have hp : ∀ w', Has st F w' → RefSome st R F l A c most (.returned (.tuple #[.agg #[.slice A l.length c, .int .i64 20], .slice none 0 0])) w' := by
      intro w' h'; unfold RefSome; rw [show rget l most = .error 20 from if_pos hl]; exact ⟨rfl, h'⟩
    have HP := Lib.hid hp
    clear hp
    have hget := fun w2 hw => refget_no st _ l A c hll 4 (by show _ < 4; exact hl) w2 (hw : Has st (sep (blk (w.heap.size + 1) (.cells #[.slice none 0 0, .int .i64 0] 36)) (sep (blk w.heap.size (.cells #[.slice A l.length c, .int .i64 0] 36)) F)) w2)
    have HG := Lib.hid hget
    clear hget hs
    go_enter Try.func48, Try.ntmps48
    go_wp2_with (fail)
    refine (HG.out _ h1).mono ?_
    rintro e w1 ⟨rfl, h2⟩
    have hx0 := h2.second.cell 0
    have hx1 := h2.second.cell 1
    have fx0 := h2.second.free 0
    have fx1 := h2.second.free 1
    have hr0 := h2.cell 0
    have hr1 := h2.cell 1
    have fr0 := h2.free 0
    have fr1 := h2.free 1
    have lx := h2.second.lt
    have lr := h2.lt
    go_wp2
    have h5 := ((((h2.second.set 1 (.int .i64 20)).second.set 0 (.slice A l.length c)).set 1 (.int .i64 20))).alloc (.cells #[.slice A l.length c, .int .i64 20] 36)
    simp only [List.setIfInBounds_toArray, List.set_cons_zero, List.set_cons_succ] at h5
    have hd0 := h5.second.cell 0
    have hd1 := h5.second.cell 1
    show bodyPost _ _ _ _ _ _
    exact ⟨rfl, .tuple #[.agg #[.slice A l.length c, .int .i64 20], .slice none 0 0], by simp [results, Try.results48, go_sem, hd0, hd1], HP.out _ h5.right.right.right⟩
  · have hl4 : 4 ≤ l.length := by omega
    obtain ⟨n, hn⟩ : ∃ n, n = unle (l.take 4) := ⟨_, rfl⟩
    obtain ⟨r, hr⟩ : ∃ r, r = l.drop 4 := ⟨_, rfl⟩
    have hrl : r.length + 4 = l.length := by rw [hr, List.length_drop]; omega
    have hn32 : n < 4294967296 := by have := unle_lt (l.take 4); rw [← hn, List.length_take, Nat.min_eq_left hl4] at this; exact this
    have hget := fun w2 hw => refget_ok st R _ (fun w h => hF w h.right.right) l A c hs 4 (by show 4 ≤ _; exact hl4) w2 (hw : Has st (sep (blk (w.heap.size + 1) (.cells #[.slice none 0 0, .int .i64 0] 36)) (sep (blk w.heap.size (.cells #[.slice A l.length c, .int .i64 0] 36)) F)) w2)
    rw [show held 4 = 4 from rfl, ← hn, ← hr, show l.length - 4 = r.length by omega] at hget
    have HG := Lib.hid hget
    have hlaw : rget l most = if most.toNat < n then .error 2 else if r.length < n then .error 20 else .ok (r.take n, r.drop n) := by
      unfold rget; rw [if_neg (by omega), ← hn, ← hr]
    clear hget hn hr hs
    go_enter Try.func48, Try.ntmps48
    go_wp2_with (fail)
    refine (HG.out _ h1).mono ?_
    rintro e w1 ⟨A2, c2, rfl, hs2, h2⟩
    have HS2 := Lib.hid hs2
    clear hs2
    have hx0 := h2.second.cell 0
    have hx1 := h2.second.cell 1
    have fx0 := h2.second.free 0
    have fx1 := h2.second.free 1
    have hr0 := h2.cell 0
    have hr1 := h2.cell 1
    have fr0 := h2.free 0
    have fr1 := h2.free 1
    have lx := h2.second.lt
    have lr := h2.lt
    clear h1 h
    by_cases hm2 : most.toNat < n
    · have hrg : rget l most = .error 2 := by rw [hlaw, if_pos hm2]
      clear hlaw
      have hp : ∀ w', Has st F w' → RefSome st R F l A c most (.returned (.tuple #[.agg #[.slice A l.length c, .int .i64 2], .slice none 0 0])) w' := by
        intro w' h'; unfold RefSome; rw [hrg]; exact ⟨rfl, h'⟩
      have HP := Lib.hid hp
      clear hp hrg
      go_wp2
      all_goals
        have h5 := ((((h2.second.set 1 (.int .i64 2)).second.set 0 (.slice A l.length c)).set 1 (.int .i64 2))).alloc (.cells #[.slice A2 r.length c2, .int .i64 0] 36)
        simp only [List.setIfInBounds_toArray, List.set_cons_zero, List.set_cons_succ] at h5
        have hd0 := h5.second.cell 0
        have hd1 := h5.second.cell 1
        show bodyPost _ _ _ _ _ _
        exact ⟨rfl, .tuple #[.agg #[.slice A l.length c, .int .i64 2], .slice none 0 0], by simp [results, Try.results48, go_sem, hd0, hd1], HP.out _ h5.right.right.right⟩
    · by_cases hr2 : r.length < n
      · have hrg : rget l most = .error 20 := by rw [hlaw, if_neg hm2, if_pos hr2]
        clear hlaw
        have hp : ∀ w', Has st F w' → RefSome st R F l A c most (.returned (.tuple #[.agg #[.slice A l.length c, .int .i64 20], .slice none 0 0])) w' := by
          intro w' h'; unfold RefSome; rw [hrg]; exact ⟨rfl, h'⟩
        have HP := Lib.hid hp
        clear hp hrg
        go_wp2
        all_goals
          have h5 := ((((h2.second.set 1 (.int .i64 20)).second.set 0 (.slice A l.length c)).set 1 (.int .i64 20))).alloc (.cells #[.slice A2 r.length c2, .int .i64 0] 36)
          simp only [List.setIfInBounds_toArray, List.set_cons_zero, List.set_cons_succ] at h5
          have hd0 := h5.second.cell 0
          have hd1 := h5.second.cell 1
          show bodyPost _ _ _ _ _ _
          exact ⟨rfl, .tuple #[.agg #[.slice A l.length c, .int .i64 20], .slice none 0 0], by simp [results, Try.results48, go_sem, hd0, hd1], HP.out _ h5.right.right.right⟩
      · have hrg : rget l most = .ok (r.take n, r.drop n) := by rw [hlaw, if_neg hm2, if_neg hr2]
        clear hlaw
        have hnr : n ≤ r.length := by omega
        have h3 := h2.alloc (.cells #[.slice A2 r.length c2, .int .i64 0] 36)
        have HRaw := Lib.hid (refraw_ok st R _ (fun w h => hF w h.right.right.right) r A2 c2 HS2.out n n rfl hnr _ h3)
        clear h3 
        go_wp2_with (fail)
        all_goals
          refine HRaw.out.mono ?_
          rintro e w3 ⟨A3, c3, A4, c4, rfl, hs3, hs4, h4⟩
          have HS3 := Lib.hid hs3
          have HS4 := Lib.hid hs4
          clear hs3 hs4
          have hy0 := h4.second.cell 0
          have hy1 := h4.second.cell 1
          have fy0 := h4.second.free 0
          have fy1 := h4.second.free 1
          go_wp2
          have h5 := (h4.second.set 0 (.slice A4 (r.length - n) c4)).set 1 (.int .i64 0)
          simp only [List.setIfInBounds_toArray, List.set_cons_zero, List.set_cons_succ] at h5
          have hd0 := h5.cell 0
          have hd1 := h5.cell 1
          show bodyPost _ _ _ _ _ _
          refine ⟨rfl, .tuple #[.agg #[.slice A4 (r.length - n) c4, .int .i64 0], .slice A3 n c3], by simp [results, Try.results48, go_sem, hd0, hd1], ?_⟩
          unfold RefSome
          rw [hrg]
          have e1 : (r.take n).length = n := by rw [List.length_take]; omega
          have e2 : (r.drop n).length = r.length - n := by rw [List.length_drop]
          simp only [e1, e2]
          exact ⟨A3, c3, A4, c4, rfl, HS3.out, HS4.out, h5.right.right.right⟩
end Go.Proofs.Ytkmhopnpkilhiaa
