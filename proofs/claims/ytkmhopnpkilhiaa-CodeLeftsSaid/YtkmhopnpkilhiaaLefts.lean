/-
  CodeLefts returns true.
-/
import Derived.Test.YtkmhopnpkilhiaaAlive2
import Derived.Test.YtkmhopnpkilhiaaSl2
import Derived.Deep.RegionLaw
import Derived.Deep.QuietTactic
import Derived.BigQuiet
namespace Go.Proofs.Ytkmhopnpkilhiaa
open Go.RowKit Go.Sl
set_option linter.unusedVariables false
set_option linter.unusedSimpArgs false

/-- the four captured variables: the sizes, what was got, whether all was well, how many are left -/
def lefts (p1 p2 p3 p4 : Nat) (vs : Value) (got : List UInt8) (good : Bool) (left : Int) : HProp :=
  ex fun v => sep (blk p2 (.cells #[v] 25 (0, 0))) (sep (row 5 1 v got.length (bcells got)) (sep (blk p1 (.cells #[vs] 60 (0, 0))) (sep (blk p3 (.cells #[.bool good] 4 (0, 0))) (blk p4 (.cells #[.int .i64 left] 3 (0, 0))))))

def LeftsRel (st : World) (R X : HProp) (p p1 p2 p3 p4 : Nat) (vs : Value) (l : List UInt8) (len : Nat) (v11 : Value) (wr : World) : Prop :=
  ∃ (i c : Nat), i ≤ len ∧ v11 = .int .i64 i ∧ c ≤ l.length ∧ Has st (sep (lefts p1 p2 p3 p4 vs (l.take c) true 0) (sep (reader st R p (l.drop c)) (sep X R))) wr

set_option maxHeartbeats 1000000 in
theorem lefts_reads (st : World) (R : HProp) (p1 p2 p3 p4 : Nat) (l : List UInt8) (hl : l.length ≤ 200) (zs : List Int) (A : Option Addr) (k : Nat) (hz : Sees st R 1 (.slice A zs.length k) zs.length (icells zs)) :
    Reads st 35 #[.pointer (some ⟨p1, 0, none⟩), .pointer (some ⟨p2, 0, none⟩), .pointer (some ⟨p3, 0, none⟩), .pointer (some ⟨p4, 0, none⟩)] l
    (lefts p1 p2 p3 p4 (.slice A zs.length k) [] true 0) R
    (fun _ l' => ex fun c : Nat => sep (pure (c ≤ l.length ∧ l' = l.drop c)) (lefts p1 p2 p3 p4 (.slice A zs.length k) (l.take c) true ((l.length - c : Nat) : Int))) (fun _ _ => pure False) := by
  intro RB X p w h
  have hz' : Sees st (sep RB R) 1 (.slice A zs.length k) zs.length (icells zs) := hz.right
  generalize sep RB R = RR at h hz'
  clear hz
  show Calls Try.prog 35 #[.pointer (some ⟨p, 0, none⟩), .pointer (some ⟨p1, 0, none⟩), .pointer (some ⟨p2, 0, none⟩), .pointer (some ⟨p3, 0, none⟩), .pointer (some ⟨p4, 0, none⟩)] w _
  have c1 : w.cell? ⟨p1, 0, none⟩ = some (.slice A zs.length k) := by
    obtain ⟨v, h⟩ := h.exL
    exact (h.cast (by ac_rfl : _ = sep (blk p1 (.cells #[.slice A zs.length k] 60 (0, 0))) (sep (sep (blk p2 (.cells #[v] 25 (0, 0))) (sep (row 5 1 v ([] : List UInt8).length (bcells [])) (sep (blk p3 (.cells #[.bool true] 4 (0, 0))) (blk p4 (.cells #[.int .i64 0] 3 (0, 0)))))) (sep (reader st RR p l) (sep X RR))))).cell 0
  have hzl : zs.length ≤ 9223372036854775807 := by have := (hz' w h.right.right.right).le_cap; unfold maxLen at this; omega
  have HZ := Lib.hid hz'
  clear hz'
  go_enter Try.func35, Try.ntmps35
  go_wp2_with (fail)
  go_loopw [7, 8, 11] (fun _ _ v11 wr => LeftsRel st RR X p p1 p2 p3 p4 (.slice A zs.length k) l zs.length v11 wr) (fun _ _ v11 _ => zs.length - (intOf v11).toNat)
  case atStart => exact ⟨0, 0, Nat.zero_le _, rfl, Nat.zero_le _, by simpa using h⟩
  case round =>
    clear c1 h
    obtain ⟨i, c, hi, rfl, hc, h⟩ := hrel
    obtain ⟨v, h⟩ := h.exL
    obtain ⟨r, hr⟩ : ∃ r, r = l.drop c := ⟨_, rfl⟩
    obtain ⟨g, hg⟩ : ∃ g, g = l.take c := ⟨_, rfl⟩
    rw [← hr, ← hg] at h
    have hrl : r.length + c = l.length := by rw [hr, List.length_drop]; omega
    have hgl : g.length = c := by rw [hg, List.length_take]; omega
    have HR := Lib.hid hr
    have HG := Lib.hid hg
    have HGL := Lib.hid hgl
    have hgl' : g.length ≤ 200 := by omega
    clear hr hg hgl
    have hh := h.flat5
    obtain ⟨B, d, rfl⟩ := hh.second.row_slice
    have hrd := hh.sixth
    have c2 := hh.cell 0
    have f2 := hh.free 0
    have c3 := hh.fourth.cell 0
    have f3 := hh.fourth.free 0
    have c4 := hh.fifth.cell 0
    have f4 := hh.fifth.free 0
    by_cases hlt : i < zs.length
    · obtain ⟨b, off, rfl, hcell⟩ := (HZ.out wr h.right.right.right).at (by omega)
      have hce := hcell i _ (icells_get hlt)
      clear hcell
      obtain ⟨q, hq, hq31⟩ : ∃ q : Nat, bits .and .i64 zs[i] 31 = (q : Int) ∧ q ≤ 31 := ⟨(zs[i] % 32).toNat, by rw [i64_and31]; omega, by omega⟩
      by_cases hbr : r.length < q
      · go_wp2_with (go_at_call 22; refine (left_any st RR _ (fun _ h => h.right.right.right.right.right.right) p r _ hrd).mono ?_; rintro e w1 ⟨rfl, rfl⟩)
        go_end0
        have h5 := hh.fifth.set 0 (.int .i64 r.length)
        refine .inl ⟨r, rfl, Has.ofEx c ?_⟩
        have h6 : Has st (sep (lefts p1 p2 p3 p4 (.slice (some ⟨b, off, none⟩) zs.length k) g true (r.length : Int)) (sep (reader st RR p r) (sep X RR))) _ := Has.ofEx (.slice B g.length d) (h5.cast (by simp only [List.setIfInBounds_toArray, List.set_cons_zero]; ac_rfl))
        have h7 := Has.ofPure (φ := c ≤ l.length ∧ r = l.drop c) ⟨hc, HR.out⟩ h6
        have e1 : r.length = l.length - c := by omega
        rw [← HG.out, ← e1]
        exact h7.unassoc
      · go_wp2_with (go_at_call 22; refine (left_any st RR _ (fun _ h => h.right.right.right.right.right.right) p r _ hrd).mono ?_; rintro e w1 ⟨rfl, rfl⟩)
        go_region_law (first
          | (refine step_append rfl _ _ 25 5 1 1 (.int .u8 0) rfl Try.underlying25 infoB rfl (by decide) rfl rfl h1.third hr1 (bcells_one _) (by unfold maxLen; omega) (by omega) ?_; intro A2 d2 w2 h2; have c2b := h2.third.cell 0; have f2b := h2.third.free 0)
          | (go_simp; go_at_call 29; refine (rraw_ok st RR _ (fun _ h => h.right.right.right.right.right.right) p r q _ hrd.drew (by omega)).mono ?_; rintro e w1 ⟨A1, d1, rfl, hs1, h1⟩; have c2a := h1.second.cell 0; have hr1 := hs1 _ h1.right.right.right.right.right.right.right))
        all_goals
          have h3 := h2.third.set 0 (.slice A2 (g.length + q) d2)
          generalize w2.setCell ⟨p2, 0, none⟩ (.slice A2 (g.length + q) d2) = w3 at h3 ⊢
          obtain ⟨r2, hr2⟩ : ∃ r2, r2 = r.drop q := ⟨_, rfl⟩
          rw [← hr2] at h3
          have hr2l : r2.length + q = r.length := by rw [hr2, List.length_drop]; omega
          have hbool : ((r2.length : Int) == (r.length : Int) - (q : Int)) = true := by simp; omega
          have c3c := h3.fifth.cell 0
          have f3c := h3.fifth.free 0
          have HR2 := Lib.hid hr2
          clear hr2
          go_wp2_with (go_at_call 22; refine (left_any st RR _ (fun _ h => h.right.right.right.right.right.right) p r2 _ h3.third).mono ?_; rintro e w4 ⟨rfl, rfl⟩)
        all_goals
          have h4 := h3.fifth.set 0 (.bool true)
          have e1 : l.take (c + q) = g ++ r.take q := by rw [List.take_add, ← HG.out, ← HR.out]
          have e2 : l.drop (c + q) = r2 := by rw [HR2.out, HR.out, List.drop_drop]
          have e3 : (g ++ r.take q).length = g.length + q := by rw [List.length_append, List.length_take]; omega
          refine ⟨⟨i + 1, c + q, by omega, by go_num, by omega, ?_⟩, by simp [intOf]; omega⟩
          rw [e1, e2]
          refine Has.ofEx (.slice A2 (g.length + q) d2) ?_
          rw [e3, ← bcells_append]
          exact h4.cast (by simp only [List.setIfInBounds_toArray, List.set_cons_zero]; ac_rfl)
    · go_wp2_with (go_at_call 22; refine (left_any st RR _ (fun _ h => h.right.right.right.right.right.right) p r _ hrd).mono ?_; rintro e w1 ⟨rfl, rfl⟩)
      go_end0
      have h5 := hh.fifth.set 0 (.int .i64 r.length)
      refine .inl ⟨r, rfl, Has.ofEx c ?_⟩
      have h6 : Has st (sep (lefts p1 p2 p3 p4 (.slice A zs.length k) g true (r.length : Int)) (sep (reader st RR p r) (sep X RR))) _ := Has.ofEx (.slice B g.length d) (h5.cast (by simp only [List.setIfInBounds_toArray, List.set_cons_zero]; ac_rfl))
      have h7 := Has.ofPure (φ := c ≤ l.length ∧ r = l.drop c) ⟨hc, HR.out⟩ h6
      have e1 : r.length = l.length - c := by omega
      rw [← HG.out, ← e1]
      exact h7.unassoc

theorem call_f35 (caps : Array Value) (W : World) : (callFunc 35 caps).run Try.prog W = .ok (.enter 35 caps) W := by kernel_rfl

set_option maxHeartbeats 1000000 in
theorem lefts_any (st : World) (R : HProp) (l : List UInt8) (B : Option Addr) (d : Nat) (hb : Sees st R 1 (.slice B l.length d) l.length (bcells l)) (zs : List Int) (A : Option Addr) (k : Nat) (hz : Sees st R 1 (.slice A zs.length k) zs.length (icells zs)) (w : World) (h : Has st R w) :
    Calls Try.prog 7 #[.slice B l.length d, .slice A zs.length k] w fun e w' => e = .returned (.bool true) ∧ Has st R w' := by
  have hmf := run_makeFunc
  have hll : l.length ≤ 9223372036854775807 := by have := (hb w h).le_cap; unfold maxLen at this; omega
  have hzl : zs.length ≤ 9223372036854775807 := by have := (hz w h).le_cap; unfold maxLen at this; omega
  by_cases hlong : 200 < l.length
  · go_enter Try.func7, Try.ntmps7
    go_wp2_with (go_at_call 9; refine (alive_any st _ _ (h.alloc _)).mono ?_; rintro e w1 ⟨rfl, h1⟩)
    go_ret
    exact ⟨rfl, h1.right⟩
  · by_cases hmany : 40 < zs.length
    · go_enter Try.func7, Try.ntmps7
      go_wp2_with (go_at_call 9; refine (alive_any st _ _ (h.alloc _)).mono ?_; rintro e w1 ⟨rfl, h1⟩; have c1 := h1.cell 0)
      go_ret
      exact ⟨rfl, h1.right⟩
    · go_enter Try.func7, Try.ntmps7
      go_wp2_with (go_at_call 9; refine (alive_any st _ _ (h.alloc _)).mono ?_; rintro e w1 ⟨rfl, h1⟩; have c1 := h1.cell 0)
      have h2 := (((h1.alloc (.cells #[] 5)).row_of_blk 1 0 0 (Nat.le_refl _) (Nat.zero_le _) rfl (xs := []) rfl).alloc (.cells #[.slice (some ⟨w1.heap.size, 0, none⟩) 0 0] 25)).alloc (.cells #[.bool true] 4) |>.alloc (.cells #[.int .i64 0] 3)
      simp only [World.size_alloc] at h2
      have h3 : Has st (sep (lefts w.heap.size (w1.heap.size + 1) (w1.heap.size + 1 + 1) (w1.heap.size + 1 + 1 + 1) (.slice A zs.length k) [] true 0) R) _ := Has.ofEx (.slice (some ⟨w1.heap.size, 0, none⟩) 0 0) (h2.cast (by rw [bcells_nil]; simp only [List.length_nil]; ac_rfl))
      refine (decode_any st 35 _ (fun p W => call_f35 _ W) l (.slice B l.length d) _ R _ _ (lefts_reads st R _ _ _ _ l (by omega) zs A k hz) _ h3 hb (by omega)).mono ?_
      rintro e w2 ⟨RB, c2, rfl, h4⟩
      clear h2 h3 c1
      have h5 := qd_only h4
      clear h4
      obtain ⟨g, x, l', hx1, hgl, hgt, h6, hcase⟩ : ∃ (g : List UInt8) (x : Nat) (l' : List UInt8), g.length + x = l.length ∧ l'.length = x ∧ g = l.take g.length ∧ Has st (sep (lefts w.heap.size (w1.heap.size + 1) (w1.heap.size + 1 + 1) (w1.heap.size + 1 + 1 + 1) (.slice A zs.length k) g true (x : Int)) (sep RB R)) w2 ∧ ((c2 = 0 ∧ x = 0) ∨ (c2 = 22 ∧ 0 < x)) := by
        have key : ∀ l', Has st (sep (ex fun c : Nat => sep (pure (c ≤ l.length ∧ l' = l.drop c)) (lefts w.heap.size (w1.heap.size + 1) (w1.heap.size + 1 + 1) (w1.heap.size + 1 + 1 + 1) (.slice A zs.length k) (l.take c) true ((l.length - c : Nat) : Int))) (sep RB R)) w2 →
            ∃ (g : List UInt8) (x : Nat), g.length + x = l.length ∧ l'.length = x ∧ g = l.take g.length ∧ Has st (sep (lefts w.heap.size (w1.heap.size + 1) (w1.heap.size + 1 + 1) (w1.heap.size + 1 + 1 + 1) (.slice A zs.length k) g true (x : Int)) (sep RB R)) w2 := by
          intro l' h
          obtain ⟨c, h⟩ := h.exL
          obtain ⟨⟨hc, hl'⟩, h⟩ := h.assoc.pureL
          have e1 : (l.take c).length = c := by rw [List.length_take]; omega
          refine ⟨l.take c, l.length - c, by omega, by rw [hl', List.length_drop], by rw [e1], h⟩
        rcases h5 with ⟨e0, h5⟩ | ⟨e0, l', hne, h5⟩ | ⟨_, h5⟩
        · obtain ⟨g, x, a1, a2, a3, a4⟩ := key [] h5
          exact ⟨g, x, [], a1, a2, a3, a4, .inl ⟨e0, by simpa using a2.symm⟩⟩
        · obtain ⟨g, x, a1, a2, a3, a4⟩ := key l' h5
          exact ⟨g, x, l', a1, a2, a3, a4, .inr ⟨e0, by have := List.length_pos_iff.2 hne; omega⟩⟩
        · exact absurd h5.pureL.1 id
      obtain ⟨v, h7⟩ := h6.exL
      have h8 := h7.flat5
      obtain ⟨G, m, rfl⟩ := h8.second.row_slice
      have cg := h8.cell 0
      have cb := h8.fourth.cell 0
      have cx := h8.fifth.cell 0
      have hrg := sees_row st 5 1 (.slice G g.length m) g.length (bcells g) _ _ h8.second
      have hrb := (hb w2 h8.right.right.right.right.right.right).take (m := g.length) (by omega)
      have hcapb := (hb w2 h8.right.right.right.right.right.right).le_cap.1
      have htk : (bcells l).take (g.length * 1) = bcells g := by
        rw [Nat.mul_one]
        exact (show _ = bcells (l.take g.length) from by unfold bcells; rw [List.map_take]).trans (congrArg bcells hgt.symm)
      rw [htk] at hrb
      have hbool : ((g.length : Int) + (x : Int) == (l.length : Int)) = true := by simp; omega
      have hend := h8.right.right.right.right.right.right
      have hsame := fun n => (same_any g g _ _ _ _ (w2.drewN n) hrg hrb).mono fun e w' (hh : _ ∧ _) => (⟨hh.1, hh.2.symm⟩ : _ ∧ _)
      clear htk h5 h6 h7 hgt
      have hsum : IntKind.i64.wrap ((g.length : Int) + (x : Int)) = (l.length : Int) := by
        rw [IntWalk.i64_in _ ⟨by omega, by omega⟩]; omega
      rcases hcase with ⟨rfl, hzero⟩ | ⟨rfl, hpos⟩
      · have hxb : ((x : Int) == 0) = true := by simp; omega
        have HZ := Lib.hid hzero
        clear hzero
        go_wp2_with (fail)
        go_quiet ((go_at_call 13; exact Calls.quiet_of_same (hsame _)))
        go_wp2
        go_ret
        exact ⟨rfl, hend.drewN _⟩
      · have hxb : ((x : Int) == 0) = false := by simp; omega
        have hxp : decide (0 < (x : Int)) = true := by simp; omega
        go_wp2_with (fail)
        go_quiet ((go_at_call 13; exact Calls.quiet_of_same (hsame _)))
        go_wp2
        go_ret
        exact ⟨rfl, hend.drewN _⟩
end Go.Proofs.Ytkmhopnpkilhiaa
