/-
  CodeReads: one.
-/
import Derived.Test.YtkmhopnpkilhiaaRefSome
import Derived.Test.YtkmhopnpkilhiaaOps2
namespace Go.Proofs.Ytkmhopnpkilhiaa
open Go.RowKit Go.Sl
set_option linter.unusedVariables false
set_option linter.unusedSimpArgs false

theorem u64_and127 (n : Nat) (hn : n ≤ 18446744073709551615) : bits .and .u64 (n : Int) 127 = ((n % 128 : Nat) : Int) := u64_and_mask n 7 hn (by decide)

/-- what reading a field leaves, or its error -/
def stepc (o : OpV) (l : List UInt8) : Except Int (List UInt8) :=
  if o.kind == 0 then (if l.length < held o.size then .error 20 else .ok (l.drop (held o.size)))
  else if o.kind == 1 then (if l.length < held o.size then .error 20 else .ok (l.drop (held o.size)))
  else if o.kind == 2 then (match rget l ((o.n % 128 : Nat) : Int) with | .error c => .error c | .ok q => .ok q.2)
  else if o.kind == 3 then (match rget l ((o.n % 128 : Nat) : Int) with | .error c => .error c | .ok q => .ok q.2)
  else if o.kind == 4 then (if l.length < o.size.toNat then .error 20 else .ok (l.drop o.size.toNat))
  else .ok l

/-- a field, by value -/
def opv (o : OpV) (B : Option Addr) (d : Nat) : Value := .agg #[.int .i64 o.kind, .int .i64 o.size, .int .u64 o.n, .slice B o.b.length d]

set_option maxHeartbeats 4000000 in
theorem one_any (st : World) (R F : HProp) (hF : ∀ w, Has st F w → Has st R w) (l : List UInt8) (A : Option Addr) (c : Nat) (hs : Sees st R 1 (.slice A l.length c) l.length (bcells l)) (o : OpV) (hn : o.n ≤ 18446744073709551615) (B : Option Addr) (d : Nat) (x : Int) (hx : stepc o l = .error x) (w : World) (h : Has st F w) :
    Calls Try.prog 21 #[.agg #[.slice A l.length c, .int .i64 0], .agg #[.int .i64 o.kind, .int .i64 o.size, .int .u64 o.n, .slice B o.b.length d]] w fun e w' => e = .returned (.agg #[.slice A l.length c, .int .i64 x]) ∧ Has st F w' := by
  have hll : l.length ≤ 9223372036854775807 := by have := (hs w (hF w h)).le_cap; unfold maxLen at this; omega
  have h1 := ((h.alloc (.cells #[.slice A l.length c, .int .i64 0] 36)).alloc (.cells #[.int .i64 o.kind, .int .i64 o.size, .int .u64 o.n, .slice B o.b.length d] 28)).alloc (.cells #[.slice none 0 0, .int .i64 0] 36)
  simp only [World.size_alloc] at h1
  obtain ⟨q, hq⟩ : ∃ q, q = o.n % 128 := ⟨_, rfl⟩
  have hq127 : q ≤ 127 := by omega
  have hand : bits .and .u64 (o.n : Int) 127 = (q : Int) := by rw [u64_and127 o.n hn, hq]
  have HGet : Hid (l.length < held o.size → ∀ w2, Has st _ w2 → Calls Try.prog 47 #[.agg #[.slice A l.length c, .int .i64 0], .int .i64 o.size] w2 _) := fun hlt w2 hw => refget_no st _ l A c hll o.size hlt w2 (hw : Has st (sep (blk (w.heap.size + 1 + 1) (.cells #[.slice none 0 0, .int .i64 0] 36)) (sep (blk (w.heap.size + 1) (.cells #[.int .i64 o.kind, .int .i64 o.size, .int .u64 o.n, .slice B o.b.length d] 28)) (sep (blk w.heap.size (.cells #[.slice A l.length c, .int .i64 0] 36)) F))) w2)
  have HRaw : Hid (l.length < o.size.toNat → ∀ w2, Has st _ w2 → Calls Try.prog 49 #[.agg #[.slice A l.length c, .int .i64 0], .int .i64 o.size] w2 _) := fun hlt w2 hw => refraw_no st _ l A c hll o.size hlt w2 (hw : Has st (sep (blk (w.heap.size + 1 + 1) (.cells #[.slice none 0 0, .int .i64 0] 36)) (sep (blk (w.heap.size + 1) (.cells #[.int .i64 o.kind, .int .i64 o.size, .int .u64 o.n, .slice B o.b.length d] 28)) (sep (blk w.heap.size (.cells #[.slice A l.length c, .int .i64 0] 36)) F))) w2)
  have hsome := fun w2 hw => refsome_any st R _ (fun w h => hF w h.right.right.right) l A c hs q (by omega) w2 (hw : Has st (sep (blk (w.heap.size + 1 + 1) (.cells #[.slice none 0 0, .int .i64 0] 36)) (sep (blk (w.heap.size + 1) (.cells #[.int .i64 o.kind, .int .i64 o.size, .int .u64 o.n, .slice B o.b.length d] 28)) (sep (blk w.heap.size (.cells #[.slice A l.length c, .int .i64 0] 36)) F))) w2)
  have HSome := Lib.hid hsome
  clear hsome hs
  unfold stepc at hx
  rw [← hq] at hx
  clear hq hn hF
  have fin : ∀ w1, Has st (sep (blk (w.heap.size + 1 + 1) (.cells #[.slice none 0 0, .int .i64 0] 36)) (sep (blk (w.heap.size + 1) (.cells #[.int .i64 o.kind, .int .i64 o.size, .int .u64 o.n, .slice B o.b.length d] 28)) (sep (blk w.heap.size (.cells #[.slice A l.length c, .int .i64 0] 36)) F))) w1 →
      Has st (sep (blk (w.heap.size + 1 + 1) (.cells #[.slice A l.length c, .int .i64 x] 36)) (sep (blk (w.heap.size + 1) (.cells #[.int .i64 o.kind, .int .i64 o.size, .int .u64 o.n, .slice B o.b.length d] 28)) (sep (blk w.heap.size (.cells #[.slice A l.length c, .int .i64 x] 36)) F)))
        ((((w1.setCell ⟨w.heap.size, 0, none⟩ (.slice A l.length c)).setCell ⟨w.heap.size, 1, none⟩ (.int .i64 x)).setCell ⟨w.heap.size + 1 + 1, 0, none⟩ (.slice A l.length c)).setCell ⟨w.heap.size + 1 + 1, 1, none⟩ (.int .i64 x)) := by
    intro w1 h2
    have h3 := ((((h2.third.set 0 (.slice A l.length c)).set 1 (.int .i64 x)).second.set 0 (.slice A l.length c)).set 1 (.int .i64 x))
    simp only [List.setIfInBounds_toArray, List.set_cons_zero, List.set_cons_succ] at h3
    exact h3.cast (by ac_rfl)
  have HFin := Lib.hid fin
  clear fin
  split at hx
  · next k0 =>
    split at hx
    · next hlt =>
      injection hx with hx
      subst hx
      have HG := Lib.hid (HGet.out hlt _ h1)
      clear HGet HRaw HSome
      go_enter Try.func21, Try.ntmps21
      go_wp2_with (fail)
      refine HG.out.mono ?_
      rintro e w1 ⟨rfl, h2⟩
      have hx0 := h2.third.cell 0
      have hx1 := h2.third.cell 1
      have fx0 := h2.third.free 0
      have fx1 := h2.third.free 1
      have hr0 := h2.cell 0
      have hr1 := h2.cell 1
      have fr0 := h2.free 0
      have fr1 := h2.free 1
      have ho0 := h2.second.cell 0
      have ho1 := h2.second.cell 1
      have ho2 := h2.second.cell 2
      go_wp2
      have h5 := HFin.out _ h2
      have hd0 := h5.cell 0
      have hd1 := h5.cell 1
      show bodyPost _ _ _ _ _ _
      exact ⟨rfl, .agg #[.slice A l.length c, .int .i64 20], by simp [results, Try.results21, go_sem, hd0, hd1], rfl, h5.right.right.right⟩
    · cases hx
  · next k0 =>
    have k0 := Bool.not_eq_true _ ▸ k0
    split at hx
    · next k1 =>
      split at hx
      · next hlt =>
        injection hx with hx
        subst hx
        have HG := Lib.hid (HGet.out hlt _ h1)
        clear HGet HRaw HSome
        go_enter Try.func21, Try.ntmps21
        go_wp2_with (fail)
        refine HG.out.mono ?_
        rintro e w1 ⟨rfl, h2⟩
        have hx0 := h2.third.cell 0
        have hx1 := h2.third.cell 1
        have fx0 := h2.third.free 0
        have fx1 := h2.third.free 1
        have hr0 := h2.cell 0
        have hr1 := h2.cell 1
        have fr0 := h2.free 0
        have fr1 := h2.free 1
        have ho0 := h2.second.cell 0
        have ho1 := h2.second.cell 1
        have ho2 := h2.second.cell 2
        go_wp2
        have h5 := HFin.out _ h2
        have hd0 := h5.cell 0
        have hd1 := h5.cell 1
        show bodyPost _ _ _ _ _ _
        exact ⟨rfl, .agg #[.slice A l.length c, .int .i64 20], by simp [results, Try.results21, go_sem, hd0, hd1], rfl, h5.right.right.right⟩
      · cases hx
    · next k1 =>
      have k1 := Bool.not_eq_true _ ▸ k1
      split at hx
      · next k2 =>
        have HG := Lib.hid (HSome.out _ h1)
        clear HGet HRaw HSome
        cases hr : rget l (q : Int) with
        | ok p => rw [hr] at hx; cases hx
        | error y =>
          rw [hr] at hx
          injection hx with hx
          subst hx
          have HR := Lib.hid hr
          clear hr
          go_enter Try.func21, Try.ntmps21
          go_wp2_with (fail)
          refine HG.out.mono ?_
          intro e w1 h'
          unfold RefSome at h'
          rw [HR.out] at h'
          obtain ⟨rfl, h2⟩ := h'
          have hx0 := h2.third.cell 0
          have hx1 := h2.third.cell 1
          have fx0 := h2.third.free 0
          have fx1 := h2.third.free 1
          have hr0 := h2.cell 0
          have hr1 := h2.cell 1
          have fr0 := h2.free 0
          have fr1 := h2.free 1
          have ho0 := h2.second.cell 0
          have ho1 := h2.second.cell 1
          have ho2 := h2.second.cell 2
          go_wp2
          have h5 := HFin.out _ h2
          have hd0 := h5.cell 0
          have hd1 := h5.cell 1
          show bodyPost _ _ _ _ _ _
          exact ⟨rfl, .agg #[.slice A l.length c, .int .i64 y], by simp [results, Try.results21, go_sem, hd0, hd1], rfl, h5.right.right.right⟩
      · next k2 =>
        have k2 := Bool.not_eq_true _ ▸ k2
        split at hx
        · next k3 =>
          have HG := Lib.hid (HSome.out _ h1)
          clear HGet HRaw HSome
          cases hr : rget l (q : Int) with
          | ok p => rw [hr] at hx; cases hx
          | error y =>
            rw [hr] at hx
            injection hx with hx
            subst hx
            have HR := Lib.hid hr
            clear hr
            go_enter Try.func21, Try.ntmps21
            go_wp2_with (fail)
            refine HG.out.mono ?_
            intro e w1 h'
            unfold RefSome at h'
            rw [HR.out] at h'
            obtain ⟨rfl, h2⟩ := h'
            have hx0 := h2.third.cell 0
            have hx1 := h2.third.cell 1
            have fx0 := h2.third.free 0
            have fx1 := h2.third.free 1
            have hr0 := h2.cell 0
            have hr1 := h2.cell 1
            have fr0 := h2.free 0
            have fr1 := h2.free 1
            have ho0 := h2.second.cell 0
            have ho1 := h2.second.cell 1
            have ho2 := h2.second.cell 2
            go_wp2
            have h5 := HFin.out _ h2
            have hd0 := h5.cell 0
            have hd1 := h5.cell 1
            show bodyPost _ _ _ _ _ _
            exact ⟨rfl, .agg #[.slice A l.length c, .int .i64 y], by simp [results, Try.results21, go_sem, hd0, hd1], rfl, h5.right.right.right⟩
        · next k3 =>
          have k3 := Bool.not_eq_true _ ▸ k3
          split at hx
          · next k4 =>
            split at hx
            · next hlt =>
              injection hx with hx
              subst hx
              have HG := Lib.hid (HRaw.out hlt _ h1)
              clear HGet HRaw HSome
              go_enter Try.func21, Try.ntmps21
              go_wp2_with (fail)
              refine HG.out.mono ?_
              rintro e w1 ⟨rfl, h2⟩
              have hx0 := h2.third.cell 0
              have hx1 := h2.third.cell 1
              have fx0 := h2.third.free 0
              have fx1 := h2.third.free 1
              have hr0 := h2.cell 0
              have hr1 := h2.cell 1
              have fr0 := h2.free 0
              have fr1 := h2.free 1
              have ho0 := h2.second.cell 0
              have ho1 := h2.second.cell 1
              have ho2 := h2.second.cell 2
              go_wp2
              have h5 := HFin.out _ h2
              have hd0 := h5.cell 0
              have hd1 := h5.cell 1
              show bodyPost _ _ _ _ _ _
              exact ⟨rfl, .agg #[.slice A l.length c, .int .i64 20], by simp [results, Try.results21, go_sem, hd0, hd1], rfl, h5.right.right.right⟩
            · cases hx
          · cases hx
end Go.Proofs.Ytkmhopnpkilhiaa
