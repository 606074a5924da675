/-
  CodeReads returns true.
-/
import Derived.Test.YtkmhopnpkilhiaaReadsAll
import Derived.Test.YtkmhopnpkilhiaaRef
import Derived.Test.YtkmhopnpkilhiaaAlive2
namespace Go.Proofs.Ytkmhopnpkilhiaa
open Go.RowKit Go.Sl
set_option linter.unusedVariables false
set_option linter.unusedSimpArgs false

set_option maxHeartbeats 400000 in
theorem decode_own (st : World) (g : FuncId) (caps : Array Value) (hcall : ∀ p W, (callFunc g (#[.pointer (some ⟨p, 0, none⟩)] ++ caps)).run Try.prog W = .ok (.enter g (#[.pointer (some ⟨p, 0, none⟩)] ++ caps)) W)
    (l : List UInt8) (v : Value) (P R : HProp) (Qok : HProp → List UInt8 → HProp) (Qerr : HProp → Int → HProp) (hf : Reads st g caps l P R Qok Qerr) (w : World)
    (h : Has st (sep P R) w) (hs : Sees st (sep P R) 1 v l.length (bcells l)) (hb : l.length ≤ 140737488355328) :
    Calls Try.prog 16 #[v, .func (.func g) #[] caps] w fun e w' => ∃ RB c, e = .returned (.int .i64 c) ∧ Has st (sep (QD RB Qok Qerr c) (sep RB R)) w' := by
  have hmf := run_makeFunc
  have HF := Lib.hid hf
  have HC := Lib.hid hcall
  clear hf hcall
  obtain ⟨_, A0, c0, rfl, _⟩ := hs w h
  go_enter Try.func16, Try.ntmps16
  go_wp2_with (first
    | (go_at_call 43; refine (clone_any st _ l _ _ (h.alloc _) (fun w hw => hs w hw.right) hb).mono ?_; rintro e w1 ⟨A, c, rfl, h1⟩))
  have h2 := (h1.alloc (.cells #[.slice A l.length c] 63)).alloc (.cells #[.pointer (some ⟨w1.heap.size, 0, none⟩)] 39)
  rw [World.size_alloc] at h2
  have h3 := reader_shut (R0 := sep (row 5 1 (.slice A l.length c) l.length (bcells l)) R) (.slice A l.length c) (sees_row st _ 1 _ _ _ R) h2.second
  refine (run_any st 44 _ (sep (blk w.heap.size (.cells #[.func (.func g) #[] caps] 45 (0, 0))) (sep (blk (w1.heap.size + 1) (.cells #[.pointer (some ⟨w1.heap.size, 0, none⟩)] 39 (0, 0))) (sep (reader st (sep (row 5 1 (.slice A l.length c) l.length (bcells l)) R) w1.heap.size l) P)))
    (sep (row 5 1 (.slice A l.length c) l.length (bcells l)) R) (QD (row 5 1 (.slice A l.length c) l.length (bcells l)) Qok Qerr) (fun _ => by kernel_rfl) (fun X w hw => decode1_any st g caps HC.out l P R _ Qok Qerr HF.out _ _ _ X w hw) _ (h3.cast (by ac_rfl))).mono ?_
  rintro e w2 ⟨c2, rfl, h4⟩
  go_wp2
  go_ret
  exact ⟨_, c2, rfl, h4⟩

theorem seesL_one (st : World) (R : HProp) (g : Nat) (t : TypeId) (f : Nat × Nat) (A : Option Addr) (c : Nat) (l : List UInt8) (hl : Sees st R 1 (.slice A l.length c) l.length (bcells l)) :
    SeesL st (sep (blk g (.cells #[.slice A l.length c] t f)) R) (.slice (some ⟨g, 0, none⟩) 1 1) [l] := by
  refine ⟨[.slice A l.length c], sees_lit1 st R g t f _, ?_⟩
  intro i hi
  match i, hi with
  | 0, _ => exact ⟨A, c, rfl, hl.right⟩

theorem call_f17 (caps : Array Value) (W : World) : (callFunc 17 caps).run Try.prog W = .ok (.enter 17 caps) W := by kernel_rfl

set_option maxHeartbeats 2000000 in
theorem reads_any (st : World) (R : HProp) (b : List UInt8) (B : Option Addr) (d : Nat) (hb : Sees st R 1 (.slice B b.length d) b.length (bcells b)) (v : Value) (ops : List OpV) (hs : SeesOps st R v ops) (hk : ∀ o ∈ ops, o.n ≤ 18446744073709551615) (w : World) (h : Has st R w) :
    Calls Try.prog 4 #[.slice B b.length d, v] w fun e w' => e = .returned (.bool true) ∧ Has st R w' := by
  have hmf := run_makeFunc
  obtain ⟨A, c, rfl, hlen⟩ := ops_form hs h
  have hbl : b.length ≤ 9223372036854775807 := by have := (hb w h).le_cap; unfold maxLen at this; omega
  have h0 := h.alloc (.cells #[.slice A ops.length c] 22 (0, 0))
  have HS := Lib.hid hs
  have HK := Lib.hid hk
  have HB := Lib.hid hb
  clear hs hk hb
  by_cases hlong : 300 < b.length
  · go_enter Try.func4, Try.ntmps4
    go_wp2_with (go_at_call 9; refine (alive_any st _ _ h0).mono ?_; rintro e w1 ⟨rfl, h1⟩; have c1 := h1.cell 0)
    go_ret
    exact ⟨rfl, h1.right⟩
  · by_cases hmany : 40 < ops.length
    · go_enter Try.func4, Try.ntmps4
      go_wp2_with (go_at_call 9; refine (alive_any st _ _ h0).mono ?_; rintro e w1 ⟨rfl, h1⟩; have c1 := h1.cell 0)
      go_ret
      exact ⟨rfl, h1.right⟩
    · go_enter Try.func4, Try.ntmps4
      go_wp2_with (go_at_call 9; refine (alive_any st _ _ h0).mono ?_; rintro e w1 ⟨rfl, h1⟩; have c1 := h1.cell 0; have l1 := h1.lt)
      have h2 := h1.alloc (.cells #[.slice B b.length d] 25)
      have hj := join_any st _ _ [b] _ h2 (seesL_one st _ w1.heap.size _ _ B d b HB.out.right) (by simp; omega)
      rw [show [b].flatten = b by simp] at hj
      refine hj.mono ?_
      rintro e w3 ⟨A1, d1, rfl, h3⟩
      have cp := h3.third.cell 0
      clear hj h2 h1 h0 c1 l1
      go_wp2_with (fail)
      have h4 := ((h3.alloc (.cells #[.slice A1 b.length d1] 25 (0, 0))).alloc (.cells #[.slice B b.length d, .int .i64 0] 36 (0, 0))).alloc (.cells #[.bool true] 4 (0, 0))
      simp only [World.size_alloc] at h4
      have h5 := xP_shut (R0 := R) B d HB.out h4.second
      have h6 := (h5.cast (by ac_rfl) : Has st (sep (blk w1.heap.size (.cells #[.slice B b.length d] 25)) (sep (sep (blk w3.heap.size (.cells #[.slice A1 b.length d1] 25 (0, 0))) (sep (row 5 1 (.slice A1 b.length d1) b.length (bcells b)) (sep (blk w.heap.size (.cells #[.slice A ops.length c] 22 (0, 0))) (sep (xP st R (w3.heap.size + 1) b) (blk (w3.heap.size + 1 + 1) (.cells #[.bool true] 4 (0, 0))))))) R)) _).right
      refine (decode_own st 17 _ (fun p W => call_f17 _ W) b (.slice A1 b.length d1) _ R _ _ (reads_reads st R w3.heap.size w.heap.size (w3.heap.size + 1) (w3.heap.size + 1 + 1) A1 b.length d1 hbl b b rfl A c ops HS.out HK.out) _ h6 (fun w9 hw => sees_row st 5 1 (.slice A1 b.length d1) b.length (bcells b) _ w9 (hw.cast (by ac_rfl) : Has st (sep (row 5 1 (.slice A1 b.length d1) b.length (bcells b)) (sep (sep (blk w3.heap.size (.cells #[.slice A1 b.length d1] 25 (0, 0))) (sep (blk w.heap.size (.cells #[.slice A ops.length c] 22 (0, 0))) (sep (xP st R (w3.heap.size + 1) b) (blk (w3.heap.size + 1 + 1) (.cells #[.bool true] 4 (0, 0)))))) R)) w9)) (by omega)).mono ?_
      rintro e w4 ⟨RB, c9, rfl, h7⟩
      obtain ⟨l', hc9, h8⟩ : ∃ l' : List UInt8, c9 = (if l'.length = 0 then 0 else 22) ∧ Has st (sep (sep (xP st (sep RB R) (w3.heap.size + 1) l') (blk (w3.heap.size + 1 + 1) (.cells #[.bool true] 4 (0, 0)))) (sep RB R)) w4 := by
        rcases qd_only h7 with ⟨rfl, h8⟩ | ⟨rfl, l', hne, h8⟩ | ⟨_, h8⟩
        · exact ⟨[], rfl, h8⟩
        · exact ⟨l', by rw [if_neg (fun e => hne (List.eq_nil_of_length_eq_zero e))], h8⟩
        · exact absurd h8.pureL.1 id
      obtain ⟨A2, c2, hs2, h9⟩ := xP_open h8.assoc
      clear h3 h4 h5 h6 h7 h8 hs2 cp
      have cx0 := h9.cell 0
      have cx1 := h9.cell 1
      have cg := h9.second.cell 0
      have HE := Lib.hid (end_any st _ A2 l'.length c2 w4 h9)
      rw [← hc9] at HE
      clear hc9
      go_wp2_with (go_at_call 23; refine HE.out.mono ?_; rintro e w5 ⟨rfl, h10⟩)
      go_ret
      exact ⟨by simp, h10.right.right.right⟩
end Go.Proofs.Ytkmhopnpkilhiaa
