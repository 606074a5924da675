/-
  CodeBack returns true.
-/
import Derived.Test.YtkmhopnpkilhiaaBackReads
import Derived.Test.YtkmhopnpkilhiaaWrites
import Derived.Test.YtkmhopnpkilhiaaKeep
namespace Go.Proofs.Ytkmhopnpkilhiaa
open Go.RowKit Go.Sl
set_option linter.unusedVariables false
set_option linter.unusedSimpArgs false

theorem call_f24 (caps : Array Value) (W : World) : (callFunc 24 caps).run Try.prog W = .ok (.enter 24 caps) W := by kernel_rfl

/-- a Decode by CodeBack's closure -/
theorem dec_back (st : World) (R : HProp) (p1 p2 : Nat) (A : Option Addr) (c : Nat) (ops : List OpV) (hs : SeesOps st R (.slice A ops.length c) ops) (hk : ∀ o ∈ ops, o.n ≤ 18446744073709551615) (hb : ∀ o ∈ ops, o.b.length ≤ 60)
    (l ext tail : List UInt8) (hl : l ++ ext = opsW ops ++ tail) (code : Int) (hc : (ext = [] ∧ tail = [] ∧ code = 0) ∨ (ext = [] ∧ tail ≠ [] ∧ code = 22) ∨ (ext ≠ [] ∧ tail = [] ∧ code = 20))
    (v : Value) (n : Nat) (hn : n = l.length) (hv : Sees st R 1 v n (bcells l)) (hlen : n ≤ 140737488355328) (w : World)
    (h : Has st (sep (sep (blk p2 (.cells #[.bool true] 4 (0, 0))) (blk p1 (.cells #[.slice A ops.length c] 22 (0, 0)))) R) w) :
    Calls Try.prog 16 #[v, .func (.func 24) #[] #[.pointer (some ⟨p1, 0, none⟩), .pointer (some ⟨p2, 0, none⟩)]] w fun e w' =>
      ∃ RB, e = .returned (.int .i64 code) ∧ Has st (sep (sep (blk p2 (.cells #[.bool true] 4 (0, 0))) (blk p1 (.cells #[.slice A ops.length c] 22 (0, 0)))) (sep RB R)) w' := by
  subst hn
  refine (decode_any st 24 _ (fun p W => call_f24 _ W) l v _ R _ _ (back_reads st R p1 p2 A c ops hs hk hb l ext tail hl) w h hv hlen).mono ?_
  rintro e w2 ⟨RB, c2, rfl, h4⟩
  rcases qd_only h4 with ⟨rfl, h5⟩ | ⟨rfl, l', hne, h5⟩ | ⟨_, h5⟩
  · obtain ⟨he, h6⟩ := h5.assoc.pureL
    have he : ext = tail := he
    rcases hc with ⟨h1, h2, rfl⟩ | ⟨h1, h2, rfl⟩ | ⟨h1, h2, rfl⟩
    · exact ⟨RB, rfl, h6⟩
    · exact absurd (he ▸ h1) h2
    · exact absurd (he.trans h2) h1
  · obtain ⟨he, h6⟩ := h5.assoc.pureL
    rcases hc with ⟨h1, h2, rfl⟩ | ⟨h1, h2, rfl⟩ | ⟨h1, h2, rfl⟩
    · rw [h2] at he; exact absurd (List.append_eq_nil_iff.1 he).1 hne
    · exact ⟨RB, rfl, h6⟩
    · rw [h2] at he; exact absurd (List.append_eq_nil_iff.1 he).1 hne
  · obtain ⟨⟨he1, he2⟩, h6⟩ := h5.assoc.pureL
    subst he1
    rcases hc with ⟨h1, h2, rfl⟩ | ⟨h1, h2, rfl⟩ | ⟨h1, h2, rfl⟩
    · exact absurd h1 he2
    · exact absurd h1 he2
    · exact ⟨RB, rfl, h6⟩

set_option maxHeartbeats 2000000 in
theorem back_any (st : World) (R : HProp) (v : Value) (ops : List OpV) (hs : SeesOps st R v ops) (hk : ∀ o ∈ ops, o.n ≤ 18446744073709551615) (more : UInt8) (w : World) (h : Has st R w) :
    Calls Try.prog 5 #[v, .int .u8 more.toNat] w fun e w' => e = .returned (.bool true) ∧ Has st R w' := by
  have hmf := run_makeFunc
  obtain ⟨A, c, rfl, hlen⟩ := ops_form hs h
  have h0 := h.alloc (.cells #[.slice A ops.length c] 22 (0, 0))
  have HS := Lib.hid hs
  have HK := Lib.hid hk
  clear hs hk
  by_cases hf : fewB ops = true
  · obtain ⟨hb, h40⟩ := few_true hf
    have HW : Hid (∀ p1 w, Has st (sep (blk p1 (.cells #[.slice A ops.length c] 22 (0, 0))) R) w → Calls Try.prog 14 #[.slice A ops.length c] w fun e w' => ∃ A' c', e = .returned (.slice A' (opsW ops).length c') ∧ Has st (sep (row 5 1 (.slice A' (opsW ops).length c') (opsW ops).length (bcells (opsW ops))) (sep (blk p1 (.cells #[.slice A ops.length c] 22 (0, 0))) R)) w') :=
      fun p1 w hw => write_any st _ _ ops HS.out.right HK.out hf w hw
    have HFew : Hid (∀ p1 w, Has st (sep (blk p1 (.cells #[.slice A ops.length c] 22 (0, 0))) R) w → Calls Try.prog 10 #[.slice A ops.length c] w fun e w' => e = .returned (.bool true) ∧ Has st (sep (blk p1 (.cells #[.slice A ops.length c] 22 (0, 0))) R) w') :=
      fun p1 w hw => by have := few_any st _ _ ops HS.out.right w hw; rwa [hf] at this
    have hl64 := opsW_length ops hb
    obtain ⟨l, hl⟩ : ∃ l, l = opsW ops := ⟨_, rfl⟩
    rw [← hl] at HW hl64
    obtain ⟨n, hn⟩ : ∃ n, n = l.length := ⟨_, rfl⟩
    rw [← hn] at HW hl64
    have HL := Lib.hid hl
    have HN := Lib.hid hn
    have HB := Lib.hid hb
    clear hl hb hf hn
    have hone : ∀ u ∈ [Value.int .u8 more.toNat], u.oneCell' = true := by simp; rfl
    have HO := Lib.hid hone
    clear hone
    have hmore : l ++ [more] ≠ [] := by simp
    have HE1 : Hid (l ++ [] = opsW ops ++ []) := by show _ = _; rw [HL.out]
    have HE2 : Hid ((l ++ [more]) ++ [] = opsW ops ++ [more]) := by show _ = _; rw [HL.out, List.append_nil]
    have HB2 : Hid (bcells l ++ [.int .u8 more.toNat] = bcells (l ++ [more])) := by show _ = _; simp [bcells, bcell]
    have HN2 : Hid (n + 1 = (l ++ [more]).length) := by show _ = _; rw [List.length_append, ← HN.out]; rfl
    clear hmore
    rcases n with _ | q
    · go_enter Try.func5, Try.ntmps5
      go_wp2_with (first
        | (go_at_call 16
           have _k := h6
           rw [HB2.out] at h6 s6
           have h6b : Has st (sep (sep (blk w3.heap.size (.cells #[.bool true] 4 (0, 0))) (blk w.heap.size (.cells #[.slice A ops.length c] 22 (0, 0)))) (sep (row 5 1 (.slice A2 (0 + 1) d2) (0 + 1) (bcells (l ++ [more]))) (sep G (sep RB R)))) w6 := h6.cast (by ac_rfl)
           refine (dec_back st _ w.heap.size w3.heap.size A c ops HS.out.right.right.right HK.out HB.out (l ++ [more]) [] [more] HE2.out 22 (.inr (.inl ⟨rfl, by simp, rfl⟩)) _ (0 + 1) HN2.out (sees_row st 5 1 _ _ _ _) (by omega) _ h6b).mono ?_
           rintro e w7 ⟨RB2, rfl, h7⟩
           have c7 := h7.assoc.cell 0)
        | (go_at_call 16
           have h4 : Has st (sep (sep (blk w3.heap.size (.cells #[.bool true] 4 (0, 0))) (blk w.heap.size (.cells #[.slice A ops.length c] 22 (0, 0)))) (sep (row 5 1 (.slice A1 0 d1) 0 (bcells l)) R)) _ := (h3.alloc (.cells #[.bool true] 4 (0, 0))).cast (by ac_rfl)
           refine (dec_back st _ w.heap.size w3.heap.size A c ops HS.out.right HK.out HB.out l [] [] HE1.out 0 (.inl ⟨rfl, rfl, rfl⟩) _ 0 HN.out (sees_row st 5 1 (.slice A1 0 d1) 0 (bcells l) R) (by omega) _ h4).mono ?_
           rintro e w5 ⟨RB, rfl, h5⟩
           have h5b : Has st (sep (row 5 1 (.slice A1 0 d1) 0 (bcells l)) (sep (sep (blk w3.heap.size (.cells #[.bool true] 4 (0, 0))) (blk w.heap.size (.cells #[.slice A ops.length c] 22 (0, 0)))) (sep RB R))) w5 := h5.cast (by ac_rfl))
        | (go_at_call 9; refine (alive_any st _ _ h0).mono ?_; rintro e w1 ⟨rfl, h1⟩; have c1 := h1.cell 0)
        | (go_at_call 10; refine (HFew.out _ _ h1).mono ?_; rintro e w2 ⟨rfl, h2⟩; have c2 := h2.cell 0)
        | (go_at_call 14; refine (HW.out _ _ h2).mono ?_; rintro e w3 ⟨A1, d1, rfl, h3⟩; have hcap := (sees_row st 5 1 (.slice A1 0 d1) 0 (bcells l) _ _ h3).le_cap)
        | (refine wp_append_keep rfl _ _ 25 5 1 1 (.int .u8 0) rfl Try.underlying25 infoB rfl (by decide) rfl rfl (h5b.alloc' _) (Rd.one _ _ _) (by decide) HO.out (by unfold maxLen; omega) (by omega) ?_
           intro A2 d2 G w6 h6 s6))
      go_ret
      exact ⟨rfl, h7.right.right.right.right.right⟩
    · have hq : IntKind.i64.wrap (((q + 1 : Nat) : Int) - 1) = (q : Int) := by rw [IntWalk.i64_in _ ⟨by omega, by omega⟩]; omega
      have HE3 : Hid (l.take q ++ l.drop q = opsW ops ++ []) := by show _ = _; rw [List.take_append_drop, HL.out, List.append_nil]
      have HD : Hid (l.drop q ≠ []) := by
        intro e
        have := congrArg List.length e
        rw [List.length_drop, ← HN.out] at this
        simp at this
      have HN3 : Hid (q = (l.take q).length) := by show _ = _; rw [List.length_take, ← HN.out]; omega
      go_enter Try.func5, Try.ntmps5
      go_wp2_with (first
        | (go_at_call 16
           have _k := h7
           have s7 : Sees st (sep RB2 (sep (row 5 1 (.slice A2 ((q + 1) + 1) d2) ((q + 1) + 1) (bcells (l ++ [more]))) (sep G (sep RB R)))) 1 (.slice A1 q d1) q (bcells (l.take q)) := fun w hw => by
             have := (s6 w hw.right.unassoc.left).take (m := q) (by omega)
             rwa [Nat.mul_one, show (bcells l).take q = bcells (l.take q) from by unfold bcells; rw [List.map_take]] at this
           refine (dec_back st _ w.heap.size w3.heap.size A c ops HS.out.right.right.right.right HK.out HB.out (l.take q) (l.drop q) [] HE3.out 20 (.inr (.inr ⟨HD.out, rfl, rfl⟩)) _ q HN3.out s7 (by omega) _ h7).mono ?_
           rintro e w8 ⟨RB3, rfl, h8⟩
           have c8 := h8.assoc.cell 0)
        | (go_at_call 16
           have _k := h6
           rw [HB2.out] at h6 s6
           have h6b : Has st (sep (sep (blk w3.heap.size (.cells #[.bool true] 4 (0, 0))) (blk w.heap.size (.cells #[.slice A ops.length c] 22 (0, 0)))) (sep (row 5 1 (.slice A2 ((q + 1) + 1) d2) ((q + 1) + 1) (bcells (l ++ [more]))) (sep G (sep RB R)))) w6 := h6.cast (by ac_rfl)
           refine (dec_back st _ w.heap.size w3.heap.size A c ops HS.out.right.right.right HK.out HB.out (l ++ [more]) [] [more] HE2.out 22 (.inr (.inl ⟨rfl, by simp, rfl⟩)) _ ((q + 1) + 1) HN2.out (sees_row st 5 1 _ _ _ _) (by omega) _ h6b).mono ?_
           rintro e w7 ⟨RB2, rfl, h7⟩
           have c7 := h7.assoc.cell 0)
        | (go_at_call 16
           have h4 : Has st (sep (sep (blk w3.heap.size (.cells #[.bool true] 4 (0, 0))) (blk w.heap.size (.cells #[.slice A ops.length c] 22 (0, 0)))) (sep (row 5 1 (.slice A1 (q + 1) d1) (q + 1) (bcells l)) R)) _ := (h3.alloc (.cells #[.bool true] 4 (0, 0))).cast (by ac_rfl)
           refine (dec_back st _ w.heap.size w3.heap.size A c ops HS.out.right HK.out HB.out l [] [] HE1.out 0 (.inl ⟨rfl, rfl, rfl⟩) _ (q + 1) HN.out (sees_row st 5 1 (.slice A1 (q + 1) d1) (q + 1) (bcells l) R) (by omega) _ h4).mono ?_
           rintro e w5 ⟨RB, rfl, h5⟩
           have h5b : Has st (sep (row 5 1 (.slice A1 (q + 1) d1) (q + 1) (bcells l)) (sep (sep (blk w3.heap.size (.cells #[.bool true] 4 (0, 0))) (blk w.heap.size (.cells #[.slice A ops.length c] 22 (0, 0)))) (sep RB R))) w5 := h5.cast (by ac_rfl))
        | (go_at_call 9; refine (alive_any st _ _ h0).mono ?_; rintro e w1 ⟨rfl, h1⟩; have c1 := h1.cell 0)
        | (go_at_call 10; refine (HFew.out _ _ h1).mono ?_; rintro e w2 ⟨rfl, h2⟩; have c2 := h2.cell 0)
        | (go_at_call 14; refine (HW.out _ _ h2).mono ?_; rintro e w3 ⟨A1, d1, rfl, h3⟩; have hcap := (sees_row st 5 1 (.slice A1 (q + 1) d1) (q + 1) (bcells l) _ _ h3).le_cap)
        | (refine wp_append_keep rfl _ _ 25 5 1 1 (.int .u8 0) rfl Try.underlying25 infoB rfl (by decide) rfl rfl (h5b.alloc' _) (Rd.one _ _ _) (by decide) HO.out (by unfold maxLen; omega) (by omega) ?_
           intro A2 d2 G w6 h6 s6))
      go_ret
      exact ⟨rfl, h8.right.right.right.right.right.right⟩
  · go_enter Try.func5, Try.ntmps5
    go_wp2_with (first
      | (go_at_call 9; refine (alive_any st _ _ h0).mono ?_; rintro e w1 ⟨rfl, h1⟩; have c1 := h1.cell 0)
      | (go_at_call 10; have hfb : fewB ops = false := by simpa using hf
         refine (few_any st _ _ ops HS.out.right _ h1).mono ?_; rintro e w2 ⟨rfl, h2⟩))
    go_ret
    exact ⟨rfl, h2.right⟩
end Go.Proofs.Ytkmhopnpkilhiaa
