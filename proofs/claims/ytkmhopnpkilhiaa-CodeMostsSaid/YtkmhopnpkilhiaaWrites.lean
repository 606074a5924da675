/-
  CodeWrites returns true.
-/
import Derived.Test.YtkmhopnpkilhiaaOps2
namespace Go.Proofs.Ytkmhopnpkilhiaa
open Go.RowKit Go.Sl
set_option linter.unusedVariables false
set_option linter.unusedSimpArgs false

/-- a literal of two slices of bytes -/
theorem seesL_two (st : World) (R : HProp) (g : Nat) (t : TypeId) (f : Nat × Nat) (A B : Option Addr) (c d : Nat) (l m : List UInt8) (hl : Sees st R 1 (.slice A l.length c) l.length (bcells l)) (hm : Sees st R 1 (.slice B m.length d) m.length (bcells m)) :
    SeesL st (sep (blk g (.cells #[.slice A l.length c, .slice B m.length d] t f)) R) (.slice (some ⟨g, 0, none⟩) 2 2) [l, m] := by
  refine ⟨[.slice A l.length c, .slice B m.length d], fun w hw => ⟨rfl, _, 2, rfl, Nat.le_refl _, by decide, .inr ⟨_, rfl, fun j u hu => ⟨rfl, ?_⟩⟩⟩, ?_⟩
  · show w.cell? ⟨g, 0 + j, none⟩ = _
    rw [Nat.zero_add, hw.cell]
    rw [← hu]; simp
  · intro i hi
    match i, hi with
    | 0, _ => exact ⟨A, c, rfl, hl.right⟩
    | 1, _ => exact ⟨B, d, rfl, hm.right⟩

set_option maxHeartbeats 400000 in
theorem refBytes_any (st : World) (R : HProp) (v : Value) (m : List UInt8) (hs : Sees st R 1 v m.length (bcells m)) (hb : m.length ≤ 140737488355320) (w : World) (h : Has st R w) :
    Calls Try.prog 12 #[v] w fun e w' => ∃ A c, e = .returned (.slice A (le m.length 4 ++ m).length c) ∧ Has st (sep (row 5 1 (.slice A (le m.length 4 ++ m).length c) (le m.length 4 ++ m).length (bcells (le m.length 4 ++ m))) R) w' := by
  obtain ⟨A, c, rfl⟩ := hs.form h
  have hnum := refNum_any st R m.length 4 w (by omega) h
  rw [show held 4 = 4 from rfl] at hnum
  have hj : [le m.length 4, m].flatten = le m.length 4 ++ m := by simp
  rw [← hj]
  have HJ := Lib.hid hj
  clear hj
  go_enter Try.func12, Try.ntmps12
  go_wp2_with (first
    | (go_at_call 11; refine hnum.mono ?_; rintro e w1 ⟨A1, c1, rfl, h1⟩)
    | (go_at_call 15; refine (join_any st _ _ [le m.length 4, m] _ (h1.alloc _) (seesL_two st _ w1.heap.size 25 (0, 0) A1 A c1 c _ m (sees_row st 5 1 _ _ _ _) hs.right) (by rw [HJ.out, List.length_append, le_length]; omega)).mono ?_; rintro e w2 ⟨A2, c2, rfl, h2⟩))
  go_ret
  exact ⟨A2, c2, by simp, h2.cast (by ac_rfl : _ = sep (sep (blk w1.heap.size (.cells #[.slice A1 (le m.length 4).length c1, .slice A m.length c] 25 (0, 0))) (row 5 1 (.slice A1 (le m.length 4).length c1) (le m.length 4).length (bcells (le m.length 4)))) (sep (row 5 1 (.slice A2 [le m.length 4, m].flatten.length c2) [le m.length 4, m].flatten.length (bcells [le m.length 4, m].flatten)) R)) |>.right⟩

theorem SeesOps.right {s : World} {p R : HProp} {v : Value} {ops : List OpV} (h : SeesOps s R v ops) : SeesOps s (sep p R) v ops := by
  obtain ⟨vs, hv, hall⟩ := h
  exact ⟨vs, hv.right, fun i hi => let ⟨A, c, h0, h1, h2, h3, hr⟩ := hall i hi; ⟨A, c, h0, h1, h2, h3, hr.right⟩⟩
def LawRel (st : World) (R : HProp) (ops : List OpV) (v3 v14 : Value) (wr : World) : Prop :=
  ∃ (i n c : Nat) (A : Option Addr) (li : List UInt8), i ≤ ops.length ∧ v14 = .int .i64 i ∧ v3 = .slice A n c ∧ Hid (li = opsW (ops.take i) ∧ n = li.length) ∧ Has st (sep (row 5 1 (.slice A n c) n (bcells li)) R) wr

set_option maxHeartbeats 1000000 in
theorem writes_any (st : World) (R : HProp) (v : Value) (ops : List OpV) (hs : SeesOps st R v ops) (hk : ∀ o ∈ ops, o.n ≤ 18446744073709551615) (w : World) (h : Has st R w) :
    Calls Try.prog 3 #[v] w fun e w' => e = .returned (.bool true) ∧ Has st R w' := by
  obtain ⟨A, c, rfl, hlen⟩ := ops_form hs h
  have HS := Lib.hid hs
  clear hs
  have HK := Lib.hid hk
  clear hk
  by_cases hf : fewB ops = true
  · obtain ⟨hb, h40⟩ := few_true hf
    have HF := Lib.hid hf
    have HB := Lib.hid hb
    clear hf hb
    go_enter Try.func3, Try.ntmps3
    go_wp2_with (first
      | (go_at_call 9; refine (alive_any st R _ h).mono ?_; rintro e w1 ⟨rfl, h1⟩)
      | (go_at_call 10; refine (few_any st R _ ops HS.out _ h1).mono ?_; rintro e w2 ⟨rfl, h2⟩; rw [HF.out]))
    go_loopw [3, 5, 14] (fun v3 _ v14 wr => LawRel st R ops v3 v14 wr) (fun _ _ v14 _ => ops.length - (intOf v14).toNat)
    case atStart => exact ⟨0, 0, 0, _, [], Nat.zero_le _, rfl, rfl, ⟨by simp [opsW], rfl⟩, h2.row_empty _ _⟩
    case round =>
      obtain ⟨i, n, c', A', li, hi, rfl, rfl, HE, h⟩ := hrel
      by_cases hlt : i < ops.length
      · obtain ⟨b, off, B, d, rfl, c0, c1, c2, c3, hsb⟩ := ops_at HS.out h.right hlt
        have hn := HK.out ops[i] (List.getElem_mem hlt)
        have hb := HB.out ops[i] (List.getElem_mem hlt)
        have HSB := Lib.hid hsb
        clear hsb
        have hli : n ≤ 64 * 40 := by
          rw [HE.out.2, HE.out.1]
          have := opsW_length (ops.take i) fun o ho => HB.out o (List.mem_of_mem_take ho)
          rw [List.length_take] at this
          omega
        obtain ⟨X, hX⟩ : ∃ X, opW ops[i] = X := ⟨_, rfl⟩
        obtain ⟨m, hm⟩ : ∃ m, X.length = m := ⟨_, rfl⟩
        have hm64 : m ≤ 64 := by rw [← hm, ← hX]; exact opW_length _ hb
        have HX := Lib.hid hX
        have HM := Lib.hid hm
        clear hX hm
        go_wp2_with (first
          | (go_at_call 11; have hx : le ops[i].n (held ops[i].size) = X := (by first | exact (opW_0 _ (by assumption)).symm.trans HX.out | exact (opW_1 _ (by assumption) (by assumption)).symm.trans HX.out); have hnum := fun o => refNum_any st _ ops[i].n ops[i].size _ hn (h.alloc' o); rw [hx, HM.out] at hnum; clear hx; refine (hnum _).mono ?_; clear hnum; rintro e w1 ⟨A1, d1, rfl, h1⟩; have hr1 := sees_row st 5 1 (.slice A1 m d1) m (bcells X) _ _ h1)
          | (go_at_call 12; have hx : le ops[i].b.length 4 ++ ops[i].b = X := (by first | exact (opW_2 _ (by assumption) (by assumption) (by assumption)).symm.trans HX.out | exact (opW_3 _ (by assumption) (by assumption) (by assumption) (by assumption)).symm.trans HX.out); have hnum := fun o => refBytes_any st _ _ ops[i].b HSB.out.right (by omega) _ (h.alloc' o); rw [hx, HM.out] at hnum; clear hx; refine (hnum _).mono ?_; clear hnum; rintro e w1 ⟨A1, d1, rfl, h1⟩; have hr1 := sees_row st 5 1 (.slice A1 m d1) m (bcells X) _ _ h1)
          | (refine wp_append (v := .slice A' n c') rfl (.tmp 23) (.tmp 28) 25 5 1 1 (.int .u8 0) rfl Try.underlying25 infoB rfl (by decide) rfl rfl h1.second hr1 (bcells_one X) (by unfold maxLen; omega) (by omega) ?_; intro A2 d2 w2 h3 _)
          | (refine wp_append (v := .slice A' n c') rfl (.tmp 33) (.tmp 36) 25 5 1 1 (.int .u8 0) rfl Try.underlying25 infoB rfl (by decide) rfl rfl h1.second hr1 (bcells_one X) (by unfold maxLen; omega) (by omega) ?_; intro A2 d2 w2 h3 _)
          | (refine wp_append (v := .slice A' n c') rfl (.tmp 40) (.tmp 42) 25 5 1 1 (.int .u8 0) rfl Try.underlying25 infoB rfl (by decide) rfl rfl (h.alloc' _) (HSB.out _ (h.alloc' _).right) (bcells_one _) (by unfold maxLen; omega) (by omega) ?_; intro A2 d2 w2 h3 _))
        all_goals
          go_roundw
          case measure => simp [intOf]; omega
        all_goals
          first
          | exact ⟨i + 1, n + m, d2, A2, li ++ X, by omega, by go_num, rfl, ⟨by rw [HE.out.1, opsW_take_succ ops i hlt, HX.out], by rw [HE.out.2, List.length_append, HM.out]⟩, by rw [← bcells_append]; exact h3.drop2⟩
          | exact ⟨i + 1, n + ops[i].b.length, d2, A2, li ++ ops[i].b, by omega, by go_num, rfl, ⟨by rw [HE.out.1, opsW_take_succ ops i hlt, opW_4 ops[i] (by assumption) (by assumption) (by assumption) (by assumption) (by assumption)], by rw [HE.out.2, List.length_append]⟩, by rw [← bcells_append]; exact h3⟩
          | exact ⟨i + 1, n, c', A', li, by omega, by go_num, rfl, ⟨by rw [HE.out.1, opsW_take_succ ops i hlt, opW_5 ops[i] (by assumption) (by assumption) (by assumption) (by assumption) (by assumption), List.append_nil], HE.out.2⟩, h.alloc' _⟩
      · obtain rfl : i = ops.length := by omega
        have e1 : li = opsW ops := by rw [HE.out.1, List.take_length]
        have hx := sees_row st 5 1 (.slice A' n c') n (bcells li) R _ h
        have hw := write_any st _ (.slice A ops.length c) ops HS.out.right HK.out HF.out _ h
        rw [← e1, ← HE.out.2] at hw
        clear e1
        go_wp2_with (first
          | (go_at_call 14; refine hw.mono ?_; rintro e w3 ⟨A3, c3, rfl, h3⟩; have hy := sees_row st 5 1 (.slice A3 n c3) n (bcells li) _ _ h3; have hx2 := sees_row st 5 1 (.slice A' n c') n (bcells li) R _ h3.right)
          | (go_at_call 13; refine (same_any li li n n _ _ _ hy hx2).mono ?_; rintro e w4 ⟨rfl, rfl⟩))
        go_ret
        exact ⟨by simp, h3.right.right⟩
  · have hf' : fewB ops = false := by simpa using hf
    have HF := Lib.hid hf'
    clear hf hf'
    go_enter Try.func3, Try.ntmps3
    go_wp2_with (first
      | (go_at_call 9; refine (alive_any st R _ h).mono ?_; rintro e w1 ⟨rfl, h1⟩)
      | (go_at_call 10; refine (few_any st R _ ops HS.out _ h1).mono ?_; rintro e w2 ⟨rfl, h2⟩; rw [HF.out]))
    go_ret
    exact ⟨rfl, h2⟩
end Go.Proofs.Ytkmhopnpkilhiaa
