/-
  The document's example of layer 2 holds.
-/
import Derived.Test.YtkmhopnpkilhiaaRef
namespace Go.Proofs.Ytkmhopnpkilhiaa
open Go.RowKit Go.Sl
set_option linter.unusedVariables false
set_option linter.unusedSimpArgs false

def ex2 : List UInt8 := [2, 1, 2, 0, 0, 0, 97, 98]
theorem rget_ex2 : rget [2, 0, 0, 0, 97, 98] 2 = .ok ([97, 98], []) := rfl
theorem rget_ex1 : rget [2, 0, 0, 0, 97, 98] 1 = .error 2 := rfl

set_option maxHeartbeats 400000 in
theorem alive1_reads (st : World) (R : HProp) (a b : Nat) (x : Int) (y : ByteArray) : Reads st 39 #[.pointer (some ⟨a, 0, none⟩), .pointer (some ⟨b, 0, none⟩)] ex2
    (sep (blk a (.cells #[.int .u64 x] 26 (0, 0))) (blk b (.cells #[.string y] 9 (0, 0)))) R
    (fun _ l' => sep (pure (l' = [])) (sep (blk a (.cells #[.int .u64 258] 26 (0, 0))) (blk b (.cells #[.string ⟨#[97, 98]⟩] 9 (0, 0))))) (fun _ _ => pure False) := by
  intro RB X p w h
  have h0 : Has st (sep (reader st (sep RB R) p ex2) (sep (sep (sep (blk a (.cells #[.int .u64 x] 26 (0, 0))) (blk b (.cells #[.string y] 9 (0, 0)))) X) (sep RB R))) w := h.cast (by ac_rfl)
  have c1 := rnum_ok st (sep RB R) _ (fun _ h => h.right) p ex2 2 w h0 (by decide)
  rw [show unle (ex2.take (held 2)) = 258 by decide, show ex2.drop (held 2) = [2, 0, 0, 0, 97, 98] by decide] at c1
  have hab := (h.cast (by ac_rfl) : Has st (sep (blk a (.cells #[.int .u64 x] 26 (0, 0))) (sep (blk b (.cells #[.string y] 9 (0, 0))) (sep (reader st (sep RB R) p ex2) (sep X (sep RB R))))) w).ne
  have hba := (h.cast (by ac_rfl) : Has st (sep (blk b (.cells #[.string y] 9 (0, 0))) (sep (blk a (.cells #[.int .u64 x] 26 (0, 0))) (sep (reader st (sep RB R) p ex2) (sep X (sep RB R))))) w).ne
  clear h
  show Calls Try.prog 39 #[.pointer (some ⟨p, 0, none⟩), .pointer (some ⟨a, 0, none⟩), .pointer (some ⟨b, 0, none⟩)] w _
  go_enter Try.func39, Try.ntmps39
  go_wp2_with (first
    | (go_at_call 26; refine c1.mono ?_; rintro e w1 ⟨rfl, h1⟩)
    | (go_at_call 28; refine (rtext_any st (sep RB R) _ (fun _ h => h.right) p _ 2 _ h1 (by decide)).mono ?_; intro e w2 h2; unfold RText at h2; rw [rget_ex2] at h2; obtain ⟨rfl, h3⟩ := h2; have ha := (h3.cast (by ac_rfl) : Has st (sep (blk a (.cells #[.int .u64 x] 26 (0, 0))) (sep (sep (reader st (sep RB R) p []) (blk b (.cells #[.string y] 9 (0, 0)))) (sep X (sep RB R)))) w2); have ca := ha.cell 0; have fa := ha.free 0; have hb := (h3.cast (by ac_rfl) : Has st (sep (blk b (.cells #[.string y] 9 (0, 0))) (sep (sep (reader st (sep RB R) p []) (blk a (.cells #[.int .u64 x] 26 (0, 0)))) (sep X (sep RB R)))) w2); have cb := hb.cell 0; have fb := hb.free 0))
  go_end0
  have h4 := ((ha.set 0 (.int .u64 258)).cast (by ac_rfl) : Has st (sep (blk b (.cells #[.string y] 9 (0, 0))) (sep (blk a (.cells #[.int .u64 258] 26 (0, 0))) (sep (reader st (sep RB R) p []) (sep X (sep RB R))))) _).set 0 (.string ⟨#[97, 98]⟩)
  exact .inl ⟨[], rfl, (Has.ofPure rfl h4).cast (by ac_rfl)⟩

set_option maxHeartbeats 400000 in
theorem alive2_reads (st : World) (R : HProp) : Reads st 40 #[] ex2 emp R (fun _ l' => pure (l' ≠ [])) (fun _ _ => pure False) := by
  intro RB X p w h
  have h0 : Has st (sep (reader st (sep RB R) p ex2) (sep X (sep RB R))) w := h.right
  clear h
  show Calls Try.prog 40 #[.pointer (some ⟨p, 0, none⟩)] w _
  go_enter Try.func40, Try.ntmps40
  go_wp2_with (go_at_call 26; refine (rnum_ok st (sep RB R) _ (fun _ h => h.right) p ex2 2 w h0 (by decide)).mono ?_; rintro e w1 ⟨rfl, h1⟩)
  go_end0
  exact .inl ⟨_, rfl, Has.ofPure (by decide) h1⟩
set_option maxHeartbeats 400000 in
theorem alive3_reads (st : World) (R : HProp) : Reads st 41 #[] ex2 emp R (fun _ l' => pure False) (fun _ c => pure (c = 20)) := by
  intro RB X p w h
  have h0 : Has st (sep (reader st (sep RB R) p ex2) (sep X (sep RB R))) w := h.right
  clear h
  show Calls Try.prog 41 #[.pointer (some ⟨p, 0, none⟩)] w _
  go_enter Try.func41, Try.ntmps41
  go_wp2_with (go_at_call 29; refine (rraw_no st (sep RB R) _ (fun _ h => h.right) p ex2 9 w h0 (by decide)).mono ?_; rintro e w1 ⟨rfl, rfl⟩)
  exact ⟨rfl, .inr ⟨20, by decide, rfl, Has.ofPure rfl h0.right⟩⟩
set_option maxHeartbeats 400000 in
theorem alive4_reads (st : World) (R : HProp) : Reads st 42 #[] ex2 emp R (fun _ l' => pure False) (fun _ c => pure (c = 2)) := by
  intro RB X p w h
  have h0 : Has st (sep (reader st (sep RB R) p ex2) (sep X (sep RB R))) w := h.right
  clear h
  show Calls Try.prog 42 #[.pointer (some ⟨p, 0, none⟩)] w _
  go_enter Try.func42, Try.ntmps42
  go_wp2_with (first
    | (go_at_call 26; refine (rnum_ok st (sep RB R) _ (fun _ h => h.right) p ex2 2 w h0 (by decide)).mono ?_; rintro e w1 ⟨rfl, h1⟩)
    | (go_at_call 27; refine (rbytes_any st (sep RB R) _ (fun _ h => h.right) p [2, 0, 0, 0, 97, 98] 1 _ h1 (by decide)).mono ?_; intro e w2 h2; unfold RGet at h2; rw [rget_ex1] at h2; obtain ⟨rfl, h3⟩ := h2))
  exact ⟨rfl, .inr ⟨2, by decide, rfl, Has.ofPure rfl h3.right⟩⟩

theorem call_f39 (caps : Array Value) (W : World) : (callFunc 39 caps).run Try.prog W = .ok (.enter 39 caps) W := by kernel_rfl
theorem call_f40 (caps : Array Value) (W : World) : (callFunc 40 caps).run Try.prog W = .ok (.enter 40 caps) W := by kernel_rfl
theorem call_f41 (caps : Array Value) (W : World) : (callFunc 41 caps).run Try.prog W = .ok (.enter 41 caps) W := by kernel_rfl
theorem call_f42 (caps : Array Value) (W : World) : (callFunc 42 caps).run Try.prog W = .ok (.enter 42 caps) W := by kernel_rfl

/-- what is left of a Decode that must end with one number -/
theorem qd_only {st : World} {RB R : HProp} {Qok : HProp → List UInt8 → HProp} {Qerr : HProp → Int → HProp} {c : Int} {w : World} (h : Has st (sep (QD RB Qok Qerr c) (sep RB R)) w) :
    (c = 0 ∧ Has st (sep (Qok RB []) (sep RB R)) w) ∨ (c = 22 ∧ ∃ l', l' ≠ [] ∧ Has st (sep (Qok RB l') (sep RB R)) w) ∨ ((c == 0) = false ∧ Has st (sep (Qerr RB c) (sep RB R)) w) := by
  obtain ⟨h1, h2, h3, x, ⟨y, z, hy, hz, hyz, rfl⟩, hk⟩ := h
  rcases hy with ⟨hc, hy⟩ | ⟨hc, l', hl, hy⟩ | ⟨hc, hy⟩
  · exact .inl ⟨hc, h1, h2, h3, _, ⟨y, z, hy, hz, hyz, rfl⟩, hk⟩
  · exact .inr (.inl ⟨hc, l', hl, h1, h2, h3, _, ⟨y, z, hy, hz, hyz, rfl⟩, hk⟩)
  · exact .inr (.inr ⟨hc, h1, h2, h3, _, ⟨y, z, hy, hz, hyz, rfl⟩, hk⟩)

set_option maxHeartbeats 400000 in
theorem alive_any (st : World) (R : HProp) (w : World) (h : Has st R w) : Calls Try.prog 9 #[] w fun e w' => e = .returned (.bool true) ∧ Has st R w' := by
  have hmf := run_makeFunc
  go_enter Try.func9, Try.ntmps9
  go_wp2_with (first
    | (go_at_call 30; refine (num_any st R w.heap.size [] 258 2 _ (writer_new h) (by decide)).mono ?_; rintro e w1 ⟨rfl, h1⟩; rw [show [] ++ le 258 (held 2) = [2, 1] by decide] at h1)
    | (go_at_call 31; refine (text_any st R w.heap.size _ _ _ h1 (by decide)).mono ?_; rintro e w2 ⟨rfl, h2⟩; rw [show [2, 1] ++ le (ByteArray.mk #[97, 98]).size 4 ++ (ByteArray.mk #[97, 98]).data.toList = [2, 1, 2, 0, 0, 0, 97, 98] by decide] at h2)
    | (go_at_call 33; refine (done_any st R w.heap.size _ _ h2 (by decide)).mono ?_; rintro e w3 ⟨A, c, rfl, h3⟩; have hr3 := (sees_row st 5 1 (.slice A 8 c) 8 (bcells [2, 1, 2, 0, 0, 0, 97, 98]) R) _ (h3.second.right))
    | (refine wp_string rfl 25 9 5 _ rfl Try.underlying25 Try.underlying5 Try.underlying9 rfl hr3 ?_))
  have h4 := h3.second.right
  have hs4 := sees_row st 5 1 (.slice A 8 c) 8 (bcells [2, 1, 2, 0, 0, 0, 97, 98]) R
  have h5 := (h4.alloc (.cells #[.int .u64 0] 26)).alloc (.cells #[.string ⟨#[]⟩] 9)
  rw [World.size_alloc] at h5
  refine (decode_any st 39 _ (fun p W => call_f39 _ W) ex2 (.slice A 8 c) _ _ _ _ (alive1_reads st _ w3.heap.size (w3.heap.size + 1) 0 ⟨#[]⟩) _ (h5.cast (by ac_rfl)) hs4 (by decide)).mono ?_
  rintro e w4 ⟨RB, c1, rfl, h6⟩
  have h6' := qd_only h6
  clear h6
  rcases h6' with ⟨rfl, h6⟩ | ⟨_, _, hl, h6⟩ | ⟨_, h6⟩
  rotate_left
  · exact absurd h6.assoc.pureL.1 hl
  · exact absurd h6.pureL.1 id
  have h7 := h6.assoc.pureL.2.assoc
  clear h6
  have cn := h7.cell 0
  have ct := h7.second.cell 0
  have h8 : Has st (sep emp (sep (sep (blk w3.heap.size (.cells #[.int .u64 258] 26)) (sep (blk (w3.heap.size + 1) (.cells #[.string ⟨#[97, 98]⟩] 9)) RB)) (sep (row 5 1 (.slice A 8 c) 8 (bcells [2, 1, 2, 0, 0, 0, 97, 98])) R))) w4 := (h7.ofEmp).cast (by ac_rfl)
  clear h7
  go_wp2_with (fail)
  refine (decode_any st 40 _ (fun p W => call_f40 _ W) ex2 (.slice A 8 c) _ _ _ _ (alive2_reads st _) _ h8 hs4.right (by decide)).mono ?_
  rintro e w5 ⟨RB2, c2, rfl, h9⟩
  have h9' := qd_only h9
  clear h9
  rcases h9' with ⟨_, h9⟩ | ⟨rfl, _, hl, h9⟩ | ⟨_, h9⟩
  · exact absurd rfl h9.pureL.1
  rotate_left
  · exact absurd h9.pureL.1 id
  have h10 := (h9.pureL.2.right).ofEmp
  clear h9
  go_wp2_with (fail)
  refine (decode_any st 41 _ (fun p W => call_f41 _ W) ex2 (.slice A 8 c) _ _ _ _ (alive3_reads st _) _ h10 hs4.right (by decide)).mono ?_
  rintro e w6 ⟨RB3, c3, rfl, h11⟩
  have h11' := qd_only h11
  clear h11
  rcases h11' with ⟨_, h11⟩ | ⟨_, _, hl, h11⟩ | ⟨_, h11⟩
  · exact absurd h11.pureL.1 id
  · exact absurd h11.pureL.1 id
  obtain ⟨rfl, h12⟩ := h11.pureL
  have h13 := h12.right.ofEmp
  clear h12
  go_wp2_with (fail)
  refine (decode_any st 42 _ (fun p W => call_f42 _ W) ex2 (.slice A 8 c) _ _ _ _ (alive4_reads st _) _ h13 hs4.right (by decide)).mono ?_
  rintro e w7 ⟨RB4, c4, rfl, h14⟩
  have h14' := qd_only h14
  clear h14
  rcases h14' with ⟨_, h14⟩ | ⟨_, _, hl, h14⟩ | ⟨_, h14⟩
  · exact absurd h14.pureL.1 id
  · exact absurd h14.pureL.1 id
  obtain ⟨rfl, h15⟩ := h14.pureL
  have h16 := h15.right.assoc
  clear h15
  have cn := h16.cell 0
  have ct := h16.second.assoc.cell 0
  go_wp2
  go_ret
  exact ⟨rfl, h16.right.right.right⟩
end Go.Proofs.Ytkmhopnpkilhiaa
