/-
  The contracts of guard.Run and code.Decode, for whatever function they are handed.
-/
import Derived.Test.YtbiacehmfbopfaaReader
import Derived.Defers
import Derived.Recover
import Derived.Laws.Pointers
namespace Go.Proofs.Ytbiacehmfbopfaa
open Go.RowKit Go.Sl
set_option linter.unusedVariables false
set_option linter.unusedSimpArgs false

theorem catch_idle (p : Addr) (w : World) :
    CallsD Try.prog 39 #[.pointer (some p)] .returning w fun e u' w' => e = .returned (.tuple #[]) ∧ u' = .returning ∧ w' = w := by
  refine callsD_of_wpS Try.func39 rfl fun c₀ cs hu => ?_
  apply wpS_seq
  apply wpS_region
  simp [wpOpsS, go_sem, recoverD, hu, Try.ntmps39, Exit.thenS]
  refine wpS_of_wp ?_
  go_wp2
  cases c₀
  simp_all [bodyPostS, results, Try.results39]
theorem assert_errno (n : Int) (w : World) : (Instr.typeAssert (.iface 24 (.int .i64 n)) 20 24 true).run Try.prog w = .ok (.tuple #[.int .i64 n, .bool true]) w := by kernel_rfl
theorem catch_thrown (b : Nat) (x n : Int) (w : World) (hc : w.cell? ⟨b, 0, none⟩ = some (.int .i64 x)) (hz : w.frozen? ⟨b, 0, none⟩ = false) :
    CallsD Try.prog 39 #[.pointer (some ⟨b, 0, none⟩)] (.panicking [{ v := .iface 24 (.int .i64 n), recovered := false }]) w fun e u' w' =>
      e = .returned (.tuple #[]) ∧ u' = .panicking [{ v := .iface 24 (.int .i64 n), recovered := true }] ∧ w' = w.setCell ⟨b, 0, none⟩ (.int .i64 n) := by
  have ha := assert_errno n
  refine callsD_of_wpS Try.func39 rfl fun c₀ cs hu => ?_
  apply wpS_seq
  apply wpS_region
  have hrep : Array.replicate 10 undef = #[undef, undef, undef, undef, undef, undef, undef, undef, undef, undef] := rfl
  simp [wpOpsS, go_sem, recoverD, hu, Try.ntmps39, Exit.thenS, hrep]
  clear hrep
  refine wpS_of_wp ?_
  go_wp2
  cases c₀
  simp_all [bodyPostS, results, Try.results39]

theorem run_makeFunc (fn : Fn) (first cap : Array Value) (w : World) : (Instr.makeFunc fn first cap).run Try.prog w = .ok (.func fn first cap) w := rfl

set_option maxHeartbeats 400000 in
/-- Run of a function that returns, or throws an error: the piece P becomes Q of the error (0: none) -/
theorem run_any (st : World) (g : FuncId) (caps : Array Value) (P R : HProp) (Q : Int → HProp) (hcall : ∀ W, (callFunc g caps).run Try.prog W = .ok (.enter g caps) W)
    (hf : ∀ X w, Has st (sep P (sep X R)) w → Calls Try.prog g caps w fun e w' => (e = .returned (.tuple #[]) ∧ Has st (sep (Q 0) (sep X R)) w') ∨ ∃ c, (c == 0) = false ∧ e = thrown c ∧ Has st (sep (Q c) (sep X R)) w')
    (w : World) (h : Has st (sep P R) w) :
    Calls Try.prog 35 #[.func (.func g) #[] caps] w fun e w' => ∃ c, e = .returned (.int .i64 c) ∧ Has st (sep (Q c) R) w' := by
  have hmf := run_makeFunc
  have heq : ∀ W, (binOp .eql 1 (.func (.func g) #[] caps) .nilFunc).run Try.prog W = .ok (.bool false) W := fun _ => by kernel_rfl
  have HF := Lib.hid hf
  clear hf
  go_enter_defers Try.func35, Try.ntmps35
  go_wp2_with (fail)
  refine (HF.out (blk w.heap.size (.cells #[.int .i64 0] 24)) _ ((h.alloc _).second.cast (by ac_rfl))).mono ?_
  rintro e w1 (⟨rfl, h1⟩ | ⟨c, hc, rfl, h1⟩)
  · have h2 : Has st (sep (blk w.heap.size (.cells #[.int .i64 0] 24)) (sep (Q 0) R)) w1 := h1.cast (by ac_rfl)
    have hcell := h2.cell 0
    have hfree := h2.free 0
    go_wp2
    have h3 := h2.set 0 (.int .i64 0)
    have hc3 := h3.cell 0
    refine leaves_cons (f := 39) (args := #[.pointer (some ⟨w.heap.size, 0, none⟩)]) (by simp) (by simp [go_sem]) ?_
    refine (catch_idle _ _).mono ?_
    rintro e u' w'' ⟨rfl, rfl, rfl⟩
    exact ⟨.int .i64 0, by simp [results, Try.results35, go_sem, hc3], 0, rfl, h3.right⟩
  · have h2 : Has st (sep (blk w.heap.size (.cells #[.int .i64 0] 24)) (sep (Q c) R)) w1 := h1.cast (by ac_rfl)
    have hcell := h2.cell 0
    have hfree := h2.free 0
    have h3 := h2.set 0 (.int .i64 c)
    have hc3 := h3.cell 0
    show bodyPostD _ _ _ _ _ _
    refine leaves_cons (f := 39) (args := #[.pointer (some ⟨w.heap.size, 0, none⟩)]) (by simp) (by simp [go_sem]) ?_
    refine (catch_thrown _ 0 c _ hcell hfree).mono ?_
    rintro e u' w'' ⟨rfl, rfl, rfl⟩
    exact ⟨.int .i64 c, by simp [results, Try.results35, go_sem, hc3], c, rfl, h3.right⟩

/-- what the function that Decode is handed does: from the piece P to Qok of the bytes that are left, or to Qerr of the error -/
def Reads (st : World) (g : FuncId) (caps : Array Value) (l : List UInt8) (P R : HProp) (Qok : HProp → List UInt8 → HProp) (Qerr : HProp → Int → HProp) : Prop :=
  ∀ RB X p w, Has st (sep P (sep (reader st (sep RB R) p l) (sep X (sep RB R)))) w →
    Calls Try.prog g (#[.pointer (some ⟨p, 0, none⟩)] ++ caps) w fun e w' =>
      (∃ l', e = .returned (.tuple #[]) ∧ Has st (sep (Qok RB l') (sep (reader st (sep RB R) p l') (sep X (sep RB R)))) w') ∨
      ∃ c, (c == 0) = false ∧ e = thrown c ∧ Has st (sep (Qerr RB c) (sep X (sep RB R))) w'
/-- behind Decode: its error's number c -/
def QD (RB : HProp) (Qok : HProp → List UInt8 → HProp) (Qerr : HProp → Int → HProp) (c : Int) : HProp := fun h =>
  (c = 0 ∧ Qok RB [] h) ∨ (c = 22 ∧ ∃ l', l' ≠ [] ∧ Qok RB l' h) ∨ ((c == 0) = false ∧ Qerr RB c h)

set_option maxHeartbeats 400000 in
theorem decode1_any (st : World) (g : FuncId) (caps : Array Value) (hcall : ∀ p W, (callFunc g (#[.pointer (some ⟨p, 0, none⟩)] ++ caps)).run Try.prog W = .ok (.enter g (#[.pointer (some ⟨p, 0, none⟩)] ++ caps)) W)
    (l : List UInt8) (P R RB : HProp) (Qok : HProp → List UInt8 → HProp) (Qerr : HProp → Int → HProp) (hf : Reads st g caps l P R Qok Qerr) (a b p : Nat) (X : HProp) (w : World)
    (h : Has st (sep (sep (blk a (.cells #[.func (.func g) #[] caps] 57 (0, 0))) (sep (blk b (.cells #[.pointer (some ⟨p, 0, none⟩)] 53 (0, 0))) (sep (reader st (sep RB R) p l) P))) (sep X (sep RB R))) w) :
    Calls Try.prog 36 #[.pointer (some ⟨a, 0, none⟩), .pointer (some ⟨b, 0, none⟩)] w fun e w' =>
      (e = .returned (.tuple #[]) ∧ Has st (sep (QD RB Qok Qerr 0) (sep X (sep RB R))) w') ∨ ∃ c, (c == 0) = false ∧ e = thrown c ∧ Has st (sep (QD RB Qok Qerr c) (sep X (sep RB R))) w' := by
  have ha := (h.cast (by ac_rfl : _ = sep (blk a (.cells #[.func (.func g) #[] caps] 57 (0, 0))) (sep (blk b (.cells #[.pointer (some ⟨p, 0, none⟩)] 53 (0, 0))) (sep (sep (reader st (sep RB R) p l) P) (sep X (sep RB R))))))
  have hca := ha.cell 0
  have hcb := ha.second.cell 0
  have hP : Has st (sep P (sep (reader st (sep RB R) p l) (sep (sep (sep (blk a (.cells #[.func (.func g) #[] caps] 57 (0, 0))) (blk b (.cells #[.pointer (some ⟨p, 0, none⟩)] 53 (0, 0)))) X) (sep RB R)))) w := h.cast (by ac_rfl)
  have HF := Lib.hid hf
  clear hf h ha
  go_enter Try.func36, Try.ntmps36
  go_wp2_with (fail)
  refine (HF.out RB _ p w hP).mono ?_
  rintro e w1 (⟨l', rfl, h1⟩ | ⟨c, hc, rfl, h1⟩)
  · have hb1 : Has st (sep (blk b (.cells #[.pointer (some ⟨p, 0, none⟩)] 53 (0, 0))) (sep (sep (sep (Qok RB l') (reader st (sep RB R) p l')) (blk a (.cells #[.func (.func g) #[] caps] 57 (0, 0)))) (sep X (sep RB R)))) w1 := h1.cast (by ac_rfl)
    have hcb1 := hb1.cell 0
    have hl : Has st (sep (reader st (sep RB R) p l') (sep (sep (sep (Qok RB l') (sep (blk a (.cells #[.func (.func g) #[] caps] 57 (0, 0))) (blk b (.cells #[.pointer (some ⟨p, 0, none⟩)] 53 (0, 0))))) X) (sep RB R))) w1 := h1.cast (by ac_rfl)
    have hend : Has st (sep (Qok RB l') (sep X (sep RB R))) w1 := (h1.cast (by ac_rfl : _ = sep (reader st (sep RB R) p l') (sep (sep (blk a (.cells #[.func (.func g) #[] caps] 57 (0, 0))) (blk b (.cells #[.pointer (some ⟨p, 0, none⟩)] 53 (0, 0)))) (sep (Qok RB l') (sep X (sep RB R)))))).right.right
    cases l' with
    | nil =>
      go_wp2_with (go_at_call 32; refine (left_any st (sep RB R) _ (fun _ h => h.right) p [] _ hl).mono ?_; rintro e w' ⟨rfl, rfl⟩)
      go_end0
      exact .inl ⟨rfl, hend.monoL fun x hx => .inl ⟨rfl, hx⟩⟩
    | cons c0 l0 =>
      have hlen := List.length_pos_of_mem (List.mem_cons_self (a := c0) (l := l0))
      have hlq : ∃ n : Nat, n = (c0 :: l0).length := ⟨_, rfl⟩
      obtain ⟨n, hn⟩ := hlq
      rw [← hn] at hlen
      have hleft := left_any st (sep RB R) _ (fun _ h => h.right) p (c0 :: l0) _ hl
      rw [← hn] at hleft
      have HN := Lib.hid hn
      clear hn
      go_wp2_with (first
        | (go_at_call 32; refine hleft.mono ?_; rintro e w' ⟨rfl, rfl⟩)
        | (go_at_call 37; refine (must_no 22 (by decide) _).mono ?_; rintro e w' ⟨rfl, rfl⟩))
      exact ⟨rfl, .inr ⟨22, by decide, rfl, hend.monoL fun x hx => .inr (.inl ⟨rfl, _, by simp, hx⟩)⟩⟩
  · have hend : Has st (sep (Qerr RB c) (sep X (sep RB R))) w1 := (h1.cast (by ac_rfl : _ = sep (sep (blk a (.cells #[.func (.func g) #[] caps] 57 (0, 0))) (blk b (.cells #[.pointer (some ⟨p, 0, none⟩)] 53 (0, 0)))) (sep (Qerr RB c) (sep X (sep RB R))))).right
    exact ⟨rfl, .inr ⟨c, hc, rfl, hend.monoL fun x hx => .inr (.inr ⟨hc, hx⟩)⟩⟩

set_option maxHeartbeats 400000 in
theorem decode_any (st : World) (g : FuncId) (caps : Array Value) (hcall : ∀ p W, (callFunc g (#[.pointer (some ⟨p, 0, none⟩)] ++ caps)).run Try.prog W = .ok (.enter g (#[.pointer (some ⟨p, 0, none⟩)] ++ caps)) W)
    (l : List UInt8) (v : Value) (P R : HProp) (Qok : HProp → List UInt8 → HProp) (Qerr : HProp → Int → HProp) (hf : Reads st g caps l P R Qok Qerr) (w : World)
    (h : Has st (sep P R) w) (hs : Sees st R 1 v l.length (bcells l)) (hb : l.length ≤ 140737488355328) :
    Calls Try.prog 28 #[v, .func (.func g) #[] caps] w fun e w' => ∃ RB c, e = .returned (.int .i64 c) ∧ Has st (sep (QD RB Qok Qerr c) (sep RB R)) w' := by
  have hmf := run_makeFunc
  have HF := Lib.hid hf
  have HC := Lib.hid hcall
  clear hf hcall
  obtain ⟨_, A0, c0, rfl, _⟩ := hs w h.right
  go_enter Try.func28, Try.ntmps28
  go_wp2_with (first
    | (go_at_call 21; refine (clone_any st _ l _ _ (h.alloc _) (fun w hw => hs w hw.right.right) hb).mono ?_; rintro e w1 ⟨A, c, rfl, h1⟩))
  have h2 := (h1.alloc (.cells #[.slice A l.length c] 61)).alloc (.cells #[.pointer (some ⟨w1.heap.size, 0, none⟩)] 53)
  rw [World.size_alloc] at h2
  have h3 := reader_shut (R0 := sep (row 5 1 (.slice A l.length c) l.length (bcells l)) R) (.slice A l.length c) (sees_row st _ 1 _ _ _ R) h2.second
  refine (run_any st 36 _ (sep (blk w.heap.size (.cells #[.func (.func g) #[] caps] 57 (0, 0))) (sep (blk (w1.heap.size + 1) (.cells #[.pointer (some ⟨w1.heap.size, 0, none⟩)] 53 (0, 0))) (sep (reader st (sep (row 5 1 (.slice A l.length c) l.length (bcells l)) R) w1.heap.size l) P)))
    (sep (row 5 1 (.slice A l.length c) l.length (bcells l)) R) (QD (row 5 1 (.slice A l.length c) l.length (bcells l)) Qok Qerr) (fun _ => by kernel_rfl) (fun X w hw => decode1_any st g caps HC.out l P R _ Qok Qerr HF.out _ _ _ X w hw) _ (h3.cast (by ac_rfl))).mono ?_
  rintro e w2 ⟨c2, rfl, h4⟩
  go_wp2
  go_ret
  exact ⟨_, c2, rfl, h4⟩
end Go.Proofs.Ytbiacehmfbopfaa
