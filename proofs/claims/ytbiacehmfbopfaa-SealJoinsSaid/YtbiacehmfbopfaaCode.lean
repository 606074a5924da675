/-
  The contracts of package code's Writer, and of what it calls.
-/
import Derived.Test.YtbiacehmfbopfaaRows
import Derived.WalkKit
import Derived.WalkSpells
import Derived.WalkLawsBesides
import Derived.Test.YtbiacehmfbopfaaSl
namespace Go.Proofs.Ytbiacehmfbopfaa
open Go.RowKit Go.Sl

theorem infoB : (Try.prog.info? 5).map (fun i => (i.zero, i.size, i.bytes)) = some (some (.int .u8 0), 1, 1) := by kernel_rfl

/-- a Writer at block p that has written l -/
def writer (p : Nat) (l : List UInt8) : HProp := ex fun v => sep (blk p (.cells #[v] 46 (0, 0))) (row 5 1 v l.length (bcells l))

/-- a row that is stored into the Writer's field -/
theorem writer_put {st : World} {R : HProp} {p n c : Nat} {l : List UInt8} {A : Option Addr} {u : Value} {xs : List Value} {w : World} (h : Has st (sep (row 5 1 (.slice A n c) n xs) (sep (blk p (.cells #[u] 46 (0, 0))) R)) w)
    (hx : xs = bcells l) : Has st (sep (writer p l) R) (w.setCell ⟨p, 0, none⟩ (.slice A n c)) := by
  have hn : n = l.length := by have := h.ownsRow.1; rw [hx, bcells_length] at this; omega
  subst hn hx
  exact Has.ofEx (.slice A l.length c) ((h.second.set 0 (.slice A l.length c)).unassoc)
set_option maxHeartbeats 400000 in
theorem raw_any (st : World) (R : HProp) (p : Nat) (l m : List UInt8) (v : Value) (w : World) (h : Has st (sep (writer p l) R) w) (hs : Sees st R 1 v m.length (bcells m)) (hb : l.length + m.length ≤ 140737488355328) :
    Calls Try.prog 22 #[.pointer (some ⟨p, 0, none⟩), v] w fun e w' => e = .returned (.tuple #[]) ∧ Has st (sep (writer p (l ++ m)) R) w' := by
  obtain ⟨u, h⟩ := h.exL
  have h2 := h.assoc.second
  have hr := hs w h2.right.right
  obtain ⟨A, c, rfl⟩ := h2.row_slice
  have hc := h.assoc.cell 0
  have hf := h.assoc.free 0
  go_enter Try.func22, Try.ntmps22
  go_wp2_with (refine wp_append (v := .slice A l.length c) rfl _ _ 22 5 1 1 (.int .u8 0) rfl Try.underlying22 infoB rfl (by decide) rfl rfl h2 hr (bcells_one m) (by unfold maxLen; omega) (by omega) ?_; intro A' c' w' h3 _; have hc' := h3.second.cell 0; have hf' := h3.second.free 0)
  go_end0
  exact ⟨rfl, writer_put h3 (bcells_append l m)⟩

def held (n : Int) : Nat := if n < 1 then 1 else if 8 < n then 8 else n.toNat
theorem held_pos (n : Int) : 1 ≤ held n ∧ held n ≤ 8 := by unfold held; split; omega; split <;> omega
set_option maxHeartbeats 400000 in
theorem held_any (n : Int) (w : World) : Calls Try.prog 33 #[.int .i64 n] w fun e w' => e = .returned (.int .i64 (held n)) ∧ w = w' := by
  rcases Int.lt_or_le n 1 with h1 | h1
  · have h2 : held n = 1 := by unfold held; rw [if_pos h1]
    rw [h2]
    clear h2
    go_enter Try.func33, Try.ntmps33
    go_wp2
    go_ret
    exact ⟨rfl, rfl⟩
  · rcases Int.lt_or_le 8 n with h3 | h3
    · have h2 : held n = 8 := by unfold held; rw [if_neg (by omega), if_pos h3]
      rw [h2]
      clear h2
      go_enter Try.func33, Try.ntmps33
      go_wp2
      go_ret
      exact ⟨rfl, rfl⟩
    · obtain ⟨m, rfl⟩ : ∃ m : Nat, n = m := ⟨n.toNat, by omega⟩
      have h2 : held m = m := by unfold held; rw [if_neg (by omega), if_neg (by omega)]; simp
      rw [h2]
      clear h2
      go_enter Try.func33, Try.ntmps33
      go_wp2
      go_ret
      exact ⟨rfl, rfl⟩

/-- the lowest k bytes of n, the lowest first -/
def le (n k : Nat) : List UInt8 := (List.range k).map fun i => UInt8.ofNat (n / 256 ^ i)
theorem le_length (n k : Nat) : (le n k).length = k := by simp [le]
theorem le_succ (n k : Nat) : le n (k + 1) = le n k ++ [UInt8.ofNat (n / 256 ^ k)] := by simp [le, List.range_succ]

set_option maxHeartbeats 400000 in
theorem num_any (st : World) (R : HProp) (p : Nat) (l : List UInt8) (n : Nat) (size : Int) (w : World) (h : Has st (sep (writer p l) R) w) (hb : l.length ≤ 140737488355320) :
    Calls Try.prog 23 #[.pointer (some ⟨p, 0, none⟩), .int .u64 n, .int .i64 size] w fun e w' => e = .returned (.tuple #[]) ∧ Has st (sep (writer p (l ++ le n (held size))) R) w' := by
  have hh := held_pos size
  generalize hk : held size = k at hh
  have HK := Lib.hid hk
  clear hk
  go_enter Try.func23, Try.ntmps23
  go_wp2_with (go_at_call 33; refine (held_any size w).mono ?_; rintro e w' ⟨rfl, rfl⟩; rw [HK.out])
  go_loopw [1, 8] (fun v1 v8 wr => ∃ (i m : Nat) (li : List UInt8), i ≤ k ∧ v8 = .int .i64 i ∧ v1 = .int .u64 m ∧ Hid (li = l ++ le n i ∧ m = n / 256 ^ i) ∧ Has st (sep (writer p li) R) wr) (fun _ v8 _ => k - (intOf v8).toNat)
  case atStart => exact ⟨0, n, l, Nat.zero_le _, rfl, rfl, ⟨by simp [le], by simp⟩, h⟩
  case round =>
    obtain ⟨i, m, li, hi, rfl, rfl, HE, h⟩ := hrel
    by_cases hlt : i < k
    · obtain ⟨u, h⟩ := h.exL
      have h2 := h.assoc.second
      obtain ⟨A, c, rfl⟩ := h2.row_slice
      have hc := h.assoc.cell 0
      have hf := h.assoc.free 0
      have hl : li.length + 1 ≤ 140737488355328 := by have := le_length n i; rw [HE.out.1]; simp; omega
      go_wp2_with (refine wp_append (v := .slice A li.length c) rfl _ _ 22 5 1 1 (.int .u8 0) rfl Try.underlying22 infoB rfl (by decide) rfl rfl (h2.alloc' _) (Rd.one _ _ _) (by simp; rfl) (by unfold maxLen; omega) (by omega) ?_; intro A' c' w' h3 _; have hc' := h3.second.cell 0; have hf' := h3.second.free 0)
      go_roundw
      case rel => exact ⟨i + 1, m / 256, li ++ [UInt8.ofNat m], by omega, by go_num, by go_num, ⟨by rw [HE.out.1, le_succ, ← HE.out.2]; simp, by rw [HE.out.2, Nat.div_div_eq_div_mul, Nat.pow_succ]⟩, writer_put h3 (by rw [bcell_mod]; simp [bcells])⟩
      case measure => simp [intOf]; omega
    · go_wp2
      go_end0
      obtain rfl : i = k := by omega
      exact ⟨rfl, HE.out.1 ▸ h⟩






















set_option maxHeartbeats 400000 in
theorem clone_any (st : World) (R : HProp) (m : List UInt8) (v : Value) (w : World) (h : Has st R w) (hs : Sees st R 1 v m.length (bcells m)) (hb : m.length ≤ 140737488355328) :
    Calls Try.prog 21 #[v] w fun e w' => ∃ A c, e = .returned (.slice A m.length c) ∧ Has st (sep (row 5 1 (.slice A m.length c) m.length (bcells m)) R) w' := by
  have hr := hs w h
  obtain ⟨_, A, c, rfl, _, _, ⟨rfl, rfl⟩ | ⟨ad, rfl, _⟩⟩ := hs w h
  · obtain rfl : m = [] := List.eq_nil_of_length_eq_zero (by have := (hs w h).1; obtain ⟨_, _, e, h', _⟩ := (hs w h).2; injection e; omega)
    have he := fun (W : World) => Lib.run_eql_slice_nil (P := Try.prog) W 22 5 none 0 0 0 0 Try.underlying22
    go_enter Try.func21, Try.ntmps21
    go_wp2
    go_ret
    exact ⟨none, 0, rfl, h.row_nil _ _⟩
  · have he := fun (W : World) (n k : Nat) => Lib.run_eql_slice_nil (P := Try.prog) W 22 5 (some ad) n k 0 0 Try.underlying22
    go_enter Try.func21, Try.ntmps21
    go_wp2_with (refine wp_append rfl _ _ 22 5 1 1 (.int .u8 0) rfl Try.underlying22 infoB rfl (by decide) rfl rfl (h.row_empty 5 1) (hs _ (h.alloc' _)) (bcells_one m) (by unfold maxLen; omega) (by omega) ?_; intro A' c' w' h3 _)
    go_ret
    exact ⟨A', c', rfl, by simpa using h3⟩

set_option maxHeartbeats 400000 in
theorem done_any (st : World) (R : HProp) (p : Nat) (l : List UInt8) (w : World) (h : Has st (sep (writer p l) R) w) (hb : l.length ≤ 140737488355328) :
    Calls Try.prog 24 #[.pointer (some ⟨p, 0, none⟩)] w fun e w' => ∃ A c, e = .returned (.slice A l.length c) ∧ Has st (sep (row 5 1 (.slice A l.length c) l.length (bcells l)) (sep (writer p l) R)) w' := by
  obtain ⟨u, h1⟩ := h.exL
  have h2 := h1.assoc.second
  obtain ⟨A, c, rfl⟩ := h2.row_slice
  have hc := h1.assoc.cell 0
  go_enter Try.func24, Try.ntmps24
  go_wp2_with (go_at_call 21; refine (clone_any st _ l _ _ h2 (sees_row st _ 1 _ _ _ _) hb).mono ?_; rintro e w1 ⟨A', c', rfl, h3⟩)
  go_ret
  have h4 : Has st (sep (sep (blk p (.cells #[.slice A l.length c] 46 (0, 0))) (row 5 1 (.slice A l.length c) l.length (bcells l))) (sep (row 5 1 (.slice A' l.length c') l.length (bcells l)) R)) w1 := h3.cast (by ac_rfl)
  exact ⟨A', c', rfl, (Has.ofEx (p := fun v => sep (blk p (.cells #[v] 46 (0, 0))) (row 5 1 v l.length (bcells l))) _ h4).second⟩
/-- a new Writer, empty -/
theorem writer_new {st : World} {R : HProp} {w : World} (h : Has st R w) : Has st (sep (writer w.heap.size []) R) (w.alloc (.cells #[.slice none 0 0] 46)) :=
  Has.ofEx (.slice none 0 0) (((h.alloc _).row_nil 5 1).second.unassoc)
end Go.Proofs.Ytbiacehmfbopfaa
