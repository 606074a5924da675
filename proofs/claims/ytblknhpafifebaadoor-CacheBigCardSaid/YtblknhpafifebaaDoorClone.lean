/-
  slices.Clone of bytes.
-/
import Derived.Test.YtblknhpafifebaaDoorShaHash
import Derived.Lib.SliceRun
namespace Go.Proofs.YtblknhpafifebaaDoor
open Go.RowKit Go.Sl Go.Sha
set_option linter.unusedVariables false
set_option linter.unusedSimpArgs false
set_option maxHeartbeats 400000 in
theorem clone_any (st : World) (R : HProp) (m : List UInt8) (v : Value) (w : World) (h : Has st R w) (hs : Sees st R 1 v m.length (bcells m)) (hb : m.length ≤ 140737488355328) :
    Calls Tryd.prog 30 #[v] w fun e w' => ∃ A c, e = .returned (.slice A m.length c) ∧ Has st (sep (row 5 1 (.slice A m.length c) m.length (bcells m)) R) w' := by
  have hr := hs w h
  obtain ⟨_, A, c, rfl, _, _, ⟨rfl, rfl⟩ | ⟨ad, rfl, _⟩⟩ := hs w h
  · obtain rfl : m = [] := List.eq_nil_of_length_eq_zero (by have := (hs w h).1; obtain ⟨_, _, e, h', _⟩ := (hs w h).2; injection e; omega)
    have he := fun (W : World) => Lib.run_eql_slice_nil (P := Tryd.prog) W 30 5 none 0 0 0 0 Tryd.underlying30
    go_enter Tryd.func30, Tryd.ntmps30
    go_wp2
    go_ret
    exact ⟨none, 0, rfl, h.row_nil _ _⟩
  · have he := fun (W : World) (n k : Nat) => Lib.run_eql_slice_nil (P := Tryd.prog) W 30 5 (some ad) n k 0 0 Tryd.underlying30
    go_enter Tryd.func30, Tryd.ntmps30
    go_wp2_with (refine wp_append rfl _ _ 30 5 1 1 (.int .u8 0) rfl Tryd.underlying30 infoB rfl (by decide) rfl rfl (h.row_empty 5 1) (hs _ (h.alloc' _)) (bcells_one m) (by unfold maxLen; omega) (by omega) ?_; intro A' c' w' h3 _)
    go_ret
    exact ⟨A', c', rfl, by simpa using h3⟩
end Go.Proofs.YtblknhpafifebaaDoor
