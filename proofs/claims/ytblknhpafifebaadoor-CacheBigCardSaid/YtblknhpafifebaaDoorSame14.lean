/-
  coldstoreref01.Same.
-/
import Derived.Test.YtblknhpafifebaaDoorGen
import Derived.Test.YtblknhpafifebaaDoorShaHash
namespace Go.Proofs.YtblknhpafifebaaDoor
open Go Go.RowKit Go.Sl
set_option linter.unusedVariables false
set_option linter.unusedSimpArgs false
set_option maxHeartbeats 400000 in
theorem sameB_any (l m : List UInt8) (n k : Nat) (u v : Value) (w : World) (hu : Rd 1 w u n (bcells l)) (hv : Rd 1 w v k (bcells m)) :
    Calls Tryd.prog 16 #[u, v] w fun e w' => e = .returned (.bool (l == m)) ∧ w = w' := by
  obtain ⟨_, A, c, rfl, _⟩ := id hu
  obtain ⟨_, B, d, rfl, _⟩ := id hv
  go_enter Tryd.func16, Tryd.ntmps16
  go_wp2_with (first
    | (refine wp_string rfl 30 9 5 (.tmp 5) rfl Tryd.underlying30 Tryd.underlying5 Tryd.underlying9 rfl hu ?_)
    | (refine wp_string rfl 30 9 5 (.tmp 7) rfl Tryd.underlying30 Tryd.underlying5 Tryd.underlying9 rfl hv ?_))
  go_ret
  exact ⟨rfl, rfl⟩
end Go.Proofs.YtblknhpafifebaaDoor
