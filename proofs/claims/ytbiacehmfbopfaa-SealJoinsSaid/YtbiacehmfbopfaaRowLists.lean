/-
  Slices of slices of bytes as arguments.
-/
import Derived.Test.YtbiacehmfbopfaaRef
import Derived.Test.YtbiacehmfbopfaaRow
namespace Go.Proofs.Ytbiacehmfbopfaa
open Go.ChangeShapes Go.WideShapes Go.ChangeAt Go.RowKit Go.Sl
set_option linter.unusedVariables false
set_option linter.unusedSimpArgs false
theorem open_lists {H : Type} {enc : TypeId × Value → H} {W : World} {base fuel : Nat} {held : Bool} {b : Option Addr} {len cap : Nat} {x : DataW H × List MemPlace} (h : DataW.trod enc Try.prog W base (fun _ => true) held fuel 35 [.slice b len cap] = some x) :
    ∃ ls : List (List UInt8), len = ls.length ∧ SeesL W (old W) (.slice b len cap) ls := by
  obtain ⟨A, n, c, vs, hcs, hs, hall⟩ := open_cells (size := 1) Try.underlying35 (by kernel_rfl) (by decide) h
  injection hcs with hv _
  injection hv with e1 e2 e3
  subst e1 e2 e3
  obtain ⟨ls, hl, hp⟩ := choose_list (α := List UInt8) (n := len) (p := fun i l => ∃ B d, vs[i]? = some (.slice B l.length d) ∧ Sees W (old W) 1 (.slice B l.length d) l.length (bcells l)) (fun i hi => by
    obtain ⟨cs', m, y, ht, hlen, hg⟩ := hall i hi
    obtain ⟨B, d, l, e3, s3⟩ := open_bytes Try.underlying22 Try.underlying5 (by kernel_rfl) ht
    refine ⟨l, B, d, ?_, s3⟩
    have := hg 0 (by decide)
    rw [Nat.mul_one, Nat.add_zero] at this
    rw [this, e3]; rfl)
  subst hl
  exact ⟨ls, rfl, vs, hs, fun i hi => hp i hi⟩
end Go.Proofs.Ytbiacehmfbopfaa
