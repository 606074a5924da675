/-
  What every row of this seat takes: no knob of its own; the program's types are laid out.
-/
import Derived.Test.YtbiacehmfbopfaaRows
import Derived.Test.YtbiacehmfbopfaaOpen
namespace Go.Proofs.Ytbiacehmfbopfaa
theorem own : ownKnob Try.prog.godebug = none := by kernel_rfl
theorem laidOut : laidOutB Try.prog = true := by kernel_rfl
end Go.Proofs.Ytbiacehmfbopfaa
