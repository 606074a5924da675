/-
  A row that a call made within a region that draws its order.
-/
import Derived.Test.YtbiacehmfbopfaaGen
namespace Go.Sl
open Go Go.RowKit
set_option linter.unusedVariables false
set_option linter.unusedSimpArgs false
def vres (La : Bool) (v : Value) (e : TypeId) (size n : Nat) (xs : List Value) : HProp := if La then row e size v n xs else emp
section
variable {st : World} {R : HProp} {w : World} {La : Bool} {v : Value} {e : TypeId} {size n : Nat} {xs : List Value}
theorem Has.vres_new (h : Has st (sep (vres La v e size n xs) R) w) (hL : La = false) : Has st R w := by
  subst hL
  have : vres false v e size n xs = emp := rfl
  rw [this, emp_sep] at h
  exact h
theorem Has.vres_no (h : Has st R w) : Has st (sep (vres false v e size n xs) R) w := by
  have : vres false v e size n xs = emp := rfl
  rw [this, emp_sep]
  exact h
theorem Has.vres_mk (h : Has st (sep (row e size v n xs) R) w) : Has st (sep (vres true v e size n xs) R) w := h
theorem Has.vres_open (h : Has st (sep (vres La v e size n xs) R) w) (hL : La = true) : Has st (sep (row e size v n xs) R) w := by
  subst hL; exact h
theorem Has.vres_rd (h : Has st (sep (vres La v e size n xs) R) w) (hL : La = true) : Rd size w v n xs := by
  subst hL; exact sees_row st e size v n xs R w h
end
end Go.Sl
