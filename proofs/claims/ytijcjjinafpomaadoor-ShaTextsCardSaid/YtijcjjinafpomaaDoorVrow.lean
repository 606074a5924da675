/-
  A variable, or a literal, that is made within a region that draws its order.
-/
import Derived.Test.YtijcjjinafpomaaDoorHexLess
namespace Go.Sl
open Go Go.RowKit
set_option linter.unusedVariables false
set_option linter.unusedSimpArgs false
/-- a variable: made (La), stored to (Ls) -/
def vrow (La Ls : Bool) (v : Value) (old new : Array Value) (t : TypeId) : HProp := if La then ex fun p => sep (pure (v = .pointer (some ⟨p, 0, none⟩))) (blk p (.cells (if Ls then new else old) t (0, 0))) else emp
/-- a literal -/
def vlit (Lb : Bool) (v : Value) (cells : Array Value) (len : Nat) (t : TypeId) : HProp := if Lb then ex fun q => sep (pure (v = .slice (some ⟨q, 0, none⟩) len len)) (blk q (.cells cells t (0, 0))) else emp
section
variable {st : World} {R : HProp} {w : World} {La Ls : Bool} {v : Value} {old new cells : Array Value} {t : TypeId} {len : Nat}
theorem Has.vrow_new (h : Has st (sep (vrow La Ls v old new t) R) w) (hL : La = false) : Has st R w := by
  subst hL
  have : vrow false Ls v old new t = emp := rfl
  rw [this, emp_sep] at h
  exact h
theorem Has.vrow_no (h : Has st R w) : Has st (sep (vrow false Ls v old new t) R) w := by
  have : vrow false Ls v old new t = emp := rfl
  rw [this, emp_sep]
  exact h
theorem Has.vrow_mk {p : Nat} (h : Has st (sep (Sl.blk p (.cells old t (0, 0))) R) w) (hL : Ls = false) : Has st (sep (vrow true Ls (.pointer (some ⟨p, 0, none⟩)) old new t) R) w := by
  subst hL
  exact Has.ofEx (p := fun q => sep (pure (.pointer (some ⟨p, 0, none⟩) = Value.pointer (some ⟨q, 0, none⟩))) (Sl.blk q (.cells old t (0, 0)))) p ((Has.ofPure rfl h).unassoc)
theorem Has.vrow_open (h : Has st (sep (vrow La Ls v old new t) R) w) (hL : La = true) : ∃ p, v = .pointer (some ⟨p, 0, none⟩) ∧ Has st (sep (Sl.blk p (.cells (if Ls then new else old) t (0, 0))) R) w := by
  subst hL
  obtain ⟨p, h1⟩ := Has.exL (p := fun q => sep (pure (v = Value.pointer (some ⟨q, 0, none⟩))) (Sl.blk q (.cells (if Ls then new else old) t (0, 0)))) h
  exact ⟨p, h1.assoc.pureL.1, h1.assoc.pureL.2⟩
theorem Has.vrow_done {p : Nat} (h : Has st (sep (Sl.blk p (.cells new t (0, 0))) R) w) (hv : v = .pointer (some ⟨p, 0, none⟩)) (hL : La = true) : Has st (sep (vrow La true v old new t) R) w := by
  subst hL hv
  exact Has.ofEx (p := fun q => sep (pure (.pointer (some ⟨p, 0, none⟩) = Value.pointer (some ⟨q, 0, none⟩))) (Sl.blk q (.cells new t (0, 0)))) p ((Has.ofPure rfl h).unassoc)
theorem Has.vlit_new (h : Has st (sep (vlit La v cells len t) R) w) (hL : La = false) : Has st R w := by
  subst hL
  have : vlit false v cells len t = emp := rfl
  rw [this, emp_sep] at h
  exact h
theorem Has.vlit_no (h : Has st R w) : Has st (sep (vlit false v cells len t) R) w := by
  have : vlit false v cells len t = emp := rfl
  rw [this, emp_sep]
  exact h
theorem Has.vlit_mk {q : Nat} (h : Has st (sep (Sl.blk q (.cells cells t (0, 0))) R) w) : Has st (sep (vlit true (.slice (some ⟨q, 0, none⟩) len len) cells len t) R) w :=
  Has.ofEx (p := fun p => sep (pure (.slice (some ⟨q, 0, none⟩) len len = Value.slice (some ⟨p, 0, none⟩) len len)) (Sl.blk p (.cells cells t (0, 0)))) q ((Has.ofPure rfl h).unassoc)
theorem Has.vlit_open (h : Has st (sep (vlit La v cells len t) R) w) (hL : La = true) : ∃ q, v = .slice (some ⟨q, 0, none⟩) len len ∧ Has st (sep (Sl.blk q (.cells cells t (0, 0))) R) w := by
  subst hL
  obtain ⟨q, h1⟩ := Has.exL (p := fun p => sep (pure (v = Value.slice (some ⟨p, 0, none⟩) len len)) (Sl.blk p (.cells cells t (0, 0)))) h
  exact ⟨q, h1.assoc.pureL.1, h1.assoc.pureL.2⟩
theorem Has.vlit_rd (h : Has st (sep (vlit La v cells len t) R) w) (hL : La = true) (hn : cells.size = len) (hm : len ≤ maxLen) : Rd 1 w v len cells.toList := by
  obtain ⟨q, rfl, h1⟩ := h.vlit_open hL
  exact ⟨by simpa using hn, _, len, rfl, Nat.le_refl _, hm, .inr ⟨_, rfl, fun j u hu => ⟨rfl, by rw [Nat.zero_add, h1.cell]; simpa using hu⟩⟩⟩
end
theorem RegStep3.noU {P : Program} {Q : Exit → Act → World → Prop} {a : Act} {ops : List Oper} {I : (Nat → Bool) → (Nat → Value) → World → Prop} {i : Nat} {o : Oper} (j : Nat) (c : Bool) (hg : o.guard = some (j, c))
    (h : ∀ (L : Nat → Bool) (u : Nat → Value) (w : World), L i = false → waits o L → Down ops L → I L u w → u j = undef ∧ I (upd L i true) (upd u i undef) w) : RegStep3 P Q a ops I i o := ⟨fun L u w b hL hw hD hU hI hin hout => by
      have := h L u w hL hw hD hI
      rw [if_neg (by unfold gd; rw [hg]; simp only [this.1]; exact Bool.false_ne_true)]
      exact this.2⟩
end Go.Sl
