/-
  A piece that lets a slice be read, whatever else it is.
-/
import Derived.Test.YtblknhpafifebaaDoorOpl
namespace Go.Sl
open Go Go.RowKit
set_option linter.unusedVariables false
set_option linter.unusedSimpArgs false
def seenP (size : Nat) (v : Value) (n : Nat) (xs : List Value) : HProp := fun h => ∃ G : HProp, G h ∧ ∀ st R, Sees st (sep G R) size v n xs
theorem Has.openSeen {st : World} {R : HProp} {w : World} {size : Nat} {v : Value} {n : Nat} {xs : List Value} (h : Has st (sep (seenP size v n xs) R) w) : ∃ G, Has st (sep G R) w ∧ ∀ st R, Sees st (sep G R) size v n xs := by
  obtain ⟨a, b, c, _, ⟨y, z, ⟨G, hG, hs⟩, hz, hyz, rfl⟩, hk⟩ := h
  exact ⟨G, ⟨a, b, c, _, ⟨y, z, hG, hz, hyz, rfl⟩, hk⟩, hs⟩
theorem Has.toSeen {st : World} {G R : HProp} {w : World} {size : Nat} {v : Value} {n : Nat} {xs : List Value} (h : Has st (sep G R) w) (hs : ∀ st R, Sees st (sep G R) size v n xs) : Has st (sep (seenP size v n xs) R) w :=
  h.monoL fun x hx => ⟨G, hx, hs⟩
theorem sees_seen (st : World) (size : Nat) (v : Value) (n : Nat) (xs : List Value) (R : HProp) : Sees st (sep (seenP size v n xs) R) size v n xs := by
  intro w hw
  obtain ⟨G, hG, hs⟩ := hw.openSeen
  exact hs st R w hG
theorem Has.seen_nil {st : World} {R : HProp} {w : World} (size : Nat) (h : Has st R w) : Has st (sep (seenP size (.slice none 0 0) 0 []) R) w :=
  h.ofEmp.toSeen fun _ _ w' _ => Rd.nil size w'
theorem Has.row_seen {st : World} {R : HProp} {w : World} {e : TypeId} {size : Nat} {v : Value} {n : Nat} {xs : List Value} (h : Has st (sep (row e size v n xs) R) w) : Has st (sep (seenP size v n xs) R) w :=
  h.toSeen fun st R => sees_row st e size v n xs R
/-- a part of what is seen is seen -/
theorem Has.seen_part {st : World} {R : HProp} {w : World} {size : Nat} {v v' : Value} {n n' : Nat} {xs xs' : List Value} (h : Has st (sep (seenP size v n xs) R) w) (hp : ∀ w', Rd size w' v n xs → Rd size w' v' n' xs') : Has st (sep (seenP size v' n' xs') R) w :=
  h.toSeen fun st R w' hw => hp w' (sees_seen st size v n xs R w' hw)
theorem bcells_drop (l : List UInt8) (k : Nat) : (bcells l).drop k = bcells (l.drop k) := by simp [bcells]
theorem bcells_take (l : List UInt8) (k : Nat) : (bcells l).take k = bcells (l.take k) := by simp [bcells]
/-- a slice that is not nil -/
theorem Rd.nil_or {size : Nat} {w : World} {A : Option Addr} {n c : Nat} {xs : List Value} (h : Rd size w (.slice A n c) n xs) : (A = none ∧ n = 0 ∧ c = 0 ∧ xs = []) ∨ ∃ ad, A = some ad := by
  obtain ⟨hl, A', c', e, h1, h2, ⟨rfl, rfl⟩ | ⟨ad, rfl, _⟩⟩ := h
  · injection e with e1 e2 e3
    subst e1 e3
    obtain rfl : n = 0 := by omega
    exact .inl ⟨rfl, rfl, rfl, List.eq_nil_of_length_eq_zero (by omega)⟩
  · injection e with e1 e2 e3
    exact .inr ⟨ad, e1⟩
end Go.Sl
