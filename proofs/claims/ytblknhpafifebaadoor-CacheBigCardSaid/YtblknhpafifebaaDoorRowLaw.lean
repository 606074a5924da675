/-
  A row of one's own is written in place; laws.
-/
import Derived.Test.YtblknhpafifebaaDoorSl2
namespace Go.Sl
open Go.RowKit
theorem Has.row_open {s : World} {e : TypeId} {size : Nat} {g n cap : Nat} {xs : List Value} {r : HProp} {w : World} (h : Has s (sep (row e size (.slice (some ⟨g, 0, none⟩) n cap) n xs) r) w) :
    ∃ cur, n ≤ cap ∧ cap ≤ maxLen ∧ cur.size = cap * size ∧ cur.toList.take (n * size) = xs ∧ Has s (sep (Sl.blk g (.cells cur e (0, 0))) r) w := by
  have h2 : Has s (sep (ex fun cur : Array Value => sep (pure (n ≤ cap ∧ cap ≤ maxLen ∧ cur.size = cap * size ∧ cur.toList.take (n * size) = xs)) (Sl.blk g (.cells cur e (0, 0)))) r) w := h.monoL fun x hx => by
    obtain ⟨_, ⟨e1, _⟩ | ⟨g', cap', cur, e1, hx', h1, h2, h3, h4⟩⟩ := hx
    · cases e1
    · injection e1 with e1 e2 e3
      injection e1 with e1
      injection e1 with e1
      subst e1 e3
      exact ⟨cur, (sep_pure _ _ _).2 ⟨⟨h1, h2, h3, h4⟩, hx'⟩⟩
  obtain ⟨cur, h3⟩ := h2.exL
  obtain ⟨⟨a, b, c, d⟩, h4⟩ := h3.assoc.pureL
  exact ⟨cur, a, b, c, d, h4⟩
theorem Has.row_set {s : World} {e : TypeId} {g n cap : Nat} {xs : List Value} {r : HProp} {w : World} (h : Has s (sep (row e 1 (.slice (some ⟨g, 0, none⟩) n cap) n xs) r) w) (i : Nat) (v : Value) :
    Has s (sep (row e 1 (.slice (some ⟨g, 0, none⟩) n cap) n (xs.set i v)) r) (w.setCell ⟨g, i, none⟩ v) := by
  obtain ⟨cur, h1, h2, h3, h4, h5⟩ := h.row_open
  refine (h5.set i v).row_of_blk 1 n cap h1 h2 (by rw [Array.size_setIfInBounds]; exact h3) ?_
  rw [Array.toList_setIfInBounds, List.take_set, h4]
theorem Has.row_free {s : World} {e : TypeId} {g n cap : Nat} {xs : List Value} {r : HProp} {w : World} (h : Has s (sep (row e 1 (.slice (some ⟨g, 0, none⟩) n cap) n xs) r) w) (i : Nat) : w.frozen? ⟨g, i, none⟩ = false := by
  obtain ⟨cur, h1, h2, h3, h4, h5⟩ := h.row_open
  exact h5.free i
theorem Has.row_at {s : World} {e : TypeId} {A : Option Addr} {n cap : Nat} {xs : List Value} {r : HProp} {w : World} (h : Has s (sep (row e 1 (.slice A n cap) n xs) r) w) (hn : 0 < n) : ∃ g, A = some ⟨g, 0, none⟩ := by
  rcases h.ownsRow.2 with ⟨_, e⟩ | ⟨g, cap', cur, e, _⟩
  · omega
  · injection e with e1; exact ⟨g, e1⟩
end Go.Sl
