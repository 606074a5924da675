/-
  Whole arrays: a block of one's own is loaded, is stored to.
-/
import Derived.Test.YtblknhpafifebaaDoorU32
import Derived.Laws.Rows
import Derived.Laws.Tables
namespace Go.Sl
open Go.RowKit
set_option linter.unusedSimpArgs false

theorem kept_setRow (w : World) (b : Nat) (cs : Array Value) : KeptBut (fun k => k = b) w (w.setRow b cs) :=
  ⟨rfl, rfl, rfl, by simp [World.setRow], fun k _ hn => setRow_other w b k cs hn⟩
/-- a whole block is stored to -/
theorem Has.setRow {s : World} {b : Nat} {c : Array Value} {t : TypeId} {f : Nat × Nat} {r : HProp} {w : World} (h : Has s (sep (Sl.blk b (.cells c t f)) r) w) (cs : Array Value) :
    Has s (sep (Sl.blk b (.cells cs t f)) r) (w.setRow b cs) :=
  h.step fun x hx hk => by
    have hx' : x = _ := hx
    subst hx'
    refine ⟨fun k => k = b, _, kept_setRow w b cs, rfl, ?_, ?_, ?_⟩
    · intro k o ho
      split at ho
      · next e => subst e; injection ho with ho; subst ho; exact setRow_heap w _ c cs t f (hk _ _ (by simp))
      · cases ho
    · rintro k rfl _; simp
    · intro k hk'
      left
      split at hk'
      · next e => subst e; simp
      · exact absurd rfl hk'
/-- words' cells -/
def wcell (x : UInt32) : Value := .int .u32 (x.toNat : Int)
def wcells (l : List UInt32) : List Value := l.map wcell
theorem wcells_length (l : List UInt32) : (wcells l).length = l.length := by simp [wcells]
theorem wcells_get {l : List UInt32} {j : Nat} (hj : j < l.length) : (wcells l)[j]? = some (.int .u32 (l[j].toNat : Int)) := by simp [wcells, wcell, hj]
theorem wcells_one (l : List UInt32) : ∀ u ∈ wcells l, u.oneCell' = true := by
  intro u hu
  simp only [wcells, List.mem_map] at hu
  obtain ⟨x, _, rfl⟩ := hu
  rfl
theorem wcells_append (l m : List UInt32) : wcells l ++ wcells m = wcells (l ++ m) := by simp [wcells]
theorem wcells_set (l : List UInt32) (i : Nat) (x : UInt32) : (wcells l).set i (.int .u32 (x.toNat : Int)) = wcells (l.set i x) := by simp [wcells, wcell, List.map_set]
end Go.Sl
