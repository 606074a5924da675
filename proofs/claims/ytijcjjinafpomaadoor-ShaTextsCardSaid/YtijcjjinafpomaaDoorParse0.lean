/-
  Digits' sum in plain Lean; two results of which one lies in a cell.
-/
import Derived.Test.YtijcjjinafpomaaDoorRefText
import Derived.Test.YtijcjjinafpomaaDoorMark
namespace Go.Sl
open Go Go.RowKit
set_option linter.unusedVariables false
set_option linter.unusedSimpArgs false
theorem results_cell_tmp {P : Program} {fn : Func} {p q : Tmp} {ty : TypeId} (h : fn.results = #[.cell p ty, .tmp q]) (tmps : Array Value) (w : World) (g : Nat) (t : TypeId) (cs : Array Value) (fr : Nat × Nat) (d : TypeDesc)
    (hp : tmps.getD p undef = .pointer (some ⟨g, 0, none⟩)) (hg : w.heap[g]? = some (.cells cs t fr))
    (hu : P.underlying ty = some d) (hd : (match d with | .struct _ | .array _ _ => true | _ => false) = true) (hi : (P.info? ty).map (·.size) = some cs.size) (v : Value) (hv : tmps.getD q undef = v) :
    (results fn tmps).run P w = .ok (.tuple #[.agg cs, v]) w := by
  have hp' : tmps[p]?.getD undef = .pointer (some ⟨g, 0, none⟩) := by simpa using hp
  have hv' : tmps[q]?.getD undef = v := by simpa using hv
  simp [results, h, hp', hv', asAddr, run_loadVar_row w g t ty cs fr d hg hu hd hi]
end Go.Sl
namespace Go.Proofs.YtijcjjinafpomaaDoor
open Go.RowKit Go.Sl Go.Sha
set_option linter.unusedVariables false
set_option linter.unusedSimpArgs false
def dg (s : List UInt8) (i : Nat) : Nat := digitN (s.getD i 0).toNat
/-- the bytes behind i digits -/
def part (s : List UInt8) (i : Nat) : List UInt8 := (List.range 32).map fun j => if 2 * j + 1 < i then UInt8.ofNat (16 * dg s (2 * j) + dg s (2 * j + 1)) else if 2 * j < i then UInt8.ofNat (dg s (2 * j)) else 0
def okS (s : List UInt8) : Bool := decide (s.length = 64) && (List.range 64).all fun i => decide (dg s i < 16)
theorem part_length (s : List UInt8) (i : Nat) : (part s i).length = 32 := by simp [part]
theorem part_zero (s : List UInt8) : part s 0 = List.replicate 32 0 := by
  unfold part
  rw [show (fun j => if 2 * j + 1 < 0 then UInt8.ofNat (16 * dg s (2 * j) + dg s (2 * j + 1)) else if 2 * j < 0 then UInt8.ofNat (dg s (2 * j)) else 0) = fun _ : Nat => (0 : UInt8) by funext j; simp]
  decide
/-- a digit more: of an even place, of an odd one -/
theorem part_succ (s : List UInt8) (i : Nat) (h : i < 64) : part s (i + 1) = (part s i).set (i / 2) (if i % 2 = 0 then UInt8.ofNat (dg s i) else UInt8.ofNat (16 * dg s (i - 1) + dg s i)) := by
  apply List.ext_getElem
  · simp [part]
  · intro j h1 h2
    rw [part_length] at h1
    rw [List.getElem_set]
    by_cases e : i / 2 = j
    · rw [if_pos e]
      by_cases hp : i % 2 = 0
      · rw [if_pos hp]
        simp only [part, List.getElem_map, List.getElem_range]
        rw [if_neg (by omega), if_pos (by omega), show 2 * j = i by omega]
      · rw [if_neg hp]
        simp only [part, List.getElem_map, List.getElem_range]
        rw [if_pos (by omega), show 2 * j = i - 1 by omega, show i - 1 + 1 = i by omega]
    · rw [if_neg e]
      simp only [part, List.getElem_map, List.getElem_range]
      by_cases a : 2 * j + 1 < i
      · rw [if_pos a, if_pos (by omega)]
      · rw [if_neg a, if_neg (by omega)]
        by_cases b : 2 * j < i
        · rw [if_pos b, if_pos (by omega)]
        · rw [if_neg b, if_neg (by omega)]
theorem part_at (s : List UInt8) (i : Nat) (h : i < 64) : (part s i).getD (i / 2) 0 = if i % 2 = 0 then 0 else UInt8.ofNat (dg s (i - 1)) := by
  have hj : i / 2 < (part s i).length := by rw [part_length]; omega
  rw [List.getD_eq_getElem?_getD, List.getElem?_eq_getElem hj, Option.getD_some]
  simp only [part, List.getElem_map, List.getElem_range]
  by_cases hp : i % 2 = 0
  · rw [if_pos hp, if_neg (by omega), if_neg (by omega)]
  · rw [if_neg hp, if_neg (by omega), if_pos (by omega), show 2 * (i / 2) = i - 1 by omega]
theorem idx_digs (c : UInt8) : idxOf digs.data.toList c = if digitN c.toNat < 16 then (digitN c.toNat : Int) else -1 := by
  have : ∀ c : Fin 256, idxOf digs.data.toList (UInt8.ofNat c.val) = if digitN c.val < 16 then (digitN c.val : Int) else -1 := by decide +kernel
  have h := this ⟨c.toNat, c.toNat_lt⟩
  simpa using h
end Go.Proofs.YtijcjjinafpomaaDoor
