/-
  What every row of this seat takes: the listed variables, opened; rows of bytes as arguments; the witness's heap.
-/
import Derived.Test.YtblknhpafifebaaDoorRows
import Derived.Test.YtblknhpafifebaaDoorOpen
import Derived.Test.YtblknhpafifebaaDoorShaHash
import Derived.ProofKit
import Derived.LaidMore
import Derived.OpenShut
namespace Go.Sl
open Go.ChangeShapes Go.WideShapes Go.ChangeAt Go.RowKit
set_option linter.unusedVariables false
set_option linter.unusedSimpArgs false
theorem okWide_array {P : Program} {w : World} {r : Reach} {base : Nat} {t : TypeId} {v : Value} {n : Nat} {e : TypeId} (ht : P.underlying t = some (.array n e)) (h : Value.okWide P w r base t v) : ∃ cs, v = .agg cs ∧ cs.size = P.cellsOf t := by
  simp only [Value.okWide, ht] at h
  obtain ⟨cs, h1, h2, _⟩ := h
  exact ⟨cs, h1, h2⟩
section
variable {H : Type} {enc : TypeId × Value → H} {P : Program} {W : World} {base : Nat} {held : Bool} {sp : Nat → Bool}
theorem open_byte_row {t e : TypeId} {n fuel : Nat} {cs : List Value} {x : DataW H × List MemPlace} (ht : P.underlying t = some (.array n e)) (he : P.underlying e = some (.int .u8)) (hc : P.cellsOf e = 1) (hct : P.cellsOf t = n)
    (h : DataW.trod enc P W base sp held fuel t cs = some x) : ∃ l : List UInt8, l.length = n ∧ cs = bcells l := by
  obtain ⟨xs, m, rfl, rfl, hlen, hn, hel⟩ := DataW.trod_array ht h
  rw [hct] at hlen
  obtain ⟨l, hl, hp⟩ := choose_list (α := UInt8) (n := n) (p := fun i c => cs[i]? = some (.int .u8 (c.toNat : Int))) (fun i hi => by
    have h1 := hel i hi
    rw [hc, Nat.mul_one, List.getElem?_eq_getElem (show i < xs.length by omega)] at h1
    obtain ⟨k, e1, _, wf⟩ := DataW.trod_int he h1
    obtain ⟨c, rfl⟩ := nat_u8 wf
    exact ⟨c, one_cell e1⟩)
  refine ⟨l, hl, ?_⟩
  apply List.ext_getElem?
  intro i
  by_cases hi : i < l.length
  · rw [hp i hi, bcells_get hi]
  · rw [List.getElem?_eq_none (by omega), List.getElem?_eq_none (by rw [bcells_length]; omega)]
theorem open_word_row {t e : TypeId} {n fuel : Nat} {cs : List Value} {x : DataW H × List MemPlace} (ht : P.underlying t = some (.array n e)) (he : P.underlying e = some (.int .u32)) (hc : P.cellsOf e = 1) (hct : P.cellsOf t = n)
    (h : DataW.trod enc P W base sp held fuel t cs = some x) (l : List UInt32) (hl : l.length = n) (hd : x.1 = .agg (l.map fun y => .lit (.int .u32 (y.toNat : Int)))) : cs = wcells l := by
  obtain ⟨xs, m, rfl, rfl, hlen, hn, hel⟩ := DataW.trod_array ht h
  rw [hct] at hlen
  simp only [DataW.agg.injEq] at hd
  apply List.ext_getElem?
  intro i
  by_cases hi : i < l.length
  · have h1 := hel i (by omega)
    rw [hc, Nat.mul_one, List.getElem?_eq_getElem (show i < xs.length by omega)] at h1
    obtain ⟨k, e1, e2, wf⟩ := DataW.trod_int he h1
    have h2 : (xs.map (·.1))[i]? = (l.map fun y => (DataW.lit (.int .u32 (y.toNat : Int)) : DataW H))[i]? := by rw [hd]
    simp only [List.getElem?_map, List.getElem?_eq_getElem hi, List.getElem?_eq_getElem (show i < xs.length by omega), Option.map_some, Option.some.injEq] at h2
    rw [e2] at h2
    simp only [DataW.lit.injEq, Lit.int.injEq, true_and] at h2
    rw [one_cell e1, wcells_get hi, h2]
  · rw [List.getElem?_eq_none (by omega), List.getElem?_eq_none (by rw [wcells_length]; omega)]
end
theorem heap_of_var {P : Program} {w : World} {name : String} {g : Nat} {cs : Array Value} (hg : P.globalNamed name = some g) (h : w.var? P name = some cs) : ∃ T fr, w.heap[g]? = some (.cells cs T fr) := by
  unfold World.var? at h
  rw [hg, Option.bind_some] at h
  cases ho : w.heap[g]? with
  | none => rw [ho] at h; cases h
  | some o =>
    rw [ho] at h
    cases o <;> simp at h
    subst h
    exact ⟨_, _, rfl⟩
end Go.Sl
namespace Go.Proofs.YtblknhpafifebaaDoor
open Go.ChangeShapes Go.WideShapes Go.ChangeAt Go.RowKit Go.Sl
theorem own : ownKnob Tryd.prog.godebug = none := by kernel_rfl
theorem laidOut : laidOutB Tryd.prog = true := by kernel_rfl
abbrev laidL : List (String × DataW Unit) := [("coldstore/sha.start", Rows.laid_coldstore_sha_start), ("coldstore/sha.keys", Rows.laid_coldstore_sha_keys)]
theorem door_met (os : Os) (args : Array Value) : laidMetH Tryd.prog laidL ((World.doorLaid Tryd.prog 19 os).forCall (fun _ _ => 0) ⟨#[], args, []⟩).memory :=
  laidMetH_of_parts3 (fuel := 8) (laidMet_of_run' 8 (by kernel_rfl) (by kernel_rfl)) (by kernel_rfl) (by kernel_rfl)
theorem gStart : Tryd.prog.globalNamed "coldstore/sha.start" = some 0 := by kernel_rfl
theorem gKeys : Tryd.prog.globalNamed "coldstore/sha.keys" = some 1 := by kernel_rfl
theorem tStart : (Tryd.prog.globals[0]?).map (·.type) = some 84 := by kernel_rfl
theorem tKeys : (Tryd.prog.globals[1]?).map (·.type) = some 96 := by kernel_rfl
/-- what the condition gives the walks -/
theorem of_laid {W : World} (h : laidMetH Tryd.prog laidL W) : Keys W (old W) ∧ Start W (old W) := by
  rw [MakeChecks.laidMetH_plain _ _ _ (by kernel_rfl)] at h
  obtain ⟨ps, ⟨g0, t0, cs0, f0, p0, q0, hg0, ht0, hv0, hd0, ⟨g1, t1, cs1, f1, p1, q1, hg1, ht1, hv1, hd1, _, _⟩, _⟩, _, _⟩ := h
  obtain rfl := Option.some.inj (gStart.symm.trans hg0)
  obtain rfl := Option.some.inj (gKeys.symm.trans hg1)
  obtain rfl := Option.some.inj (tStart.symm.trans ht0)
  obtain rfl := Option.some.inj (tKeys.symm.trans ht1)
  have e0 := open_word_row Tryd.underlying84 Tryd.underlying70 (by kernel_rfl) (by kernel_rfl) hd0 Sha.start.list (by kernel_rfl) (by kernel_rfl)
  have e1 := open_word_row Tryd.underlying96 Tryd.underlying70 (by kernel_rfl) (by kernel_rfl) hd1 Sha.keyList (by kernel_rfl) (by kernel_rfl)
  obtain ⟨T0, fr0, h0⟩ := heap_of_var gStart hv0
  obtain ⟨T1, fr1, h1⟩ := heap_of_var gKeys hv1
  have a0 : cs0 = (wcells Sha.start.list).toArray := by rw [← e0]
  have a1 : cs1 = (wcells Sha.keyList).toArray := by rw [← e1]
  have l0 : 0 < W.heap.size := (Array.getElem?_eq_some_iff.1 h0).1
  have l1 : 1 < W.heap.size := (Array.getElem?_eq_some_iff.1 h1).1
  exact ⟨fun w hw => ⟨T1, fr1, by rw [hw.old_below.block _ l1, h1, a1]⟩, fun w hw => ⟨T0, fr0, by rw [hw.old_below.block _ l0, h0, a0]⟩⟩
end Go.Proofs.YtblknhpafifebaaDoor
