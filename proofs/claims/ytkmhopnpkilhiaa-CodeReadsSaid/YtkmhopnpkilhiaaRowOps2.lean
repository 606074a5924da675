/-
  CodeWrites: of each row of fields the call returns true, and the fields read as they did. No condition.
-/
import Derived.Test.YtkmhopnpkilhiaaOps2
import Derived.Test.YtkmhopnpkilhiaaRow
namespace Go.Proofs.Ytkmhopnpkilhiaa
open Go.ChangeShapes Go.WideShapes Go.ChangeAt Go.RowKit Go.Sl
set_option linter.unusedVariables false
set_option linter.unusedSimpArgs false

/-- the argument: fields -/
theorem open_ops {H : Type} {enc : TypeId × Value → H} {W : World} {base fuel : Nat} {held : Bool} {v : Value} {x : DataW H × List MemPlace} (h : DataW.trod enc Try.prog W base (fun _ => true) held fuel 22 [v] = some x) :
    ∃ ops : List OpV, SeesOps W (old W) v ops ∧ ∀ o ∈ ops, o.n ≤ 18446744073709551615 := by
  obtain ⟨A, n, c, vs, hcs, hs, hall⟩ := open_cells (size := 4) Try.underlying22 (by kernel_rfl) (by decide) h
  injection hcs with hv _
  subst hv
  obtain ⟨ops, hl, hops⟩ := choose_list (α := OpV) (n := n) (p := fun i o => (∃ A c, vs[i * 4]? = some (.int .i64 o.kind) ∧ vs[i * 4 + 1]? = some (.int .i64 o.size) ∧ vs[i * 4 + 2]? = some (.int .u64 o.n) ∧
    vs[i * 4 + 3]? = some (.slice A o.b.length c) ∧ Sees W (old W) 1 (.slice A o.b.length c) o.b.length (bcells o.b)) ∧ o.n ≤ 18446744073709551615) (fun i hi => by
      obtain ⟨cs', m, y, ht, hlen, hg⟩ := hall i hi
      obtain ⟨m0, y0, h0⟩ := open_field Try.underlying28 ht 0 _ rfl
      obtain ⟨m1, y1, h1⟩ := open_field Try.underlying28 ht 1 _ rfl
      obtain ⟨m2, y2, h2⟩ := open_field Try.underlying28 ht 2 _ rfl
      obtain ⟨m3, y3, h3⟩ := open_field Try.underlying28 ht 3 _ rfl
      obtain ⟨k0, e0, _⟩ := open_int_at (j := 0) Try.underlying3 h0
      obtain ⟨k1, e1, _⟩ := open_int_at (j := 1) Try.underlying3 h1
      obtain ⟨k2, e2, w2⟩ := open_int_at (j := 2) Try.underlying26 h2
      obtain ⟨B, d, l, e3, s3⟩ := open_bytes Try.underlying25 Try.underlying5 (by kernel_rfl) h3
      have hw : 0 ≤ k2 ∧ k2 ≤ 18446744073709551615 := by simpa [Lit.wf, IntKind.min, IntKind.max, IntKind.signed, IntKind.bits] using w2
      have e2' : vs[i * 4 + 2]? = some (.int .u64 ((k2.toNat : Nat) : Int)) := by rw [hg 2 (by decide), e2, Int.toNat_of_nonneg hw.1]
      exact ⟨⟨k0, k1, k2.toNat, l⟩, ⟨B, d, by rw [← e0]; exact hg 0 (by decide), by rw [← e1]; exact hg 1 (by decide), e2', by rw [hg 3 (by decide)]; exact one_cell e3, s3⟩, by show k2.toNat ≤ _; omega⟩)
  subst hl
  refine ⟨ops, ⟨vs, hs, fun i hi => (hops i hi).1⟩, fun o ho => ?_⟩
  obtain ⟨i, hi, rfl⟩ := List.getElem_of_mem ho
  exact (hops i hi).2
end Go.Proofs.Ytkmhopnpkilhiaa
