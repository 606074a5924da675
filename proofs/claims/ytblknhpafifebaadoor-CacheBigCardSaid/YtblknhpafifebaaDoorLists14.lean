/-
  Slices of slices of bytes; coldstoreref10.SameIDs of the same sums.
-/
import Derived.Test.YtblknhpafifebaaDoorCacheI
import Derived.Test.YtblknhpafifebaaDoorOpen
namespace Go.Proofs.YtblknhpafifebaaDoor
open Go.ChangeShapes Go.WideShapes Go.ChangeAt Go.RowKit Go.Sl
set_option linter.unusedVariables false
set_option linter.unusedSimpArgs false
set_option maxRecDepth 100000
/-- v is a slice of slices of bytes that read ls -/
def SeesL (s : World) (R : HProp) (v : Value) (ls : List (List UInt8)) : Prop :=
  ∃ vs, Sees s R 1 v ls.length vs ∧ ∀ (i : Nat) (h : i < ls.length), ∃ A c, vs[i]? = some (.slice A (ls[i]).length c) ∧ Sees s R 1 (.slice A (ls[i]).length c) (ls[i]).length (bcells ls[i])
theorem open_lists {H : Type} {enc : TypeId × Value → H} {W : World} {base fuel : Nat} {held : Bool} {b : Option Addr} {len cap : Nat} {x : DataW H × List MemPlace} (h : DataW.trod enc Tryd.prog W base (fun _ => true) held fuel 59 [.slice b len cap] = some x) :
    ∃ ls : List (List UInt8), len = ls.length ∧ SeesL W (old W) (.slice b len cap) ls := by
  obtain ⟨A, n, c, vs, hcs, hs, hall⟩ := open_cells (size := 1) Tryd.underlying59 (by kernel_rfl) (by decide) h
  injection hcs with hv _
  injection hv with e1 e2 e3
  subst e1 e2 e3
  obtain ⟨ls, hl, hp⟩ := choose_list (α := List UInt8) (n := len) (p := fun i l => ∃ B d, vs[i]? = some (.slice B l.length d) ∧ Sees W (old W) 1 (.slice B l.length d) l.length (bcells l)) (fun i hi => by
    obtain ⟨cs', m, y, ht, hlen, hg⟩ := hall i hi
    obtain ⟨B, d, l, e3, s3⟩ := open_bytes Tryd.underlying30 Tryd.underlying5 (by kernel_rfl) ht
    refine ⟨l, B, d, ?_, s3⟩
    have := hg 0 (by decide)
    rw [Nat.mul_one, Nat.add_zero] at this
    rw [this, e3]; rfl)
  subst hl
  exact ⟨ls, rfl, vs, hs, fun i hi => hp i hi⟩
theorem idsC_cell : ∀ {T : List (List UInt8)}, (∀ x ∈ T, x.length = 32) → ∀ {i : Nat} (hi : i < T.length) {j : Nat} {u : Value}, (bcells T[i])[j]? = some u → (idsC T)[i * 32 + j]? = some u
  | x :: T, h, 0, _, j, u, hj => by
    have hj' : (bcells x)[j]? = some u := hj
    show (bcells x ++ idsC T)[0 * 32 + j]? = some u
    rw [Nat.zero_mul, Nat.zero_add, List.getElem?_append_left (List.getElem?_eq_some_iff.1 hj').1]; exact hj'
  | x :: T, h, i + 1, hi, j, u, hj => by
    have hi' : i < T.length := by simpa using hi
    have := idsC_cell (T := T) (fun y hy => h y (by simp [hy])) hi' (j := j) (u := u) hj
    show (bcells x ++ idsC T)[(i + 1) * 32 + j]? = some u
    have hx : (bcells x).length = 32 := by rw [bcells_length]; exact h x (by simp)
    rw [List.getElem?_append_right (by omega), hx, show (i + 1) * 32 + j - 32 = i * 32 + j by omega]; exact this
end Go.Proofs.YtblknhpafifebaaDoor
