/-
  Stores into a row; a bit is turned.
-/
import Derived.Test.YtblknhpafifebaaDoorStg
namespace Go.Sl
open Go Go.RowKit
set_option linter.unusedVariables false
set_option linter.unusedSimpArgs false
theorem opw_storeSl {P : Program} {o : Oper} {a : Act} {w : World} {K : Act → World → Prop} {Q : Exit → Act → World → Prop} {st : World} (t : TypeId) (x y : Operand) (ho : o.op = .store t x y) (hi : (P.info? t).map (·.size) = some 1) (g j : Nat) (v : Value) (hx : a.eval x = .pointer (some ⟨g, j, none⟩)) (hy : a.eval y = v) (hv : v.oneCell' = true)
    {E : TypeId} {n c : Nat} {xs : List Value} {R : HProp} (h : Has st (sep (row E 1 (.slice (some ⟨g, 0, none⟩) n c) n xs) R) w) (hj : j < n)
    (hK : ∀ w', Has st (sep (row E 1 (.slice (some ⟨g, 0, none⟩) n c) n (xs.set j v)) R) w' → K (a.put o.dst undef) w') : o.wp P a w K Q := by
  obtain ⟨cur, h1, h2, h3, h4, h5⟩ := h.row_open
  refine opw_store1 t x y ho hi g j v hx hy hv h5 (by rw [h3]; omega) fun w' h6 => hK w' ?_
  refine h6.row_of_blk 1 n c h1 h2 (by rw [Array.size_setIfInBounds]; exact h3) ?_
  rw [Array.toList_setIfInBounds, List.take_set, h4]
theorem opw_index0 {P : Program} {o : Oper} {a : Act} {w : World} {K : Act → World → Prop} {Q : Exit → Act → World → Prop} (T e : TypeId) (x ix : Operand) (ho : o.op = .indexAddr T x ix) (hu : P.underlying T = some (.slice e)) (hsz : (P.info? e).map (·.size) = some 1) (g n c j : Nat) (hx : a.eval x = .slice (some ⟨g, 0, none⟩) n c)
    (k : IntKind) (hix : a.eval ix = .int k (j : Int)) (hj : j < n) (hK : K (a.put o.dst (.pointer (some ⟨g, j, none⟩))) w) : o.wp P a w K Q :=
  opw_indexSl T e x ix ho hu hsz g 0 n c j hx k hix hj (by rw [Nat.zero_add]; exact hK)
theorem row_cell {st : World} {E : TypeId} {g n c : Nat} {xs : List Value} {R : HProp} {w : World} (h : Has st (sep (row E 1 (.slice (some ⟨g, 0, none⟩) n c) n xs) R) w) {j : Nat} {u : Value} (hj : xs[j]? = some u) : w.cell? ⟨g, j, none⟩ = some u := by
  have := (sees_row st E 1 _ n xs R w h).cell hj
  rwa [Nat.zero_add] at this
theorem shl8 (r : Nat) (h : r < 8) : shZ .shl .u8 1 (r : Int) = some ((((1 : UInt8) <<< (UInt8.ofNat r)).toNat : Nat) : Int) := by
  have : ∀ r : Fin 8, shZ .shl .u8 1 ((r.val : Nat) : Int) = some ((((1 : UInt8) <<< (UInt8.ofNat r.val)).toNat : Nat) : Int) := by decide +kernel
  exact this ⟨r, h⟩
theorem xor8 (a b : UInt8) : bits .xor .u8 (a.toNat : Int) (b.toNat : Int) = ((a ^^^ b).toNat : Int) := by
  have e1 : ∀ a : UInt8, BitVec.ofInt IntKind.u8.bits (a.toNat : Int) = a.toBitVec := fun a => by
    apply BitVec.eq_of_toNat_eq
    rw [BitVec.toNat_ofInt]
    show ((a.toNat : Int) % ((2 ^ 8 : Nat) : Int)).toNat = a.toNat
    have := a.toNat_lt
    omega
  unfold bits
  simp only [e1]
  have := (a ^^^ b).toNat_lt
  show IntKind.u8.wrap (((a ^^^ b).toNat : Nat) : Int) = _
  generalize (a ^^^ b).toNat = n at this ⊢
  simp [IntKind.wrap, IntKind.signed, IntKind.bits]
  omega
theorem bgetD {l : List UInt8} {j : Nat} (hj : j < l.length) : (bcells l)[j]? = some (.int .u8 ((l.getD j 0).toNat : Int)) := by
  simp [bcells, bcell, List.getD_eq_getElem?_getD, hj]

def flip (l : List UInt8) (p : Nat) : List UInt8 := l.set (p / 8) (l.getD (p / 8) 0 ^^^ ((1 : UInt8) <<< UInt8.ofNat (p % 8)))
theorem flip_length (l : List UInt8) (p : Nat) : (flip l p).length = l.length := by simp [flip]
theorem bcells_put (l : List UInt8) (j : Nat) (x : UInt8) : (bcells l).set j (.int .u8 (x.toNat : Int)) = bcells (l.set j x) := by
  simp only [bcells, List.map_set]; rfl
theorem mod_go (x : Int) (n : Nat) (hn : 0 < n) : (x.tmod n + n).tmod n = ((x % n).toNat : Int) := by
  have hn' : (0 : Int) < n := by omega
  have h1 := Int.emod_nonneg x (by omega : (n : Int) ≠ 0)
  have h2 := Int.emod_lt_of_pos x hn'
  have h3 : x.tmod n = x % n ∨ x.tmod n = x % n - n := by
    rw [Int.tmod_eq_emod]
    split
    · left; omega
    · right; omega
  rcases h3 with h3 | h3
  · rw [h3, Int.tmod_eq_emod_of_nonneg (by omega), Int.add_emod_right, Int.emod_emod_of_dvd x (Int.dvd_refl _)]; omega
  · rw [h3, show x % n - n + n = x % n by omega, Int.tmod_eq_emod_of_nonneg h1, Int.emod_emod_of_dvd x (Int.dvd_refl _)]; omega
end Go.Sl
