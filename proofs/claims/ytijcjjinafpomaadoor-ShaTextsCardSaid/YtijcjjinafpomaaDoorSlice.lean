/-
  Slices of slices, the value told ahead; bits of numbers.
-/
import Derived.Test.YtijcjjinafpomaaDoorAlive3
namespace Go.Sl
open Go Go.RowKit
set_option linter.unusedVariables false
set_option linter.unusedSimpArgs false
/-- where the part begins -/
def subA (size : Nat) (A : Option Addr) (L M : Nat) : Option Addr := if M = L then A else A.map (·.add (L * size))
theorem Sees.sub {st : World} {R : HProp} {size n : Nat} {A : Option Addr} {cap : Nat} {xs : List Value} (h : Sees st R size (.slice A n cap) n xs) (L H : Nat) (hLH : L ≤ H) (hHn : H ≤ n) (hsz : 0 < size) :
    Sees st R size (.slice (subA size A L cap) (H - L) (cap - L)) (H - L) ((xs.drop (L * size)).take ((H - L) * size)) := fun w hw => by
  have hr := h w hw
  exact hr.sliced hLH hHn (by have := hr.le_cap; omega) (Nat.le_refl _) hsz
theorem Sees.takeB {st : World} {R : HProp} {n : Nat} {A : Option Addr} {cap : Nat} {l : List UInt8} (h : Sees st R 1 (.slice A n cap) n (bcells l)) (H : Nat) (hH : H ≤ n) : Sees st R 1 (.slice (subA 1 A 0 cap) H cap) H (bcells (l.take H)) := by
  have := h.sub 0 H (Nat.zero_le _) hH (by decide)
  simpa [bcells_take] using this
theorem Sees.dropB {st : World} {R : HProp} {n : Nat} {A : Option Addr} {cap : Nat} {l : List UInt8} (h : Sees st R 1 (.slice A n cap) n (bcells l)) (hl : l.length = n) (L : Nat) (hL : L ≤ n) : Sees st R 1 (.slice (subA 1 A L cap) (n - L) (cap - L)) (n - L) (bcells (l.drop L)) := by
  have := h.sub L n hL (Nat.le_refl _) (by decide)
  rw [Nat.mul_one, Nat.mul_one, bcells_drop, List.take_of_length_le (by rw [bcells_length, List.length_drop]; omega)] at this
  exact this
theorem Sees.midB {st : World} {R : HProp} {n : Nat} {A : Option Addr} {cap : Nat} {l : List UInt8} (h : Sees st R 1 (.slice A n cap) n (bcells l)) (L H : Nat) (hLH : L ≤ H) (hH : H ≤ n) : Sees st R 1 (.slice (subA 1 A L cap) (H - L) (cap - L)) (H - L) (bcells ((l.drop L).take (H - L))) := by
  have := h.sub L H hLH hH (by decide)
  rw [Nat.mul_one, Nat.mul_one, bcells_drop, bcells_take] at this
  exact this
section
variable {P : Program} {o : Oper} {a : Act} {w : World} {K : Act → World → Prop} {Q : Exit → Act → World → Prop}
theorem opw_sl (t e : TypeId) (size : Nat) (x : Operand) (lo hi : Option Operand) (ho : o.op = .slice t x lo hi none) (ht : P.underlying t = some (.slice e)) (hs : (P.info? e).map (·.size) = some size)
    {A : Option Addr} {n cap : Nat} (hx : a.eval x = .slice A n cap) (hnc : n ≤ cap) (L H : Nat) (hlo : SlB (lo.map a.eval) 0 L) (hhi : SlB (hi.map a.eval) n H) (hLH : L ≤ H) (hHn : H ≤ n)
    (hK : K (a.put o.dst (.slice (subA size A L cap) (H - L) (cap - L))) w) : o.wp P a w K Q := by
  refine opw_run (.slice (subA size A L cap) (H - L) (cap - L)) ?_ hK
  have hrun := run_sliceAt_any (P := P) w t e size ht hs A n cap (lo.map a.eval) (hi.map a.eval) none hlo hhi (SlB.out cap) (fun h => absurd rfl h) hLH (by omega) (Nat.le_refl _) hnc
  unfold execOp
  simp only [ho, hx, Option.map_none, Sem.run_bind, hrun, Result.andThen_ok, Sem.run_pure]
  rfl
theorem opw_slH (t e : TypeId) (x h : Operand) (ho : o.op = .slice t x none (some h) none) (ht : P.underlying t = some (.slice e)) (hs : (P.info? e).map (·.size) = some 1)
    (A : Option Addr) (n cap : Nat) (hx : a.eval x = .slice A n cap) (hnc : n ≤ cap) (k : IntKind) (H : Nat) (hh : a.eval h = .int k (H : Int)) (hHn : H ≤ n) (hK : K (a.put o.dst (.slice (subA 1 A 0 cap) H cap)) w) : o.wp P a w K Q :=
  opw_sl t e 1 x none (some h) ho ht hs hx hnc 0 H (SlB.out 0) (.inr ⟨k, by rw [Option.map_some, hh]⟩) (Nat.zero_le _) hHn hK
theorem opw_slL (t e : TypeId) (x l : Operand) (ho : o.op = .slice t x (some l) none none) (ht : P.underlying t = some (.slice e)) (hs : (P.info? e).map (·.size) = some 1)
    (A : Option Addr) (n cap : Nat) (hx : a.eval x = .slice A n cap) (hnc : n ≤ cap) (k : IntKind) (L : Nat) (hl : a.eval l = .int k (L : Int)) (hLn : L ≤ n) (hK : K (a.put o.dst (.slice (subA 1 A L cap) (n - L) (cap - L))) w) : o.wp P a w K Q :=
  opw_sl t e 1 x (some l) none ho ht hs hx hnc L n (.inr ⟨k, by rw [Option.map_some, hl]⟩) (SlB.out n) hLn (Nat.le_refl _) hK
theorem opw_slLH (t e : TypeId) (x l h : Operand) (ho : o.op = .slice t x (some l) (some h) none) (ht : P.underlying t = some (.slice e)) (hs : (P.info? e).map (·.size) = some 1)
    (A : Option Addr) (n cap : Nat) (hx : a.eval x = .slice A n cap) (hnc : n ≤ cap) (k k' : IntKind) (L H : Nat) (hl : a.eval l = .int k (L : Int)) (hh : a.eval h = .int k' (H : Int)) (hLH : L ≤ H) (hHn : H ≤ n)
    (hK : K (a.put o.dst (.slice (subA 1 A L cap) (H - L) (cap - L))) w) : o.wp P a w K Q :=
  opw_sl t e 1 x (some l) (some h) ho ht hs hx hnc L H (.inr ⟨k, by rw [Option.map_some, hl]⟩) (.inr ⟨k', by rw [Option.map_some, hh]⟩) hLH hHn hK
theorem opw_bits (op : BinOp) (t t' : TypeId) (x y : Operand) (k : IntKind) (X Y Z : Int) (hop : op = .and ∨ op = .or ∨ op = .xor) (ho : o.op = .binOp op t x y t') (hx : a.eval x = .int k X) (hy : a.eval y = .int k Y) (hz : bits op k X Y = Z) (hK : K (a.put o.dst (.int k Z)) w) : o.wp P a w K Q := by
  refine opw_run (.int k Z) ?_ hK
  unfold bits at hz
  unfold execOp
  rcases hop with rfl | rfl | rfl
  all_goals (simp only at hz; simp only [ho, hx, hy, eqGuard, binOp, Op.intBits, Sem.run_bind, Sem.run_pure, Result.andThen_ok, Bool.not_false, if_true, ne_eq, not_true_eq_false, if_false, hz])
end
theorem Rd.le {size : Nat} {w : World} {A : Option Addr} {n c : Nat} {xs : List Value} (h : Rd size w (.slice A n c) n xs) : n ≤ c := h.le_cap.1
end Go.Sl
