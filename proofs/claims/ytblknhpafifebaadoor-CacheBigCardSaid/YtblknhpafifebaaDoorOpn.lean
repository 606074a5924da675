/-
  Single operations on whole numbers, conversions, comparisons; one cell of a row.
-/
import Derived.Test.YtblknhpafifebaaDoorSeen
namespace Go.Sl
open Go Go.RowKit
set_option linter.unusedVariables false
set_option linter.unusedSimpArgs false
section
variable {P : Program} {o : Oper} {a : Act} {w : World} {K : Act → World → Prop} {Q : Exit → Act → World → Prop} {st : World}
/-- what an operation on two numbers of one kind gives -/
def binZ (op : BinOp) (k : IntKind) (X Y : Int) : Option Int := match op with
  | .add => some (k.wrap (X + Y))
  | .sub => some (k.wrap (X - Y))
  | .mul => some (k.wrap (X * Y))
  | .quo => if Y = 0 then none else some (k.wrap (X.tdiv Y))
  | .rem => if Y = 0 then none else some (X.tmod Y)
  | _ => none
theorem opw_bin (op : BinOp) (t t' : TypeId) (x y : Operand) (k : IntKind) (X Y Z : Int) (ho : o.op = .binOp op t x y t') (hx : a.eval x = .int k X) (hy : a.eval y = .int k Y) (hz : binZ op k X Y = some Z) (hK : K (a.put o.dst (.int k Z)) w) : o.wp P a w K Q := by
  refine opw_run (.int k Z) ?_ hK
  unfold execOp
  unfold binZ at hz
  cases op <;> simp only [reduceCtorEq, Option.some.injEq] at hz
  all_goals try (subst hz; simp only [ho, hx, hy, eqGuard, binOp, Op.intArith, Sem.run_bind, Sem.run_pure, Result.andThen_ok, Bool.not_false, if_true, ne_eq, not_true_eq_false, if_false]; done)
  all_goals
    split at hz
    · cases hz
    · rename_i hne
      simp only [Option.some.injEq] at hz
      subst hz
      simp only [ho, hx, hy, eqGuard, binOp, Op.intDiv, if_neg hne, Sem.run_bind, Sem.run_pure, Result.andThen_ok, Bool.not_false, if_true, ne_eq, not_true_eq_false, if_false]
def shZ (op : BinOp) (k : IntKind) (X Y : Int) : Option Int := if Y < 0 then none else match op with
  | .shl => some (k.wrap (X * 2 ^ (min Y.toNat k.bits)))
  | .shr => some (X.fdiv (2 ^ (min Y.toNat k.bits)))
  | _ => none
theorem opw_shift (op : BinOp) (t t' : TypeId) (x y : Operand) (k k' : IntKind) (X Y Z : Int) (ho : o.op = .binOp op t x y t') (hx : a.eval x = .int k X) (hy : a.eval y = .int k' Y) (hz : shZ op k X Y = some Z) (hK : K (a.put o.dst (.int k Z)) w) : o.wp P a w K Q := by
  refine opw_run (.int k Z) ?_ hK
  unfold execOp
  unfold shZ at hz
  split at hz
  · cases hz
  · rename_i hne
    cases op <;> simp only [reduceCtorEq, Option.some.injEq] at hz
    all_goals (subst hz; simp only [ho, hx, hy, eqGuard, binOp, Op.shift, if_neg hne, Sem.run_bind, Sem.run_pure, Result.andThen_ok, Bool.not_false, if_true])
/-- comparisons of numbers -/
def cmpZ (op : BinOp) (X Y : Int) : Option Bool := match op with
  | .eql => some (X == Y) | .neq => some (X != Y) | .lss => some (X < Y) | .leq => some (X ≤ Y) | .gtr => some (X > Y) | .geq => some (X ≥ Y) | _ => none
theorem opw_cmp (op : BinOp) (t t' : TypeId) (x y : Operand) (k : IntKind) (X Y : Int) (Z : Bool) (ho : o.op = .binOp op t x y t') (hx : a.eval x = .int k X) (hy : a.eval y = .int k Y) (hz : cmpZ op X Y = some Z) (hK : K (a.put o.dst (.bool Z)) w) : o.wp P a w K Q := by
  refine opw_run (.bool Z) ?_ hK
  unfold execOp
  unfold cmpZ at hz
  cases op <;> simp only [reduceCtorEq, Option.some.injEq] at hz
  all_goals (subst hz; simp only [ho, hx, hy, eqGuard, binOp, Op.intCmp, Sem.run_bind, Sem.run_pure, Result.andThen_ok, Bool.not_false, Bool.not_true, Bool.false_eq_true, if_false, if_true, ne_eq, not_true_eq_false])
theorem opw_conv (src dst : TypeId) (x : Operand) (k k' : IntKind) (X Z : Int) (ho : o.op = .convert src dst x) {d : TypeDesc} (hs : P.underlying src = some d) (hd : P.underlying dst = some (.int k')) (hx : a.eval x = .int k X) (hz : k'.wrap X = Z) (hK : K (a.put o.dst (.int k' Z)) w) : o.wp P a w K Q := by
  refine opw_run (.int k' Z) ?_ hK
  unfold execOp
  subst hz
  simp only [ho, hx, convert, Sem.run_bind, run_underlying hs, run_underlying hd, Result.andThen_ok, Conv.intToInt, Sem.run_pure]
theorem opw_box (t : TypeId) (v : Value) (cells : Array Value) {x : Operand} (ho : o.op = .box t x) (hx : a.eval x = v) (hc : v.cells = cells) {R : HProp} (h : Has st R w)
    (hK : ∀ p w', p = w.heap.size → Has st (sep (Sl.blk p (.cells cells t (0, 0))) R) w' → K (a.put o.dst (.pointer (some ⟨p, 0, none⟩))) w') : o.wp P a w K Q := by
  subst hc
  have hr : (Instr.box t v).run P w = .ok (.pointer (some ⟨w.heap.size, 0, none⟩)) (w.alloc (.cells v.cells t)) := by
    simp [Instr.box, newVar, go_sem]
  unfold Oper.wp execOp
  simp only [ho, hx, Sem.run_bind, hr, Sem.run_pure, Result.andThen_ok, Oper.upon_value]
  exact hK _ _ rfl (h.alloc _)
end
theorem i64_nat (n : Nat) (h : n ≤ 9223372036854775807) : IntKind.i64.wrap (n : Int) = (n : Int) := IntWalk.i64_in _ ⟨by omega, by omega⟩
theorem u64_nat (n : Nat) (h : n ≤ 18446744073709551615) : IntKind.u64.wrap (n : Int) = (n : Int) := IntWalk.u64_in _ ⟨by omega, by omega⟩
theorem bin_quo (n m : Nat) (hm : 0 < m) (h : n ≤ 9223372036854775807) : binZ .quo .i64 (n : Int) (m : Int) = some ((n / m : Nat) : Int) := by
  have h1 : n / m ≤ n := Nat.div_le_self _ _
  have e : (n : Int).tdiv (m : Int) = ((n / m : Nat) : Int) := by rw [Int.tdiv_eq_ediv_of_nonneg (by omega)]; simp
  unfold binZ
  rw [if_neg (by omega), e, i64_nat _ (by omega)]
theorem bin_rem (n m : Nat) (hm : 0 < m) : binZ .rem .i64 (n : Int) (m : Int) = some ((n % m : Nat) : Int) := by
  have e : (n : Int).tmod (m : Int) = ((n % m : Nat) : Int) := by rw [Int.tmod_eq_emod_of_nonneg (by omega)]; simp
  show (if (m : Int) = 0 then none else some ((n : Int).tmod (m : Int))) = _
  rw [if_neg (by omega), e]
theorem bin_add (n m : Nat) (h : n + m ≤ 9223372036854775807) : binZ .add .i64 (n : Int) (m : Int) = some ((n + m : Nat) : Int) := by
  unfold binZ
  rw [show (n : Int) + (m : Int) = ((n + m : Nat) : Int) by omega, i64_nat _ h]
theorem bin_mul (n m : Nat) (h : n * m ≤ 9223372036854775807) : binZ .mul .i64 (n : Int) (m : Int) = some ((n * m : Nat) : Int) := by
  unfold binZ
  rw [show (n : Int) * (m : Int) = ((n * m : Nat) : Int) by simp, i64_nat _ h]
theorem bin_sub (n m : Nat) (hm : m ≤ n) (h : n ≤ 9223372036854775807) : binZ .sub .i64 (n : Int) (m : Int) = some ((n - m : Nat) : Int) := by
  unfold binZ
  rw [show (n : Int) - (m : Int) = ((n - m : Nat) : Int) by omega, i64_nat _ (by omega)]
theorem sh_r (k : IntKind) (n m : Nat) (hm : m ≤ k.bits) : shZ .shr k (n : Int) (m : Int) = some ((n / 2 ^ m : Nat) : Int) := by
  unfold shZ
  rw [if_neg (by omega)]
  simp only [Int.toNat_natCast, Nat.min_eq_left hm]
  rw [Int.fdiv_eq_ediv_of_nonneg _ (Int.le_of_lt (Int.pow_pos (by decide))), Int.natCast_ediv, Int.natCast_pow]
  rfl
theorem wrap_u8 (n : Nat) : IntKind.u8.wrap (n : Int) = ((UInt8.ofNat n).toNat : Int) := by
  simp [IntKind.wrap, IntKind.signed, IntKind.bits, UInt8.toNat_ofNat']
end Go.Sl
