/-
  Laws for single operations and for slices; a variable, or a literal, that is made within a region that draws its order.
-/
import Derived.Test.YtblknhpafifebaaDoorReg3
import Derived.Test.YtblknhpafifebaaDoorSeen
import Derived.Laws.MakeOwn
namespace Go.Sl
open Go Go.RowKit
theorem opw_lenStr {P : Program} {o : Oper} {a : Act} {w : World} {K : Act → World → Prop} {Q : Exit → Act → World → Prop} (x : Operand) (t : TypeId) (hu : P.underlying t = some .string) (l : List UInt8) (ho : o.op = .call { callee := .builtin .len, args := #[x], argTypes := #[t] }) (hx : a.eval x = .string (str l)) (hK : K (a.put o.dst (.int .i64 (l.length : Int))) w) : o.wp P a w K Q := by
  refine opw_run (.int .i64 (l.length : Int)) ?_ hK
  unfold execOp
  simp only [ho, resolve, invoke, builtin, Sem.run_bind, Sem.run_pure, Result.andThen_ok, List.map_toArray, List.map_cons, List.map_nil, hx]
  simp [Builtin.len_, run_underlying hu, go_sem, str_size]
theorem wpList_yes {P : Program} {ops : Array Oper} {Q : Exit → Act → World → Prop} {rest : List Oper} {o : Oper} {a : Act} {w : World} (j : Nat) (c : Bool) (hg : o.guard = some (j, c)) (hj : yielded ops a.tmps j = some c)
    (h : ∀ K : Act → World → Prop, (∀ a w, wpList P ops Q rest a w → K a w) → o.wp P a w K Q) : wpList P ops Q (o :: rest) a w :=
  wpList_step fun K hK => by simp only [Region.wanted, hg, hj, beq_self_eq_true, if_true]; exact h K hK
theorem sees_nil (st : World) (R : HProp) : Sees st R 1 (.slice none 0 0) ([] : List UInt8).length (bcells []) := fun w h => ((h.seen_nil 1).openSeen.elim fun _ hG => hG.2 st R w hG.1)
end Go.Sl
namespace Go.Sl
open Go Go.RowKit
set_option linter.unusedVariables false
set_option linter.unusedSimpArgs false
/-- where the part begins -/
def subA (size : Nat) (A : Option Addr) (L M : Nat) : Option Addr := if M = L then A else A.map (·.add (L * size))
theorem Sees.sub {st : World} {R : HProp} {size n : Nat} {A : Option Addr} {cap : Nat} {xs : List Value} (h : Sees st R size (.slice A n cap) n xs) (L H : Nat) (hLH : L ≤ H) (hHn : H ≤ n) (hsz : 0 < size) :
    Sees st R size (.slice (subA size A L cap) (H - L) (cap - L)) (H - L) ((xs.drop (L * size)).take ((H - L) * size)) := fun w hw => by
  have hr := h w hw
  exact hr.sliced hLH hHn (by have := hr.le_cap; omega) (Nat.le_refl _) hsz
theorem Sees.takeB {st : World} {R : HProp} {n : Nat} {A : Option Addr} {cap : Nat} {l : List UInt8} (h : Sees st R 1 (.slice A n cap) n (bcells l)) (H : Nat) (hH : H ≤ n) : Sees st R 1 (.slice (subA 1 A 0 cap) H cap) H (bcells (l.take H)) := by
  have := h.sub 0 H (Nat.zero_le _) hH (by decide)
  simpa [bcells_take] using this
theorem Sees.dropB {st : World} {R : HProp} {n : Nat} {A : Option Addr} {cap : Nat} {l : List UInt8} (h : Sees st R 1 (.slice A n cap) n (bcells l)) (hl : l.length = n) (L : Nat) (hL : L ≤ n) : Sees st R 1 (.slice (subA 1 A L cap) (n - L) (cap - L)) (n - L) (bcells (l.drop L)) := by
  have := h.sub L n hL (Nat.le_refl _) (by decide)
  rw [Nat.mul_one, Nat.mul_one, bcells_drop, List.take_of_length_le (by rw [bcells_length, List.length_drop]; omega)] at this
  exact this
theorem Sees.midB {st : World} {R : HProp} {n : Nat} {A : Option Addr} {cap : Nat} {l : List UInt8} (h : Sees st R 1 (.slice A n cap) n (bcells l)) (L H : Nat) (hLH : L ≤ H) (hH : H ≤ n) : Sees st R 1 (.slice (subA 1 A L cap) (H - L) (cap - L)) (H - L) (bcells ((l.drop L).take (H - L))) := by
  have := h.sub L H hLH hH (by decide)
  rw [Nat.mul_one, Nat.mul_one, bcells_drop, bcells_take] at this
  exact this
section
variable {P : Program} {o : Oper} {a : Act} {w : World} {K : Act → World → Prop} {Q : Exit → Act → World → Prop}
theorem opw_sl (t e : TypeId) (size : Nat) (x : Operand) (lo hi : Option Operand) (ho : o.op = .slice t x lo hi none) (ht : P.underlying t = some (.slice e)) (hs : (P.info? e).map (·.size) = some size)
    {A : Option Addr} {n cap : Nat} (hx : a.eval x = .slice A n cap) (hnc : n ≤ cap) (L H : Nat) (hlo : SlB (lo.map a.eval) 0 L) (hhi : SlB (hi.map a.eval) n H) (hLH : L ≤ H) (hHn : H ≤ n)
    (hK : K (a.put o.dst (.slice (subA size A L cap) (H - L) (cap - L))) w) : o.wp P a w K Q := by
  refine opw_run (.slice (subA size A L cap) (H - L) (cap - L)) ?_ hK
  have hrun := run_sliceAt_any (P := P) w t e size ht hs A n cap (lo.map a.eval) (hi.map a.eval) none hlo hhi (SlB.out cap) (fun h => absurd rfl h) hLH (by omega) (Nat.le_refl _) hnc
  unfold execOp
  simp only [ho, hx, Option.map_none, Sem.run_bind, hrun, Result.andThen_ok, Sem.run_pure]
  rfl
theorem opw_slH (t e : TypeId) (x h : Operand) (ho : o.op = .slice t x none (some h) none) (ht : P.underlying t = some (.slice e)) (hs : (P.info? e).map (·.size) = some 1)
    (A : Option Addr) (n cap : Nat) (hx : a.eval x = .slice A n cap) (hnc : n ≤ cap) (k : IntKind) (H : Nat) (hh : a.eval h = .int k (H : Int)) (hHn : H ≤ n) (hK : K (a.put o.dst (.slice (subA 1 A 0 cap) H cap)) w) : o.wp P a w K Q :=
  opw_sl t e 1 x none (some h) ho ht hs hx hnc 0 H (SlB.out 0) (.inr ⟨k, by rw [Option.map_some, hh]⟩) (Nat.zero_le _) hHn hK
theorem opw_slL (t e : TypeId) (x l : Operand) (ho : o.op = .slice t x (some l) none none) (ht : P.underlying t = some (.slice e)) (hs : (P.info? e).map (·.size) = some 1)
    (A : Option Addr) (n cap : Nat) (hx : a.eval x = .slice A n cap) (hnc : n ≤ cap) (k : IntKind) (L : Nat) (hl : a.eval l = .int k (L : Int)) (hLn : L ≤ n) (hK : K (a.put o.dst (.slice (subA 1 A L cap) (n - L) (cap - L))) w) : o.wp P a w K Q :=
  opw_sl t e 1 x (some l) none ho ht hs hx hnc L n (.inr ⟨k, by rw [Option.map_some, hl]⟩) (SlB.out n) hLn (Nat.le_refl _) hK
theorem opw_slLH (t e : TypeId) (x l h : Operand) (ho : o.op = .slice t x (some l) (some h) none) (ht : P.underlying t = some (.slice e)) (hs : (P.info? e).map (·.size) = some 1)
    (A : Option Addr) (n cap : Nat) (hx : a.eval x = .slice A n cap) (hnc : n ≤ cap) (k k' : IntKind) (L H : Nat) (hl : a.eval l = .int k (L : Int)) (hh : a.eval h = .int k' (H : Int)) (hLH : L ≤ H) (hHn : H ≤ n)
    (hK : K (a.put o.dst (.slice (subA 1 A L cap) (H - L) (cap - L))) w) : o.wp P a w K Q :=
  opw_sl t e 1 x (some l) (some h) ho ht hs hx hnc L H (.inr ⟨k, by rw [Option.map_some, hl]⟩) (.inr ⟨k', by rw [Option.map_some, hh]⟩) hLH hHn hK
theorem opw_bits (op : BinOp) (t t' : TypeId) (x y : Operand) (k : IntKind) (X Y Z : Int) (hop : op = .and ∨ op = .or ∨ op = .xor) (ho : o.op = .binOp op t x y t') (hx : a.eval x = .int k X) (hy : a.eval y = .int k Y) (hz : bits op k X Y = Z) (hK : K (a.put o.dst (.int k Z)) w) : o.wp P a w K Q := by
  refine opw_run (.int k Z) ?_ hK
  unfold bits at hz
  unfold execOp
  rcases hop with rfl | rfl | rfl
  all_goals (simp only at hz; simp only [ho, hx, hy, eqGuard, binOp, Op.intBits, Sem.run_bind, Sem.run_pure, Result.andThen_ok, Bool.not_false, if_true, ne_eq, not_true_eq_false, if_false, hz])
end
theorem Rd.le {size : Nat} {w : World} {A : Option Addr} {n c : Nat} {xs : List Value} (h : Rd size w (.slice A n c) n xs) : n ≤ c := h.le_cap.1
end Go.Sl
namespace Go.Sl
open Go Go.RowKit
set_option linter.unusedVariables false
set_option linter.unusedSimpArgs false
/-- a variable: made (La), stored to (Ls) -/
def vrow (La Ls : Bool) (v : Value) (old new : Array Value) (t : TypeId) : HProp := if La then ex fun p => sep (pure (v = .pointer (some ⟨p, 0, none⟩))) (blk p (.cells (if Ls then new else old) t (0, 0))) else emp
/-- a literal -/
def vlit (Lb : Bool) (v : Value) (cells : Array Value) (len : Nat) (t : TypeId) : HProp := if Lb then ex fun q => sep (pure (v = .slice (some ⟨q, 0, none⟩) len len)) (blk q (.cells cells t (0, 0))) else emp
section
variable {st : World} {R : HProp} {w : World} {La Ls : Bool} {v : Value} {old new cells : Array Value} {t : TypeId} {len : Nat}
theorem Has.vrow_new (h : Has st (sep (vrow La Ls v old new t) R) w) (hL : La = false) : Has st R w := by
  subst hL
  have : vrow false Ls v old new t = emp := rfl
  rw [this, emp_sep] at h
  exact h
theorem Has.vrow_no (h : Has st R w) : Has st (sep (vrow false Ls v old new t) R) w := by
  have : vrow false Ls v old new t = emp := rfl
  rw [this, emp_sep]
  exact h
theorem Has.vrow_mk {p : Nat} (h : Has st (sep (Sl.blk p (.cells old t (0, 0))) R) w) (hL : Ls = false) : Has st (sep (vrow true Ls (.pointer (some ⟨p, 0, none⟩)) old new t) R) w := by
  subst hL
  exact Has.ofEx (p := fun q => sep (pure (.pointer (some ⟨p, 0, none⟩) = Value.pointer (some ⟨q, 0, none⟩))) (Sl.blk q (.cells old t (0, 0)))) p ((Has.ofPure rfl h).unassoc)
theorem Has.vrow_open (h : Has st (sep (vrow La Ls v old new t) R) w) (hL : La = true) : ∃ p, v = .pointer (some ⟨p, 0, none⟩) ∧ Has st (sep (Sl.blk p (.cells (if Ls then new else old) t (0, 0))) R) w := by
  subst hL
  obtain ⟨p, h1⟩ := Has.exL (p := fun q => sep (pure (v = Value.pointer (some ⟨q, 0, none⟩))) (Sl.blk q (.cells (if Ls then new else old) t (0, 0)))) h
  exact ⟨p, h1.assoc.pureL.1, h1.assoc.pureL.2⟩
theorem Has.vrow_done {p : Nat} (h : Has st (sep (Sl.blk p (.cells new t (0, 0))) R) w) (hv : v = .pointer (some ⟨p, 0, none⟩)) (hL : La = true) : Has st (sep (vrow La true v old new t) R) w := by
  subst hL hv
  exact Has.ofEx (p := fun q => sep (pure (.pointer (some ⟨p, 0, none⟩) = Value.pointer (some ⟨q, 0, none⟩))) (Sl.blk q (.cells new t (0, 0)))) p ((Has.ofPure rfl h).unassoc)
theorem Has.vlit_new (h : Has st (sep (vlit La v cells len t) R) w) (hL : La = false) : Has st R w := by
  subst hL
  have : vlit false v cells len t = emp := rfl
  rw [this, emp_sep] at h
  exact h
theorem Has.vlit_no (h : Has st R w) : Has st (sep (vlit false v cells len t) R) w := by
  have : vlit false v cells len t = emp := rfl
  rw [this, emp_sep]
  exact h
theorem Has.vlit_mk {q : Nat} (h : Has st (sep (Sl.blk q (.cells cells t (0, 0))) R) w) : Has st (sep (vlit true (.slice (some ⟨q, 0, none⟩) len len) cells len t) R) w :=
  Has.ofEx (p := fun p => sep (pure (.slice (some ⟨q, 0, none⟩) len len = Value.slice (some ⟨p, 0, none⟩) len len)) (Sl.blk p (.cells cells t (0, 0)))) q ((Has.ofPure rfl h).unassoc)
theorem Has.vlit_open (h : Has st (sep (vlit La v cells len t) R) w) (hL : La = true) : ∃ q, v = .slice (some ⟨q, 0, none⟩) len len ∧ Has st (sep (Sl.blk q (.cells cells t (0, 0))) R) w := by
  subst hL
  obtain ⟨q, h1⟩ := Has.exL (p := fun p => sep (pure (v = Value.slice (some ⟨p, 0, none⟩) len len)) (Sl.blk p (.cells cells t (0, 0)))) h
  exact ⟨q, h1.assoc.pureL.1, h1.assoc.pureL.2⟩
theorem Has.vlit_rd (h : Has st (sep (vlit La v cells len t) R) w) (hL : La = true) (hn : cells.size = len) (hm : len ≤ maxLen) : Rd 1 w v len cells.toList := by
  obtain ⟨q, rfl, h1⟩ := h.vlit_open hL
  exact ⟨by simpa using hn, _, len, rfl, Nat.le_refl _, hm, .inr ⟨_, rfl, fun j u hu => ⟨rfl, by rw [Nat.zero_add, h1.cell]; simpa using hu⟩⟩⟩
end
theorem RegStep3.noU {P : Program} {Q : Exit → Act → World → Prop} {a : Act} {ops : List Oper} {I : (Nat → Bool) → (Nat → Value) → World → Prop} {i : Nat} {o : Oper} (j : Nat) (c : Bool) (hg : o.guard = some (j, c))
    (h : ∀ (L : Nat → Bool) (u : Nat → Value) (w : World), L i = false → waits o L → Down ops L → I L u w → u j = undef ∧ I (upd L i true) (upd u i undef) w) : RegStep3 P Q a ops I i o := ⟨fun L u w b hL hw hD hU hI hin hout => by
      have := h L u w hL hw hD hI
      rw [if_neg (by unfold gd; rw [hg]; simp only [this.1]; exact Bool.false_ne_true)]
      exact this.2⟩
end Go.Sl
namespace Go.Sl
open Go Go.RowKit
set_option linter.unusedVariables false
set_option linter.unusedSimpArgs false
theorem opw_makeBytes {P : Program} {o : Oper} {a : Act} {w : World} {K : Act → World → Prop} {Q : Exit → Act → World → Prop} {st : World} (t e : TypeId) (x y : Operand) (ho : o.op = .makeSlice t x y) (ht : P.underlying t = some (.slice e)) (hi : (P.info? e).map (fun i => (i.zero, i.size, i.bytes)) = some (some (.int .u8 0), 1, 1))
    (k k' : IntKind) (n : Nat) (hx : a.eval x = .int k (n : Int)) (hy : a.eval y = .int k' (n : Int)) (hn : n ≤ 281474976710656) {R : HProp} (h : Has st R w)
    (hK : ∀ g w', Has st (sep (Sl.blk g (.cells (bcells (List.replicate n 0)).toArray e (0, 0))) R) w' → K (a.put o.dst (.slice (some ⟨g, 0, none⟩) n n)) w') : o.wp P a w K Q := by
  obtain ⟨i, hi0, hz, hs, hb⟩ : ∃ i, P.info? e = some i ∧ i.zero = some (.int .u8 0) ∧ i.size = 1 ∧ i.bytes = 1 := by
    cases hp : P.info? e with
    | none => rw [hp] at hi; cases hi
    | some i => rw [hp] at hi; simp at hi; exact ⟨i, rfl, hi.1, hi.2.1, hi.2.2⟩
  have hr := run_make (P := P) w t e i (.int .u8 0) ht hi0 hz k k' (n : Int) (n : Int) (by omega) (by omega) (by rw [hb]; omega) (by omega)
  have hc : madeCells (Value.int .u8 0).cells ((n : Int).toNat * i.size) = (bcells (List.replicate n 0)).toArray := by
    rw [hs, Int.toNat_natCast, Nat.mul_one]
    apply Array.ext
    · simp [size_madeCells, bcells_length]
    · intro j h1 h2
      simp [madeCells, bcells, bcell, Value.cells, Nat.mod_one]
  rw [hc, Int.toNat_natCast] at hr
  unfold Oper.wp execOp
  simp only [ho, hx, hy, Sem.run_bind, hr, Sem.run_pure, Result.andThen_ok, Oper.upon_value]
  exact hK _ _ (h.alloc _)
end Go.Sl
