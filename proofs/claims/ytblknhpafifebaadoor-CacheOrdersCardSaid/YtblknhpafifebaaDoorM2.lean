/-
  Several texts of this proof in one: Gen, RowN, Stg, In, ShaSpec, ShaRor, ShaWords.
-/
import Derived.Test.YtblknhpafifebaaDoorM1
import Derived.Laws.MakeOwn
import Derived.Lib.SliceRun
import Derived.RangeFuncNested
import Derived.RangeFuncLeaves
import Derived.Shelf.Abstract
import Derived.OwnWalkIn
import Derived.TacticsInMore
import Derived.LoopNIn
import Derived.LoopIn
import Derived.Test.YtblknhpafifebaaDoorM0
import Derived.Test.YtblknhpafifebaaDoorChecked
import Derived.ProofKit
import Derived.Deep.RegionHeld3
import Derived.Deep.QuietTactic
import Derived.BigQuiet
/-
  Laws for single operations and for slices; a variable, or a literal, that is made within a region that draws its order.
-/
namespace Go.Sl
open Go Go.RowKit
theorem opw_lenStr {P : Program} {o : Oper} {a : Act} {w : World} {K : Act → World → Prop} {Q : Exit → Act → World → Prop} (x : Operand) (t : TypeId) (hu : P.underlying t = some .string) (l : List UInt8) (ho : o.op = .call { callee := .builtin .len, args := #[x], argTypes := #[t] }) (hx : a.eval x = .string (str l)) (hK : K (a.put o.dst (.int .i64 (l.length : Int))) w) : o.wp P a w K Q := by
  refine opw_run (.int .i64 (l.length : Int)) ?_ hK
  unfold execOp
  simp only [ho, resolve, invoke, builtin, Sem.run_bind, Sem.run_pure, Result.andThen_ok, List.map_toArray, List.map_cons, List.map_nil, hx]
  simp [Builtin.len_, run_underlying hu, go_sem, str_size]
theorem wpList_yes {P : Program} {ops : Array Oper} {Q : Exit → Act → World → Prop} {rest : List Oper} {o : Oper} {a : Act} {w : World} (j : Nat) (c : Bool) (hg : o.guard = some (j, c)) (hj : yielded ops a.tmps j = some c)
    (h : ∀ K : Act → World → Prop, (∀ a w, wpList P ops Q rest a w → K a w) → o.wp P a w K Q) : wpList P ops Q (o :: rest) a w :=
  wpList_step fun K hK => by simp only [Region.wanted, hg, hj, beq_self_eq_true, if_true]; exact h K hK
theorem sees_nil (st : World) (R : HProp) : Sees st R 1 (.slice none 0 0) ([] : List UInt8).length (bcells []) := fun w h => ((h.seen_nil 1).openSeen.elim fun _ hG => hG.2 st R w hG.1)
end Go.Sl
namespace Go.Sl
open Go Go.RowKit
set_option linter.unusedVariables false
set_option linter.unusedSimpArgs false
/-- where the part begins -/
def subA (size : Nat) (A : Option Addr) (L M : Nat) : Option Addr := if M = L then A else A.map (·.add (L * size))
theorem Sees.sub {st : World} {R : HProp} {size n : Nat} {A : Option Addr} {cap : Nat} {xs : List Value} (h : Sees st R size (.slice A n cap) n xs) (L H : Nat) (hLH : L ≤ H) (hHn : H ≤ n) (hsz : 0 < size) :
    Sees st R size (.slice (subA size A L cap) (H - L) (cap - L)) (H - L) ((xs.drop (L * size)).take ((H - L) * size)) := fun w hw => by
  have hr := h w hw
  exact hr.sliced hLH hHn (by have := hr.le_cap; omega) (Nat.le_refl _) hsz
theorem Sees.takeB {st : World} {R : HProp} {n : Nat} {A : Option Addr} {cap : Nat} {l : List UInt8} (h : Sees st R 1 (.slice A n cap) n (bcells l)) (H : Nat) (hH : H ≤ n) : Sees st R 1 (.slice (subA 1 A 0 cap) H cap) H (bcells (l.take H)) := by
  have := h.sub 0 H (Nat.zero_le _) hH (by decide)
  simpa [bcells_take] using this
theorem Sees.dropB {st : World} {R : HProp} {n : Nat} {A : Option Addr} {cap : Nat} {l : List UInt8} (h : Sees st R 1 (.slice A n cap) n (bcells l)) (hl : l.length = n) (L : Nat) (hL : L ≤ n) : Sees st R 1 (.slice (subA 1 A L cap) (n - L) (cap - L)) (n - L) (bcells (l.drop L)) := by
  have := h.sub L n hL (Nat.le_refl _) (by decide)
  rw [Nat.mul_one, Nat.mul_one, bcells_drop, List.take_of_length_le (by rw [bcells_length, List.length_drop]; omega)] at this
  exact this
theorem Sees.midB {st : World} {R : HProp} {n : Nat} {A : Option Addr} {cap : Nat} {l : List UInt8} (h : Sees st R 1 (.slice A n cap) n (bcells l)) (L H : Nat) (hLH : L ≤ H) (hH : H ≤ n) : Sees st R 1 (.slice (subA 1 A L cap) (H - L) (cap - L)) (H - L) (bcells ((l.drop L).take (H - L))) := by
  have := h.sub L H hLH hH (by decide)
  rw [Nat.mul_one, Nat.mul_one, bcells_drop, bcells_take] at this
  exact this
section
variable {P : Program} {o : Oper} {a : Act} {w : World} {K : Act → World → Prop} {Q : Exit → Act → World → Prop}
theorem opw_sl (t e : TypeId) (size : Nat) (x : Operand) (lo hi : Option Operand) (ho : o.op = .slice t x lo hi none) (ht : P.underlying t = some (.slice e)) (hs : (P.info? e).map (·.size) = some size)
    {A : Option Addr} {n cap : Nat} (hx : a.eval x = .slice A n cap) (hnc : n ≤ cap) (L H : Nat) (hlo : SlB (lo.map a.eval) 0 L) (hhi : SlB (hi.map a.eval) n H) (hLH : L ≤ H) (hHn : H ≤ n)
    (hK : K (a.put o.dst (.slice (subA size A L cap) (H - L) (cap - L))) w) : o.wp P a w K Q := by
  refine opw_run (.slice (subA size A L cap) (H - L) (cap - L)) ?_ hK
  have hrun := run_sliceAt_any (P := P) w t e size ht hs A n cap (lo.map a.eval) (hi.map a.eval) none hlo hhi (SlB.out cap) (fun h => absurd rfl h) hLH (by omega) (Nat.le_refl _) hnc
  unfold execOp
  simp only [ho, hx, Option.map_none, Sem.run_bind, hrun, Result.andThen_ok, Sem.run_pure]
  rfl
theorem opw_slH (t e : TypeId) (x h : Operand) (ho : o.op = .slice t x none (some h) none) (ht : P.underlying t = some (.slice e)) (hs : (P.info? e).map (·.size) = some 1)
    (A : Option Addr) (n cap : Nat) (hx : a.eval x = .slice A n cap) (hnc : n ≤ cap) (k : IntKind) (H : Nat) (hh : a.eval h = .int k (H : Int)) (hHn : H ≤ n) (hK : K (a.put o.dst (.slice (subA 1 A 0 cap) H cap)) w) : o.wp P a w K Q :=
  opw_sl t e 1 x none (some h) ho ht hs hx hnc 0 H (SlB.out 0) (.inr ⟨k, by rw [Option.map_some, hh]⟩) (Nat.zero_le _) hHn hK
theorem opw_slL (t e : TypeId) (x l : Operand) (ho : o.op = .slice t x (some l) none none) (ht : P.underlying t = some (.slice e)) (hs : (P.info? e).map (·.size) = some 1)
    (A : Option Addr) (n cap : Nat) (hx : a.eval x = .slice A n cap) (hnc : n ≤ cap) (k : IntKind) (L : Nat) (hl : a.eval l = .int k (L : Int)) (hLn : L ≤ n) (hK : K (a.put o.dst (.slice (subA 1 A L cap) (n - L) (cap - L))) w) : o.wp P a w K Q :=
  opw_sl t e 1 x (some l) none ho ht hs hx hnc L n (.inr ⟨k, by rw [Option.map_some, hl]⟩) (SlB.out n) hLn (Nat.le_refl _) hK
theorem opw_slLH (t e : TypeId) (x l h : Operand) (ho : o.op = .slice t x (some l) (some h) none) (ht : P.underlying t = some (.slice e)) (hs : (P.info? e).map (·.size) = some 1)
    (A : Option Addr) (n cap : Nat) (hx : a.eval x = .slice A n cap) (hnc : n ≤ cap) (k k' : IntKind) (L H : Nat) (hl : a.eval l = .int k (L : Int)) (hh : a.eval h = .int k' (H : Int)) (hLH : L ≤ H) (hHn : H ≤ n)
    (hK : K (a.put o.dst (.slice (subA 1 A L cap) (H - L) (cap - L))) w) : o.wp P a w K Q :=
  opw_sl t e 1 x (some l) (some h) ho ht hs hx hnc L H (.inr ⟨k, by rw [Option.map_some, hl]⟩) (.inr ⟨k', by rw [Option.map_some, hh]⟩) hLH hHn hK
theorem opw_bits (op : BinOp) (t t' : TypeId) (x y : Operand) (k : IntKind) (X Y Z : Int) (hop : op = .and ∨ op = .or ∨ op = .xor) (ho : o.op = .binOp op t x y t') (hx : a.eval x = .int k X) (hy : a.eval y = .int k Y) (hz : bits op k X Y = Z) (hK : K (a.put o.dst (.int k Z)) w) : o.wp P a w K Q := by
  refine opw_run (.int k Z) ?_ hK
  unfold bits at hz
  unfold execOp
  rcases hop with rfl | rfl | rfl
  all_goals (simp only at hz; simp only [ho, hx, hy, eqGuard, binOp, Op.intBits, Sem.run_bind, Sem.run_pure, Result.andThen_ok, Bool.not_false, if_true, ne_eq, not_true_eq_false, if_false, hz])
end
theorem Rd.le {size : Nat} {w : World} {A : Option Addr} {n c : Nat} {xs : List Value} (h : Rd size w (.slice A n c) n xs) : n ≤ c := h.le_cap.1
end Go.Sl
namespace Go.Sl
open Go Go.RowKit
set_option linter.unusedVariables false
set_option linter.unusedSimpArgs false
/-- a variable: made (La), stored to (Ls) -/
def vrow (La Ls : Bool) (v : Value) (old new : Array Value) (t : TypeId) : HProp := if La then ex fun p => sep (pure (v = .pointer (some ⟨p, 0, none⟩))) (blk p (.cells (if Ls then new else old) t (0, 0))) else emp
/-- a literal -/
def vlit (Lb : Bool) (v : Value) (cells : Array Value) (len : Nat) (t : TypeId) : HProp := if Lb then ex fun q => sep (pure (v = .slice (some ⟨q, 0, none⟩) len len)) (blk q (.cells cells t (0, 0))) else emp
section
variable {st : World} {R : HProp} {w : World} {La Ls : Bool} {v : Value} {old new cells : Array Value} {t : TypeId} {len : Nat}
theorem Has.vrow_new (h : Has st (sep (vrow La Ls v old new t) R) w) (hL : La = false) : Has st R w := by
  subst hL
  have : vrow false Ls v old new t = emp := rfl
  rw [this, emp_sep] at h
  exact h
theorem Has.vrow_no (h : Has st R w) : Has st (sep (vrow false Ls v old new t) R) w := by
  have : vrow false Ls v old new t = emp := rfl
  rw [this, emp_sep]
  exact h
theorem Has.vrow_mk {p : Nat} (h : Has st (sep (Sl.blk p (.cells old t (0, 0))) R) w) (hL : Ls = false) : Has st (sep (vrow true Ls (.pointer (some ⟨p, 0, none⟩)) old new t) R) w := by
  subst hL
  exact Has.ofEx (p := fun q => sep (pure (.pointer (some ⟨p, 0, none⟩) = Value.pointer (some ⟨q, 0, none⟩))) (Sl.blk q (.cells old t (0, 0)))) p ((Has.ofPure rfl h).unassoc)
theorem Has.vrow_open (h : Has st (sep (vrow La Ls v old new t) R) w) (hL : La = true) : ∃ p, v = .pointer (some ⟨p, 0, none⟩) ∧ Has st (sep (Sl.blk p (.cells (if Ls then new else old) t (0, 0))) R) w := by
  subst hL
  obtain ⟨p, h1⟩ := Has.exL (p := fun q => sep (pure (v = Value.pointer (some ⟨q, 0, none⟩))) (Sl.blk q (.cells (if Ls then new else old) t (0, 0)))) h
  exact ⟨p, h1.assoc.pureL.1, h1.assoc.pureL.2⟩
theorem Has.vrow_done {p : Nat} (h : Has st (sep (Sl.blk p (.cells new t (0, 0))) R) w) (hv : v = .pointer (some ⟨p, 0, none⟩)) (hL : La = true) : Has st (sep (vrow La true v old new t) R) w := by
  subst hL hv
  exact Has.ofEx (p := fun q => sep (pure (.pointer (some ⟨p, 0, none⟩) = Value.pointer (some ⟨q, 0, none⟩))) (Sl.blk q (.cells new t (0, 0)))) p ((Has.ofPure rfl h).unassoc)
theorem Has.vlit_new (h : Has st (sep (vlit La v cells len t) R) w) (hL : La = false) : Has st R w := by
  subst hL
  have : vlit false v cells len t = emp := rfl
  rw [this, emp_sep] at h
  exact h
theorem Has.vlit_no (h : Has st R w) : Has st (sep (vlit false v cells len t) R) w := by
  have : vlit false v cells len t = emp := rfl
  rw [this, emp_sep]
  exact h
theorem Has.vlit_mk {q : Nat} (h : Has st (sep (Sl.blk q (.cells cells t (0, 0))) R) w) : Has st (sep (vlit true (.slice (some ⟨q, 0, none⟩) len len) cells len t) R) w :=
  Has.ofEx (p := fun p => sep (pure (.slice (some ⟨q, 0, none⟩) len len = Value.slice (some ⟨p, 0, none⟩) len len)) (Sl.blk p (.cells cells t (0, 0)))) q ((Has.ofPure rfl h).unassoc)
theorem Has.vlit_open (h : Has st (sep (vlit La v cells len t) R) w) (hL : La = true) : ∃ q, v = .slice (some ⟨q, 0, none⟩) len len ∧ Has st (sep (Sl.blk q (.cells cells t (0, 0))) R) w := by
  subst hL
  obtain ⟨q, h1⟩ := Has.exL (p := fun p => sep (pure (v = Value.slice (some ⟨p, 0, none⟩) len len)) (Sl.blk p (.cells cells t (0, 0)))) h
  exact ⟨q, h1.assoc.pureL.1, h1.assoc.pureL.2⟩
theorem Has.vlit_rd (h : Has st (sep (vlit La v cells len t) R) w) (hL : La = true) (hn : cells.size = len) (hm : len ≤ maxLen) : Rd 1 w v len cells.toList := by
  obtain ⟨q, rfl, h1⟩ := h.vlit_open hL
  exact ⟨by simpa using hn, _, len, rfl, Nat.le_refl _, hm, .inr ⟨_, rfl, fun j u hu => ⟨rfl, by rw [Nat.zero_add, h1.cell]; simpa using hu⟩⟩⟩
end
theorem RegStep3.noU {P : Program} {Q : Exit → Act → World → Prop} {a : Act} {ops : List Oper} {I : (Nat → Bool) → (Nat → Value) → World → Prop} {i : Nat} {o : Oper} (j : Nat) (c : Bool) (hg : o.guard = some (j, c))
    (h : ∀ (L : Nat → Bool) (u : Nat → Value) (w : World), L i = false → waits o L → Down ops L → I L u w → u j = undef ∧ I (upd L i true) (upd u i undef) w) : RegStep3 P Q a ops I i o := ⟨fun L u w b hL hw hD hU hI hin hout => by
      have := h L u w hL hw hD hI
      rw [if_neg (by unfold gd; rw [hg]; simp only [this.1]; exact Bool.false_ne_true)]
      exact this.2⟩
end Go.Sl
namespace Go.Sl
open Go Go.RowKit
set_option linter.unusedVariables false
set_option linter.unusedSimpArgs false
theorem opw_makeBytes {P : Program} {o : Oper} {a : Act} {w : World} {K : Act → World → Prop} {Q : Exit → Act → World → Prop} {st : World} (t e : TypeId) (x y : Operand) (ho : o.op = .makeSlice t x y) (ht : P.underlying t = some (.slice e)) (hi : (P.info? e).map (fun i => (i.zero, i.size, i.bytes)) = some (some (.int .u8 0), 1, 1))
    (k k' : IntKind) (n : Nat) (hx : a.eval x = .int k (n : Int)) (hy : a.eval y = .int k' (n : Int)) (hn : n ≤ 281474976710656) {R : HProp} (h : Has st R w)
    (hK : ∀ g w', Has st (sep (Sl.blk g (.cells (bcells (List.replicate n 0)).toArray e (0, 0))) R) w' → K (a.put o.dst (.slice (some ⟨g, 0, none⟩) n n)) w') : o.wp P a w K Q := by
  obtain ⟨i, hi0, hz, hs, hb⟩ : ∃ i, P.info? e = some i ∧ i.zero = some (.int .u8 0) ∧ i.size = 1 ∧ i.bytes = 1 := by
    cases hp : P.info? e with
    | none => rw [hp] at hi; cases hi
    | some i => rw [hp] at hi; simp at hi; exact ⟨i, rfl, hi.1, hi.2.1, hi.2.2⟩
  have hr := run_make (P := P) w t e i (.int .u8 0) ht hi0 hz k k' (n : Int) (n : Int) (by omega) (by omega) (by rw [hb]; omega) (by omega)
  have hc : madeCells (Value.int .u8 0).cells ((n : Int).toNat * i.size) = (bcells (List.replicate n 0)).toArray := by
    rw [hs, Int.toNat_natCast, Nat.mul_one]
    apply Array.ext
    · simp [size_madeCells, bcells_length]
    · intro j h1 h2
      simp [madeCells, bcells, bcell, Value.cells, Nat.mod_one]
  rw [hc, Int.toNat_natCast] at hr
  unfold Oper.wp execOp
  simp only [ho, hx, hy, Sem.run_bind, hr, Sem.run_pure, Result.andThen_ok, Oper.upon_value]
  exact hK _ _ (h.alloc _)
end Go.Sl

/-
  Rows of elements of several cells: an element is loaded, deleted (append over itself), cleared. No program in sight.
-/
namespace Go.Sl
open Go Go.RowKit
set_option linter.unusedVariables false
set_option linter.unusedSimpArgs false
variable {P : Program} {ops : Array Oper} {o : Oper} {a : Act} {K : Act → World → Prop} {Q : Exit → Act → World → Prop} {w : World} {st : World}

/-- a row is cut to its first m elements -/
theorem Has.row_cut {e : TypeId} {size g n cap : Nat} {xs : List Value} {R : HProp} (h : Has st (sep (row e size (.slice (some ⟨g, 0, none⟩) n cap) n xs) R) w) (m : Nat) (hm : m ≤ n) :
    Has st (sep (row e size (.slice (some ⟨g, 0, none⟩) m cap) m (xs.take (m * size))) R) w := by
  obtain ⟨cur, h1, h2, h3, h4, h5⟩ := h.row_open
  refine h5.row_of_blk size m cap (by omega) h2 h3 ?_
  rw [← h4, List.take_take, Nat.min_eq_left (Nat.mul_le_mul_right _ hm)]
/-- the cells of a row -/
theorem Has.row_cell {e : TypeId} {size g n cap : Nat} {xs : List Value} {R : HProp} (h : Has st (sep (row e size (.slice (some ⟨g, 0, none⟩) n cap) n xs) R) w) {j : Nat} {u : Value} (hj : xs[j]? = some u) :
    w.cell? ⟨g, j, none⟩ = some u := by
  have := h.ownsRow.cells (g := g) rfl j u hj
  rwa [addr_add, Nat.zero_add] at this

theorem Has.row_at33 {e : TypeId} {size : Nat} {A : Option Addr} {n cap : Nat} {xs : List Value} {R : HProp} {i : Nat} (h : Has st (sep (row e size (.slice A n cap) n xs) R) w) (hn : i < n) : ∃ g, A = some ⟨g, 0, none⟩ := by
  rcases h.ownsRow.2 with ⟨_, e⟩ | ⟨g, cap', cur, e, _⟩
  · omega
  · injection e with e1; exact ⟨g, e1⟩
theorem wpr_delete (s x : Operand) (t e : TypeId) (size : Nat) (ho : o.op = .call { callee := .builtin .append, args := #[s, x], argTypes := #[t, t] })
    (ht : P.underlying t = some (.slice e)) (hsz : (P.info? e).map (·.size) = some size) {g n cap i j : Nat} {xs : List Value} {R : HProp} (hij : i ≤ j) (hjn : j ≤ n)
    (hs : a.eval s = .slice (some ⟨g, 0, none⟩) i cap) {ad : Addr} (c : Nat) (hx : a.eval x = .slice (some ad) (n - j) c) (had : j < n → ad = ⟨g, j * size, none⟩)
    (h : Has st (sep (row e size (.slice (some ⟨g, 0, none⟩) n cap) n xs) R) w) (h1 : ∀ u ∈ xs, u.oneCell' = true)
    (hK : ∀ w' ys, ys.length = n * size → ys.take ((i + (n - j)) * size) = xs.take (i * size) ++ xs.drop (j * size) → Has st (sep (row e size (.slice (some ⟨g, 0, none⟩) n cap) n ys) R) w' → K (a.put o.dst (.slice (some ⟨g, 0, none⟩) (i + (n - j)) cap)) w') :
    o.wp P a w K Q := by
  obtain ⟨ti, hi0, rfl⟩ : ∃ i, P.info? e = some i ∧ i.size = size := by
    cases hp : P.info? e with
    | none => rw [hp] at hsz; cases hsz
    | some i => rw [hp] at hsz; simp at hsz; exact ⟨i, rfl, hsz⟩
  have hxl : xs.length = n * ti.size := h.ownsRow.1
  obtain ⟨cur, h2, h3, h4, h5, h6⟩ := h.row_open
  obtain ⟨news, hnews⟩ : ∃ news, news = xs.drop (j * ti.size) := ⟨_, rfl⟩
  have hnl : news.length = (n - j) * ti.size := by rw [hnews, List.length_drop, hxl, Nat.sub_mul]
  have hle1 : i * ti.size ≤ j * ti.size := Nat.mul_le_mul_right _ hij
  have hle2 : j * ti.size ≤ n * ti.size := Nat.mul_le_mul_right _ hjn
  have hle3 : n * ti.size ≤ cap * ti.size := Nat.mul_le_mul_right _ h2
  have hnl' : news.length = n * ti.size - j * ti.size := by rw [hnl, Nat.sub_mul]
  have hcell : ∀ t u, news[t]? = some u → w.cell? (ad.add t) = some u := by
    intro t u hu
    have hjn' : j < n := by
      have := (List.getElem?_eq_some_iff.1 hu).1
      rw [hnl'] at this
      rcases Nat.lt_or_ge j n with h' | h'
      · exact h'
      · have : j = n := by omega
        subst this; omega
    rw [had hjn', addr_add]
    rw [hnews, List.getElem?_drop] at hu
    exact h.row_cell hu
  have hrun := run_append_room (P := P) (w := w) t o.type e ti ht hi0 g i cap cur h6.blk ad (n - j) c news hnl hcell (fun u hu => h1 u (by rw [hnews] at hu; exact List.mem_of_mem_drop hu)) (by omega) (by rw [h4]; omega)
  have hcl : cur.toList.length = cap * ti.size := by rw [Array.length_toList, h4]
  have hct : cur.toList.take (i * ti.size) = xs.take (i * ti.size) := by rw [← h5, List.take_take, Nat.min_eq_left (by omega)]
  have hsp : (i + (n - j)) * ti.size = i * ti.size + news.length := by rw [Nat.add_mul, hnl]
  have h7 := h6.setRow (cur.toList.take (i * ti.size) ++ news ++ cur.toList.drop (i * ti.size + news.length)).toArray
  have h8 := h7.row_of_blk ti.size n cap h2 h3 (by simp; omega) (xs := (cur.toList.take (i * ti.size) ++ news ++ cur.toList.drop (i * ti.size + news.length)).take (n * ti.size)) rfl
  obtain ⟨W1, hW1⟩ : ∃ W1, W1 = w.setRow g (cur.toList.take (i * ti.size) ++ news ++ cur.toList.drop (i * ti.size + news.length)).toArray := ⟨_, rfl⟩
  rw [← hW1] at hrun h8
  unfold Oper.wp
  simp [execOp, ho, resolve, invoke, builtin, hs, hx, hrun, Result.andThen]
  refine hK _ _ ?_ ?_ h8
  · simp only [List.length_take, List.length_append, List.length_drop]; omega
  · rw [List.take_take, Nat.min_eq_left (by rw [hsp]; omega), hsp, List.take_append_of_le_length (by simp only [List.length_append, List.length_take]; omega), List.take_of_length_le (by simp only [List.length_append, List.length_take]; omega), hct, hnews]
theorem step_delete {E : Prop} (hg : o.guard = none) (s x : Operand) (t e : TypeId) (size : Nat) (ho : o.op = .call { callee := .builtin .append, args := #[s, x], argTypes := #[t, t] })
    (ht : P.underlying t = some (.slice e)) (hsz : (P.info? e).map (·.size) = some size) {g n cap i j : Nat} {xs : List Value} {R : HProp} (M : Nat) (hM : i + (n - j) = M) (hij : i ≤ j) (hjn : j ≤ n)
    (hs : a.eval s = .slice (some ⟨g, 0, none⟩) i cap) {ad : Addr} (c : Nat) (hx : a.eval x = .slice (some ad) (n - j) c) (had : j < n → ad = ⟨g, j * size, none⟩)
    (h : Has st (sep (row e size (.slice (some ⟨g, 0, none⟩) n cap) n xs) R) w) (h1 : ∀ u ∈ xs, u.oneCell' = true)
    (hK : ∀ w' ys, ys.length = n * size → ys.take (M * size) = xs.take (i * size) ++ xs.drop (j * size) → Has st (sep (row e size (.slice (some ⟨g, 0, none⟩) n cap) n ys) R) w' → K (a.put o.dst (.slice (some ⟨g, 0, none⟩) M cap)) w') :
    if Region.wanted o (yielded ops a.tmps) = true then Oper.wp P o a w K Q else E := by
  subst hM
  have hw : Region.wanted o (yielded ops a.tmps) = true := by simp [Region.wanted, hg]
  rw [if_pos hw]
  exact wpr_delete s x t e size ho ht hsz hij hjn hs c hx had h h1 hK

theorem zeroCells_one {z : Array Value} {n : Nat} (hz : ∀ v ∈ z.toList, v.oneCell' = true) : ∀ v ∈ (Builtin.zeroCells z n).toList, v.oneCell' = true := by
  intro v hv
  rw [Builtin.zeroCells, Array.toList_map, List.mem_map] at hv
  obtain ⟨k, hk, rfl⟩ := hv
  simp at hk
  have hpos : 0 < z.size := Nat.pos_of_ne_zero fun e => by rw [e] at hk; simp at hk
  have := Nat.mod_lt k hpos
  simp only [getElem!_pos, this]
  exact hz _ (by simp)
/-- clear, of elements k .. k + m of a row of one's own -/
theorem opw_clear (x : Operand) (t e : TypeId) (size : Nat) (z : Value) (ho : o.op = .call { callee := .builtin .clear, args := #[x], argTypes := #[t] })
    (ht : P.underlying t = some (.slice e)) (hv : ∀ w, (zeroValue e).run P w = .ok z w) (hzs : z.cells.size = size) (hz1 : ∀ v ∈ z.cells.toList, v.oneCell' = true)
    {g n cap k m : Nat} {xs : List Value} {R : HProp} {A : Option Addr} (c : Nat) (hx : a.eval x = .slice A m c) (hA : 0 < m → A = some ⟨g, k * size, none⟩) (hkm : k + m ≤ n)
    (h : Has st (sep (row e size (.slice (some ⟨g, 0, none⟩) n cap) n xs) R) w)
    (hK : ∀ w' ys, ys.length = n * size → ys.take (k * size) = xs.take (k * size) → Has st (sep (row e size (.slice (some ⟨g, 0, none⟩) n cap) n ys) R) w' → K (a.put o.dst (.tuple #[])) w') :
    o.wp P a w K Q := by
  have hxl : xs.length = n * size := h.ownsRow.1
  cases m with
  | zero =>
    unfold Oper.wp
    cases A <;> simp [execOp, ho, resolve, invoke, builtin, hx, Result.andThen, Builtin.clear_, run_underlying ht] <;> exact hK _ _ hxl rfl h
  | succ m =>
    obtain ⟨cur, h2, h3, h4, h5, h6⟩ := h.row_open
    have hzc : (Builtin.zeroCells z.cells (m + 1)).toList.length = (m + 1) * size := by rw [Array.length_toList, size_zeroCells, hzs]
    have hfit : (k + (m + 1)) * size ≤ n * size := Nat.mul_le_mul_right _ hkm
    have hle3 : n * size ≤ cap * size := Nat.mul_le_mul_right _ h2
    rw [Nat.add_mul] at hfit
    have hst := run_storeCells_at (P := P) g (k * size) e (Builtin.zeroCells z.cells (m + 1)).toList 0 cur w h6.blk (by rw [hzc, h4]; omega) (zeroCells_one hz1)
    simp only [Nat.add_zero] at hst
    have hcl : cur.toList.length = cap * size := by rw [Array.length_toList, h4]
    have h7 := h6.setRow (cur.toList.take (k * size) ++ (Builtin.zeroCells z.cells (m + 1)).toList ++ cur.toList.drop (k * size + (Builtin.zeroCells z.cells (m + 1)).toList.length)).toArray
    have h8 := h7.row_of_blk size n cap h2 h3 (by simp only [List.size_toArray, List.length_append, List.length_take, List.length_drop, hzc]; omega) (xs := (cur.toList.take (k * size) ++ (Builtin.zeroCells z.cells (m + 1)).toList ++ cur.toList.drop (k * size + (Builtin.zeroCells z.cells (m + 1)).toList.length)).take (n * size)) rfl
    obtain rfl := hA (by omega)
    obtain ⟨W1, hW1⟩ : ∃ W1, W1 = w.setRow g (cur.toList.take (k * size) ++ (Builtin.zeroCells z.cells (m + 1)).toList ++ cur.toList.drop (k * size + (Builtin.zeroCells z.cells (m + 1)).toList.length)).toArray := ⟨_, rfl⟩
    rw [← hW1] at hst h8
    unfold Oper.wp
    simp [execOp, ho, resolve, invoke, builtin, hx, Result.andThen, Builtin.clear_, run_underlying ht, hv, hst]
    refine hK _ _ ?_ ?_ h8
    · simp only [List.length_take, List.length_append, List.length_drop]; rw [hzc]; omega
    · rw [List.take_take, Nat.min_eq_left (by omega), List.append_assoc, List.take_append_of_le_length (by rw [List.length_take]; omega), List.take_take, Nat.min_self, ← h5, List.take_take, Nat.min_eq_left (by omega)]
/-- a slice's element is addressed, whatever its size -/
theorem opw_indexN (T e : TypeId) (size : Nat) (x ix : Operand) (ho : o.op = .indexAddr T x ix) (hu : P.underlying T = some (.slice e)) (hsz : (P.info? e).map (·.size) = some size) (g off n c j : Nat) (hx : a.eval x = .slice (some ⟨g, off, none⟩) n c)
    (k : IntKind) (hix : a.eval ix = .int k (j : Int)) (hj : j < n) (hK : K (a.put o.dst (.pointer (some ⟨g, off + j * size, none⟩))) w) : o.wp P a w K Q := by
  refine opw_run (.pointer (some ⟨g, off + j * size, none⟩)) ?_ hK
  obtain ⟨i, hi0, hi1⟩ : ∃ i, P.info? e = some i ∧ i.size = size := by
    cases hp : P.info? e with
    | none => rw [hp] at hsz; cases hsz
    | some i => rw [hp] at hsz; simp at hsz; exact ⟨i, rfl, hsz⟩
  have hj1 : (0 : Int) ≤ j := by omega
  have hj2 : (j : Int) < n := by omega
  unfold execOp
  simp only [ho, hx, hix, Instr.indexAt, Instr.sureAddr, asIntOf, Sem.run_bind, Sem.run_pure, Result.andThen_ok, run_underlying hu]
  simp [sizeOf, typeInfo, hi0, hi1, go_sem, hj, addr_add]
/-- a slice is sliced up to its capacity -/
theorem opw_slC (t e : TypeId) (size : Nat) (x : Operand) (lo hi : Option Operand) (ho : o.op = .slice t x lo hi none) (ht : P.underlying t = some (.slice e)) (hs : (P.info? e).map (·.size) = some size)
    {A : Option Addr} {n cap : Nat} (hx : a.eval x = .slice A n cap) (hnc : n ≤ cap) (L H : Nat) (hlo : SlB (lo.map a.eval) 0 L) (hhi : SlB (hi.map a.eval) n H) (hLH : L ≤ H) (hHn : H ≤ cap)
    (hK : K (a.put o.dst (.slice (subA size A L cap) (H - L) (cap - L))) w) : o.wp P a w K Q := by
  refine opw_run (.slice (subA size A L cap) (H - L) (cap - L)) ?_ hK
  have hrun := run_sliceAt_any (P := P) w t e size ht hs A n cap (lo.map a.eval) (hi.map a.eval) none hlo hhi (SlB.out cap) (fun h => absurd rfl h) hLH (by omega) (Nat.le_refl _) hnc
  unfold execOp
  simp only [ho, hx, Option.map_none, Sem.run_bind, hrun, Result.andThen_ok, Sem.run_pure]
  rfl
end Go.Sl

/-
  Stages of a piece within a region that draws its order; literals of elements of several cells. No program in sight.
-/
namespace Go.Sl
open Go Go.RowKit
set_option linter.unusedVariables false
set_option linter.unusedSimpArgs false

/-- a piece: P once b is done, else Q -/
def stg (b : Bool) (P Q : HProp) : HProp := if b then P else Q
section
variable {st : World} {R P Q : HProp} {w : World} {b : Bool}
theorem Has.stg_no (h : Has st (sep (stg b P Q) R) w) (hb : b = false) : Has st (sep Q R) w := by subst hb; exact h
theorem Has.stg_yes (h : Has st (sep (stg b P Q) R) w) (hb : b = true) : Has st (sep P R) w := by subst hb; exact h
theorem Has.stg_mk (h : Has st (sep P R) w) : Has st (sep (stg true P Q) R) w := h
theorem Has.stg_start (h : Has st (sep Q R) w) : Has st (sep (stg false P Q) R) w := h
theorem Has.stg_false (h : Has st (sep Q R) w) (hb : b = false) : Has st (sep (stg b P Q) R) w := by subst hb; exact h
theorem stg_eq (hb : b = false) (P P' : HProp) {Q : HProp} : stg b P Q = stg b P' Q := by subst hb; rfl
theorem stg_true (P Q : HProp) : stg true P Q = P := rfl
theorem stg_no (P Q : HProp) : stg false P Q = Q := rfl
theorem stg_off (hb : b = false) (P Q : HProp) : stg b P Q = Q := by subst hb; rfl
theorem stg_on (hb : b = true) (P Q : HProp) : stg b P Q = P := by subst hb; rfl
theorem Has.noEmp (h : Has st (sep emp R) w) : Has st R w := h.right
theorem row_one {E : TypeId} {size : Nat} {v : Value} {n : Nat} {xs : List Value} (h : Has st (sep (row E size v n xs) R) w) : v.oneCell' = true := by
  obtain ⟨A, c, rfl⟩ := h.row_slice; rfl
end
theorem Down.yes {ops : List Oper} {L : Nat → Bool} (h : Down ops L) (f j k : Nat) (hj : L j = true) (hn : needs ops f j k = true) : L k = true := by
  cases hk : L k with
  | true => rfl
  | false => rw [h.nots f j k hk hn] at hj; cases hj
theorem waits.far {ops : List Oper} {L : Nat → Bool} {i : Nat} {o : Oper} (hW : waits o L) (hD : Down ops L) (ho : ops[i]? = some o) (f k : Nat) (hn : needs ops (f + 1) i k = true) : L k = true := by
  unfold needs at hn
  rw [ho] at hn
  simp only [List.any_eq_true, Bool.or_eq_true, beq_iff_eq] at hn
  obtain ⟨e, he, hj⟩ := hn
  have hLe := hW e he
  rcases hj with hj | hj
  · rwa [hj] at hLe
  · exact hD.yes f e.on k hLe hj

theorem fold_set (off : Nat) : ∀ (l : List Value) (k : Nat) (cs : Array Value), off + k + l.length ≤ cs.size →
    (l.zipIdx k).foldl (fun (cs : Array Value) (p : Value × Nat) => cs.setIfInBounds (off + p.2) p.1) cs = (cs.toList.take (off + k) ++ l ++ cs.toList.drop (off + k + l.length)).toArray
  | [], k, cs, _ => by simp
  | x :: l, k, cs, h => by
    simp only [List.length_cons] at h
    rw [List.zipIdx_cons, List.foldl_cons, fold_set off l (k + 1) _ (by rw [Array.size_setIfInBounds]; omega)]
    simp only [Array.toList_setIfInBounds, List.length_cons]
    have hl : off + k < cs.toList.length := by rw [Array.length_toList]; omega
    congr 1
    rw [show off + (k + 1) = off + k + 1 by omega, List.take_succ_eq_append_getElem (by rw [List.length_set]; exact hl), List.take_set_of_le (Nat.le_refl _), List.getElem_set_self, List.drop_set_of_lt (by omega), show off + k + 1 + l.length = off + k + (l.length + 1) by omega]
    simp
theorem fill_cons (place : Nat → Option (Nat × Nat)) (cells : Array Value) (i off size : Nat) (v : Value) (rest : List (Nat × Value)) (hp : place i = some (off, size)) (hv : v.cells.size = size) (hc : off + size ≤ cells.size) :
    Instr.fill place cells ((i, v) :: rest) = Instr.fill place (cells.toList.take off ++ v.cells.toList ++ cells.toList.drop (off + size)).toArray rest := by
  rw [Instr.fill, hp]
  simp only [hv, ne_eq, not_true_eq_false, false_or]
  rw [if_neg (by simp; omega)]
  congr 1
  have := fold_set off v.cells.toList 0 cells (by simp [hv]; omega)
  simp only [Nat.add_zero, Array.length_toList, hv] at this
  rw [← this, ← Array.foldl_toList, Array.toList_zipIdx]
section
variable {P : Program} {o : Oper} {a : Act} {w : World} {K : Act → World → Prop} {Q : Exit → Act → World → Prop} {st : World}
/-- an empty literal, as a row of one's own -/
theorem opw_row0 (t E : TypeId) (size : Nat) (ho : o.op = .buildSlice t 0 #[]) (ht : P.underlying t = some (.slice E)) (hs : (P.info? E).map (·.size) = some size) {R : HProp} (h : Has st R w)
    (hK : ∀ v w', Has st (sep (row E size v 0 []) R) w' → K (a.put o.dst v) w') : o.wp P a w K Q := by
  obtain ⟨i, hi0, hi1⟩ : ∃ i, P.info? E = some i ∧ i.size = size := by
    cases hp : P.info? E with
    | none => rw [hp] at hs; cases hs
    | some i => rw [hp] at hs; simp at hs; exact ⟨i, rfl, hs⟩
  have := hK (.slice (some ⟨w.heap.size, 0, none⟩) 0 0) _ (h.row_empty E size)
  unfold Oper.wp execOp
  simp [ho, Instr.buildSlice, Sem.run_bind, run_underlying ht, sizeOf, typeInfo, hi0, go_sem, Result.andThen, newVar, Instr.fill]
  exact this
/-- a literal of one element, as a row of one's own -/
theorem opw_row1 (t E : TypeId) (size : Nat) (z : Value) (x : Operand) (val : Value) (xs : List Value) (ho : o.op = .buildSlice t 1 #[(0, x)]) (ht : P.underlying t = some (.slice E)) (hi : (P.info? E).map (fun i => (i.zero, i.size)) = some (some z, size))
    (hz : z.cells.size = size) (h0 : 0 < size) (hsm : size ≤ 1000) (hx : a.eval x = val) (hv : val.cells = xs.toArray) (hl : xs.length = size) {R : HProp} (h : Has st R w)
    (hK : ∀ v w', Has st (sep (row E size v 1 xs) R) w' → K (a.put o.dst v) w') : o.wp P a w K Q := by
  obtain ⟨i, hi0, hi1, hi2⟩ : ∃ i, P.info? E = some i ∧ i.zero = some z ∧ i.size = size := by
    cases hp : P.info? E with
    | none => rw [hp] at hi; cases hi
    | some i => rw [hp] at hi; simp at hi; exact ⟨i, rfl, hi⟩
  refine opw_lit t 1 [(0, x)] [(0, val)] E xs.toArray ho (by simp [hx]) ?_ h (fun q w' h' => hK _ w' (h'.row_of_blk size 1 1 (Nat.le_refl _) (by decide) (by simp [hl]) (by simp [hl, List.take_of_length_le])))
  unfold litCells
  simp only [ht, hi0, hi1, hi2, Nat.one_mul]
  rw [if_neg (by omega), if_neg (by omega), fill_cons _ _ 0 0 size val [] (by simp) (by rw [hv]; simp [hl]) (by simp)]
  simp [Instr.fill, hv]
end
/-- where a struct's fields lie, and its zero value -/
def layout (P : Program) (t : TypeId) : Option (List (Nat × Nat) × Array Value) :=
  match P.info? t, P.underlying t with
  | some it, some (.struct fields) =>
    match it.zero, fields.toList.mapM (fun f => (P.info? f.type).map fun i => (f.offset, i.size)) with
    | some z, some places => some (places, z.cells)
    | _, _ => none
  | _, _ => none
theorem built_of {P : Program} {t : TypeId} {pl : List (Nat × Nat)} {z : Array Value} (h : layout P t = some (pl, z)) (parts : List (Nat × Value)) : P.built t parts = Instr.fill (pl.toArray[·]?) z parts := by
  unfold layout at h
  unfold Program.built
  cases hi : P.info? t with
  | none => simp [hi] at h
  | some it =>
    cases hu : P.underlying t with
    | none => simp [hi, hu] at h
    | some d =>
      cases d <;> simp only [hi, hu] at h ⊢ <;> try (cases h; done)
      split at h
      · rename_i z' pl' h1 h2
        injection h with h
        injection h with h3 h4
        subst h3 h4
        simp only [h1, h2]
      · cases h
end Go.Sl

/-
  Within a fence: an operation that calls nothing is carried out as everywhere; pieces of memory while a loop over a function is under way. No program in sight.
-/
namespace Go.Sl
open Go Go.RowKit
set_option linter.unusedVariables false
set_option linter.unusedSimpArgs false
variable {P : Program} {o : Oper} {a : Act} {w : World} {K : Act → World → Prop} {Q : Exit → Act → World → Prop}

def quietOp : Op → Bool
  | .alloc _ | .box _ _ | .load _ _ | .store _ _ _ | .buildSlice _ _ _ | .build _ _ | .fieldAddr _ _ _ | .indexAddr _ _ _ | .binOp _ _ _ _ _ => true
  | _ => false
theorem wpIn_of_wp (F : Fence) (n : Nat) (hq : quietOp o.op = true) (h : o.wp P a w K Q) : o.wpIn F n P a w K Q := by
  have hab : o.about P w a.eval = none := by
    unfold Oper.about
    cases ho : o.op <;> simp_all [quietOp]
  have hsm : o.semAt F.round a.eval = execOp a.eval o := Oper.semAt_plain F _ _ (by intro c e; rw [e] at hq; cases hq)
  refine ⟨(by rw [hab]; intro f e; cases e), ?_⟩
  rw [hsm]
  unfold Oper.wp at h
  have hr : (∃ v w', (execOp a.eval o).run P w = .ok (.value v) w') ∨ (∃ w', (execOp a.eval o).run P w = .ok .skip w') ∨ ∃ x w', (execOp a.eval o).run P w = .halt x w' := by
    have hv : ∀ s : Sem Value, (∃ v w', (s >>= fun v => Pure.pure (Next.value v) : Sem Next).run P w = .ok (.value v) w') ∨ (∃ w', (s >>= fun v => Pure.pure (Next.value v) : Sem Next).run P w = .ok .skip w') ∨ ∃ x w', (s >>= fun v => Pure.pure (Next.value v) : Sem Next).run P w = .halt x w' := by
      intro s
      simp only [Sem.run_bind, Sem.run_pure]
      cases s.run P w with
      | ok v w' => exact .inl ⟨v, w', rfl⟩
      | halt x w' => exact .inr (.inr ⟨x, w', rfl⟩)
    have hu : ∀ s : Sem Unit, (∃ v w', (s >>= fun _ => Pure.pure Next.skip : Sem Next).run P w = .ok (.value v) w') ∨ (∃ w', (s >>= fun _ => Pure.pure Next.skip : Sem Next).run P w = .ok .skip w') ∨ ∃ x w', (s >>= fun _ => Pure.pure Next.skip : Sem Next).run P w = .halt x w' := by
      intro s
      simp only [Sem.run_bind, Sem.run_pure]
      cases s.run P w with
      | ok v w' => exact .inr (.inl ⟨w', rfl⟩)
      | halt x w' => exact .inr (.inr ⟨x, w', rfl⟩)
    unfold execOp
    cases ho : o.op <;> rw [ho] at hq <;> first | exact hv _ | exact hu _ | (cases hq; done)
  rcases hr with ⟨v, w', e⟩ | ⟨w', e⟩ | ⟨x, w', e⟩ <;> rw [e] at h ⊢
  · exact h
  · exact h
  · cases x <;> exact h
theorem wpIn_of_append (F : Fence) (n : Nat) {s x : Operand} {t : TypeId} (ho : o.op = .call { callee := .builtin .append, args := #[s, x], argTypes := #[t, t] }) (h : o.wp P a w K Q) : o.wpIn F n P a w K Q := by
  have hsm : o.semAt F.round a.eval = execOp a.eval o := Oper.semAt_plain F _ _ (by rw [ho]; intro c e; cases e)
  refine ⟨by simp [Oper.about, ho, resolve, Target.leads, Sem.run_pure], ?_⟩
  rw [hsm]
  unfold Oper.wp execOp at h
  unfold execOp
  simp only [ho, resolve, invoke, builtin, Sem.run_bind, Sem.run_pure, Result.andThen_ok] at h ⊢
  revert h
  generalize Sem.run P _ w = r
  intro h
  cases r with
  | ok v w' => exact h
  | halt x w' => cases x <;> exact h

theorem opw_allocC (t : TypeId) (z : Value) (cells : Array Value) (ho : o.op = .alloc t) (hi : (P.info? t).map (·.zero) = some (some z)) (hc : z.cells = cells)
    (hK : K (a.put o.dst (.pointer (some ⟨w.heap.size, 0, none⟩))) (w.alloc (.cells cells t))) : o.wp P a w K Q := by
  subst hc
  obtain ⟨i, hi0, hi1⟩ : ∃ i, P.info? t = some i ∧ i.zero = some z := by
    cases hp : P.info? t with
    | none => rw [hp] at hi; cases hi
    | some i => rw [hp] at hi; simp at hi; exact ⟨i, rfl, hi⟩
  have hr : (Instr.alloc t true (.tuple #[])).run P w = .ok (.pointer (some ⟨w.heap.size, 0, none⟩)) (w.alloc (.cells z.cells t)) := by
    simp [Instr.alloc, zeroValue, typeInfo, hi0, hi1, newVar, Sem.run_bind, go_sem]
  unfold Oper.wp execOp
  simp only [ho, Sem.run_bind, hr, Sem.run_pure, Result.andThen_ok, Oper.upon_value]
  exact hK
theorem op_appendG (s x : Operand) (t e : TypeId) (size bytes : Nat) (z : Value)
    (ho : o.op = .call { callee := .builtin .append, args := #[s, x], argTypes := #[t, t] })
    (ht : P.underlying t = some (.slice e)) (hi : (P.info? e).map (fun i => (i.zero, i.size, i.bytes)) = some (some z, size, bytes)) (hzs : z.cells.size = size) (hsz : 0 < size)
    {v vx : Value} {n m : Nat} {xs news : List Value} {st : World} {R : HProp} (hs : a.eval s = v) (hx : a.eval x = vx) (h : Has st (sep (row e size v n xs) R) w) (hr : Rd size w vx m news)
    (h1 : ∀ u ∈ news, u.oneCell' = true) (hb1 : n + m ≤ maxLen) (hb2 : (n + m) * bytes ≤ 140737488355328)
    (hK : ∀ A c w', Has st (sep (row e size (.slice A (n + m) c) (n + m) (xs ++ news)) R) w' → w.grownBy w' v.ownBlock → K (a.put o.dst (.slice A (n + m) c)) w') : o.wp P a w K Q := by
  obtain ⟨i, hi0, hi1⟩ : ∃ i, P.info? e = some i ∧ (i.zero = some z ∧ i.size = size ∧ i.bytes = bytes) := by
    cases hp : P.info? e with
    | none => rw [hp] at hi; cases hi
    | some i => rw [hp] at hi; simp at hi; exact ⟨i, rfl, hi⟩
  obtain ⟨hz, hsize, hby⟩ := hi1
  obtain ⟨hl, ad, cap, rfl, hmc, _, hnone | ⟨ad, rfl, hc⟩⟩ := hr
  · obtain ⟨rfl, rfl⟩ := hnone
    obtain rfl : m = 0 := by omega
    have : news = [] := List.eq_nil_of_length_eq_zero (by simpa using hl)
    subst this
    have hrun := run_append_owned_none (P := P) (w := w) 0 t o.type e i size ht hi0 v n xs h.ownsRow
    obtain ⟨A, c, rfl⟩ := h.row_slice
    unfold Oper.wp execOp
    simp only [ho, resolve, invoke, builtin, Sem.run_bind, Sem.run_pure, Result.andThen_ok, List.map_toArray, List.map_cons, List.map_nil, hs, hx, hrun]
    have := hK A c w (by simpa using h) ⟨rfl, rfl, rfl, Nat.le_refl _, fun _ _ _ => rfl⟩
    rw [Oper.upon_value]
    simpa using this
  · obtain ⟨v', w', hrun, ho', hg, hn, hb⟩ := run_append_at (P := P) w t o.type e i z size bytes ht hi0 hz hsize hby hzs hsz v n xs h.ownsRow ad m cap news hl (fun j u hu => by obtain ⟨b, off, sp⟩ := ad; obtain ⟨h2, h3⟩ := hc j u hu; simp only at h2; subst h2; rw [addr_add]; exact h3) h1 hb1 hb2
    unfold Oper.wp execOp
    simp only [ho, resolve, invoke, builtin, Sem.run_bind, Sem.run_pure, Result.andThen_ok, List.map_toArray, List.map_cons, List.map_nil, hs, hx, hrun]
    obtain ⟨A, c, rfl⟩ := ownsRow_slice ho'
    refine hK A c w' (h.row_step hg ho' ?_) hg
    intro k hk
    rcases hb with hb | hb
    · exact .inl (hb ▸ hk)
    · rw [hb] at hk; injection hk with hk; exact .inr (by omega)

theorem opw_store1C {st : World} (t : TypeId) (x y : Operand) (ho : o.op = .store t x y) (hi : (P.info? t).map (·.size) = some 1) (g j : Nat) (v : Value) (hx : a.eval x = .pointer (some ⟨g, j, none⟩)) (hy : a.eval y = v) (hv : v.oneCell' = true)
    {R : HProp} {c : Array Value} {T : TypeId} (h : Has st (sep (Sl.blk g (.cells c T (0, 0))) R) w) (hj : j < c.size)
    (hK : K (a.put o.dst undef) (w.setCell ⟨g, j, none⟩ v)) : o.wp P a w K Q := by
  unfold Oper.wp execOp
  simp only [ho, hx, hy, Instr.storeAt, Instr.sureAddr, Sem.run_bind, Sem.run_pure, Result.andThen_ok, run_storeVar1 t g j v hv hi h hj, Oper.upon_skip]
  exact hK
theorem opw_row1C (t E : TypeId) (size : Nat) (z : Value) (x : Operand) (val : Value) (xs : List Value) (ho : o.op = .buildSlice t 1 #[(0, x)]) (ht : P.underlying t = some (.slice E)) (hi : (P.info? E).map (fun i => (i.zero, i.size)) = some (some z, size))
    (hz : z.cells.size = size) (h0 : 0 < size) (hsm : size ≤ 1000) (hx : a.eval x = val) (hv : val.cells = xs.toArray) (hl : xs.length = size)
    (hK : K (a.put o.dst (.slice (some ⟨w.heap.size, 0, none⟩) 1 1)) (w.alloc (.cells xs.toArray E))) : o.wp P a w K Q := by
  obtain ⟨i, hi0, hi1, hi2⟩ : ∃ i, P.info? E = some i ∧ i.zero = some z ∧ i.size = size := by
    cases hp : P.info? E with
    | none => rw [hp] at hi; cases hi
    | some i => rw [hp] at hi; simp at hi; exact ⟨i, rfl, hi⟩
  refine wp_buildSlice t E 1 #[(0, x)] ho xs.toArray i z ht hi0 hi1 (by rw [hi2]; omega) (by rw [hi2]; omega) ?_ hK
  have e : ((#[(0, x)] : Array (Nat × Operand)).map fun (i, x) => (i, a.eval x)).toList = [(0, val)] := by simp [hx]
  rw [e, hi2, fill_cons _ _ 0 0 size val [] (by simp) (by rw [hv]; simp [hl]) (by simp)]
  simp [Instr.fill, hv]
/-- what lies beside all that lay in w lies behind it -/
theorem new_of_old {w W : World} {p R : HProp} {x : Nat} {o : Obj} (h : Has w (sep (Sl.blk x o) (sep R (old w))) W) : w.heap.size ≤ x := by
  obtain ⟨_, _, _, _, ⟨a, b, ha, ⟨c, d, hc, hd, hcd, rfl⟩, hab, rfl⟩, _⟩ := h
  have ha' : a = _ := ha
  have hd' : d = _ := hd
  subst ha' hd'
  rcases Nat.lt_or_ge x w.heap.size with hlt | hge
  · exfalso
    rcases hab x with g | g
    · simp at g
    · have g' : (c x).or (w.heap[x]?) = none := g
      rw [Array.getElem?_eq_getElem hlt] at g'
      cases hcx : c x <;> simp [hcx] at g'
  · exact hge
theorem row_new {w W : World} {R : HProp} {e : TypeId} {size : Nat} {v : Value} {n : Nat} {xs : List Value} (h : Has w (sep (row e size v n xs) (sep R (old w))) W) : ∀ g, v.ownBlock = some g → w.heap.size ≤ g ∧ ∃ o : Obj, W.heap[g]? = some o ∧ o.isCells = true := by
  intro g hg
  obtain ⟨A, c, rfl⟩ := h.row_slice
  cases A with
  | none => simp [Value.ownBlock] at hg
  | some ad =>
    obtain ⟨g', e1⟩ : ∃ g', ad = ⟨g', 0, none⟩ := by
      rcases h.ownsRow.2 with ⟨e, _⟩ | ⟨g', _, _, e, _⟩
      · cases e
      · injection e with e; injection e with e; exact ⟨g', e⟩
    subst e1
    simp [Value.ownBlock] at hg
    subst hg
    obtain ⟨cur, _, _, _, _, h2⟩ := h.row_open
    exact ⟨new_of_old (p := emp) h2, _, h2.blk, rfl⟩
/-- with all that lay as the rest, to a part of it -/
theorem Has.of_old {st w W : World} {X R : HProp} (h : Has w (sep X (old w)) W) (h0 : Has st R w) : Has st (sep X R) W := by
  obtain ⟨a, b, c, _, ⟨x, y, hx, hy, hxy, rfl⟩, hk⟩ := h
  obtain ⟨a', b', c', z, hz, hzk⟩ := h0
  have hy' : y = _ := hy
  subst hy'
  refine ⟨a.trans a', b.trans b', c.trans c', _, ⟨x, z, hx, hz, ?_, rfl⟩, ?_⟩
  · intro k
    rcases hxy k with g | g
    · exact .inl g
    · right
      cases hzz : z k with
      | none => rfl
      | some o => have g' : w.heap[k]? = none := g; rw [hzk k o hzz] at g'; cases g'
  · intro k o ho
    have ho' : (x k).or (z k) = some o := ho
    refine hk k o ?_
    show (x k).or (w.heap[k]?) = some o
    cases hxx : x k with
    | some u => rw [hxx] at ho'; simpa using ho'
    | none => rw [hxx] at ho'; simp at ho'; simpa using hzk k o ho'
theorem has_old_of {w W : World} (h : Below w.heap.size w W) : Has w (old w) W :=
  ⟨h.os, h.tape, h.output, _, rfl, fun k o ho => (h.block k (Array.getElem?_eq_some_iff.1 ho).1).trans ho⟩
/-- exactly this part of the heap -/
def just (h0 : Hp) : HProp := fun h => h = h0
theorem Has.fix {st : World} {R : HProp} {w : World} (h : Has st R w) : ∃ h0, R h0 ∧ (∀ k o, h0 k = some o → k < w.heap.size) ∧ Has st (just h0) w := by
  obtain ⟨a, b, c, x, hx, hk⟩ := h
  exact ⟨x, hx, fun k o ho => (Array.getElem?_eq_some_iff.1 (hk k o ho)).1, a, b, c, x, rfl, hk⟩
theorem Has.unjust {st : World} {R : HProp} {w : World} {h0 : Hp} (h : Has st (just h0) w) (hR : R h0) : Has st R w := h.mono fun x hx => by have : x = h0 := hx; rw [this]; exact hR
theorem Has.unjustR {st : World} {X R : HProp} {w : World} {h0 : Hp} (h : Has st (sep X (just h0)) w) (hR : R h0) : Has st (sep X R) w := by
  refine h.mono ?_
  rintro _ ⟨a, b, ha, hb, hab, rfl⟩
  exact ⟨a, b, ha, by have : b = h0 := hb; rw [this]; exact hR, hab, rfl⟩
/-- what lies below B lies on -/
theorem Has.below {st : World} {h0 : Hp} {w w' : World} {B : Nat} (h : Has st (just h0) w) (hB : ∀ k o, h0 k = some o → k < B) (hb : Below B w w') : Has st (just h0) w' := by
  obtain ⟨a, b, c, x, hx, hk⟩ := h
  have : x = h0 := hx
  subst this
  exact ⟨hb.os.trans a, hb.tape.trans b, hb.output.trans c, x, rfl, fun k o ho => (hb.block k (hB k o ho)).trans (hk k o ho)⟩
/-- pieces all of whose blocks are cells, beside what lies below B, abide the turn of blocks that are no cells -/
def Cellish (p : HProp) : Prop := ∀ h, p h → ∀ k o, h k = some o → o.isCells = true
theorem cellish_sep {p q : HProp} (hp : Cellish p) (hq : Cellish q) : Cellish (sep p q) := by
  rintro _ ⟨a, b, ha, hb, _, rfl⟩ k o ho
  have ho' : (a k).or (b k) = some o := ho
  cases hx : a k with
  | some y => rw [hx] at ho'; simp at ho'; subst ho'; exact hp a ha k _ hx
  | none => rw [hx] at ho'; simp at ho'; exact hq b hb k o ho'
theorem cellish_blk (b : Nat) (c : Array Value) (t : TypeId) (f : Nat × Nat) : Cellish (Sl.blk b (.cells c t f)) := by
  intro h hh k o ho
  have : h = _ := hh
  subst this
  have ho' : (if k = b then some (Obj.cells c t f) else none) = some o := ho
  split at ho'
  · injection ho' with ho'; subst ho'; rfl
  · cases ho'
theorem cellish_row (e : TypeId) (size : Nat) (v : Value) (n : Nat) (xs : List Value) : Cellish (row e size v n xs) := by
  rintro h ⟨_, ⟨_, _, rfl⟩ | ⟨g, cap, cur, _, rfl, _⟩⟩ k o ho
  · cases ho
  · have ho' : (if k = g then some (Obj.cells cur e (0, 0)) else none) = some o := ho
    split at ho'
    · injection ho' with ho'; subst ho'; rfl
    · cases ho'
theorem cellish_ex {α : Type} {p : α → HProp} (hp : ∀ x, Cellish (p x)) : Cellish (ex p) := fun h ⟨x, hx⟩ => hp x h hx
theorem cellish_pure (φ : Prop) : Cellish (Sl.pure φ) := by
  rintro h ⟨_, rfl⟩ k o ho; cases ho
theorem own_has {β : Type} {st : World} {B : Nat} {p : β → HProp} {h0 : Hp} (hp : ∀ s, Cellish (p s)) (hB : ∀ k o, h0 k = some o → k < B) : OwnFrom B (fun s W => Has st (sep (p s) (just h0)) W) := by
  intro s W W' row ⟨a, b, c, _, ⟨x, y, hx, hy, hxy, rfl⟩, hk⟩ hg hr
  have : y = h0 := hy
  subst this
  refine ⟨hg.os.trans a, hg.tape.trans b, hg.output.trans c, _, ⟨x, y, hx, rfl, hxy, rfl⟩, fun k o ho => ?_⟩
  have hW := hk k o ho
  have hlt := (Array.getElem?_eq_some_iff.1 hW).1
  rw [hg.block k hlt ?_]
  · exact hW
  · intro e
    obtain ⟨h1, o2, h2, h3⟩ := hr k e.symm
    rw [hW] at h2
    injection h2 with h2
    subst h2
    have ho' : (x k).or (y k) = some o := ho
    cases hxk : x k with
    | some z =>
      rw [hxk] at ho'; simp at ho'; subst ho'
      rw [hp s x hx k _ hxk] at h3; cases h3
    | none =>
      rw [hxk] at ho'; simp at ho'
      have := hB k o ho'
      omega
end Go.Sl

/-
  SHA-256 in plain Lean: the words, a block, all.
-/
namespace Go.Sha
set_option linter.unusedVariables false

/-- a word turned to the right -/
def rr (x : UInt32) (n : Nat) : UInt32 := x <<< (UInt32.ofNat (32 - n)) ||| x >>> (UInt32.ofNat n)
def sh (x : UInt32) (n : Nat) : UInt32 := x >>> (UInt32.ofNat n)
def keyList : List UInt32 := [
  0x428a2f98, 0x71374491, 0xb5c0fbcf, 0xe9b5dba5, 0x3956c25b, 0x59f111f1, 0x923f82a4, 0xab1c5ed5,
  0xd807aa98, 0x12835b01, 0x243185be, 0x550c7dc3, 0x72be5d74, 0x80deb1fe, 0x9bdc06a7, 0xc19bf174,
  0xe49b69c1, 0xefbe4786, 0x0fc19dc6, 0x240ca1cc, 0x2de92c6f, 0x4a7484aa, 0x5cb0a9dc, 0x76f988da,
  0x983e5152, 0xa831c66d, 0xb00327c8, 0xbf597fc7, 0xc6e00bf3, 0xd5a79147, 0x06ca6351, 0x14292967,
  0x27b70a85, 0x2e1b2138, 0x4d2c6dfc, 0x53380d13, 0x650a7354, 0x766a0abb, 0x81c2c92e, 0x92722c85,
  0xa2bfe8a1, 0xa81a664b, 0xc24b8b70, 0xc76c51a3, 0xd192e819, 0xd6990624, 0xf40e3585, 0x106aa070,
  0x19a4c116, 0x1e376c08, 0x2748774c, 0x34b0bcb5, 0x391c0cb3, 0x4ed8aa4a, 0x5b9cca4f, 0x682e6ff3,
  0x748f82ee, 0x78a5636f, 0x84c87814, 0x8cc70208, 0x90befffa, 0xa4506ceb, 0xbef9a3f7, 0xc67178f2]
structure S8 where
  a : UInt32
  b : UInt32
  c : UInt32
  d : UInt32
  e : UInt32
  f : UInt32
  g : UInt32
  h : UInt32
deriving DecidableEq
def S8.list (s : S8) : List UInt32 := [s.a, s.b, s.c, s.d, s.e, s.f, s.g, s.h]
def start : S8 := ⟨0x6a09e667, 0xbb67ae85, 0x3c6ef372, 0xa54ff53a, 0x510e527f, 0x9b05688c, 0x1f83d9ab, 0x5be0cd19⟩

/-- the i-th word of a block, as it is read -/
def word (b : List UInt8) (i : Nat) : UInt32 :=
  (b.getD (4 * i) 0).toUInt32 <<< 24 ||| (b.getD (4 * i + 1) 0).toUInt32 <<< 16 ||| (b.getD (4 * i + 2) 0).toUInt32 <<< 8 ||| (b.getD (4 * i + 3) 0).toUInt32
/-- the word made of the words before -/
def next (w : List UInt32) (i : Nat) : UInt32 :=
  let x := w.getD (i - 15) 0
  let y := w.getD (i - 2) 0
  w.getD (i - 16) 0 + (rr x 7 ^^^ rr x 18 ^^^ sh x 3) + w.getD (i - 7) 0 + (rr y 17 ^^^ rr y 19 ^^^ sh y 10)
def words (b : List UInt8) : Nat → List UInt32
  | 0 => []
  | i + 1 => let w := words b i; w ++ [if i < 16 then word b i else next w i]
theorem words_length (b : List UInt8) (i : Nat) : (words b i).length = i := by
  induction i with
  | zero => rfl
  | succ i ih => simp [words, ih]

def turn (s : S8) (k w : UInt32) : S8 :=
  let x := s.h + (rr s.e 6 ^^^ rr s.e 11 ^^^ rr s.e 25) + (s.e &&& s.f ^^^ (~~~ s.e) &&& s.g) + k + w
  let y := (rr s.a 2 ^^^ rr s.a 13 ^^^ rr s.a 22) + (s.a &&& s.b ^^^ s.a &&& s.c ^^^ s.b &&& s.c)
  ⟨x + y, s.a, s.b, s.c, s.d + x, s.e, s.f, s.g⟩
def turns (b : List UInt8) (s : S8) : Nat → S8
  | 0 => s
  | i + 1 => turn (turns b s i) (keyList.getD i 0) ((words b 64).getD i 0)
def plus (s t : S8) : S8 := ⟨s.a + t.a, s.b + t.b, s.c + t.c, s.d + t.d, s.e + t.e, s.f + t.f, s.g + t.g, s.h + t.h⟩
def mix (s : S8) (b : List UInt8) : S8 := plus s (turns b s 64)
theorem ch_or (e f g : UInt32) : (e &&& f) ||| (~~~ e &&& g) = (e &&& f) ^^^ (~~~ e &&& g) := by
  apply UInt32.toBitVec_inj.1
  ext i
  simp
  cases e.toBitVec[i] <;> simp
theorem maj_or (a b c : UInt32) : (a &&& b) ||| (a &&& c) ||| (b &&& c) = (a &&& b) ^^^ (a &&& c) ^^^ (b &&& c) := by
  apply UInt32.toBitVec_inj.1
  ext i
  simp
  cases a.toBitVec[i] <;> cases b.toBitVec[i] <;> cases c.toBitVec[i] <;> rfl
open Go.Sl in
theorem byte_w32 (a : UInt8) : IntKind.u32.wrap (a.toNat : Int) = (a.toUInt32.toNat : Int) := by
  have := a.toNat_lt
  rw [w32_of _ (by omega)]
  simp
open Go.Sl in
theorem word_val (a b c d : UInt8) : bits .or .u32 (bits .or .u32 (bits .or .u32 (IntKind.u32.wrap (IntKind.u32.wrap (a.toNat : Int) * 16777216)) (IntKind.u32.wrap (IntKind.u32.wrap (b.toNat : Int) * 65536))) (IntKind.u32.wrap (IntKind.u32.wrap (c.toNat : Int) * 256))) (IntKind.u32.wrap (d.toNat : Int)) =
    ((a.toUInt32 <<< 24 ||| b.toUInt32 <<< 16 ||| c.toUInt32 <<< 8 ||| d.toUInt32).toNat : Int) := by
  have e1 := fun x : UInt32 => w32_shl x 24 (by decide)
  have e2 := fun x : UInt32 => w32_shl x 16 (by decide)
  have e3 := fun x : UInt32 => w32_shl x 8 (by decide)
  simp only [byte_w32, w32_wrap (_ * _)]
  rw [show (16777216 : Int) = 2 ^ 24 by decide, show (65536 : Int) = 2 ^ 16 by decide, show (256 : Int) = 2 ^ 8 by decide, e1, e2, e3, w32_or, w32_or, w32_or]
  rfl
theorem sum5 (a b c d e : UInt32) : ((a.toNat : Int) + b.toNat + c.toNat + d.toNat + e.toNat) % 4294967296 = ((a + b + c + d + e).toNat : Int) := by
  simp only [UInt32.toNat_add]; omega
theorem sum2 (a b : UInt32) : ((a.toNat : Int) + b.toNat) % 4294967296 = ((a + b).toNat : Int) := by
  simp only [UInt32.toNat_add]; omega
def tx (te tf tg th k w : UInt32) : UInt32 := th + (rr te 6 ^^^ rr te 11 ^^^ rr te 25) + (te &&& tf ^^^ (~~~ te) &&& tg) + k + w
def ty (ta tb tc : UInt32) : UInt32 := (rr ta 2 ^^^ rr ta 13 ^^^ rr ta 22) + (ta &&& tb ^^^ ta &&& tc ^^^ tb &&& tc)
open Go.Sl in
theorem tx_val (te tf tg th k w : UInt32) : ((th.toNat : Int) + bits .xor .u32 (bits .xor .u32 ((rr te 6).toNat : Int) ((rr te 11).toNat : Int)) ((rr te 25).toNat : Int) +
    bits .xor .u32 (bits .and .u32 (te.toNat : Int) (tf.toNat : Int)) (bits .and .u32 (bits .xor .u32 IntKind.u32.max (te.toNat : Int)) (tg.toNat : Int)) + (k.toNat : Int) + (w.toNat : Int)) % 4294967296 = ((tx te tf tg th k w).toNat : Int) := by
  simp only [w32_not, w32_xor, w32_and, sum5]
  rfl
open Go.Sl in
theorem ty_val (ta tb tc : UInt32) : (bits .xor .u32 (bits .xor .u32 ((rr ta 2).toNat : Int) ((rr ta 13).toNat : Int)) ((rr ta 22).toNat : Int) +
    bits .xor .u32 (bits .xor .u32 (bits .and .u32 (ta.toNat : Int) (tb.toNat : Int)) (bits .and .u32 (ta.toNat : Int) (tc.toNat : Int))) (bits .and .u32 (tb.toNat : Int) (tc.toNat : Int))) % 4294967296 = ((ty ta tb tc).toNat : Int) := by
  simp only [w32_xor, w32_and, sum2]
  rfl
open Go.Sl in
theorem next_val (u v x y : UInt32) : IntKind.u32.wrap (IntKind.u32.wrap (IntKind.u32.wrap ((u.toNat : Int) + bits .xor .u32 (bits .xor .u32 ((rr x 7).toNat : Int) ((rr x 18).toNat : Int)) ((x.toNat : Int) / 8)) + (v.toNat : Int)) + bits .xor .u32 (bits .xor .u32 ((rr y 17).toNat : Int) ((rr y 19).toNat : Int)) ((y.toNat : Int) / 1024)) =
    ((u + (rr x 7 ^^^ rr x 18 ^^^ sh x 3) + v + (rr y 17 ^^^ rr y 19 ^^^ sh y 10)).toNat : Int) := by
  have e3 := fun x : UInt32 => w32_shr x 3 (by decide)
  have e10 := fun x : UInt32 => w32_shr x 10 (by decide)
  rw [show (8 : Int) = 2 ^ 3 by decide, show (1024 : Int) = 2 ^ 10 by decide, e3, e10]
  simp only [w32_xor, w32_add]
  rfl
theorem set_next (w : List UInt32) (i : Nat) (hw : w.length = i) (h : i < 64) (x : UInt32) : (w ++ List.replicate (64 - i) 0).set i x = (w ++ [x]) ++ List.replicate (64 - (i + 1)) 0 := by
  rw [List.set_append_right _ _ (by omega), hw, Nat.sub_self, show 64 - i = (64 - (i + 1)) + 1 by omega, List.replicate_succ, List.set_cons_zero, List.append_assoc]
  rfl
end Go.Sha

/-
  sha.ror.
-/
namespace Go.Proofs.YtblknhpafifebaaDoor
open Go.RowKit Go.Sl Go.Sha
set_option linter.unusedVariables false
set_option linter.unusedSimpArgs false

theorem rot_any (x : UInt32) (n : Nat) (hn : 1 ≤ n ∧ n ≤ 31) (w : World) :
    Calls Tryd.prog 47 #[.int .u32 x.toNat, .int .i64 (-(n : Int))] w fun e w' => e = .returned (.int .u32 (rr x n).toNat) ∧ w = w' := by
  obtain ⟨m, hm⟩ : ∃ m : Nat, m = 32 - n := ⟨_, rfl⟩
  have hm31 : 1 ≤ m ∧ m ≤ 31 := by omega
  have hneg : IntKind.u64.wrap (-(n : Int)) = 18446744073709551616 - (n : Int) := by simp [IntKind.wrap, IntKind.signed, IntKind.bits]; omega
  have hand : bits .and .u64 (18446744073709551616 - (n : Int)) 31 = (m : Int) := by
    rw [show (18446744073709551616 : Int) - (n : Int) = ((18446744073709551616 - n : Nat) : Int) by omega, show (31 : Int) = IntKind.u64.wrap (IntKind.u64.wrap (2 ^ 5) - 1) by decide, u64_mask _ 5 (by omega) (by decide)]
    omega
  have hsub : IntKind.u64.wrap (32 - (m : Int)) = (n : Int) := by simp [IntKind.wrap, IntKind.signed, IntKind.bits]; omega
  have HM := Lib.hid hm
  clear hm
  have hmn : 32 - (32 - n) = n := by omega
  go_enter Tryd.func47, Tryd.ntmps47
  go_wp2
  go_ret
  refine ⟨?_, rfl⟩
  have e1 : bits .or .u32 ((x.toNat : Int) * 2 ^ m % 4294967296) ((x.toNat : Int) / 2 ^ n) = ((rr x n).toNat : Int) := by
    rw [w32_shl x m (by omega), w32_shr x n (by omega), w32_or, HM.out]; rfl
  have e2 : 32 - m = n := by have := HM.out; omega
  simp only [e2]
  exact congrArg (fun z => Ending.returned (.int .u32 z)) e1

theorem ror_any (x : UInt32) (n : Nat) (hn : 1 ≤ n ∧ n ≤ 31) (w : World) :
    Calls Tryd.prog 46 #[.int .u32 x.toNat, .int .i64 n] w fun e w' => e = .returned (.int .u32 (rr x n).toNat) ∧ w = w' := by
  have HR := Lib.hid (rot_any x n hn w)
  have hneg : IntKind.i64.wrap (-(n : Int)) = -(n : Int) := IntWalk.i64_in _ ⟨by omega, by omega⟩
  go_enter Tryd.func46, Tryd.ntmps46
  go_wp2_with (go_at_call 47; refine HR.out.mono ?_; rintro e w' ⟨rfl, rfl⟩)
  go_ret
  exact ⟨rfl, rfl⟩
theorem ror_q (x : UInt32) (n : Nat) (hn : 1 ≤ n ∧ n ≤ 31) (w : World) :
    Calls Tryd.prog 46 #[.int .u32 x.toNat, .int .i64 n] w fun e w' => e = .returned (.int .u32 (rr x n).toNat) ∧ w' = w :=
  (ror_any x n hn w).mono fun _ _ h => ⟨h.1, h.2.symm⟩
end Go.Proofs.YtblknhpafifebaaDoor

/-
  sha.schedule.
-/
namespace Go.Proofs.YtblknhpafifebaaDoor
open Go.RowKit Go.Sl Go.Sha
set_option linter.unusedVariables false
set_option linter.unusedSimpArgs false

/-- a block of words -/
abbrev wblk (b : Nat) (t : TypeId) (l : List UInt32) : HProp := blk b (.cells (wcells l).toArray t (0, 0))

theorem words_zero (l : List UInt8) (i : Nat) (h : i < 64) : (wcells (words l i ++ List.replicate (64 - i) 0)).toArray[i]? = some (.int .u32 0) := by
  have hl := words_length l i
  rw [List.getElem?_toArray, wcells_get (by rw [List.length_append, List.length_replicate]; omega), List.getElem_append_right (by omega)]
  simp
theorem words_get (l : List UInt8) (i j : Nat) (h : j < i) : (wcells (words l i ++ List.replicate (64 - i) 0)).toArray[j]? = some (.int .u32 (((words l i).getD j 0).toNat : Int)) := by
  have hl := words_length l i
  have h1 : j < (words l i).length := by omega
  rw [List.getElem?_toArray, wcells_get (by rw [List.length_append]; omega), List.getElem_append_left h1, List.getD_eq_getElem?_getD, List.getElem?_eq_getElem h1, Option.getD_some]

theorem info64 : (Tryd.prog.info? 96).map (·.size) = some 64 := by kernel_rfl
theorem wcells_all (l : List UInt32) : (wcells l).toArray.all (·.oneCell') = true := by
  rw [List.all_toArray, List.all_eq_true]
  exact wcells_one l
set_option maxRecDepth 100000 in
set_option maxHeartbeats 1000000 in
theorem schedule_any (st : World) (R : HProp) (l : List UInt8) (A : Option Addr) (c : Nat) (hs : Sees st R 1 (.slice A l.length c) l.length (bcells l)) (h64 : 64 ≤ l.length) (w : World) (h : Has st R w) :
    Calls Tryd.prog 45 #[.slice A l.length c] w fun e w' => e = .returned (.agg (wcells (words l 64)).toArray) ∧ Has st R w' := by
  have HS := Lib.hid hs
  clear hs
  go_enter Tryd.func45, Tryd.ntmps45
  go_wp2_with (fail)
  go_loopw [7] (fun v7 wr => ∃ i : Nat, i ≤ 64 ∧ v7 = .int .i64 i ∧ Has st (sep (wblk (w.heap.size + 1) 96 (words l i ++ List.replicate (64 - i) 0)) (sep (wblk w.heap.size 96 (List.replicate 64 0)) R)) wr) (fun v7 _ => 64 - (intOf v7).toNat)
  case atStart =>
    have h2 := (h.alloc (.cells (wcells (List.replicate 64 0)).toArray 96 (0, 0))).alloc (.cells (wcells (List.replicate 64 0)).toArray 96 (0, 0))
    rw [World.size_alloc] at h2
    exact ⟨0, Nat.zero_le _, rfl, h2⟩
  case round =>
    obtain ⟨i, hi, rfl, h2⟩ := hrel
    have hc := h2.cell i
    by_cases hlt : i < 64
    · by_cases h16 : i < 16
      · obtain ⟨g, off, cap, e, _, _, hb⟩ := Rd.open (HS.out wr h2.right.right) (by omega)
        injection e with e1 e2 e3
        subst e1
        obtain ⟨j0, hj0⟩ : ∃ j0, j0 = 4 * i := ⟨_, rfl⟩
        obtain ⟨j1, hj1⟩ : ∃ j1, j1 = 4 * i + 1 := ⟨_, rfl⟩
        obtain ⟨j2, hj2⟩ : ∃ j2, j2 = 4 * i + 2 := ⟨_, rfl⟩
        obtain ⟨j3, hj3⟩ : ∃ j3, j3 = 4 * i + 3 := ⟨_, rfl⟩
        have q0 : j0 < l.length := by omega
        have q1 : j1 < l.length := by omega
        have q2 : j2 < l.length := by omega
        have q3 : j3 < l.length := by omega
        have b0 := hb j0 _ (bcells_get q0)
        have b1 := hb j1 _ (bcells_get q1)
        have b2 := hb j2 _ (bcells_get q2)
        have b3 := hb j3 _ (bcells_get q3)
        have w0 : IntKind.i64.wrap (4 * (i : Int)) = (j0 : Int) := by rw [IntWalk.i64_in _ ⟨by omega, by omega⟩]; omega
        have w1 : IntKind.i64.wrap ((j0 : Int) + 1) = (j1 : Int) := by rw [IntWalk.i64_in _ ⟨by omega, by omega⟩]; omega
        have w2 : IntKind.i64.wrap ((j0 : Int) + 2) = (j2 : Int) := by rw [IntWalk.i64_in _ ⟨by omega, by omega⟩]; omega
        have w3 : IntKind.i64.wrap ((j0 : Int) + 3) = (j3 : Int) := by rw [IntWalk.i64_in _ ⟨by omega, by omega⟩]; omega
        have p0 : (0 : Int) ≤ (j0 : Int) ∧ (j0 : Int) < (l.length : Int) := by omega
        have p1 : (0 : Int) ≤ (j1 : Int) ∧ (j1 : Int) < (l.length : Int) := by omega
        have p2 : (0 : Int) ≤ (j2 : Int) ∧ (j2 : Int) < (l.length : Int) := by omega
        have p3 : (0 : Int) ≤ (j3 : Int) ∧ (j3 : Int) < (l.length : Int) := by omega
        have pi : (0 : Int) ≤ (i : Int) ∧ (i : Int) < 64 := by omega
        have hf := h2.free i
        have HJ := Lib.hid (⟨hj0, hj1, hj2, hj3⟩ : _ ∧ _ ∧ _ ∧ _)
        rw [show (wcells (words l i ++ List.replicate (64 - i) 0)).toArray[i]? = some (.int .u32 0) from words_zero l i hlt] at hc
        clear hb e2 e3 hj0 hj1 hj2 hj3
        go_wp2_with (fail)
        go_region_held3 (fun w' => w'.cell? ⟨g, off + j0, none⟩ = some (.int .u8 (l[j0].toNat : Int)) ∧ w'.cell? ⟨g, off + j1, none⟩ = some (.int .u8 (l[j1].toNat : Int)) ∧ w'.cell? ⟨g, off + j2, none⟩ = some (.int .u8 (l[j2].toNat : Int)) ∧ w'.cell? ⟨g, off + j3, none⟩ = some (.int .u8 (l[j3].toNat : Int)))
          (first | exact ⟨b0, b1, b2, b3⟩ | exact ⟨(HS.out _ (h2.drew.set i _).right.right).cell (bcells_get q0), (HS.out _ (h2.drew.set i _).right.right).cell (bcells_get q1), (HS.out _ (h2.drew.set i _).right.right).cell (bcells_get q2), (HS.out _ (h2.drew.set i _).right.right).cell (bcells_get q3)⟩) (fail)
        have h3 := h2.set i (.int .u32 ((l[j0].toUInt32 <<< 24 ||| l[j1].toUInt32 <<< 16 ||| l[j2].toUInt32 <<< 8 ||| l[j3].toUInt32).toNat : Int))
        have hw : l[j0].toUInt32 <<< 24 ||| l[j1].toUInt32 <<< 16 ||| l[j2].toUInt32 <<< 8 ||| l[j3].toUInt32 = word l i := by
          obtain ⟨rfl, rfl, rfl, rfl⟩ := HJ.out
          unfold word
          simp only [List.getD_eq_getElem?_getD, List.getElem?_eq_getElem q0, List.getElem?_eq_getElem q1, List.getElem?_eq_getElem q2, List.getElem?_eq_getElem q3, Option.getD_some]
        rw [hw] at h3
        have hv := word_val l[j0] l[j1] l[j2] l[j3]
        rw [hw] at hv
        simp only [hv]
        have h4 := h3
        rw [List.setIfInBounds_toArray, wcells_set, set_next (words l i) i (words_length l i) hlt, show words l i ++ [word l i] = words l (i + 1) from by simp [words, h16]] at h4
        have H4 := Lib.hid h4
        clear hv h2 h3 h4 hw b0 b1 b2 b3 hc hf
        go_wp2
        go_roundw
        case rel => exact ⟨i + 1, by omega, by go_num, H4.out.drew⟩
        case measure => simp [intOf]; omega
      · obtain ⟨j15, hj15⟩ : ∃ j, j = i - 15 := ⟨_, rfl⟩
        obtain ⟨j2, hj2⟩ : ∃ j, j = i - 2 := ⟨_, rfl⟩
        obtain ⟨j16, hj16⟩ : ∃ j, j = i - 16 := ⟨_, rfl⟩
        obtain ⟨j7, hj7⟩ : ∃ j, j = i - 7 := ⟨_, rfl⟩
        have g15 := words_get l i j15 (by omega)
        have g2 := words_get l i j2 (by omega)
        have g16 := words_get l i j16 (by omega)
        have g7 := words_get l i j7 (by omega)
        obtain ⟨x, hx⟩ : ∃ x, x = (words l i).getD j15 0 := ⟨_, rfl⟩
        obtain ⟨y, hy⟩ : ∃ y, y = (words l i).getD j2 0 := ⟨_, rfl⟩
        obtain ⟨u, hu⟩ : ∃ u, u = (words l i).getD j16 0 := ⟨_, rfl⟩
        obtain ⟨v, hv⟩ : ∃ v, v = (words l i).getD j7 0 := ⟨_, rfl⟩
        rw [← hx] at g15
        rw [← hy] at g2
        rw [← hu] at g16
        rw [← hv] at g7
        have b15 := (h2.cell j15).trans g15
        have b2 := (h2.cell j2).trans g2
        have HNX : Hid (u + (rr x 7 ^^^ rr x 18 ^^^ sh x 3) + v + (rr y 17 ^^^ rr y 19 ^^^ sh y 10) = next (words l i) i) := Lib.hid (by
          rw [hx, hy, hu, hv, hj15, hj2, hj16, hj7]; rfl)
        have w15 : IntKind.i64.wrap ((i : Int) - 15) = (j15 : Int) := by rw [IntWalk.i64_in _ ⟨by omega, by omega⟩]; omega
        have w2 : IntKind.i64.wrap ((i : Int) - 2) = (j2 : Int) := by rw [IntWalk.i64_in _ ⟨by omega, by omega⟩]; omega
        have w16 : IntKind.i64.wrap ((i : Int) - 16) = (j16 : Int) := by rw [IntWalk.i64_in _ ⟨by omega, by omega⟩]; omega
        have w7 : IntKind.i64.wrap ((i : Int) - 7) = (j7 : Int) := by rw [IntWalk.i64_in _ ⟨by omega, by omega⟩]; omega
        have p15 : (0 : Int) ≤ (j15 : Int) ∧ (j15 : Int) < 64 := by omega
        have p2 : (0 : Int) ≤ (j2 : Int) ∧ (j2 : Int) < 64 := by omega
        have p16 : (0 : Int) ≤ (j16 : Int) ∧ (j16 : Int) < 64 := by omega
        have p7 : (0 : Int) ≤ (j7 : Int) ∧ (j7 : Int) < 64 := by omega
        have pi : (0 : Int) ≤ (i : Int) ∧ (i : Int) < 64 := by omega
        have HG16 := Lib.hid g16
        have HG7 := Lib.hid g7
        have HJ16 := Lib.hid (show j16 < i by omega)
        have HJ7 := Lib.hid (show j7 < i by omega)
        clear g16 g7 g15 g2 hj15 hj2 hj16 hj7 hx hy hu hv hc
        go_wp2_with (fail)
        go_quiet (fail)
        have h3 := h2.drewN nq
        generalize wr.drewN nq = w5 at h3 ⊢
        clear h2 b15 b2
        have b16 := (h3.cell j16).trans HG16.out
        have b7 := (h3.cell j7).trans HG7.out
        have hset := h3.drew.set i (.int .u32 ((next (words l i) i).toNat : Int))
        have hc := h3.cell i
        have hf := h3.free i
        rw [words_zero l i hlt] at hc
        have H7 := Lib.hid (fun w => ror_any x 7 (by decide) w)
        have H18 := Lib.hid (fun w => ror_any x 18 (by decide) w)
        have H17 := Lib.hid (fun w => ror_any y 17 (by decide) w)
        have H19 := Lib.hid (fun w => ror_any y 19 (by decide) w)
        have ne16 := HJ16.out
        have ne7 := HJ7.out
        have HK : Hid (∀ z : Value, (w5.setCell ⟨w.heap.size + 1, i, none⟩ z).drew.cell? ⟨w.heap.size + 1, j16, none⟩ = some (.int .u32 (u.toNat : Int)) ∧ (w5.setCell ⟨w.heap.size + 1, i, none⟩ z).drew.cell? ⟨w.heap.size + 1, j7, none⟩ = some (.int .u32 (v.toNat : Int))) :=
          Lib.hid (fun z => ⟨((h3.set i z).drew.cell j16).trans ((Array.getElem?_setIfInBounds_ne (by omega)).trans HG16.out), ((h3.set i z).drew.cell j7).trans ((Array.getElem?_setIfInBounds_ne (by omega)).trans HG7.out)⟩)
        clear ne16 ne7
        have HSet := Lib.hid hset
        have H3 := Lib.hid h3
        clear hset h3
        go_wp2_with (fail)
        go_region_held3 (fun w' => w'.cell? ⟨w.heap.size + 1, j16, none⟩ = some (.int .u32 (u.toNat : Int)) ∧ w'.cell? ⟨w.heap.size + 1, j7, none⟩ = some (.int .u32 (v.toNat : Int))) (first | exact ⟨b16, b7⟩ | exact HK.out _)
          (first | (go_at_call_of 46 (Value.int .u32 x.toNat); first | (refine (H7.out _).mono ?_; rintro e w' ⟨rfl, rfl⟩) | (refine (H18.out _).mono ?_; rintro e w' ⟨rfl, rfl⟩)) | (go_at_call_of 46 (Value.int .u32 y.toNat); first | (refine (H17.out _).mono ?_; rintro e w' ⟨rfl, rfl⟩) | (refine (H19.out _).mono ?_; rintro e w' ⟨rfl, rfl⟩)))
        have h4 := HSet.out
        rw [List.setIfInBounds_toArray, wcells_set, set_next (words l i) i (words_length l i) hlt, show words l i ++ [next (words l i) i] = words l (i + 1) from by simp [words, h16]] at h4
        have hv := next_val u v x y
        rw [HNX.out] at hv
        simp only [hv]
        have H4 := Lib.hid h4
        clear hv h4 b16 b7 hc hf
        go_wp2
        go_roundw
        case rel => exact ⟨i + 1, by omega, by go_num, H4.out⟩
        case measure => simp [intOf]; omega
    · obtain rfl : i = 64 := by omega
      rw [show words l 64 ++ List.replicate (64 - 64) 0 = words l 64 by simp] at h2
      have hsz : (wcells (words l 64)).toArray.size = 64 := by simp [wcells_length, words_length]
      have hi64 : (Tryd.prog.info? 96).map (·.size) = some (wcells (words l 64)).toArray.size := by rw [hsz]; exact info64
      have H3 := Lib.hid (h2.second.setRow (wcells (words l 64)).toArray)
      have HI := Lib.hid hi64
      have HZ := Lib.hid hsz
      clear hi64 hsz hc
      go_wp2_with (first
        | (refine wpList_load_row rfl 96 _ rfl _ rfl 96 _ _ _ h2.blk Tryd.underlying96 rfl HI.out ?_)
        | (refine wpList_store_row rfl 96 _ _ rfl _ _ rfl rfl 96 _ h2.second.blk HI.out (by rw [HZ.out]; simp [wcells_length]) (wcells_all _) ?_))
      refine bodyPost_ret (results_cell_row Tryd.results45 _ _ _ 96 _ _ _ rfl H3.out.blk Tryd.underlying96 rfl HI.out) rfl ?_
      exact ⟨rfl, H3.out.right.right⟩
end Go.Proofs.YtblknhpafifebaaDoor
