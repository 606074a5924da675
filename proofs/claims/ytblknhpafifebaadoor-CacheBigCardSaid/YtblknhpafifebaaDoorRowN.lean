/-
  Rows of elements of several cells: an element is loaded, deleted (append over itself), cleared. No program in sight.
-/
import Derived.Test.YtblknhpafifebaaDoorGen
import Derived.Test.YtblknhpafifebaaDoorRowLaw
import Derived.Lib.SliceRun
namespace Go.Sl
open Go Go.RowKit
set_option linter.unusedVariables false
set_option linter.unusedSimpArgs false
variable {P : Program} {ops : Array Oper} {o : Oper} {a : Act} {K : Act → World → Prop} {Q : Exit → Act → World → Prop} {w : World} {st : World}

/-- a row is cut to its first m elements -/
theorem Has.row_cut {e : TypeId} {size g n cap : Nat} {xs : List Value} {R : HProp} (h : Has st (sep (row e size (.slice (some ⟨g, 0, none⟩) n cap) n xs) R) w) (m : Nat) (hm : m ≤ n) :
    Has st (sep (row e size (.slice (some ⟨g, 0, none⟩) m cap) m (xs.take (m * size))) R) w := by
  obtain ⟨cur, h1, h2, h3, h4, h5⟩ := h.row_open
  refine h5.row_of_blk size m cap (by omega) h2 h3 ?_
  rw [← h4, List.take_take, Nat.min_eq_left (Nat.mul_le_mul_right _ hm)]
/-- the cells of a row -/
theorem Has.row_cell {e : TypeId} {size g n cap : Nat} {xs : List Value} {R : HProp} (h : Has st (sep (row e size (.slice (some ⟨g, 0, none⟩) n cap) n xs) R) w) {j : Nat} {u : Value} (hj : xs[j]? = some u) :
    w.cell? ⟨g, j, none⟩ = some u := by
  have := h.ownsRow.cells (g := g) rfl j u hj
  rwa [addr_add, Nat.zero_add] at this

theorem Has.row_at33 {e : TypeId} {size : Nat} {A : Option Addr} {n cap : Nat} {xs : List Value} {R : HProp} {i : Nat} (h : Has st (sep (row e size (.slice A n cap) n xs) R) w) (hn : i < n) : ∃ g, A = some ⟨g, 0, none⟩ := by
  rcases h.ownsRow.2 with ⟨_, e⟩ | ⟨g, cap', cur, e, _⟩
  · omega
  · injection e with e1; exact ⟨g, e1⟩
theorem wpr_delete (s x : Operand) (t e : TypeId) (size : Nat) (ho : o.op = .call { callee := .builtin .append, args := #[s, x], argTypes := #[t, t] })
    (ht : P.underlying t = some (.slice e)) (hsz : (P.info? e).map (·.size) = some size) {g n cap i j : Nat} {xs : List Value} {R : HProp} (hij : i ≤ j) (hjn : j ≤ n)
    (hs : a.eval s = .slice (some ⟨g, 0, none⟩) i cap) {ad : Addr} (c : Nat) (hx : a.eval x = .slice (some ad) (n - j) c) (had : j < n → ad = ⟨g, j * size, none⟩)
    (h : Has st (sep (row e size (.slice (some ⟨g, 0, none⟩) n cap) n xs) R) w) (h1 : ∀ u ∈ xs, u.oneCell' = true)
    (hK : ∀ w' ys, ys.length = n * size → ys.take ((i + (n - j)) * size) = xs.take (i * size) ++ xs.drop (j * size) → Has st (sep (row e size (.slice (some ⟨g, 0, none⟩) n cap) n ys) R) w' → K (a.put o.dst (.slice (some ⟨g, 0, none⟩) (i + (n - j)) cap)) w') :
    o.wp P a w K Q := by
  obtain ⟨ti, hi0, rfl⟩ : ∃ i, P.info? e = some i ∧ i.size = size := by
    cases hp : P.info? e with
    | none => rw [hp] at hsz; cases hsz
    | some i => rw [hp] at hsz; simp at hsz; exact ⟨i, rfl, hsz⟩
  have hxl : xs.length = n * ti.size := h.ownsRow.1
  obtain ⟨cur, h2, h3, h4, h5, h6⟩ := h.row_open
  obtain ⟨news, hnews⟩ : ∃ news, news = xs.drop (j * ti.size) := ⟨_, rfl⟩
  have hnl : news.length = (n - j) * ti.size := by rw [hnews, List.length_drop, hxl, Nat.sub_mul]
  have hle1 : i * ti.size ≤ j * ti.size := Nat.mul_le_mul_right _ hij
  have hle2 : j * ti.size ≤ n * ti.size := Nat.mul_le_mul_right _ hjn
  have hle3 : n * ti.size ≤ cap * ti.size := Nat.mul_le_mul_right _ h2
  have hnl' : news.length = n * ti.size - j * ti.size := by rw [hnl, Nat.sub_mul]
  have hcell : ∀ t u, news[t]? = some u → w.cell? (ad.add t) = some u := by
    intro t u hu
    have hjn' : j < n := by
      have := (List.getElem?_eq_some_iff.1 hu).1
      rw [hnl'] at this
      rcases Nat.lt_or_ge j n with h' | h'
      · exact h'
      · have : j = n := by omega
        subst this; omega
    rw [had hjn', addr_add]
    rw [hnews, List.getElem?_drop] at hu
    exact h.row_cell hu
  have hrun := run_append_room (P := P) (w := w) t o.type e ti ht hi0 g i cap cur h6.blk ad (n - j) c news hnl hcell (fun u hu => h1 u (by rw [hnews] at hu; exact List.mem_of_mem_drop hu)) (by omega) (by rw [h4]; omega)
  have hcl : cur.toList.length = cap * ti.size := by rw [Array.length_toList, h4]
  have hct : cur.toList.take (i * ti.size) = xs.take (i * ti.size) := by rw [← h5, List.take_take, Nat.min_eq_left (by omega)]
  have hsp : (i + (n - j)) * ti.size = i * ti.size + news.length := by rw [Nat.add_mul, hnl]
  have h7 := h6.setRow (cur.toList.take (i * ti.size) ++ news ++ cur.toList.drop (i * ti.size + news.length)).toArray
  have h8 := h7.row_of_blk ti.size n cap h2 h3 (by simp; omega) (xs := (cur.toList.take (i * ti.size) ++ news ++ cur.toList.drop (i * ti.size + news.length)).take (n * ti.size)) rfl
  obtain ⟨W1, hW1⟩ : ∃ W1, W1 = w.setRow g (cur.toList.take (i * ti.size) ++ news ++ cur.toList.drop (i * ti.size + news.length)).toArray := ⟨_, rfl⟩
  rw [← hW1] at hrun h8
  unfold Oper.wp
  simp [execOp, ho, resolve, invoke, builtin, hs, hx, hrun, Result.andThen]
  refine hK _ _ ?_ ?_ h8
  · simp only [List.length_take, List.length_append, List.length_drop]; omega
  · rw [List.take_take, Nat.min_eq_left (by rw [hsp]; omega), hsp, List.take_append_of_le_length (by simp only [List.length_append, List.length_take]; omega), List.take_of_length_le (by simp only [List.length_append, List.length_take]; omega), hct, hnews]
theorem step_delete {E : Prop} (hg : o.guard = none) (s x : Operand) (t e : TypeId) (size : Nat) (ho : o.op = .call { callee := .builtin .append, args := #[s, x], argTypes := #[t, t] })
    (ht : P.underlying t = some (.slice e)) (hsz : (P.info? e).map (·.size) = some size) {g n cap i j : Nat} {xs : List Value} {R : HProp} (M : Nat) (hM : i + (n - j) = M) (hij : i ≤ j) (hjn : j ≤ n)
    (hs : a.eval s = .slice (some ⟨g, 0, none⟩) i cap) {ad : Addr} (c : Nat) (hx : a.eval x = .slice (some ad) (n - j) c) (had : j < n → ad = ⟨g, j * size, none⟩)
    (h : Has st (sep (row e size (.slice (some ⟨g, 0, none⟩) n cap) n xs) R) w) (h1 : ∀ u ∈ xs, u.oneCell' = true)
    (hK : ∀ w' ys, ys.length = n * size → ys.take (M * size) = xs.take (i * size) ++ xs.drop (j * size) → Has st (sep (row e size (.slice (some ⟨g, 0, none⟩) n cap) n ys) R) w' → K (a.put o.dst (.slice (some ⟨g, 0, none⟩) M cap)) w') :
    if Region.wanted o (yielded ops a.tmps) = true then Oper.wp P o a w K Q else E := by
  subst hM
  have hw : Region.wanted o (yielded ops a.tmps) = true := by simp [Region.wanted, hg]
  rw [if_pos hw]
  exact wpr_delete s x t e size ho ht hsz hij hjn hs c hx had h h1 hK

theorem zeroCells_one {z : Array Value} {n : Nat} (hz : ∀ v ∈ z.toList, v.oneCell' = true) : ∀ v ∈ (Builtin.zeroCells z n).toList, v.oneCell' = true := by
  intro v hv
  rw [Builtin.zeroCells, Array.toList_map, List.mem_map] at hv
  obtain ⟨k, hk, rfl⟩ := hv
  simp at hk
  have hpos : 0 < z.size := Nat.pos_of_ne_zero fun e => by rw [e] at hk; simp at hk
  have := Nat.mod_lt k hpos
  simp only [getElem!_pos, this]
  exact hz _ (by simp)
/-- clear, of elements k .. k + m of a row of one's own -/
theorem opw_clear (x : Operand) (t e : TypeId) (size : Nat) (z : Value) (ho : o.op = .call { callee := .builtin .clear, args := #[x], argTypes := #[t] })
    (ht : P.underlying t = some (.slice e)) (hv : ∀ w, (zeroValue e).run P w = .ok z w) (hzs : z.cells.size = size) (hz1 : ∀ v ∈ z.cells.toList, v.oneCell' = true)
    {g n cap k m : Nat} {xs : List Value} {R : HProp} {A : Option Addr} (c : Nat) (hx : a.eval x = .slice A m c) (hA : 0 < m → A = some ⟨g, k * size, none⟩) (hkm : k + m ≤ n)
    (h : Has st (sep (row e size (.slice (some ⟨g, 0, none⟩) n cap) n xs) R) w)
    (hK : ∀ w' ys, ys.length = n * size → ys.take (k * size) = xs.take (k * size) → Has st (sep (row e size (.slice (some ⟨g, 0, none⟩) n cap) n ys) R) w' → K (a.put o.dst (.tuple #[])) w') :
    o.wp P a w K Q := by
  have hxl : xs.length = n * size := h.ownsRow.1
  cases m with
  | zero =>
    unfold Oper.wp
    cases A <;> simp [execOp, ho, resolve, invoke, builtin, hx, Result.andThen, Builtin.clear_, run_underlying ht] <;> exact hK _ _ hxl rfl h
  | succ m =>
    obtain ⟨cur, h2, h3, h4, h5, h6⟩ := h.row_open
    have hzc : (Builtin.zeroCells z.cells (m + 1)).toList.length = (m + 1) * size := by rw [Array.length_toList, size_zeroCells, hzs]
    have hfit : (k + (m + 1)) * size ≤ n * size := Nat.mul_le_mul_right _ hkm
    have hle3 : n * size ≤ cap * size := Nat.mul_le_mul_right _ h2
    rw [Nat.add_mul] at hfit
    have hst := run_storeCells_at (P := P) g (k * size) e (Builtin.zeroCells z.cells (m + 1)).toList 0 cur w h6.blk (by rw [hzc, h4]; omega) (zeroCells_one hz1)
    simp only [Nat.add_zero] at hst
    have hcl : cur.toList.length = cap * size := by rw [Array.length_toList, h4]
    have h7 := h6.setRow (cur.toList.take (k * size) ++ (Builtin.zeroCells z.cells (m + 1)).toList ++ cur.toList.drop (k * size + (Builtin.zeroCells z.cells (m + 1)).toList.length)).toArray
    have h8 := h7.row_of_blk size n cap h2 h3 (by simp only [List.size_toArray, List.length_append, List.length_take, List.length_drop, hzc]; omega) (xs := (cur.toList.take (k * size) ++ (Builtin.zeroCells z.cells (m + 1)).toList ++ cur.toList.drop (k * size + (Builtin.zeroCells z.cells (m + 1)).toList.length)).take (n * size)) rfl
    obtain rfl := hA (by omega)
    obtain ⟨W1, hW1⟩ : ∃ W1, W1 = w.setRow g (cur.toList.take (k * size) ++ (Builtin.zeroCells z.cells (m + 1)).toList ++ cur.toList.drop (k * size + (Builtin.zeroCells z.cells (m + 1)).toList.length)).toArray := ⟨_, rfl⟩
    rw [← hW1] at hst h8
    unfold Oper.wp
    simp [execOp, ho, resolve, invoke, builtin, hx, Result.andThen, Builtin.clear_, run_underlying ht, hv, hst]
    refine hK _ _ ?_ ?_ h8
    · simp only [List.length_take, List.length_append, List.length_drop]; rw [hzc]; omega
    · rw [List.take_take, Nat.min_eq_left (by omega), List.append_assoc, List.take_append_of_le_length (by rw [List.length_take]; omega), List.take_take, Nat.min_self, ← h5, List.take_take, Nat.min_eq_left (by omega)]
/-- a slice's element is addressed, whatever its size -/
theorem opw_indexN (T e : TypeId) (size : Nat) (x ix : Operand) (ho : o.op = .indexAddr T x ix) (hu : P.underlying T = some (.slice e)) (hsz : (P.info? e).map (·.size) = some size) (g off n c j : Nat) (hx : a.eval x = .slice (some ⟨g, off, none⟩) n c)
    (k : IntKind) (hix : a.eval ix = .int k (j : Int)) (hj : j < n) (hK : K (a.put o.dst (.pointer (some ⟨g, off + j * size, none⟩))) w) : o.wp P a w K Q := by
  refine opw_run (.pointer (some ⟨g, off + j * size, none⟩)) ?_ hK
  obtain ⟨i, hi0, hi1⟩ : ∃ i, P.info? e = some i ∧ i.size = size := by
    cases hp : P.info? e with
    | none => rw [hp] at hsz; cases hsz
    | some i => rw [hp] at hsz; simp at hsz; exact ⟨i, rfl, hsz⟩
  have hj1 : (0 : Int) ≤ j := by omega
  have hj2 : (j : Int) < n := by omega
  unfold execOp
  simp only [ho, hx, hix, Instr.indexAt, Instr.sureAddr, asIntOf, Sem.run_bind, Sem.run_pure, Result.andThen_ok, run_underlying hu]
  simp [sizeOf, typeInfo, hi0, hi1, go_sem, hj, addr_add]
/-- a slice is sliced up to its capacity -/
theorem opw_slC (t e : TypeId) (size : Nat) (x : Operand) (lo hi : Option Operand) (ho : o.op = .slice t x lo hi none) (ht : P.underlying t = some (.slice e)) (hs : (P.info? e).map (·.size) = some size)
    {A : Option Addr} {n cap : Nat} (hx : a.eval x = .slice A n cap) (hnc : n ≤ cap) (L H : Nat) (hlo : SlB (lo.map a.eval) 0 L) (hhi : SlB (hi.map a.eval) n H) (hLH : L ≤ H) (hHn : H ≤ cap)
    (hK : K (a.put o.dst (.slice (subA size A L cap) (H - L) (cap - L))) w) : o.wp P a w K Q := by
  refine opw_run (.slice (subA size A L cap) (H - L) (cap - L)) ?_ hK
  have hrun := run_sliceAt_any (P := P) w t e size ht hs A n cap (lo.map a.eval) (hi.map a.eval) none hlo hhi (SlB.out cap) (fun h => absurd rfl h) hLH (by omega) (Nat.le_refl _) hnc
  unfold execOp
  simp only [ho, hx, Option.map_none, Sem.run_bind, hrun, Result.andThen_ok, Sem.run_pure]
  rfl
end Go.Sl
