/-
  As XTail, with a literal of several elements. Indexing a text.
-/
import Derived.Test.YtblknhpafifebaaDoorReg2
namespace Go.Sl
open Go Go.RowKit
set_option linter.unusedVariables false
set_option linter.unusedSimpArgs false
/-- before the literal; behind it; behind the append; behind the assignment -/
def TailN (st : World) (E : TypeId) (V : Value) (n : Nat) (xs : List Value) (vals : List Value) (RR : HProp) (b p g : Nat) (L : Nat → Bool) (u : Nat → Value) (w : World) : Prop :=
  if L g then ∃ A c, u g = .slice A (n + vals.length) c ∧ Has st (sep (row E 1 (.slice A (n + vals.length) c) (n + vals.length) (xs ++ vals)) RR) w
  else if L p then ∃ A c, u p = .slice A (n + vals.length) c ∧ Has st (sep (row E 1 (.slice A (n + vals.length) c) (n + vals.length) (xs ++ vals)) RR) w
  else if L b then ∃ q, u b = .slice (some ⟨q, 0, none⟩) vals.length vals.length ∧ Has st (sep (Sl.blk q (.cells vals.toArray E (0, 0))) (sep (row E 1 V n xs) RR)) w
  else Has st (sep (row E 1 V n xs) RR) w
section
variable {P : Program} {o : Oper} {a : Act} {w : World} {Q : Exit → Act → World → Prop} {st : World} {E : TypeId} {V : Value} {n : Nat} {xs : List Value} {vals : List Value} {RR : HProp} {b p g : Nat} {L : Nat → Bool} {u : Nat → Value} {φ : Nat → Option Value}
theorem TailN.start (h : Has st (sep (row E 1 V n xs) RR) w) (u : Nat → Value) : TailN st E V n xs vals RR b p g (fun _ => false) u w := h
theorem TailN.base (h : TailN st E V n xs vals RR b p g L u w) (h1 : L b = false) (h2 : L p = false) (h3 : L g = false) : Has st (sep (row E 1 V n xs) RR) w := by
  unfold TailN at h
  simpa only [h1, h2, h3, Bool.false_eq_true, if_false] using h
theorem TailN.at (h : TailN st E V n xs vals RR b p g L u w) {ops : List Oper} (hD : Down ops L) (f i : Nat) (hL : L i = false) (h1 : needs ops f b i = true) (h2 : needs ops 1 p b = true) (h3 : needs ops 1 g p = true) : Has st (sep (row E 1 V n xs) RR) w := by
  have e1 := hD.nots f b i hL h1
  have e2 := hD.nots 1 p b e1 h2
  exact h.base e1 e2 (hD.nots 1 g p e2 h3)
theorem TailN.pure (h : TailN st E V n xs vals RR b p g L u w) (k : Nat) (v : Value) (hk : k ≠ b ∧ k ≠ p ∧ k ≠ g) : TailN st E V n xs vals RR b p g (upd L k true) (upd u k v) w := by
  unfold TailN at h ⊢
  rw [upd_ne L true (Ne.symm hk.1), upd_ne L true (Ne.symm hk.2.1), upd_ne L true (Ne.symm hk.2.2), upd_ne u v (Ne.symm hk.1), upd_ne u v (Ne.symm hk.2.1), upd_ne u v (Ne.symm hk.2.2)]
  exact h
theorem TailN.lit (hI : TailN st E V n xs vals RR b p g L u w) (hS : Slots φ L u) (hφ : φ b = none) (h1 : L b = false) (h2 : L p = false) (h3 : L g = false) (hne : p ≠ b ∧ g ≠ b) (t : TypeId) (len : Nat) (parts : List (Nat × Operand)) (vs : List (Nat × Value)) (ho : o.op = .buildSlice t len parts.toArray) (hvs : parts.map (fun p => (p.1, a.eval p.2)) = vs)
    (hlen : vals.length = len) (hc : litCells P t len vs = some (E, vals.toArray)) : o.wp P a w (fun a' w' => ∃ v, a' = a.put o.dst v ∧ Slots φ (upd L b true) (upd u b v) ∧ TailN st E V n xs vals RR b p g (upd L b true) (upd u b v) w') Q := by
  refine opw_lit t len parts vs E vals.toArray ho hvs hc (hI.base h1 h2 h3) ?_
  intro q w' h'
  refine ⟨_, rfl, hS.step b _ (.inl hφ), ?_⟩
  unfold TailN
  rw [upd_ne L true hne.1, upd_ne L true hne.2, upd_same, h2, h3]
  exact ⟨q, (upd_same _ _ _).trans (by rw [hlen]), h'⟩
theorem rd_lits {st : World} {w : World} {R : HProp} {q : Nat} {vals : List Value} {E : TypeId} (h : Has st (sep (Sl.blk q (.cells vals.toArray E (0, 0))) R) w) (hm : vals.length ≤ maxLen) : Rd 1 w (.slice (some ⟨q, 0, none⟩) vals.length vals.length) vals.length vals :=
  ⟨by simp, _, vals.length, rfl, Nat.le_refl _, hm, .inr ⟨_, rfl, fun j u hu => ⟨rfl, by rw [Nat.zero_add, h.cell, List.getElem?_toArray]; exact hu⟩⟩⟩
theorem TailN.app (hI : TailN st E V n xs vals RR b p g L u w) (hS : Slots φ L u) (hφ : φ p = none) (h1 : L b = true) (h2 : L p = false) (h3 : L g = false) (hne : g ≠ p) (s x : Operand) (t : TypeId) (bytes : Nat) (z : Value)
    (ho : o.op = .call { callee := .builtin .append, args := #[s, x], argTypes := #[t, t] }) (ht : P.underlying t = some (.slice E)) (hi : (P.info? E).map (fun i => (i.zero, i.size, i.bytes)) = some (some z, 1, bytes)) (hzs : z.cells.size = 1)
    (hs : a.eval s = V) (hx : a.eval x = u b) (hv : ∀ y ∈ vals, y.oneCell' = true) (hb1 : n + vals.length ≤ maxLen) (hb2 : (n + vals.length) * bytes ≤ 140737488355328) :
    o.wp P a w (fun a' w' => ∃ v, a' = a.put o.dst v ∧ Slots φ (upd L p true) (upd u p v) ∧ TailN st E V n xs vals RR b p g (upd L p true) (upd u p v) w') Q := by
  have h := hI
  unfold TailN at h
  simp only [h1, h2, h3, Bool.false_eq_true, if_false, if_true] at h
  obtain ⟨q, hq, h⟩ := h
  rw [hq] at hx
  refine op_append s x t E 1 bytes z ho ht hi hzs (by decide) hs hx h.second (rd_lits h (by omega)) hv hb1 hb2 ?_
  intro A c w' h'
  refine ⟨_, rfl, hS.step p _ (.inl hφ), ?_⟩
  unfold TailN
  rw [upd_ne L true hne, upd_same, h3]
  exact ⟨A, c, upd_same _ _ _, h'.drop2⟩
theorem TailN.asg (hI : TailN st E V n xs vals RR b p g L u w) (hS : Slots φ L u) (hφ : φ g = none) (h2 : L p = true) (h3 : L g = false) (x : Operand) (ho : o.op = .assign x) (hx : a.eval x = u p) :
    o.wp P a w (fun a' w' => ∃ v, a' = a.put o.dst v ∧ Slots φ (upd L g true) (upd u g v) ∧ TailN st E V n xs vals RR b p g (upd L g true) (upd u g v) w') Q := by
  have h := hI
  unfold TailN at h
  simp only [h2, h3, Bool.false_eq_true, if_false, if_true] at h
  obtain ⟨A, c, hq, h⟩ := h
  refine opw_move x _ (.inr ho) hx ⟨_, rfl, hS.step g _ (.inl hφ), ?_⟩
  unfold TailN
  rw [upd_same]
  exact ⟨A, c, (upd_same _ _ _).trans hq, h⟩
theorem TailN.done (h : TailN st E V n xs vals RR b p g L u w) (h3 : L g = true) : ∃ A c, u g = .slice A (n + vals.length) c ∧ Has st (sep (row E 1 (.slice A (n + vals.length) c) (n + vals.length) (xs ++ vals)) RR) w := by
  unfold TailN at h
  rwa [h3] at h
end

section
variable {P : Program} {o : Oper} {a : Act} {w : World} {K : Act → World → Prop} {Q : Exit → Act → World → Prop} {st : World}
theorem opw_indexStr (T : TypeId) (x ix : Operand) (ho : o.op = .index T x ix) (hu : P.underlying T = some .string) (s : ByteArray) (hx : a.eval x = .string s) (k : IntKind) (j : Nat) (hix : a.eval ix = .int k (j : Int)) (c : UInt8) (hj : s.data.toList[j]? = some c)
    (hK : K (a.put o.dst (.int .u8 (c.toNat : Int))) w) : o.wp P a w K Q := by
  refine opw_run (.int .u8 (c.toNat : Int)) ?_ hK
  have hlt : j < s.size := by have := (List.getElem?_eq_some_iff.1 hj).1; simpa using this
  have hg : s[j]? = some c := by
    rw [getElem?_pos s j hlt]
    have := (List.getElem?_eq_some_iff.1 hj).2
    rw [← this]; rfl
  unfold execOp
  simp only [ho, hx, hix, Instr.index, asIntOf, Sem.run_bind, Sem.run_pure, Result.andThen_ok, run_underlying hu]
  simp [hg, go_sem]
theorem opw_indexAgg (T e : TypeId) (n : Nat) (x ix : Operand) (ho : o.op = .index T x ix) (hu : P.underlying T = some (.array n e)) {d : TypeDesc} (hue : P.underlying e = some d) (hd : d.isRow = false) (hsz : (P.info? e).map (·.size) = some 1) (cs : Array Value) (hx : a.eval x = .agg cs) (k : IntKind) (j : Nat) (hix : a.eval ix = .int k (j : Int)) (hj : j < n) (v : Value) (hv : cs[j]? = some v)
    (hK : K (a.put o.dst v) w) : o.wp P a w K Q := by
  refine opw_run v ?_ hK
  obtain ⟨i, hi0, hi1⟩ : ∃ i, P.info? e = some i ∧ i.size = 1 := by
    cases hp : P.info? e with
    | none => rw [hp] at hsz; cases hsz
    | some i => rw [hp] at hsz; simp at hsz; exact ⟨i, rfl, hsz⟩
  have hagg : (isAgg e).run P w = .ok false w := by
    unfold isAgg
    rw [Sem.run_bind, run_underlying hue w]
    cases d <;> simp_all [TypeDesc.isRow]
  unfold execOp
  simp only [ho, hx, hix, Instr.index, asIntOf, Sem.run_bind, Sem.run_pure, Result.andThen_ok, run_underlying hu]
  simp [sizeOf, typeInfo, hi0, hi1, go_sem, hj, part, hagg, hv]
theorem opw_and8 (t t' : TypeId) (x y : Operand) (X Y Z : Int) (ho : o.op = .binOp .and t x y t') (hx : a.eval x = .int .u8 X) (hy : a.eval y = .int .u8 Y) (hz : bits .and .u8 X Y = Z) (hK : K (a.put o.dst (.int .u8 Z)) w) : o.wp P a w K Q := by
  refine opw_run (.int .u8 Z) ?_ hK
  unfold execOp
  unfold bits at hz
  simp only at hz
  simp only [ho, hx, hy, eqGuard, binOp, Op.intBits, Sem.run_bind, Sem.run_pure, Result.andThen_ok, Bool.not_false, if_true, ne_eq, not_true_eq_false, if_false, hz]
end
end Go.Sl
