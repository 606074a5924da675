/-
  A region that draws its order and ends in 'x = append(y, e)': loads and reckoning, a literal of one element, the append, the assignment.
-/
import Derived.Test.YtblknhpafifebaaDoorOpn
import Derived.Test.YtblknhpafifebaaDoorRowLaw
import Derived.Great.BuildSlice
namespace Go.Sl
open Go Go.RowKit
set_option linter.unusedVariables false
set_option linter.unusedSimpArgs false
/-- the cells of a slice literal -/
def litCells (P : Program) (t : TypeId) (len : Nat) (vs : List (Nat × Value)) : Option (TypeId × Array Value) := match P.underlying t with
  | some (.slice e) => match P.info? e with
    | some ie => match ie.zero with
      | some z => if len * ie.size > 2 ^ 24 then none else if len * ie.size = 0 then none else
        (Instr.fill (fun i => some (i * ie.size, ie.size)) ((Array.range (len * ie.size)).map (z.cells[· % z.cells.size]!)) vs).map fun c => (e, c)
      | none => none
    | none => none
  | _ => none
section
variable {P : Program} {o : Oper} {a : Act} {w : World} {K : Act → World → Prop} {Q : Exit → Act → World → Prop} {st : World}
theorem opw_lit (t : TypeId) (len : Nat) (parts : List (Nat × Operand)) (vs : List (Nat × Value)) (E : TypeId) (cells : Array Value) (ho : o.op = .buildSlice t len parts.toArray) (hvs : parts.map (fun p => (p.1, a.eval p.2)) = vs) (hc : litCells P t len vs = some (E, cells))
    {R : HProp} (h : Has st R w) (hK : ∀ q w', Has st (sep (Sl.blk q (.cells cells E (0, 0))) R) w' → K (a.put o.dst (.slice (some ⟨q, 0, none⟩) len len)) w') : o.wp P a w K Q := by
  unfold litCells at hc
  split at hc
  · rename_i e hu
    split at hc
    · rename_i ie hie
      split at hc
      · rename_i z hz
        split at hc
        · cases hc
        · rename_i h1
          split at hc
          · cases hc
          · rename_i h2
            rw [Option.map_eq_some_iff] at hc
            obtain ⟨c, hf, he⟩ := hc
            injection he with he1 he2
            subst he1 he2
            refine wp_buildSlice t e len parts.toArray ho c ie z hu hie hz h1 h2 ?_ (hK _ _ (h.alloc _))
            have ev : ((parts.toArray.map fun (p : Nat × Operand) => (p.1, a.eval p.2)).toList) = vs := by rw [← hvs]; simp
            show Instr.fill _ _ (parts.toArray.map fun (p : Nat × Operand) => (p.1, a.eval p.2)).toList = _
            rw [ev]; exact hf
      · cases hc
    · cases hc
  · cases hc
/-- what is left of a slice of one element in a block of its own -/
theorem rd_lit1 {w : World} {R : HProp} {q : Nat} {v : Value} {E : TypeId} (h : Has st (sep (Sl.blk q (.cells #[v] E (0, 0))) R) w) : Rd 1 w (.slice (some ⟨q, 0, none⟩) 1 1) 1 [v] :=
  sees_lit1 st R q E (0, 0) v w h
theorem opw_indexSl (T e : TypeId) (x ix : Operand) (ho : o.op = .indexAddr T x ix) (hu : P.underlying T = some (.slice e)) (hsz : (P.info? e).map (·.size) = some 1) (g off n c j : Nat) (hx : a.eval x = .slice (some ⟨g, off, none⟩) n c)
    (k : IntKind) (hix : a.eval ix = .int k (j : Int)) (hj : j < n) (hK : K (a.put o.dst (.pointer (some ⟨g, off + j, none⟩))) w) : o.wp P a w K Q := by
  refine opw_run (.pointer (some ⟨g, off + j, none⟩)) ?_ hK
  obtain ⟨i, hi0, hi1⟩ : ∃ i, P.info? e = some i ∧ i.size = 1 := by
    cases hp : P.info? e with
    | none => rw [hp] at hsz; cases hsz
    | some i => rw [hp] at hsz; simp at hsz; exact ⟨i, rfl, hsz⟩
  have hj1 : (0 : Int) ≤ j := by omega
  have hj2 : (j : Int) < n := by omega
  unfold execOp
  simp only [ho, hx, hix, Instr.indexAt, Instr.sureAddr, asIntOf, Sem.run_bind, Sem.run_pure, Result.andThen_ok, run_underlying hu]
  simp [sizeOf, typeInfo, hi0, hi1, go_sem, hj, addr_add]
end

/-- operation j waits for operation k, be it through others -/
def needs (ops : List Oper) : Nat → Nat → Nat → Bool
  | 0, _, _ => false
  | f + 1, j, k => match ops[j]? with
    | some o => (o.after.toList.filter (Region.binds .any)).any fun e => e.on == k || needs ops f e.on k
    | none => false
theorem Down.nots {ops : List Oper} {L : Nat → Bool} (h : Down ops L) (f : Nat) : ∀ (j k : Nat), L k = false → needs ops f j k = true → L j = false := by
  induction f with
  | zero => intro j k _ hn; cases hn
  | succ f ih =>
    intro j k hk hn
    unfold needs at hn
    cases hL : L j with
    | false => rfl
    | true =>
      exfalso
      cases ho : ops[j]? with
      | none => rw [ho] at hn; cases hn
      | some o =>
        rw [ho] at hn
        simp only [List.any_eq_true, Bool.or_eq_true, beq_iff_eq] at hn
        obtain ⟨e, he, hj⟩ := hn
        have hLe := h j o ho hL e he
        rcases hj with hj | hj
        · rw [hj, hk] at hLe; cases hLe
        · rw [ih _ _ hk hj] at hLe; cases hLe
/-- before the literal; behind it; behind the append; behind the assignment -/
def TailI (st : World) (E : TypeId) (V : Value) (n : Nat) (xs : List Value) (val : Value) (RR : HProp) (b p g : Nat) (L : Nat → Bool) (u : Nat → Value) (w : World) : Prop :=
  if L g then ∃ A c, u g = .slice A (n + 1) c ∧ Has st (sep (row E 1 (.slice A (n + 1) c) (n + 1) (xs ++ [val])) RR) w
  else if L p then ∃ A c, u p = .slice A (n + 1) c ∧ Has st (sep (row E 1 (.slice A (n + 1) c) (n + 1) (xs ++ [val])) RR) w
  else if L b then ∃ q, u b = .slice (some ⟨q, 0, none⟩) 1 1 ∧ Has st (sep (Sl.blk q (.cells #[val] E (0, 0))) (sep (row E 1 V n xs) RR)) w
  else Has st (sep (row E 1 V n xs) RR) w
section
variable {P : Program} {o : Oper} {a : Act} {w : World} {Q : Exit → Act → World → Prop} {st : World} {E : TypeId} {V : Value} {n : Nat} {xs : List Value} {val : Value} {RR : HProp} {b p g : Nat} {L : Nat → Bool} {u : Nat → Value} {φ : Nat → Option Value}
theorem TailI.start (h : Has st (sep (row E 1 V n xs) RR) w) (u : Nat → Value) : TailI st E V n xs val RR b p g (fun _ => false) u w := h
theorem TailI.base (h : TailI st E V n xs val RR b p g L u w) (h1 : L b = false) (h2 : L p = false) (h3 : L g = false) : Has st (sep (row E 1 V n xs) RR) w := by
  unfold TailI at h
  simpa only [h1, h2, h3, Bool.false_eq_true, if_false] using h
theorem TailI.at (h : TailI st E V n xs val RR b p g L u w) {ops : List Oper} (hD : Down ops L) (f i : Nat) (hL : L i = false) (h1 : needs ops f b i = true) (h2 : needs ops 1 p b = true) (h3 : needs ops 1 g p = true) : Has st (sep (row E 1 V n xs) RR) w := by
  have e1 := hD.nots f b i hL h1
  have e2 := hD.nots 1 p b e1 h2
  exact h.base e1 e2 (hD.nots 1 g p e2 h3)
theorem TailI.pure (h : TailI st E V n xs val RR b p g L u w) (k : Nat) (v : Value) (hk : k ≠ b ∧ k ≠ p ∧ k ≠ g) : TailI st E V n xs val RR b p g (upd L k true) (upd u k v) w := by
  unfold TailI at h ⊢
  rw [upd_ne L true (Ne.symm hk.1), upd_ne L true (Ne.symm hk.2.1), upd_ne L true (Ne.symm hk.2.2), upd_ne u v (Ne.symm hk.1), upd_ne u v (Ne.symm hk.2.1), upd_ne u v (Ne.symm hk.2.2)]
  exact h
theorem TailI.lit (hI : TailI st E V n xs val RR b p g L u w) (hS : Slots φ L u) (hφ : φ b = none) (h1 : L b = false) (h2 : L p = false) (h3 : L g = false) (hne : p ≠ b ∧ g ≠ b) (t : TypeId) (x : Operand) (ho : o.op = .buildSlice t 1 #[(0, x)]) (hx : a.eval x = val)
    (hc : litCells P t 1 [(0, val)] = some (E, #[val])) : o.wp P a w (fun a' w' => ∃ v, a' = a.put o.dst v ∧ Slots φ (upd L b true) (upd u b v) ∧ TailI st E V n xs val RR b p g (upd L b true) (upd u b v) w') Q := by
  refine opw_lit t 1 [(0, x)] [(0, val)] E #[val] ho (by simp [hx]) hc (hI.base h1 h2 h3) ?_
  intro q w' h'
  refine ⟨_, rfl, hS.step b _ (.inl hφ), ?_⟩
  unfold TailI
  rw [upd_ne L true hne.1, upd_ne L true hne.2, upd_same, h2, h3]
  exact ⟨q, upd_same _ _ _, h'⟩
theorem TailI.app (hI : TailI st E V n xs val RR b p g L u w) (hS : Slots φ L u) (hφ : φ p = none) (h1 : L b = true) (h2 : L p = false) (h3 : L g = false) (hne : g ≠ p) (s x : Operand) (t : TypeId) (bytes : Nat) (z : Value)
    (ho : o.op = .call { callee := .builtin .append, args := #[s, x], argTypes := #[t, t] }) (ht : P.underlying t = some (.slice E)) (hi : (P.info? E).map (fun i => (i.zero, i.size, i.bytes)) = some (some z, 1, bytes)) (hzs : z.cells.size = 1)
    (hs : a.eval s = V) (hx : a.eval x = u b) (hv : val.oneCell' = true) (hb1 : n + 1 ≤ maxLen) (hb2 : (n + 1) * bytes ≤ 140737488355328) :
    o.wp P a w (fun a' w' => ∃ v, a' = a.put o.dst v ∧ Slots φ (upd L p true) (upd u p v) ∧ TailI st E V n xs val RR b p g (upd L p true) (upd u p v) w') Q := by
  have h := hI
  unfold TailI at h
  simp only [h1, h2, h3, Bool.false_eq_true, if_false, if_true] at h
  obtain ⟨q, hq, h⟩ := h
  rw [hq] at hx
  refine op_append s x t E 1 bytes z ho ht hi hzs (by decide) hs hx h.second (rd_lit1 h) (by intro y hy; simp at hy; subst hy; exact hv) hb1 hb2 ?_
  intro A c w' h'
  refine ⟨_, rfl, hS.step p _ (.inl hφ), ?_⟩
  unfold TailI
  rw [upd_ne L true hne, upd_same, h3]
  exact ⟨A, c, upd_same _ _ _, h'.drop2⟩
theorem TailI.asg (hI : TailI st E V n xs val RR b p g L u w) (hS : Slots φ L u) (hφ : φ g = none) (h2 : L p = true) (h3 : L g = false) (x : Operand) (ho : o.op = .assign x) (hx : a.eval x = u p) :
    o.wp P a w (fun a' w' => ∃ v, a' = a.put o.dst v ∧ Slots φ (upd L g true) (upd u g v) ∧ TailI st E V n xs val RR b p g (upd L g true) (upd u g v) w') Q := by
  have h := hI
  unfold TailI at h
  simp only [h2, h3, Bool.false_eq_true, if_false, if_true] at h
  obtain ⟨A, c, hq, h⟩ := h
  refine opw_move x _ (.inr ho) hx ⟨_, rfl, hS.step g _ (.inl hφ), ?_⟩
  unfold TailI
  rw [upd_same]
  exact ⟨A, c, (upd_same _ _ _).trans hq, h⟩
theorem TailI.done (h : TailI st E V n xs val RR b p g L u w) (h3 : L g = true) : ∃ A c, u g = .slice A (n + 1) c ∧ Has st (sep (row E 1 (.slice A (n + 1) c) (n + 1) (xs ++ [val])) RR) w := by
  unfold TailI at h
  rwa [h3] at h
end
/-- a literal, then its assignment -/
def LitI (st : World) (E : TypeId) (len : Nat) (cells : Array Value) (BB : HProp) (b g : Nat) (L : Nat → Bool) (u : Nat → Value) (w : World) : Prop :=
  if L g then ∃ q, u g = .slice (some ⟨q, 0, none⟩) len len ∧ Has st (sep (Sl.blk q (.cells cells E (0, 0))) BB) w
  else if L b then ∃ q, u b = .slice (some ⟨q, 0, none⟩) len len ∧ Has st (sep (Sl.blk q (.cells cells E (0, 0))) BB) w
  else Has st BB w
section
variable {P : Program} {o : Oper} {a : Act} {w : World} {Q : Exit → Act → World → Prop} {st : World} {E : TypeId} {len : Nat} {cells : Array Value} {BB : HProp} {b g : Nat} {L : Nat → Bool} {u : Nat → Value} {φ : Nat → Option Value}
theorem LitI.start (h : Has st BB w) (u : Nat → Value) : LitI st E len cells BB b g (fun _ => false) u w := h
theorem LitI.at (h : LitI st E len cells BB b g L u w) {ops : List Oper} (hD : Down ops L) (f i : Nat) (hL : L i = false) (h1 : needs ops f b i = true) (h3 : needs ops 1 g b = true) : Has st BB w := by
  have e1 := hD.nots f b i hL h1
  have e2 := hD.nots 1 g b e1 h3
  unfold LitI at h
  simpa only [e1, e2, Bool.false_eq_true, if_false] using h
theorem LitI.pure (h : LitI st E len cells BB b g L u w) (k : Nat) (v : Value) (hk : k ≠ b ∧ k ≠ g) : LitI st E len cells BB b g (upd L k true) (upd u k v) w := by
  unfold LitI at h ⊢
  rw [upd_ne L true (Ne.symm hk.1), upd_ne L true (Ne.symm hk.2), upd_ne u v (Ne.symm hk.1), upd_ne u v (Ne.symm hk.2)]
  exact h
theorem LitI.lit (hI : LitI st E len cells BB b g L u w) (hS : Slots φ L u) (hφ : φ b = none) (h1 : L b = false) (h3 : L g = false) (hne : g ≠ b) (t : TypeId) (parts : List (Nat × Operand)) (vs : List (Nat × Value)) (ho : o.op = .buildSlice t len parts.toArray)
    (hvs : parts.map (fun p => (p.1, a.eval p.2)) = vs) (hc : litCells P t len vs = some (E, cells)) : o.wp P a w (fun a' w' => ∃ v, a' = a.put o.dst v ∧ Slots φ (upd L b true) (upd u b v) ∧ LitI st E len cells BB b g (upd L b true) (upd u b v) w') Q := by
  have h0 : Has st BB w := by
    unfold LitI at hI
    simpa only [h1, h3, Bool.false_eq_true, if_false] using hI
  refine opw_lit t len parts vs E cells ho hvs hc h0 ?_
  intro q w' h'
  refine ⟨_, rfl, hS.step b _ (.inl hφ), ?_⟩
  unfold LitI
  rw [upd_ne L true hne, upd_same, h3]
  exact ⟨q, upd_same _ _ _, h'⟩
theorem LitI.asg (hI : LitI st E len cells BB b g L u w) (hS : Slots φ L u) (hφ : φ g = none) (h2 : L b = true) (h3 : L g = false) (x : Operand) (ho : o.op = .assign x) (hx : a.eval x = u b) :
    o.wp P a w (fun a' w' => ∃ v, a' = a.put o.dst v ∧ Slots φ (upd L g true) (upd u g v) ∧ LitI st E len cells BB b g (upd L g true) (upd u g v) w') Q := by
  have h := hI
  unfold LitI at h
  simp only [h2, h3, Bool.false_eq_true, if_false, if_true] at h
  obtain ⟨q, hq, h⟩ := h
  refine opw_move x _ (.inr ho) hx ⟨_, rfl, hS.step g _ (.inl hφ), ?_⟩
  unfold LitI
  rw [upd_same]
  exact ⟨q, (upd_same _ _ _).trans hq, h⟩
theorem LitI.done (h : LitI st E len cells BB b g L u w) (h3 : L g = true) : ∃ q, u g = .slice (some ⟨q, 0, none⟩) len len ∧ Has st (sep (Sl.blk q (.cells cells E (0, 0))) BB) w := by
  unfold LitI at h
  rwa [h3] at h
end
theorem pair2 {α : Type} {i : Nat} {x y : α} {l m : List (Nat × α)} (h : x = y) (h2 : l = m) : (i, x) :: l = (i, y) :: m := by rw [h, h2]
theorem w32_mul (x y : UInt32) : IntKind.u32.wrap ((x.toNat : Int) * (y.toNat : Int)) = ((x * y).toNat : Int) := by
  rw [w32_wrap, UInt32.toNat_mul, Int.natCast_emod, Int.natCast_mul]; rfl
theorem bin32_mul (x y : UInt32) : binZ .mul .u32 (x.toNat : Int) (y.toNat : Int) = some ((x * y).toNat : Int) := by
  show some (IntKind.u32.wrap ((x.toNat : Int) * (y.toNat : Int))) = _
  rw [w32_mul]
end Go.Sl
