/-
  What the laws of layer 4 say, in plain Lean; stores into a row.
-/
import Derived.Test.YtbiacehmfbopfaaSealBytes
namespace Go.Sl
open Go Go.RowKit
set_option linter.unusedVariables false
set_option linter.unusedSimpArgs false
theorem opw_storeSl {P : Program} {o : Oper} {a : Act} {w : World} {K : Act → World → Prop} {Q : Exit → Act → World → Prop} {st : World} (t : TypeId) (x y : Operand) (ho : o.op = .store t x y) (hi : (P.info? t).map (·.size) = some 1) (g j : Nat) (v : Value) (hx : a.eval x = .pointer (some ⟨g, j, none⟩)) (hy : a.eval y = v) (hv : v.oneCell' = true)
    {E : TypeId} {n c : Nat} {xs : List Value} {R : HProp} (h : Has st (sep (row E 1 (.slice (some ⟨g, 0, none⟩) n c) n xs) R) w) (hj : j < n)
    (hK : ∀ w', Has st (sep (row E 1 (.slice (some ⟨g, 0, none⟩) n c) n (xs.set j v)) R) w' → K (a.put o.dst undef) w') : o.wp P a w K Q := by
  obtain ⟨cur, h1, h2, h3, h4, h5⟩ := h.row_open
  refine opw_store1 t x y ho hi g j v hx hy hv h5 (by rw [h3]; omega) fun w' h6 => hK w' ?_
  refine h6.row_of_blk 1 n c h1 h2 (by rw [Array.size_setIfInBounds]; exact h3) ?_
  rw [Array.toList_setIfInBounds, List.take_set, h4]
theorem opw_index0 {P : Program} {o : Oper} {a : Act} {w : World} {K : Act → World → Prop} {Q : Exit → Act → World → Prop} (T e : TypeId) (x ix : Operand) (ho : o.op = .indexAddr T x ix) (hu : P.underlying T = some (.slice e)) (hsz : (P.info? e).map (·.size) = some 1) (g n c j : Nat) (hx : a.eval x = .slice (some ⟨g, 0, none⟩) n c)
    (k : IntKind) (hix : a.eval ix = .int k (j : Int)) (hj : j < n) (hK : K (a.put o.dst (.pointer (some ⟨g, j, none⟩))) w) : o.wp P a w K Q :=
  opw_indexSl T e x ix ho hu hsz g 0 n c j hx k hix hj (by rw [Nat.zero_add]; exact hK)
theorem row_cell {st : World} {E : TypeId} {g n c : Nat} {xs : List Value} {R : HProp} {w : World} (h : Has st (sep (row E 1 (.slice (some ⟨g, 0, none⟩) n c) n xs) R) w) {j : Nat} {u : Value} (hj : xs[j]? = some u) : w.cell? ⟨g, j, none⟩ = some u := by
  have := (sees_row st E 1 _ n xs R w h).cell hj
  rwa [Nat.zero_add] at this
theorem xor1 (y : UInt8) : bits .xor .u8 (y.toNat : Int) 1 = ((y ^^^ 1).toNat : Int) := by
  have : ∀ y : Fin 256, bits .xor .u8 (y.val : Int) 1 = ((UInt8.ofNat y.val ^^^ 1).toNat : Int) := by decide +kernel
  have := this ⟨y.toNat, y.toNat_lt⟩
  simpa using this
theorem opw_min {P : Program} {o : Oper} {a : Act} {w : World} {K : Act → World → Prop} {Q : Exit → Act → World → Prop} (x y : Operand) (t : TypeId) (X Y Z : Int) (ho : o.op = .call { callee := .builtin .min, args := #[x, y], argTypes := #[t, t] }) (hx : a.eval x = .int .i64 X) (hy : a.eval y = .int .i64 Y) (hz : (if X ≤ Y then X else Y) = Z) (hK : K (a.put o.dst (.int .i64 Z)) w) : o.wp P a w K Q := by
  refine opw_run (.int .i64 Z) ?_ hK
  subst hz
  unfold execOp
  simp only [ho, resolve, invoke, builtin, Sem.run_bind, Sem.run_pure, Result.andThen_ok, List.map_toArray, List.map_cons, List.map_nil, hx, hy]
  by_cases h : X ≤ Y <;> simp [Builtin.min_, Builtin.min2, go_sem, h] <;> omega
end Go.Sl
namespace Go.Proofs.Ytbiacehmfbopfaa
open Go.RowKit Go.Sl Go.Crc
set_option linter.unusedVariables false
set_option linter.unusedSimpArgs false
theorem unseal_short (k : UInt8) (b : List UInt8) (h : b.length < 5) : unsealR k b = ([], 20) := by unfold unsealR; rw [if_pos h]
/-- what isn't sealed is not unsealed -/
theorem unseal_bad (k : UInt8) (b : List UInt8) (h : 5 ≤ b.length) (hb : crcS 4294967295 b ≠ run 32 4294967295) : unsealR k b = ([], 36) := by
  unfold unsealR
  rw [if_neg (by omega), if_pos]
  rw [beq_eq_false_iff_ne]
  intro e
  apply hb
  rw [← e]
  exact crcS_sealed _
theorem sealed_state (k : UInt8) (b : List UInt8) : crcS 4294967295 (sealB k b) = run 32 4294967295 := crcS_sealed _
theorem bitsN_xor : ∀ (k a b : Nat), bitsN k (a ^^^ b) = List.zipWith xor (bitsN k a) (bitsN k b) := by
  intro k
  induction k with
  | zero => intro a b; rfl
  | succ k ih =>
    intro a b
    show ((a ^^^ b) % 2 == 1) :: bitsN k ((a ^^^ b) / 2) = ((a % 2 == 1) ^^ (b % 2 == 1)) :: List.zipWith xor (bitsN k (a / 2)) (bitsN k (b / 2))
    rw [← ih, Nat.xor_div_two]
    congr 1
    have h := @Nat.xor_mod_two_pow a b 1
    rw [Nat.pow_one] at h
    rw [h]
    rcases Nat.mod_two_eq_zero_or_one a with hx | hx <;> rcases Nat.mod_two_eq_zero_or_one b with hy | hy <;> rw [hx, hy] <;> rfl
/-- one byte turned by x -/
theorem bitsOf_set : ∀ (l : List UInt8) (j : Nat) (x : UInt8), j < l.length → bitsOf (l.set j ((l.getD j 0) ^^^ x)) = List.zipWith xor (bitsOf l) (List.replicate (8 * j) false ++ bitsN 8 x.toNat ++ List.replicate (8 * (l.length - j - 1)) false) := by
  intro l
  induction l with
  | nil => intro j x h; simp at h
  | cons c l ih =>
    intro j x h
    have hz : ∀ (a b t u : List Bool), a.length = t.length → List.zipWith xor (a ++ b) (t ++ u) = List.zipWith xor a t ++ List.zipWith xor b u := fun a b t u he => List.zipWith_append he
    have hf : ∀ (a : List Bool), List.zipWith xor a (List.replicate a.length false) = a := by
      intro a
      induction a with
      | nil => rfl
      | cons y a ih2 => simp [List.replicate_succ, ih2]
    cases j with
    | zero =>
      simp only [List.set_cons_zero, List.getD_cons_zero, Nat.mul_zero, List.replicate_zero, List.nil_append, List.length_cons, Nat.sub_zero, Nat.add_sub_cancel]
      show bitsN 8 (c ^^^ x).toNat ++ bitsOf l = List.zipWith xor (bitsN 8 c.toNat ++ bitsOf l) (bitsN 8 x.toNat ++ List.replicate (8 * l.length) false)
      rw [hz _ _ _ _ (by rw [bitsN_length, bitsN_length]), ← bitsOf_length l, hf]
      congr 1
      rw [UInt8.toNat_xor]
      exact bitsN_xor 8 _ _
    | succ j =>
      simp only [List.set_cons_succ, List.getD_cons_succ, List.length_cons]
      show bitsN 8 c.toNat ++ bitsOf (l.set j (l.getD j 0 ^^^ x)) = List.zipWith xor (bitsN 8 c.toNat ++ bitsOf l) _
      have e : List.replicate (8 * (j + 1)) false ++ bitsN 8 x.toNat ++ List.replicate (8 * (l.length + 1 - (j + 1) - 1)) false = List.replicate 8 false ++ (List.replicate (8 * j) false ++ bitsN 8 x.toNat ++ List.replicate (8 * (l.length - j - 1)) false) := by
        rw [show 8 * (j + 1) = 8 + 8 * j by omega, ← List.replicate_append_replicate, show l.length + 1 - (j + 1) - 1 = l.length - j - 1 by omega]
        simp only [List.append_assoc]
      rw [ih j x (by simpa using h), e, hz _ _ _ _ (by rw [bitsN_length, List.length_replicate])]
      congr 1
      have := hf (bitsN 8 c.toNat)
      rw [bitsN_length] at this
      exact this.symm
theorem last_turned (k : UInt8) (b : List UInt8) : unsealR k ((sealB k b).set (b.length + 4) ((sealB k b).getD (b.length + 4) 0 ^^^ 1)) = ([], 36) := by
  refine unseal_bad _ _ (by rw [List.length_set, sealB_length]; omega) ?_
  have hl := sealB_length k b
  rw [crcS_bits, bitsOf_set _ _ _ (by omega), hl, show b.length + 5 - (b.length + 4) - 1 = 0 by omega]
  have hs := sealed_state k b
  rw [crcS_bits] at hs
  rw [← hs]
  refine burst_seen _ _ _ (8 * b.length + 8) 0 16777216 (by decide) ?_ ?_
  · have e1 : bitsN 32 (16777216 : UInt32).toNat = List.replicate 24 false ++ bitsN 8 (1 : UInt8).toNat := by decide
    rw [e1, ← List.append_assoc, List.replicate_append_replicate]
    simp only [Nat.mul_zero, List.replicate_zero, List.append_nil]
    congr 2
  · rw [bitsOf_length, hl]
    simp only [List.length_append, List.length_replicate, bitsN_length]
    omega
end Go.Proofs.Ytbiacehmfbopfaa
