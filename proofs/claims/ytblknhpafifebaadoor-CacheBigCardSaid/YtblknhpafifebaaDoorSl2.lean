/-
  More of the pieces: their order; masks of numbers.
-/
import Derived.Test.YtblknhpafifebaaDoorSl
namespace Go.Sl
open Go Go.RowKit
set_option linter.unusedVariables false
set_option linter.unusedSimpArgs false

section
variable {s : World} {p q r t u v y z : HProp} {w : World}
theorem Has.third (h : Has s (sep p (sep q (sep r t))) w) : Has s (sep r (sep p (sep q t))) w := h.cast (by ac_rfl)
theorem Has.fourth (h : Has s (sep p (sep q (sep r (sep t u)))) w) : Has s (sep t (sep p (sep q (sep r u)))) w := h.cast (by ac_rfl)
theorem Has.fifth (h : Has s (sep p (sep q (sep r (sep t (sep u v))))) w) : Has s (sep u (sep p (sep q (sep r (sep t v))))) w := h.cast (by ac_rfl)
theorem Has.sixth (h : Has s (sep p (sep q (sep r (sep t (sep u (sep v y)))))) w) : Has s (sep v (sep p (sep q (sep r (sep t (sep u y)))))) w := h.cast (by ac_rfl)
theorem Has.seventh (h : Has s (sep p (sep q (sep r (sep t (sep u (sep v (sep y z))))))) w) : Has s (sep y (sep p (sep q (sep r (sep t (sep u (sep v z))))))) w := h.cast (by ac_rfl)
end

theorem SlB.of {k : IntKind} {x : Int} {n : Nat} (e : x = (n : Int)) (d : Nat) : SlB (some (.int k x)) d n := .inr ⟨k, by rw [e]⟩
theorem Rd.le_cap {size : Nat} {w : World} {A : Option Addr} {n c : Nat} {xs : List Value} (h : Rd size w (.slice A n c) n xs) : n ≤ c ∧ c ≤ maxLen := by
  obtain ⟨_, _, _, e, h1, h2, _⟩ := h
  injection e with _ _ e
  subst e
  exact ⟨h1, h2⟩
/-- x[:m] -/
theorem Rd.take {size : Nat} {w : World} {A : Option Addr} {n m c : Nat} {xs : List Value} (h : Rd size w (.slice A n c) n xs) (hm : m ≤ n) : Rd size w (.slice A m c) m (xs.take (m * size)) := by
  obtain ⟨hl, A', c', e, h1, h2, hx⟩ := h
  injection e with e1 _ e3
  subst e1 e3
  refine ⟨by rw [List.length_take, hl]; exact Nat.min_eq_left (Nat.mul_le_mul_right _ hm), A, c, rfl, by omega, h2, ?_⟩
  rcases hx with hx | ⟨ad, rfl, hc⟩
  · exact .inl hx
  · refine .inr ⟨ad, rfl, fun j u hu => hc j u ?_⟩
    have hj := (List.getElem?_eq_some_iff.1 hu).1
    rw [List.length_take] at hj
    rwa [List.getElem?_take_of_lt (by omega)] at hu
/-- a literal of one byte -/
theorem sees_lit1 (st : World) (R : HProp) (g : Nat) (t : TypeId) (f : Nat × Nat) (x : Value) : Sees st (sep (blk g (.cells #[x] t f)) R) 1 (.slice (some ⟨g, 0, none⟩) 1 1) 1 [x] := by
  intro w hw
  refine ⟨rfl, _, 1, rfl, Nat.le_refl _, by decide, .inr ⟨_, rfl, fun j u hu => ⟨rfl, ?_⟩⟩⟩
  show w.cell? ⟨g, 0 + j, none⟩ = _
  rw [Nat.zero_add, hw.cell]
  rw [← hu]; simp
section ops
variable {P : Program} {ops : Array Oper} {o : Oper} {a : Act} {K : Act → World → Prop} {Q : Exit → Act → World → Prop} {w : World} {st : World}
/-- APPEND to a row of one's own, as an operation alone -/
theorem op_append (s x : Operand) (t e : TypeId) (size bytes : Nat) (z : Value)
    (ho : o.op = .call { callee := .builtin .append, args := #[s, x], argTypes := #[t, t] })
    (ht : P.underlying t = some (.slice e)) (hi : (P.info? e).map (fun i => (i.zero, i.size, i.bytes)) = some (some z, size, bytes)) (hzs : z.cells.size = size) (hsz : 0 < size)
    {v vx : Value} {n m : Nat} {xs news : List Value} {R : HProp} (hs : a.eval s = v) (hx : a.eval x = vx) (h : Has st (sep (row e size v n xs) R) w) (hr : Rd size w vx m news)
    (h1 : ∀ u ∈ news, u.oneCell' = true) (hb1 : n + m ≤ maxLen) (hb2 : (n + m) * bytes ≤ 140737488355328)
    (hK : ∀ A c w', Has st (sep (row e size (.slice A (n + m) c) (n + m) (xs ++ news)) R) w' → K (a.put o.dst (.slice A (n + m) c)) w') : o.wp P a w K Q := by
  obtain ⟨i, hi0, hi1⟩ : ∃ i, P.info? e = some i ∧ (i.zero = some z ∧ i.size = size ∧ i.bytes = bytes) := by
    cases hp : P.info? e with
    | none => rw [hp] at hi; cases hi
    | some i => rw [hp] at hi; simp at hi; exact ⟨i, rfl, hi⟩
  obtain ⟨hz, hsize, hby⟩ := hi1
  obtain ⟨hl, ad, cap, rfl, hmc, _, hnone | ⟨ad, rfl, hc⟩⟩ := hr
  · obtain ⟨rfl, rfl⟩ := hnone
    obtain rfl : m = 0 := by omega
    have : news = [] := List.eq_nil_of_length_eq_zero (by simpa using hl)
    subst this
    have hrun := run_append_owned_none (P := P) (w := w) 0 t o.type e i size ht hi0 v n xs h.ownsRow
    obtain ⟨A, c, rfl⟩ := h.row_slice
    unfold Oper.wp execOp
    simp only [ho, resolve, invoke, builtin, Sem.run_bind, Sem.run_pure, Result.andThen_ok, List.map_toArray, List.map_cons, List.map_nil, hs, hx, hrun]
    have := hK A c w (by simpa using h)
    rw [Oper.upon_value]
    simpa using this
  · obtain ⟨v', w', hrun, ho', hg, hn, hb⟩ := run_append_at (P := P) w t o.type e i z size bytes ht hi0 hz hsize hby hzs hsz v n xs h.ownsRow ad m cap news hl (fun j u hu => by obtain ⟨b, off, sp⟩ := ad; obtain ⟨h2, h3⟩ := hc j u hu; simp only at h2; subst h2; rw [addr_add]; exact h3) h1 hb1 hb2
    unfold Oper.wp execOp
    simp only [ho, resolve, invoke, builtin, Sem.run_bind, Sem.run_pure, Result.andThen_ok, List.map_toArray, List.map_cons, List.map_nil, hs, hx, hrun]
    obtain ⟨A, c, rfl⟩ := ownsRow_slice ho'
    refine hK A c w' (h.row_step hg ho' ?_)
    intro k hk
    rcases hb with hb | hb
    · exact .inl (hb ▸ hk)
    · rw [hb] at hk; injection hk with hk; exact .inr (by omega)
/-- the same as a step of a region that draws its order -/
theorem step_append {E : Prop} (hg : o.guard = none) (s x : Operand) (t e : TypeId) (size bytes : Nat) (z : Value)
    (ho : o.op = .call { callee := .builtin .append, args := #[s, x], argTypes := #[t, t] })
    (ht : P.underlying t = some (.slice e)) (hi : (P.info? e).map (fun i => (i.zero, i.size, i.bytes)) = some (some z, size, bytes)) (hzs : z.cells.size = size) (hsz : 0 < size)
    {v vx : Value} {n m : Nat} {xs news : List Value} {R : HProp} (hs : a.eval s = v) (hx : a.eval x = vx) (h : Has st (sep (row e size v n xs) R) w) (hr : Rd size w vx m news)
    (h1 : ∀ u ∈ news, u.oneCell' = true) (hb1 : n + m ≤ maxLen) (hb2 : (n + m) * bytes ≤ 140737488355328)
    (hK : ∀ A c w', Has st (sep (row e size (.slice A (n + m) c) (n + m) (xs ++ news)) R) w' → K (a.put o.dst (.slice A (n + m) c)) w') :
    if Region.wanted o (yielded ops a.tmps) = true then Oper.wp P o a w K Q else E := by
  have hw : Region.wanted o (yielded ops a.tmps) = true := by simp [Region.wanted, hg]
  rw [if_pos hw]
  exact op_append s x t e size bytes z ho ht hi hzs hsz hs hx h hr h1 hb1 hb2 hK
end ops
/-- numbers' cells -/
def icells (l : List Int) : List Value := l.map (Value.int .i64)
theorem icells_get {l : List Int} {j : Nat} (hj : j < l.length) : (icells l)[j]? = some (.int .i64 l[j]) := by simp [icells, hj]
theorem icells_length (l : List Int) : (icells l).length = l.length := by simp [icells]
theorem Rd.at {size : Nat} {w : World} {A : Option Addr} {n c : Nat} {xs : List Value} (h : Rd size w (.slice A n c) n xs) (hn : 0 < n) (hsz : 0 < size := by decide) : ∃ b off, A = some ⟨b, off, none⟩ ∧ ∀ j u, xs[j]? = some u → w.cell? ⟨b, off + j, none⟩ = some u := by
  obtain ⟨b, off, cap, e, _, _, hc⟩ := h.open hn hsz
  injection e with e _ _
  exact ⟨b, off, e, hc⟩
section
variable {s : World} {p q r t u v y z : HProp} {w : World}
theorem Has.flat3 (h : Has s (sep (sep p (sep q r)) z) w) : Has s (sep p (sep q (sep r z))) w := h.cast (by ac_rfl)
theorem Has.flat4 (h : Has s (sep (sep p (sep q (sep r t))) z) w) : Has s (sep p (sep q (sep r (sep t z)))) w := h.cast (by ac_rfl)
theorem Has.flat5 (h : Has s (sep (sep p (sep q (sep r (sep t u)))) z) w) : Has s (sep p (sep q (sep r (sep t (sep u z))))) w := h.cast (by ac_rfl)
theorem Has.flat6 (h : Has s (sep (sep p (sep q (sep r (sep t (sep u v))))) z) w) : Has s (sep p (sep q (sep r (sep t (sep u (sep v z)))))) w := h.cast (by ac_rfl)
end
theorem i64_and_mask (n : Int) (m : Nat) (hm : m < 63) : bits .and .i64 n ((2 ^ m - 1 : Nat) : Int) = n % ((2 ^ m : Nat) : Int) := by
  have hp : 2 ^ m < 2 ^ 63 := Nat.pow_lt_pow_right (by decide) hm
  have h1 : 1 ≤ 2 ^ m := Nat.one_le_two_pow
  have e : (BitVec.ofInt IntKind.i64.bits n &&& BitVec.ofInt IntKind.i64.bits ((2 ^ m - 1 : Nat) : Int)).toNat = (n % ((2 ^ m : Nat) : Int)).toNat := by
    rw [BitVec.toNat_and, BitVec.toNat_ofInt, BitVec.toNat_ofInt]
    have e1 : (((2 ^ m - 1 : Nat) : Int) % (2 ^ IntKind.i64.bits : Nat)).toNat = 2 ^ m - 1 := by
      rw [Int.emod_eq_of_lt (by omega) (by have : (2 ^ IntKind.i64.bits : Nat) = 18446744073709551616 := by decide
                                           rw [this]; have : (2:Nat) ^ 63 = 9223372036854775808 := by decide
                                           omega)]
      simp
    rw [e1, Nat.and_two_pow_sub_one_eq_mod]
    have hd : ((2 ^ m : Nat) : Int) ∣ ((2 ^ IntKind.i64.bits : Nat) : Int) := by
      have : (2 ^ m : Nat) ∣ 2 ^ IntKind.i64.bits := Nat.pow_dvd_pow 2 (by show m ≤ 64; omega)
      exact Int.natCast_dvd_natCast.2 this
    have e2 : n % ((2 ^ IntKind.i64.bits : Nat) : Int) % ((2 ^ m : Nat) : Int) = n % ((2 ^ m : Nat) : Int) := Int.emod_emod_of_dvd n hd
    have h3 : 0 ≤ n % ((2 ^ IntKind.i64.bits : Nat) : Int) := Int.emod_nonneg _ (by decide)
    rw [← e2]
    generalize n % ((2 ^ IntKind.i64.bits : Nat) : Int) = x at h3
    obtain ⟨k, rfl⟩ := Int.eq_ofNat_of_zero_le h3
    simp
    norm_cast
  unfold bits
  simp only
  rw [e]
  have h4 : 0 ≤ n % ((2 ^ m : Nat) : Int) := Int.emod_nonneg _ (by omega)
  have h5 : n % ((2 ^ m : Nat) : Int) < ((2 ^ m : Nat) : Int) := Int.emod_lt_of_pos _ (by omega)
  rw [Int.toNat_of_nonneg h4]
  refine IntWalk.i64_in _ ⟨by omega, ?_⟩
  have : (2:Nat) ^ 63 = 9223372036854775808 := by decide
  omega
theorem i64_and7 (n : Int) : bits .and .i64 n 7 = n % 8 := i64_and_mask n 3 (by decide)
theorem i64_and31 (n : Int) : bits .and .i64 n 31 = n % 32 := i64_and_mask n 5 (by decide)
theorem i64_and63 (n : Int) : bits .and .i64 n 63 = n % 64 := i64_and_mask n 6 (by decide)
theorem i64_and255 (n : Int) : bits .and .i64 n 255 = n % 256 := i64_and_mask n 8 (by decide)
theorem i64_and16 (n : Int) : bits .and .i64 n 65535 = n % 65536 := i64_and_mask n 16 (by decide)
theorem i64_and24 (n : Int) : bits .and .i64 n 16777215 = n % 16777216 := i64_and_mask n 24 (by decide)
end Go.Sl
