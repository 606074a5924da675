/-
  A block that is stored to within a region that draws its order; bursts.
-/
import Derived.Test.YtbiacehmfbopfaaSealLaw
namespace Go.Sl
open Go Go.RowKit
set_option linter.unusedVariables false
set_option linter.unusedSimpArgs false
def vsto (Ls : Bool) (g : Nat) (old new : Array Value) (t : TypeId) : HProp := blk g (.cells (if Ls then new else old) t (0, 0))
section
variable {st : World} {R : HProp} {w : World} {Ls : Bool} {g : Nat} {old new : Array Value} {t : TypeId}
theorem Has.vsto_old (h : Has st (sep (vsto Ls g old new t) R) w) (hL : Ls = false) : Has st (sep (Sl.blk g (.cells old t (0, 0))) R) w := by subst hL; exact h
theorem Has.vsto_new (h : Has st (sep (vsto Ls g old new t) R) w) (hL : Ls = true) : Has st (sep (Sl.blk g (.cells new t (0, 0))) R) w := by subst hL; exact h
theorem Has.vsto_mk (h : Has st (sep (Sl.blk g (.cells new t (0, 0))) R) w) : Has st (sep (vsto true g old new t) R) w := h
theorem Has.vsto_start (h : Has st (sep (Sl.blk g (.cells old t (0, 0))) R) w) : Has st (sep (vsto false g old new t) R) w := h
end
theorem and1 (y : Nat) (h : y < 4294967296) : bits .and .u32 (y : Int) 1 = ((y % 2 : Nat) : Int) := by
  have e := w32_and (UInt32.ofNat y) 1
  have h1 : (UInt32.ofNat y).toNat = y := by rw [UInt32.toNat_ofNat']; exact Nat.mod_eq_of_lt h
  rw [h1, UInt32.toNat_and, h1] at e
  rw [show ((1 : UInt32).toNat : Int) = 1 from rfl] at e
  rw [e, show (1 : UInt32).toNat = 1 from rfl, Nat.and_one_is_mod]
theorem shl8 (r : Nat) (h : r < 8) : shZ .shl .u8 1 (r : Int) = some ((((1 : UInt8) <<< (UInt8.ofNat r)).toNat : Nat) : Int) := by
  have : ∀ r : Fin 8, shZ .shl .u8 1 ((r.val : Nat) : Int) = some ((((1 : UInt8) <<< (UInt8.ofNat r.val)).toNat : Nat) : Int) := by decide +kernel
  exact this ⟨r, h⟩
theorem xor8 (a b : UInt8) : bits .xor .u8 (a.toNat : Int) (b.toNat : Int) = ((a ^^^ b).toNat : Int) := by
  have e1 : ∀ a : UInt8, BitVec.ofInt IntKind.u8.bits (a.toNat : Int) = a.toBitVec := fun a => by
    apply BitVec.eq_of_toNat_eq
    rw [BitVec.toNat_ofInt]
    show ((a.toNat : Int) % ((2 ^ 8 : Nat) : Int)).toNat = a.toNat
    have := a.toNat_lt
    omega
  unfold bits
  simp only [e1]
  have := (a ^^^ b).toNat_lt
  show IntKind.u8.wrap (((a ^^^ b).toNat : Nat) : Int) = _
  generalize (a ^^^ b).toNat = n at this ⊢
  simp [IntKind.wrap, IntKind.signed, IntKind.bits]
  omega
end Go.Sl
namespace Go.Proofs.Ytbiacehmfbopfaa
open Go.RowKit Go.Sl Go.Crc
set_option linter.unusedVariables false
set_option linter.unusedSimpArgs false
theorem bgetD {l : List UInt8} {j : Nat} (hj : j < l.length) : (bcells l)[j]? = some (.int .u8 ((l.getD j 0).toNat : Int)) := by
  simp [bcells, bcell, List.getD_eq_getElem?_getD, hj]
/-- one bit turned -/
def flip (l : List UInt8) (p : Nat) : List UInt8 := l.set (p / 8) (l.getD (p / 8) 0 ^^^ ((1 : UInt8) <<< UInt8.ofNat (p % 8)))
theorem flip_length (l : List UInt8) (p : Nat) : (flip l p).length = l.length := by simp [flip]
/-- of a burst, as many as i places -/
def burst (l : List UInt8) (a : Nat) (x : Nat) : Nat → List UInt8
  | 0 => l
  | i + 1 => if x / 2 ^ i % 2 = 1 then flip (burst l a x i) (a + i) else burst l a x i
theorem burst_length (l : List UInt8) (a x : Nat) : ∀ i, (burst l a x i).length = l.length := by
  intro i
  induction i with
  | zero => rfl
  | succ i ih => unfold burst; split; rw [flip_length, ih]; exact ih
def bitAt (l : List UInt8) (p : Nat) : Bool := (l.getD (p / 8) 0).toNat / 2 ^ (p % 8) % 2 == 1
theorem bit_flip : ∀ (c r q : Nat), c < 256 → r < 8 → q < 8 → ((UInt8.ofNat c ^^^ ((1 : UInt8) <<< UInt8.ofNat r)).toNat / 2 ^ q % 2 == 1) = xor (c / 2 ^ q % 2 == 1) (decide (q = r)) := by
  have : ∀ (r q : Fin 8) (c : Fin 256), ((UInt8.ofNat c.val ^^^ ((1 : UInt8) <<< UInt8.ofNat r.val)).toNat / 2 ^ q.val % 2 == 1) = xor (c.val / 2 ^ q.val % 2 == 1) (decide (q.val = r.val)) := by decide +kernel
  intro c r q hc hr hq
  exact this ⟨r, hr⟩ ⟨q, hq⟩ ⟨c, hc⟩
theorem flip_bit (l : List UInt8) (p q : Nat) (hp : p < 8 * l.length) : bitAt (flip l p) q = xor (bitAt l q) (decide (q = p)) := by
  unfold bitAt flip
  by_cases e : q / 8 = p / 8
  · rw [← e, List.getD_eq_getElem?_getD, List.getElem?_set_self (by omega), Option.getD_some]
    have h := bit_flip (l.getD (q / 8) 0).toNat (p % 8) (q % 8) (l.getD (q / 8) 0).toNat_lt (by omega) (by omega)
    rw [UInt8.ofNat_toNat] at h
    rw [h]
    congr 1
    rw [decide_eq_decide]
    omega
  · rw [List.getD_eq_getElem?_getD, List.getElem?_set_ne (fun h => e h.symm), ← List.getD_eq_getElem?_getD]
    have : decide (q = p) = false := decide_eq_false (by omega)
    rw [this, Bool.xor_false]
theorem burst_bit (l : List UInt8) (a x q : Nat) : ∀ i, a + i ≤ 8 * l.length → bitAt (burst l a x i) q = xor (bitAt l q) (decide (a ≤ q ∧ q < a + i) && (x / 2 ^ (q - a) % 2 == 1)) := by
  intro i
  induction i with
  | zero =>
    intro _
    have : decide (a ≤ q ∧ q < a + 0) = false := decide_eq_false (by omega)
    rw [this]; simp [burst]
  | succ i ih =>
    intro h
    have ih := ih (by omega)
    unfold burst
    by_cases e : q = a + i
    · subst e
      have d0 : decide (a ≤ a + i ∧ a + i < a + i) = false := decide_eq_false (by omega)
      have d1 : decide (a ≤ a + i ∧ a + i < a + (i + 1)) = true := decide_eq_true (by omega)
      rw [d0, Bool.false_and, Bool.xor_false] at ih
      rw [d1, Bool.true_and, Nat.add_sub_cancel_left]
      split
      · next hb => rw [flip_bit _ _ _ (by rw [burst_length]; omega), ih, decide_eq_true rfl, hb]; rfl
      · next hb => rw [ih, show (x / 2 ^ i % 2 == 1) = false from beq_eq_false_iff_ne.2 hb, Bool.xor_false]
    · have d : decide (a ≤ q ∧ q < a + (i + 1)) = decide (a ≤ q ∧ q < a + i) := by rw [decide_eq_decide]; omega
      rw [d, ← ih]
      split
      · rw [flip_bit _ _ _ (by rw [burst_length]; omega), decide_eq_false e, Bool.xor_false]
      · rfl
theorem bits_ext (l m t : List UInt8) (T : List Bool) (hT : T.length = 8 * l.length) (hl : m.length = l.length) (h : ∀ q, q < 8 * l.length → bitAt m q = xor (bitAt l q) (T.getD q false)) : bitsOf m = List.zipWith xor (bitsOf l) T := by
  apply List.ext_getElem?
  intro q
  by_cases hq : q < 8 * l.length
  · rw [bitsOf_get m q (by omega), List.getElem?_zipWith, bitsOf_get l q hq, List.getElem?_eq_getElem (show q < T.length by omega)]
    have := h q hq
    unfold bitAt at this
    have hT2 : T.getD q false = T[q]'(by omega) := by rw [List.getD_eq_getElem?_getD, List.getElem?_eq_getElem (show q < T.length by omega)]; rfl
    rw [this, hT2]
  · rw [List.getElem?_eq_none (by rw [bitsOf_length]; omega), List.getElem?_eq_none (by rw [List.length_zipWith, bitsOf_length]; omega)]
theorem burst_unsealed (k o : UInt8) (b : List UInt8) (a : Nat) (x : UInt32) (ha : a + 32 ≤ 8 * (b.length + 5)) (hx : x ≠ 0) : unsealR o (burst (sealB k b) a x.toNat 32) = ([], 36) := by
  have hl := sealB_length k b
  refine unseal_bad _ _ (by rw [burst_length, hl]; omega) ?_
  have hlen : (List.replicate a false ++ bitsN 32 x.toNat ++ List.replicate (8 * (b.length + 5) - a - 32) false).length = 8 * (sealB k b).length := by
    simp only [List.length_append, List.length_replicate, bitsN_length, hl]; omega
  rw [crcS_bits, bits_ext (sealB k b) _ [] (List.replicate a false ++ bitsN 32 x.toNat ++ List.replicate (8 * (b.length + 5) - a - 32) false) hlen (burst_length _ _ _ _) (fun q hq => ?_)]
  · have hs := sealed_state k b
    rw [crcS_bits] at hs
    rw [← hs]
    refine burst_seen _ _ _ a (8 * (b.length + 5) - a - 32) x hx rfl ?_
    rw [hlen, bitsOf_length]
  · rw [burst_bit _ _ _ _ 32 (by rw [hl]; omega)]
    congr 1
    rw [hl] at hq
    rw [List.getD_eq_getElem?_getD]
    by_cases h1 : q < a
    · rw [List.append_assoc, List.getElem?_append_left (by rw [List.length_replicate]; exact h1), List.getElem?_replicate, if_pos h1, decide_eq_false (by omega)]; rfl
    · by_cases h2 : q < a + 32
      · rw [List.append_assoc, List.getElem?_append_right (by rw [List.length_replicate]; omega), List.length_replicate, List.getElem?_append_left (by rw [bitsN_length]; omega), bitsN_get 32 _ _ (by omega), decide_eq_true (by omega)]; rfl
      · rw [List.getElem?_append_right (by rw [List.length_append, List.length_replicate, bitsN_length]; omega), List.getElem?_replicate, decide_eq_false (by omega)]
        split <;> rfl
theorem burst_nought (l : List UInt8) (a : Nat) : ∀ i, burst l a 0 i = l := by
  intro i
  induction i with
  | zero => rfl
  | succ i ih => unfold burst; rw [if_neg (by simp), ih]
end Go.Proofs.Ytbiacehmfbopfaa
