/-
  CRC-32C in plain Lean: steps, bits, bursts.
-/
import Derived.Test.YtbiacehmfbopfaaCode
namespace Go.Crc
set_option linter.unusedVariables false
set_option linter.unusedSimpArgs false
abbrev poly : UInt32 := 2197175160
def stepC (x : UInt32) : UInt32 := (x >>> 1) ^^^ (if x.toNat % 2 = 1 then poly else 0)
theorem odd_xor (x y : UInt32) : (x ^^^ y).toNat % 2 = (x.toNat + y.toNat) % 2 := by
  rw [UInt32.toNat_xor]
  have h := @Nat.xor_mod_two_pow x.toNat y.toNat 1
  rw [Nat.pow_one] at h
  rw [h]
  rcases Nat.mod_two_eq_zero_or_one x.toNat with hx | hx <;> rcases Nat.mod_two_eq_zero_or_one y.toNat with hy | hy <;> rw [hx, hy] <;> simp <;> omega
theorem stepC_xor (x y : UInt32) : stepC (x ^^^ y) = stepC x ^^^ stepC y := by
  unfold stepC
  rw [UInt32.shiftRight_xor, odd_xor]
  have key : (if (x.toNat + y.toNat) % 2 = 1 then poly else 0) = (if x.toNat % 2 = 1 then poly else 0) ^^^ (if y.toNat % 2 = 1 then poly else 0) := by
    rcases Nat.mod_two_eq_zero_or_one x.toNat with hx | hx <;> rcases Nat.mod_two_eq_zero_or_one y.toNat with hy | hy
    · rw [if_neg (by omega), if_neg (by omega), if_neg (by omega)]; decide
    · rw [if_pos (by omega), if_neg (by omega), if_pos (by omega)]; decide
    · rw [if_pos (by omega), if_pos (by omega), if_neg (by omega)]; decide
    · rw [if_neg (by omega), if_pos (by omega), if_pos (by omega)]; decide
  rw [key]
  ac_rfl
theorem stepC_zero : stepC 0 = 0 := by decide
theorem stepC_ne (x : UInt32) (h : x ≠ 0) : stepC x ≠ 0 := by
  intro e
  unfold stepC at e
  have hs : (x >>> 1).toNat = x.toNat / 2 := by rw [UInt32.toNat_shiftRight]; simp [Nat.shiftRight_eq_div_pow]
  have hx := x.toNat_lt
  by_cases ho : x.toNat % 2 = 1
  · rw [if_pos ho] at e
    have e2 : x >>> 1 = poly := by
      have : (x >>> 1) ^^^ poly ^^^ poly = 0 ^^^ poly := by rw [e]
      rw [UInt32.xor_assoc, UInt32.xor_self, UInt32.xor_zero, UInt32.zero_xor] at this
      exact this
    rw [e2] at hs
    have : poly.toNat = 2197175160 := rfl
    omega
  · rw [if_neg ho, UInt32.xor_zero] at e
    rw [e] at hs
    have h0 : (0 : UInt32).toNat = 0 := rfl
    exact h (UInt32.toNat_inj.1 (by rw [h0]; omega))
def run : Nat → UInt32 → UInt32
  | 0, x => x
  | k + 1, x => run k (stepC x)
theorem run_xor : ∀ (k : Nat) (x y : UInt32), run k (x ^^^ y) = run k x ^^^ run k y := by
  intro k
  induction k with
  | zero => intro x y; rfl
  | succ k ih => intro x y; show run k (stepC (x ^^^ y)) = _; rw [stepC_xor, ih]; rfl
theorem run_zero : ∀ (k : Nat), run k 0 = 0 := by
  intro k
  induction k with
  | zero => rfl
  | succ k ih => show run k (stepC 0) = 0; rw [stepC_zero, ih]
theorem run_ne : ∀ (k : Nat) (x : UInt32), x ≠ 0 → run k x ≠ 0 := by
  intro k
  induction k with
  | zero => intro x h; exact h
  | succ k ih => intro x h; exact ih _ (stepC_ne x h)
theorem run_add : ∀ (j k : Nat) (x : UInt32), run (j + k) x = run k (run j x) := by
  intro j
  induction j with
  | zero => intro k x; rw [Nat.zero_add]; rfl
  | succ j ih => intro k x; rw [Nat.add_right_comm]; exact ih k (stepC x)
theorem xor_eq_zero (x y : UInt32) (h : x ^^^ y = 0) : x = y := by
  have : x ^^^ y ^^^ y = 0 ^^^ y := by rw [h]
  rwa [UInt32.xor_assoc, UInt32.xor_self, UInt32.xor_zero, UInt32.zero_xor] at this
theorem run_inj (k : Nat) (x y : UInt32) (h : run k x = run k y) : x = y := by
  apply xor_eq_zero
  by_cases e : x ^^^ y = 0
  · exact e
  · exfalso
    apply run_ne k _ e
    rw [run_xor, h, UInt32.xor_self]
def byteC (s : UInt32) (c : UInt8) : UInt32 := run 8 (s ^^^ c.toUInt32)
def crcS (s : UInt32) (l : List UInt8) : UInt32 := l.foldl byteC s
def crc (l : List UInt8) : UInt32 := ~~~ (crcS 4294967295 l)
theorem crcS_append (s : UInt32) (l m : List UInt8) : crcS s (l ++ m) = crcS (crcS s l) m := by unfold crcS; rw [List.foldl_append]
theorem crcS_snoc (s : UInt32) (l : List UInt8) (c : UInt8) : crcS s (l ++ [c]) = byteC (crcS s l) c := by rw [crcS_append]; rfl
theorem byteC_xor (s t : UInt32) (a b : UInt8) : byteC (s ^^^ t) (a ^^^ b) = byteC s a ^^^ byteC t b := by
  unfold byteC
  rw [← run_xor, UInt8.toUInt32_xor]
  congr 1
  ac_rfl
theorem crcS_xor : ∀ (a b : List UInt8) (s t : UInt32), a.length = b.length → crcS (s ^^^ t) (List.zipWith (· ^^^ ·) a b) = crcS s a ^^^ crcS t b := by
  intro a
  induction a with
  | nil => intro b s t h; cases b with
    | nil => rfl
    | cons => simp at h
  | cons x a ih =>
    intro b s t h
    cases b with
    | nil => simp at h
    | cons y b =>
      show crcS (byteC (s ^^^ t) (x ^^^ y)) (List.zipWith (· ^^^ ·) a b) = _
      rw [byteC_xor, ih b _ _ (by simpa using h)]
      rfl
/-! bits -/
def bitsN : Nat → Nat → List Bool
  | 0, _ => []
  | k + 1, n => (n % 2 == 1) :: bitsN k (n / 2)
def bitC (s : UInt32) (b : Bool) : UInt32 := stepC (s ^^^ (if b then 1 else 0))
def bitsC (s : UInt32) (l : List Bool) : UInt32 := l.foldl bitC s
theorem bitsC_append (s : UInt32) (l m : List Bool) : bitsC s (l ++ m) = bitsC (bitsC s l) m := by unfold bitsC; rw [List.foldl_append]
theorem bitsN_length : ∀ (k n : Nat), (bitsN k n).length = k := by
  intro k
  induction k with
  | zero => intro n; rfl
  | succ k ih => intro n; show (bitsN k (n / 2)).length + 1 = k + 1; rw [ih]
theorem step_bit (s c : UInt32) : stepC (s ^^^ c) = bitC s (c.toNat % 2 == 1) ^^^ (c >>> 1) := by
  unfold bitC
  rw [stepC_xor, stepC_xor, UInt32.xor_assoc]
  congr 1
  rcases Nat.mod_two_eq_zero_or_one c.toNat with h | h
  · have e0 : (c.toNat % 2 == 1) = false := by rw [h]; rfl
    rw [e0]
    simp only [Bool.false_eq_true, if_false, stepC_zero, UInt32.zero_xor]
    unfold stepC
    rw [if_neg (by omega), UInt32.xor_zero]
  · rw [h]; simp only [beq_self_eq_true, if_true]
    have e1 : stepC 1 = poly := by decide
    rw [e1]
    unfold stepC
    rw [if_pos h]
    ac_rfl
theorem run_bits : ∀ (k : Nat) (s c : UInt32), c.toNat < 2 ^ k → run k (s ^^^ c) = bitsC s (bitsN k c.toNat) := by
  intro k
  induction k with
  | zero =>
    intro s c h
    have : c = 0 := UInt32.toNat_inj.1 (by have : (0 : UInt32).toNat = 0 := rfl; simp at h; rw [this, h])
    rw [this, UInt32.xor_zero]; rfl
  | succ k ih =>
    intro s c h
    have hs : (c >>> 1).toNat = c.toNat / 2 := by rw [UInt32.toNat_shiftRight]; simp [Nat.shiftRight_eq_div_pow]
    show run k (stepC (s ^^^ c)) = _
    rw [step_bit, ih _ _ (by rw [hs]; rw [Nat.pow_succ] at h; omega), hs]
    rfl
theorem byteC_bits (s : UInt32) (c : UInt8) : byteC s c = bitsC s (bitsN 8 c.toNat) := by
  unfold byteC
  rw [run_bits 8 s c.toUInt32 (by rw [UInt8.toNat_toUInt32]; exact c.toNat_lt), UInt8.toNat_toUInt32]
def bitsOf (l : List UInt8) : List Bool := l.flatMap fun c => bitsN 8 c.toNat
theorem bitsOf_length : ∀ (l : List UInt8), (bitsOf l).length = 8 * l.length := by
  intro l
  induction l with
  | nil => rfl
  | cons c l ih => show (bitsN 8 c.toNat ++ bitsOf l).length = _; rw [List.length_append, ih, bitsN_length, List.length_cons]; omega
theorem crcS_bits : ∀ (l : List UInt8) (s : UInt32), crcS s l = bitsC s (bitsOf l) := by
  intro l
  induction l with
  | nil => intro s; rfl
  | cons c l ih =>
    intro s
    show crcS (byteC s c) l = bitsC s (bitsN 8 c.toNat ++ bitsOf l)
    rw [bitsC_append, ih, byteC_bits]
theorem bitsN_add : ∀ (j k n : Nat), bitsN (j + k) n = bitsN j n ++ bitsN k (n / 2 ^ j) := by
  intro j
  induction j with
  | zero => intro k n; rw [Nat.zero_add, Nat.pow_zero, Nat.div_one]; rfl
  | succ j ih =>
    intro k n
    rw [Nat.add_right_comm]
    show (n % 2 == 1) :: bitsN (j + k) (n / 2) = (n % 2 == 1) :: (bitsN j (n / 2) ++ bitsN k (n / 2 ^ (j + 1)))
    rw [ih, Nat.div_div_eq_div_mul, Nat.pow_succ, Nat.mul_comm 2]
theorem bitsN_mod : ∀ (k n : Nat), bitsN k (n % 2 ^ k) = bitsN k n := by
  intro k
  induction k with
  | zero => intro n; rfl
  | succ k ih =>
    intro n
    show (n % 2 ^ (k + 1) % 2 == 1) :: bitsN k (n % 2 ^ (k + 1) / 2) = (n % 2 == 1) :: bitsN k (n / 2)
    have e1 : n % 2 ^ (k + 1) % 2 = n % 2 := by
      rw [Nat.pow_succ, Nat.mul_comm]; exact Nat.mod_mul_right_mod n 2 (2 ^ k)
    have e2 : n % 2 ^ (k + 1) / 2 = n / 2 % 2 ^ k := by
      rw [Nat.pow_succ, Nat.mul_comm]; exact Nat.mod_mul_right_div_self n 2 (2 ^ k)
    rw [e1, e2, ih]
open Go.Proofs.Ytbiacehmfbopfaa in
theorem bitsOf_le4 (x : UInt32) : bitsOf (le x.toNat 4) = bitsN 32 x.toNat := by
  have e : le x.toNat 4 = [UInt8.ofNat (x.toNat / 256 ^ 0), UInt8.ofNat (x.toNat / 256 ^ 1), UInt8.ofNat (x.toNat / 256 ^ 2), UInt8.ofNat (x.toNat / 256 ^ 3)] := rfl
  rw [e]
  show bitsN 8 (UInt8.ofNat (x.toNat / 256 ^ 0)).toNat ++ (bitsN 8 (UInt8.ofNat (x.toNat / 256 ^ 1)).toNat ++ (bitsN 8 (UInt8.ofNat (x.toNat / 256 ^ 2)).toNat ++ (bitsN 8 (UInt8.ofNat (x.toNat / 256 ^ 3)).toNat ++ []))) = _
  have h8 : ∀ n, bitsN 8 (UInt8.ofNat n).toNat = bitsN 8 n := fun n => by rw [UInt8.toNat_ofNat']; exact bitsN_mod 8 n
  rw [h8, h8, h8, h8, show (32 : Nat) = 8 + (8 + (8 + (8 + 0))) from rfl, bitsN_add, bitsN_add, bitsN_add, bitsN_add, Nat.div_div_eq_div_mul, Nat.div_div_eq_div_mul, Nat.div_div_eq_div_mul]
  rw [Nat.pow_zero, Nat.div_one]
  rfl
open Go.Proofs.Ytbiacehmfbopfaa in
/-- a sum behind the state -/
theorem crcS_le4 (s x : UInt32) : crcS s (le x.toNat 4) = run 32 (s ^^^ x) := by
  rw [crcS_bits, bitsOf_le4, run_bits 32 s x (by have := x.toNat_lt; omega)]
theorem not_xor_self (x : UInt32) : x ^^^ ~~~ x = 4294967295 := by
  apply UInt32.toBitVec_inj.1
  rw [UInt32.toBitVec_xor, UInt32.toBitVec_not]
  rw [show (4294967295 : UInt32).toBitVec = BitVec.allOnes 32 by decide]
  ext i hi
  simp only [BitVec.getElem_xor, BitVec.getElem_not, BitVec.getElem_allOnes]
  cases x.toBitVec[i] <;> rfl
open Go.Proofs.Ytbiacehmfbopfaa in
/-- bytes with their sum -/
theorem crcS_sealed (l : List UInt8) : crcS 4294967295 (l ++ le (crc l).toNat 4) = run 32 4294967295 := by
  rw [crcS_append, crcS_le4]
  unfold crc
  rw [not_xor_self]
theorem le_inj (x y : UInt32) (h : Go.Proofs.Ytbiacehmfbopfaa.le x.toNat 4 = Go.Proofs.Ytbiacehmfbopfaa.le y.toNat 4) : x = y := by
  have := crcS_le4 0 x
  rw [h, crcS_le4] at this
  have := run_inj 32 _ _ this
  rw [UInt32.zero_xor, UInt32.zero_xor] at this
  exact this.symm
theorem not_inj (x y : UInt32) (h : ~~~ x = ~~~ y) : x = y := by
  have : ~~~ ~~~ x = ~~~ ~~~ y := by rw [h]
  simpa using this
open Go.Proofs.Ytbiacehmfbopfaa in
/-- what reads as sealed is sealed -/
theorem sealed_of (l : List UInt8) (x : UInt32) (h : crcS 4294967295 (l ++ le x.toNat 4) = run 32 4294967295) : x = crc l := by
  have h2 := crcS_sealed l
  rw [crcS_append, crcS_le4] at h h2
  have := run_inj 32 _ _ (h.trans h2.symm)
  have e : crcS 4294967295 l ^^^ (crcS 4294967295 l ^^^ x) = crcS 4294967295 l ^^^ (crcS 4294967295 l ^^^ crc l) := by rw [this]
  rw [← UInt32.xor_assoc, ← UInt32.xor_assoc, UInt32.xor_self, UInt32.zero_xor, UInt32.zero_xor] at e
  exact e
/-! bits turned -/
theorem bitC_xor (s t : UInt32) (a b : Bool) : bitC (s ^^^ t) (a ^^ b) = bitC s a ^^^ bitC t b := by
  unfold bitC
  rw [← stepC_xor]
  congr 1
  have : (if (a ^^ b) = true then (1 : UInt32) else 0) = (if a = true then 1 else 0) ^^^ (if b = true then 1 else 0) := by cases a <;> cases b <;> decide
  rw [this]
  ac_rfl
theorem bitsC_xor : ∀ (a b : List Bool) (s t : UInt32), a.length = b.length → bitsC (s ^^^ t) (List.zipWith xor a b) = bitsC s a ^^^ bitsC t b := by
  intro a
  induction a with
  | nil => intro b s t h; cases b with
    | nil => rfl
    | cons => simp at h
  | cons x a ih =>
    intro b s t h
    cases b with
    | nil => simp at h
    | cons y b =>
      show bitsC (bitC (s ^^^ t) (x ^^ y)) (List.zipWith xor a b) = _
      rw [bitC_xor, ih b _ _ (by simpa using h)]
      rfl
theorem bitsC_noughts : ∀ (k : Nat) (s : UInt32), bitsC s (List.replicate k false) = run k s := by
  intro k
  induction k with
  | zero => intro s; rfl
  | succ k ih =>
    intro s
    show bitsC (bitC s false) (List.replicate k false) = run k (stepC s)
    rw [ih]
    unfold bitC
    simp
/-- a burst is seen -/
theorem burst_seen (a t : List Bool) (s : UInt32) (i r : Nat) (x : UInt32) (hx : x ≠ 0) (ht : t = List.replicate i false ++ bitsN 32 x.toNat ++ List.replicate r false) (hl : a.length = t.length) : bitsC s (List.zipWith xor a t) ≠ bitsC s a := by
  have h := bitsC_xor a t s 0 hl
  rw [UInt32.xor_zero] at h
  rw [h]
  intro e
  have h0 : bitsC 0 t = 0 := by
    have : bitsC s a ^^^ (bitsC s a ^^^ bitsC 0 t) = bitsC s a ^^^ bitsC s a := by rw [e]
    rw [← UInt32.xor_assoc, UInt32.xor_self, UInt32.zero_xor] at this
    exact this
  rw [ht, bitsC_append, bitsC_append, bitsC_noughts, bitsC_noughts, run_zero, ← run_bits 32 0 x (by have := x.toNat_lt; omega), UInt32.zero_xor] at h0
  exact run_ne r _ (run_ne 32 x hx) h0
end Go.Crc
