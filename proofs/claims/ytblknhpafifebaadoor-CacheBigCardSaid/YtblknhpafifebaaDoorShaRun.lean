/-
  SHA-256 in plain Lean: blocks in a row, the end, the sum.
-/
import Derived.Test.YtblknhpafifebaaDoorShaSpec
namespace Go.Sha
set_option linter.unusedVariables false
set_option linter.unusedSimpArgs false

theorem word_take (b : List UInt8) (i : Nat) (hi : i < 16) : word (b.take 64) i = word b i := by
  have h : ∀ j, j < 64 → (b.take 64).getD j 0 = b.getD j 0 := fun j hj => by
    simp only [List.getD_eq_getElem?_getD, List.getElem?_take_of_lt hj]
  unfold word
  rw [h _ (by omega), h _ (by omega), h _ (by omega), h _ (by omega)]
theorem words_take (b : List UInt8) (i : Nat) : words (b.take 64) i = words b i := by
  induction i with
  | zero => rfl
  | succ i ih =>
    simp only [words, ih]
    by_cases h : i < 16
    · rw [if_pos h, if_pos h, word_take b i h]
    · rw [if_neg h, if_neg h]
theorem turns_take (b : List UInt8) (s : S8) (i : Nat) : turns (b.take 64) s i = turns b s i := by
  induction i with
  | zero => rfl
  | succ i ih => simp only [turns, ih, words_take]
theorem mix_take (s : S8) (b : List UInt8) : mix s (b.take 64) = mix s b := by unfold mix; rw [turns_take]
theorem mix_congr (s : S8) (b c : List UInt8) (h : b.take 64 = c.take 64) : mix s b = mix s c := by rw [← mix_take s b, ← mix_take s c, h]

/-- blocks in a row -/
def run (s : S8) (l : List UInt8) : Nat → S8
  | 0 => s
  | k + 1 => mix (run s l k) (l.drop (64 * k))
theorem run_add (s : S8) (l : List UInt8) (k j : Nat) : run s l (k + j) = run (run s l k) (l.drop (64 * k)) j := by
  induction j with
  | zero => rfl
  | succ j ih =>
    rw [← Nat.add_assoc]
    show mix (run s l (k + j)) _ = mix (run (run s l k) (l.drop (64 * k)) j) _
    rw [ih, List.drop_drop]
    congr 2
    omega
theorem run_append (s : S8) (m b : List UInt8) (k : Nat) (h : 64 * k ≤ m.length) : run s (m ++ b) k = run s m k := by
  induction k with
  | zero => rfl
  | succ k ih =>
    show mix (run s (m ++ b) k) _ = mix (run s m k) _
    rw [ih (by omega)]
    refine mix_congr _ _ _ ?_
    rw [List.drop_append_of_le_length (by omega), List.take_append_of_le_length (by rw [List.length_drop]; omega)]
/-- the state behind bytes' whole blocks, and the bytes that are left -/
def state (m : List UInt8) : S8 := run start m (m.length / 64)
def left (m : List UInt8) : List UInt8 := m.drop (64 * (m.length / 64))
theorem left_length (m : List UInt8) : (left m).length = m.length % 64 := by unfold left; rw [List.length_drop]; omega
theorem state_append (m b : List UInt8) : state (m ++ b) = run (state m) (left m ++ b) ((left m ++ b).length / 64) := by
  have hl := left_length m
  unfold state
  rw [show (m ++ b).length / 64 = m.length / 64 + (left m ++ b).length / 64 by rw [List.length_append, List.length_append, hl]; omega, run_add, run_append _ _ _ _ (by omega)]
  congr 1
  unfold left
  rw [List.drop_append_of_le_length (by omega)]
theorem left_append (m b : List UInt8) : left (m ++ b) = (left m ++ b).drop (64 * ((left m ++ b).length / 64)) := by
  have hl := left_length m
  have : left m ++ b = (m ++ b).drop (64 * (m.length / 64)) := by
    unfold left; rw [List.drop_append_of_le_length (by omega)]
  rw [this, List.drop_drop]
  unfold left
  congr 1
  rw [List.length_drop]
  have := Nat.div_add_mod m.length 64
  rw [List.length_append]
  omega
/-- eight bytes of a number, the highest first -/
def be8 (n : Nat) : List UInt8 := (List.range 8).map fun i => UInt8.ofNat (n / 256 ^ (7 - i))
def tail (n : Nat) : List UInt8 := 128 :: (List.replicate ((119 - n % 64) % 64) 0 ++ be8 (8 * n))
def bytes (s : S8) : List UInt8 := (List.range 32).map fun i => UInt8.ofNat ((s.list.getD (i / 4) 0).toNat / 2 ^ (24 - 8 * (i % 4)))
/-- the sum -/
def sha (m : List UInt8) : List UInt8 := bytes (state (m ++ tail m.length))
theorem bytes_length (s : S8) : (bytes s).length = 32 := by simp [bytes]
theorem sha_length (m : List UInt8) : (sha m).length = 32 := bytes_length _
theorem tail_length (n : Nat) : (n + (tail n).length) % 64 = 0 := by
  simp [tail, be8]; omega
theorem left_tail (m : List UInt8) : (left m ++ tail m.length).length % 64 = 0 := by
  have := tail_length m.length
  rw [List.length_append, left_length]; omega
end Go.Sha
