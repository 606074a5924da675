/-
  SHA-256 in plain Lean: the words, a block, all.
-/
import Derived.Test.YtblknhpafifebaaDoorU32
namespace Go.Sha
set_option linter.unusedVariables false

/-- a word turned to the right -/
def rr (x : UInt32) (n : Nat) : UInt32 := x <<< (UInt32.ofNat (32 - n)) ||| x >>> (UInt32.ofNat n)
def sh (x : UInt32) (n : Nat) : UInt32 := x >>> (UInt32.ofNat n)
def keyList : List UInt32 := [
  0x428a2f98, 0x71374491, 0xb5c0fbcf, 0xe9b5dba5, 0x3956c25b, 0x59f111f1, 0x923f82a4, 0xab1c5ed5,
  0xd807aa98, 0x12835b01, 0x243185be, 0x550c7dc3, 0x72be5d74, 0x80deb1fe, 0x9bdc06a7, 0xc19bf174,
  0xe49b69c1, 0xefbe4786, 0x0fc19dc6, 0x240ca1cc, 0x2de92c6f, 0x4a7484aa, 0x5cb0a9dc, 0x76f988da,
  0x983e5152, 0xa831c66d, 0xb00327c8, 0xbf597fc7, 0xc6e00bf3, 0xd5a79147, 0x06ca6351, 0x14292967,
  0x27b70a85, 0x2e1b2138, 0x4d2c6dfc, 0x53380d13, 0x650a7354, 0x766a0abb, 0x81c2c92e, 0x92722c85,
  0xa2bfe8a1, 0xa81a664b, 0xc24b8b70, 0xc76c51a3, 0xd192e819, 0xd6990624, 0xf40e3585, 0x106aa070,
  0x19a4c116, 0x1e376c08, 0x2748774c, 0x34b0bcb5, 0x391c0cb3, 0x4ed8aa4a, 0x5b9cca4f, 0x682e6ff3,
  0x748f82ee, 0x78a5636f, 0x84c87814, 0x8cc70208, 0x90befffa, 0xa4506ceb, 0xbef9a3f7, 0xc67178f2]
structure S8 where
  a : UInt32
  b : UInt32
  c : UInt32
  d : UInt32
  e : UInt32
  f : UInt32
  g : UInt32
  h : UInt32
deriving DecidableEq
def S8.list (s : S8) : List UInt32 := [s.a, s.b, s.c, s.d, s.e, s.f, s.g, s.h]
def start : S8 := ⟨0x6a09e667, 0xbb67ae85, 0x3c6ef372, 0xa54ff53a, 0x510e527f, 0x9b05688c, 0x1f83d9ab, 0x5be0cd19⟩

/-- the i-th word of a block, as it is read -/
def word (b : List UInt8) (i : Nat) : UInt32 :=
  (b.getD (4 * i) 0).toUInt32 <<< 24 ||| (b.getD (4 * i + 1) 0).toUInt32 <<< 16 ||| (b.getD (4 * i + 2) 0).toUInt32 <<< 8 ||| (b.getD (4 * i + 3) 0).toUInt32
/-- the word made of the words before -/
def next (w : List UInt32) (i : Nat) : UInt32 :=
  let x := w.getD (i - 15) 0
  let y := w.getD (i - 2) 0
  w.getD (i - 16) 0 + (rr x 7 ^^^ rr x 18 ^^^ sh x 3) + w.getD (i - 7) 0 + (rr y 17 ^^^ rr y 19 ^^^ sh y 10)
def words (b : List UInt8) : Nat → List UInt32
  | 0 => []
  | i + 1 => let w := words b i; w ++ [if i < 16 then word b i else next w i]
theorem words_length (b : List UInt8) (i : Nat) : (words b i).length = i := by
  induction i with
  | zero => rfl
  | succ i ih => simp [words, ih]

def turn (s : S8) (k w : UInt32) : S8 :=
  let x := s.h + (rr s.e 6 ^^^ rr s.e 11 ^^^ rr s.e 25) + (s.e &&& s.f ^^^ (~~~ s.e) &&& s.g) + k + w
  let y := (rr s.a 2 ^^^ rr s.a 13 ^^^ rr s.a 22) + (s.a &&& s.b ^^^ s.a &&& s.c ^^^ s.b &&& s.c)
  ⟨x + y, s.a, s.b, s.c, s.d + x, s.e, s.f, s.g⟩
def turns (b : List UInt8) (s : S8) : Nat → S8
  | 0 => s
  | i + 1 => turn (turns b s i) (keyList.getD i 0) ((words b 64).getD i 0)
def plus (s t : S8) : S8 := ⟨s.a + t.a, s.b + t.b, s.c + t.c, s.d + t.d, s.e + t.e, s.f + t.f, s.g + t.g, s.h + t.h⟩
def mix (s : S8) (b : List UInt8) : S8 := plus s (turns b s 64)
theorem ch_or (e f g : UInt32) : (e &&& f) ||| (~~~ e &&& g) = (e &&& f) ^^^ (~~~ e &&& g) := by
  apply UInt32.toBitVec_inj.1
  ext i
  simp
  cases e.toBitVec[i] <;> simp
theorem maj_or (a b c : UInt32) : (a &&& b) ||| (a &&& c) ||| (b &&& c) = (a &&& b) ^^^ (a &&& c) ^^^ (b &&& c) := by
  apply UInt32.toBitVec_inj.1
  ext i
  simp
  cases a.toBitVec[i] <;> cases b.toBitVec[i] <;> cases c.toBitVec[i] <;> rfl
open Go.Sl in
theorem byte_w32 (a : UInt8) : IntKind.u32.wrap (a.toNat : Int) = (a.toUInt32.toNat : Int) := by
  have := a.toNat_lt
  rw [w32_of _ (by omega)]
  simp
open Go.Sl in
theorem word_val (a b c d : UInt8) : bits .or .u32 (bits .or .u32 (bits .or .u32 (IntKind.u32.wrap (IntKind.u32.wrap (a.toNat : Int) * 16777216)) (IntKind.u32.wrap (IntKind.u32.wrap (b.toNat : Int) * 65536))) (IntKind.u32.wrap (IntKind.u32.wrap (c.toNat : Int) * 256))) (IntKind.u32.wrap (d.toNat : Int)) =
    ((a.toUInt32 <<< 24 ||| b.toUInt32 <<< 16 ||| c.toUInt32 <<< 8 ||| d.toUInt32).toNat : Int) := by
  have e1 := fun x : UInt32 => w32_shl x 24 (by decide)
  have e2 := fun x : UInt32 => w32_shl x 16 (by decide)
  have e3 := fun x : UInt32 => w32_shl x 8 (by decide)
  simp only [byte_w32, w32_wrap (_ * _)]
  rw [show (16777216 : Int) = 2 ^ 24 by decide, show (65536 : Int) = 2 ^ 16 by decide, show (256 : Int) = 2 ^ 8 by decide, e1, e2, e3, w32_or, w32_or, w32_or]
  rfl
theorem sum5 (a b c d e : UInt32) : ((a.toNat : Int) + b.toNat + c.toNat + d.toNat + e.toNat) % 4294967296 = ((a + b + c + d + e).toNat : Int) := by
  simp only [UInt32.toNat_add]; omega
theorem sum2 (a b : UInt32) : ((a.toNat : Int) + b.toNat) % 4294967296 = ((a + b).toNat : Int) := by
  simp only [UInt32.toNat_add]; omega
def tx (te tf tg th k w : UInt32) : UInt32 := th + (rr te 6 ^^^ rr te 11 ^^^ rr te 25) + (te &&& tf ^^^ (~~~ te) &&& tg) + k + w
def ty (ta tb tc : UInt32) : UInt32 := (rr ta 2 ^^^ rr ta 13 ^^^ rr ta 22) + (ta &&& tb ^^^ ta &&& tc ^^^ tb &&& tc)
open Go.Sl in
theorem tx_val (te tf tg th k w : UInt32) : ((th.toNat : Int) + bits .xor .u32 (bits .xor .u32 ((rr te 6).toNat : Int) ((rr te 11).toNat : Int)) ((rr te 25).toNat : Int) +
    bits .xor .u32 (bits .and .u32 (te.toNat : Int) (tf.toNat : Int)) (bits .and .u32 (bits .xor .u32 IntKind.u32.max (te.toNat : Int)) (tg.toNat : Int)) + (k.toNat : Int) + (w.toNat : Int)) % 4294967296 = ((tx te tf tg th k w).toNat : Int) := by
  simp only [w32_not, w32_xor, w32_and, sum5]
  rfl
open Go.Sl in
theorem ty_val (ta tb tc : UInt32) : (bits .xor .u32 (bits .xor .u32 ((rr ta 2).toNat : Int) ((rr ta 13).toNat : Int)) ((rr ta 22).toNat : Int) +
    bits .xor .u32 (bits .xor .u32 (bits .and .u32 (ta.toNat : Int) (tb.toNat : Int)) (bits .and .u32 (ta.toNat : Int) (tc.toNat : Int))) (bits .and .u32 (tb.toNat : Int) (tc.toNat : Int))) % 4294967296 = ((ty ta tb tc).toNat : Int) := by
  simp only [w32_xor, w32_and, sum2]
  rfl
open Go.Sl in
theorem next_val (u v x y : UInt32) : IntKind.u32.wrap (IntKind.u32.wrap (IntKind.u32.wrap ((u.toNat : Int) + bits .xor .u32 (bits .xor .u32 ((rr x 7).toNat : Int) ((rr x 18).toNat : Int)) ((x.toNat : Int) / 8)) + (v.toNat : Int)) + bits .xor .u32 (bits .xor .u32 ((rr y 17).toNat : Int) ((rr y 19).toNat : Int)) ((y.toNat : Int) / 1024)) =
    ((u + (rr x 7 ^^^ rr x 18 ^^^ sh x 3) + v + (rr y 17 ^^^ rr y 19 ^^^ sh y 10)).toNat : Int) := by
  have e3 := fun x : UInt32 => w32_shr x 3 (by decide)
  have e10 := fun x : UInt32 => w32_shr x 10 (by decide)
  rw [show (8 : Int) = 2 ^ 3 by decide, show (1024 : Int) = 2 ^ 10 by decide, e3, e10]
  simp only [w32_xor, w32_add]
  rfl
theorem set_next (w : List UInt32) (i : Nat) (hw : w.length = i) (h : i < 64) (x : UInt32) : (w ++ List.replicate (64 - i) 0).set i x = (w ++ [x]) ++ List.replicate (64 - (i + 1)) 0 := by
  rw [List.set_append_right _ _ (by omega), hw, Nat.sub_self, show 64 - i = (64 - (i + 1)) + 1 by omega, List.replicate_succ, List.set_cons_zero, List.append_assoc]
  rfl
end Go.Sha
