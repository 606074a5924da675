/-
  coldstorelaw14.CacheSpoils.
-/
import Derived.Test.YtblknhpafifebaaDoorAlive14
import Derived.Test.YtblknhpafifebaaDoorSame14
namespace Go.Proofs.YtblknhpafifebaaDoor
open Go Go.RowKit Go.Sl Go.Sha
set_option linter.unusedVariables false
set_option linter.unusedSimpArgs false
set_option maxRecDepth 100000

theorem sp1 (X a : List UInt8) (ha : a.length ≤ 100) : putL 1000 [] X a = [(X, a)] := by
  have : ¬ (1000 : Int) < (a.length : Int) := by omega
  simp [putL, dropL, placeL, trimL, this]
theorem sp2 (X Y a b : List UInt8) (h : (X == Y) = false) (ha : a.length ≤ 100) (hb : b.length ≤ 100) : putL 1000 [(X, a)] Y b = [(X, a), (Y, b)] := by
  have h1 : ¬ (1000 : Int) < (b.length : Int) := by omega
  have h2 : ¬ (1000 : Int) < ((a.length + b.length : Nat) : Int) := by omega
  have hd : dropL Y [(X, a)] = [(X, a)] := by simp [dropL, placeL, List.findIdx?_cons, h]
  have ht : trimL 1000 b.length [(X, a)] = [(X, a)] := by rw [trimL, if_neg (by simpa [totL] using h2)]
  rw [putL, if_neg h1, hd, ht]; rfl
theorem flip_flip (a : List UInt8) (p : Nat) (h : p < 8 * a.length) : Sl.flip (Sl.flip a p) p = a := by
  have hp : p / 8 < a.length := by omega
  unfold Sl.flip
  rw [List.set_set]
  have e : (a.set (p / 8) (a.getD (p / 8) 0 ^^^ ((1 : UInt8) <<< UInt8.ofNat (p % 8)))).getD (p / 8) 0 = a.getD (p / 8) 0 ^^^ ((1 : UInt8) <<< UInt8.ofNat (p % 8)) := by
    rw [List.getD_eq_getElem?_getD, List.getElem?_set_self hp]; rfl
  rw [e, UInt8.xor_assoc, UInt8.xor_self, UInt8.xor_zero]
  have e2 : a.getD (p / 8) 0 = a[p / 8] := by rw [List.getD_eq_getElem?_getD, List.getElem?_eq_getElem hp]; rfl
  rw [e2, List.set_getElem_self]
theorem sp3 (X Y a b : List UInt8) (bit : Int) (at' : Nat) (hn : a.length ≠ 0) (hbit : bit % ((8 * a.length : Nat) : Int) = (at' : Int)) : spoilL X bit [(X, a), (Y, b)] = ([(X, Sl.flip a at'), (Y, b)], true) := by
  have hp : placeL X [(X, a), (Y, b)] = some 0 := by simp [placeL, List.findIdx?_cons]
  unfold spoilL
  rw [hp]
  show (if a.length = 0 then _ else _) = _
  rw [if_neg hn, hbit]
  rfl
theorem sp3' (X Y a b : List UInt8) (bit : Int) (at' : Nat) (h : (Y == X) = false) (hn : a.length ≠ 0) (hbit : bit % ((8 * a.length : Nat) : Int) = (at' : Int)) : spoilL X bit [(Y, b), (X, a)] = ([(Y, b), (X, Sl.flip a at')], true) := by
  have hp : placeL X [(Y, b), (X, a)] = some 1 := by simp [placeL, List.findIdx?_cons, h]
  unfold spoilL
  rw [hp]
  show (if a.length = 0 then _ else _) = _
  rw [if_neg hn, hbit]
  rfl
theorem sp4 (X Y a b : List UInt8) (hX : (sha a == X) = true) : getL X [(X, a), (Y, b)] = ([(Y, b), (X, a)], a, true) := by
  have hp : placeL X [(X, a), (Y, b)] = some 0 := by simp [placeL, List.findIdx?_cons]
  unfold getL
  rw [hp]
  show (if (sha a == X) = true then _ else _) = _
  rw [if_pos hX]; rfl
theorem sp5 (X Y a b : List UInt8) (h : (Y == X) = false) (hX : (sha a == X) = false) : getL X [(Y, b), (X, a)] = ([(Y, b)], [], false) := by
  have hp : placeL X [(Y, b), (X, a)] = some 1 := by simp [placeL, List.findIdx?_cons, h]
  unfold getL
  rw [hp]
  show (if (sha a == X) = true then _ else _) = _
  rw [if_neg (by rw [hX]; exact Bool.false_ne_true)]; rfl
theorem sp6 (X Y b : List UInt8) (h : (Y == X) = false) : getL X [(Y, b)] = ([(Y, b)], [], false) := by
  have hp : placeL X [(Y, b)] = none := by simp [placeL, List.findIdx?_cons, h]
  unfold getL
  rw [hp]
theorem sp7 (Y b : List UInt8) (hY : (sha b == Y) = true) : getL Y [(Y, b)] = ([(Y, b)], b, true) := by
  have hp : placeL Y [(Y, b)] = some 0 := by simp [placeL, List.findIdx?_cons]
  unfold getL
  rw [hp]
  show (if (sha b == Y) = true then _ else _) = _
  rw [if_pos hY]; rfl
end Go.Proofs.YtblknhpafifebaaDoor
