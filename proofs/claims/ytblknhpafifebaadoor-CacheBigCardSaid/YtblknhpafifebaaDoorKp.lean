/-
  Kept blobs: cells, rows, pieces. No program in sight.
-/
import Derived.Test.YtblknhpafifebaaDoorRowN
namespace Go.Sl
open Go Go.RowKit
set_option linter.unusedVariables false
set_option linter.unusedSimpArgs false

/-- a kept blob: its sum, where its bytes lie, its bytes -/
structure Kp where
  id : List UInt8
  v : Value
  b : List UInt8
def kc (k : Kp) : List Value := bcells k.id ++ [k.v]
def kcs (K : List Kp) : List Value := K.flatMap kc
def blob (T : TypeId) (k : Kp) : HProp := row T 1 k.v k.b.length (bcells k.b)
def blobs (T : TypeId) : List Kp → HProp
  | [] => emp
  | k :: K => sep (blob T k) (blobs T K)
def Kp.ok (k : Kp) : Prop := k.id.length = 32 ∧ ∃ A c, k.v = .slice A k.b.length c
def tot (K : List Kp) : Nat := (K.map (·.b.length)).sum

theorem kc_length {k : Kp} (h : k.ok) : (kc k).length = 33 := by simp [kc, bcells_length, h.1]
theorem kcs_cons (k : Kp) (K : List Kp) : kcs (k :: K) = kc k ++ kcs K := by simp [kcs]
theorem kcs_append (K L : List Kp) : kcs (K ++ L) = kcs K ++ kcs L := by simp [kcs]
theorem kcs_length : ∀ {K : List Kp}, (∀ k ∈ K, k.ok) → (kcs K).length = K.length * 33
  | [], _ => rfl
  | k :: K, h => by
    rw [kcs_cons, List.length_append, kc_length (h k (by simp)), kcs_length fun x hx => h x (by simp [hx]), List.length_cons]; omega
theorem kcs_drop : ∀ {K : List Kp}, (∀ k ∈ K, k.ok) → ∀ i, (kcs K).drop (i * 33) = kcs (K.drop i)
  | [], _, i => by simp [kcs]
  | k :: K, h, 0 => by simp
  | k :: K, h, i + 1 => by
    rw [kcs_cons, List.drop_succ_cons, ← kcs_drop (fun x hx => h x (by simp [hx])) i, show (i + 1) * 33 = 33 + i * 33 by omega, ← List.drop_drop, ← kc_length (h k (by simp)), List.drop_left]
theorem kcs_take : ∀ {K : List Kp}, (∀ k ∈ K, k.ok) → ∀ i, (kcs K).take (i * 33) = kcs (K.take i)
  | [], _, i => by simp [kcs]
  | k :: K, h, 0 => by simp [kcs]
  | k :: K, h, i + 1 => by
    rw [kcs_cons, List.take_succ_cons, kcs_cons, ← kcs_take (fun x hx => h x (by simp [hx])) i, show (i + 1) * 33 = (kc k).length + i * 33 by rw [kc_length (h k (by simp))]; omega, List.take_length_add_append]
theorem kcs_at {K : List Kp} (h : ∀ k ∈ K, k.ok) {i : Nat} (hi : i < K.length) : ((kcs K).drop (i * 33)).take 33 = kc K[i] := by
  rw [kcs_drop h, List.drop_eq_getElem_cons hi, kcs_cons, ← kc_length (h K[i] (List.getElem_mem hi)), List.take_left]
theorem kcs_cell {K : List Kp} (h : ∀ k ∈ K, k.ok) {i : Nat} (hi : i < K.length) {j : Nat} {u : Value} (hj : (kc K[i])[j]? = some u) : (kcs K)[i * 33 + j]? = some u := by
  rw [← kcs_at h hi] at hj
  have := (List.getElem?_eq_some_iff.1 hj).1
  rw [List.getElem?_take_of_lt (by simp at this; omega), List.getElem?_drop] at hj
  exact hj
theorem kcs_erase {K : List Kp} (h : ∀ k ∈ K, k.ok) (i : Nat) : (kcs K).take (i * 33) ++ (kcs K).drop ((i + 1) * 33) = kcs (K.eraseIdx i) := by
  rw [kcs_take h, kcs_drop h, ← kcs_append, List.eraseIdx_eq_take_drop_succ]
theorem bcells_onecell (l : List UInt8) : ∀ u ∈ bcells l, u.oneCell' = true := by
  intro u hu
  simp only [bcells, List.mem_map] at hu
  obtain ⟨x, _, rfl⟩ := hu
  rfl
theorem kc_one {k : Kp} (h : k.ok) : ∀ u ∈ kc k, u.oneCell' = true := by
  intro u hu
  obtain ⟨_, A, c, hv⟩ := h
  rcases List.mem_append.1 hu with hu | hu
  · exact bcells_onecell _ u hu
  · rw [List.mem_singleton] at hu; rw [hu, hv]; rfl
theorem kcs_one {K : List Kp} (h : ∀ k ∈ K, k.ok) : ∀ u ∈ kcs K, u.oneCell' = true := by
  intro u hu
  obtain ⟨k, hk, hu⟩ := List.mem_flatMap.1 hu
  exact kc_one (h k hk) u hu
theorem ok_erase {K : List Kp} (h : ∀ k ∈ K, k.ok) (i : Nat) : ∀ k ∈ K.eraseIdx i, k.ok := fun k hk => h k (List.mem_of_mem_eraseIdx hk)
theorem ok_append {K : List Kp} (h : ∀ k ∈ K, k.ok) {k : Kp} (hk : k.ok) : ∀ x ∈ K ++ [k], x.ok := by
  intro x hx
  rcases List.mem_append.1 hx with hx | hx
  · exact h x hx
  · rw [List.mem_singleton] at hx; rw [hx]; exact hk
theorem blobs_at (T : TypeId) : ∀ (K : List Kp) (i : Nat) (hi : i < K.length), blobs T K = sep (blob T K[i]) (blobs T (K.eraseIdx i))
  | k :: K, 0, _ => rfl
  | k :: K, i + 1, hi => by
    have hi' : i < K.length := by simpa using hi
    show sep (blob T k) (blobs T K) = sep (blob T K[i]) (sep (blob T k) (blobs T (K.eraseIdx i)))
    rw [blobs_at T K i hi', sep_left_comm]
theorem blobs_snoc (T : TypeId) (k : Kp) : ∀ K : List Kp, blobs T (K ++ [k]) = sep (blob T k) (blobs T K)
  | [] => rfl
  | x :: K => by
    show sep (blob T x) (blobs T (K ++ [k])) = sep (blob T k) (sep (blob T x) (blobs T K))
    rw [blobs_snoc T k K, sep_left_comm]
theorem blobs_set (T : TypeId) : ∀ (K : List Kp) (i : Nat) (hi : i < K.length) (k : Kp), blobs T (K.set i k) = sep (blob T k) (blobs T (K.eraseIdx i))
  | x :: K, 0, _, k => rfl
  | x :: K, i + 1, hi, k => by
    show sep (blob T x) (blobs T (K.set i k)) = sep (blob T k) (sep (blob T x) (blobs T (K.eraseIdx i)))
    rw [blobs_set T K i (by simpa using hi) k, sep_left_comm]
theorem tot_erase : ∀ (K : List Kp) (i : Nat) (hi : i < K.length), tot (K.eraseIdx i) + K[i].b.length = tot K
  | k :: K, 0, _ => by simp [tot]; omega
  | k :: K, i + 1, hi => by
    have hi' : i < K.length := by simpa using hi
    have := tot_erase K i hi'
    simp [tot] at this ⊢; omega
theorem tot_snoc (K : List Kp) (k : Kp) : tot (K ++ [k]) = tot K + k.b.length := by simp [tot]
theorem tot_le_at (K : List Kp) (i : Nat) (hi : i < K.length) : K[i].b.length ≤ tot K := by have := tot_erase K i hi; omega
/-- the place of a sum -/
def place (id : List UInt8) (K : List Kp) : Option Nat := K.findIdx? fun k => k.id == id
def placeZ (id : List UInt8) (K : List Kp) : Int := match place id K with | some i => (i : Int) | none => -1
theorem place_lt {id : List UInt8} {K : List Kp} {i : Nat} (h : place id K = some i) : i < K.length := by
  unfold place at h
  exact (List.findIdx?_eq_some_iff_findIdx_eq.1 h).1
theorem place_id {id : List UInt8} {K : List Kp} {i : Nat} (h : place id K = some i) : (K[i]'(place_lt h)).id = id := by
  have := List.findIdx?_eq_some_iff_getElem.1 h
  obtain ⟨h1, h2, _⟩ := this
  exact eq_of_beq h2
end Go.Sl
