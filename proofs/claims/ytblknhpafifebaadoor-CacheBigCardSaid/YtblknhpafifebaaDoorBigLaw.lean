/-
  coldstorelaw14.CacheBig: the plain law.
-/
import Derived.Test.YtblknhpafifebaaDoorCacheH
namespace Go.Proofs.YtblknhpafifebaaDoor
open Go Go.RowKit Go.Sl Go.Sha
set_option linter.unusedVariables false
set_option linter.unusedSimpArgs false

theorem mem_drop {id : List UInt8} {L : CL} : ∀ e ∈ dropL id L, e ∈ L := by
  unfold dropL; split
  · exact fun e he => List.mem_of_mem_eraseIdx he
  · exact fun e he => he
theorem mem_trim {lim : Int} {n : Nat} : ∀ {L : CL}, ∀ e ∈ trimL lim n L, e ∈ L
  | [], e, h => h
  | k :: L, e, h => by
    rw [trimL] at h
    split at h
    · exact List.mem_cons_of_mem _ (mem_trim e h)
    · exact h
theorem mem_put {lim : Int} {L : CL} {id b : List UInt8} : ∀ e ∈ putL lim L id b, e ∈ L ∨ (e = (id, b) ∧ ¬ lim < (b.length : Int)) := by
  intro e he
  unfold putL at he
  split at he
  · exact .inl (mem_drop e he)
  · rename_i h
    rcases List.mem_append.1 he with he | he
    · exact .inl (mem_drop e (mem_trim e he))
    · exact .inr ⟨by simpa using he, h⟩
theorem mem_get {id : List UInt8} {L : CL} : ∀ e ∈ (getL id L).1, e ∈ L := by
  intro e he
  unfold getL at he
  split at he
  · exact he
  · split at he
    · exact he
    · rename_i k hk
      split at he
      · rcases List.mem_append.1 he with he | he
        · exact List.mem_of_mem_eraseIdx he
        · rw [List.mem_singleton] at he; rw [he]; exact List.mem_of_getElem? hk
      · exact List.mem_of_mem_eraseIdx he
theorem tot_cons (k : List UInt8 × List UInt8) (L : CL) : totL (k :: L) = k.2.length + totL L := by simp [totL]
theorem tot_append (L M : CL) : totL (L ++ M) = totL L + totL M := by simp [totL]
theorem totL_erase : ∀ (L : CL) (i : Nat), totL (L.eraseIdx i) ≤ totL L
  | [], _ => by simp
  | k :: L, 0 => by rw [tot_cons]; simp
  | k :: L, i + 1 => by rw [List.eraseIdx_cons_succ, tot_cons, tot_cons]; have := totL_erase L i; omega
theorem totL_erase_at : ∀ (L : CL) (i : Nat) (k : List UInt8 × List UInt8), L[i]? = some k → totL (L.eraseIdx i) + k.2.length = totL L
  | k :: L, 0, k', h => by simp at h; subst h; rw [tot_cons]; simp; omega
  | k :: L, i + 1, k', h => by
    rw [List.eraseIdx_cons_succ, tot_cons, tot_cons]
    have := totL_erase_at L i k' (by simpa using h); omega
theorem len_dropL (id : List UInt8) (L : CL) : (dropL id L).length ≤ L.length := by
  unfold dropL; split
  · exact List.length_eraseIdx_le _ _
  · exact Nat.le_refl _
theorem tot_dropL (id : List UInt8) (L : CL) : totL (dropL id L) ≤ totL L := by
  unfold dropL; split
  · exact totL_erase _ _
  · exact Nat.le_refl _
theorem len_trimL (lim : Int) (n : Nat) : ∀ L : CL, (trimL lim n L).length ≤ L.length
  | [] => by simp [trimL]
  | k :: L => by
    rw [trimL]; split
    · have := len_trimL lim n L; simp; omega
    · exact Nat.le_refl _
theorem tot_trimL (lim : Int) (n : Nat) : ∀ L : CL, totL (trimL lim n L) ≤ totL L
  | [] => by simp [trimL]
  | k :: L => by
    rw [trimL]; split
    · have := tot_trimL lim n L; rw [tot_cons]; omega
    · exact Nat.le_refl _
theorem len_putL (lim : Int) (L : CL) (id b : List UInt8) : (putL lim L id b).length ≤ L.length + 1 := by
  have h1 := len_dropL id L
  have h2 := len_trimL lim b.length (dropL id L)
  unfold putL; split <;> simp <;> omega
theorem tot_putL (lim : Int) (L : CL) (id b : List UInt8) : totL (putL lim L id b) ≤ totL L + b.length := by
  have h1 := tot_dropL id L
  have h2 := tot_trimL lim b.length (dropL id L)
  unfold putL; split
  · omega
  · rw [tot_append]; simp only [totL, List.map_cons, List.map_nil, List.sum_cons, List.sum_nil] at h1 h2 ⊢; omega
theorem len_getL (id : List UInt8) (L : CL) : (getL id L).1.length ≤ L.length := by
  unfold getL; split
  · exact Nat.le_refl _
  · split
    · exact Nat.le_refl _
    · rename_i i _ k hk
      have hlt := (List.getElem?_eq_some_iff.1 hk).1
      split
      · simp [List.length_eraseIdx_of_lt hlt]; omega
      · exact List.length_eraseIdx_le _ _
theorem tot_getL (id : List UInt8) (L : CL) : totL (getL id L).1 ≤ totL L := by
  unfold getL; split
  · exact Nat.le_refl _
  · split
    · exact Nat.le_refl _
    · rename_i k hk
      have he := totL_erase_at L _ k hk
      split
      · rw [tot_append]; simp only [totL, List.map_cons, List.map_nil, List.sum_cons, List.sum_nil] at he ⊢; omega
      · exact totL_erase _ _
/-- what is kept is of its sum, and no longer than the limit; what is of X's sum is big -/
def BigInv (lim : Int) (X big : List UInt8) (L : CL) : Prop := ∀ e ∈ L, e.1.length = 32 ∧ (e.2.length : Int) ≤ lim ∧ (e.1 = X → e.2 = big)
theorem big_put {lim : Int} {X big : List UInt8} {L : CL} (h : BigInv lim X big L) {b : List UInt8} (hb : (sha b == X) = true → b = big) : BigInv lim X big (putL lim L (sha b) b) := by
  intro e he
  rcases mem_put e he with he | ⟨rfl, h2⟩
  · exact h e he
  · exact ⟨sha_length b, by show ((b.length : Nat) : Int) ≤ lim; omega, fun e => hb (by rw [show (sha b) = X from e]; simp)⟩
theorem big_get {lim : Int} {X big id : List UInt8} {L : CL} (h : BigInv lim X big L) : BigInv lim X big (getL id L).1 := fun e he => h e (mem_get e he)
theorem big_place {lim : Int} {X big : List UInt8} {L : CL} (h : BigInv lim X big L) (hl : lim < (big.length : Int)) : placeL X L = none := by
  unfold placeL
  rw [List.findIdx?_eq_none_iff]
  intro e he
  obtain ⟨_, h2, h3⟩ := h e he
  rw [beq_eq_false_iff_ne]
  intro hx
  rw [h3 hx] at h2
  omega
theorem big_putX {lim : Int} {X big : List UInt8} {L : CL} (h : BigInv lim X big L) (hl : lim < (big.length : Int)) : putL lim L X big = L := by
  unfold putL dropL
  rw [if_pos hl, big_place h hl]
theorem big_getX {lim : Int} {X big : List UInt8} {L : CL} (h : BigInv lim X big L) (hl : lim < (big.length : Int)) : getL X L = (L, [], false) := by
  unfold getL
  rw [big_place h hl]
end Go.Proofs.YtblknhpafifebaaDoor
