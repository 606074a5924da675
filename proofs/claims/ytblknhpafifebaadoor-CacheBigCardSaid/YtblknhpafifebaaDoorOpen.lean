/-
  How the arguments of a statement read in memory: from the form's own reading to what the walks take. And the row's frame, whatever the arguments.
-/
import Derived.Test.YtblknhpafifebaaDoorSl2
import Derived.ProofKit
import Derived.OpenShut
import Derived.ChangeOld
import Derived.SizedLaws
import Derived.Deep.Slices
import Derived.Deep.Fields
import Derived.ShutString
namespace Go.Sl
open Go Go.RowKit Go.ChangeShapes Go.WideShapes Go.ChangeAt Go.Deep
set_option linter.unusedVariables false
set_option linter.unusedSimpArgs false

/-- what reads so at the beginning reads so as long as that memory is held -/
theorem sees_old {W : World} {size : Nat} {v : Value} {n : Nat} {xs : List Value} (h : Rd size W v n xs) : Sees W (old W) size v n xs := by
  intro w hw
  obtain ⟨hl, a, cap, rfl, hnc, hcm, hx⟩ := h
  refine ⟨hl, a, cap, rfl, hnc, hcm, ?_⟩
  rcases hx with hx | ⟨ad, rfl, hc⟩
  · exact .inl hx
  · refine .inr ⟨ad, rfl, fun j u hu => ?_⟩
    obtain ⟨h1, h2⟩ := hc j u hu
    refine ⟨h1, ?_⟩
    have hb := hw.old_below
    exact (hb.cell (p := ⟨ad.block, ad.off + j, none⟩) (World.block_lt_of_cell? W _ h2)).trans h2

section
variable {H : Type} {enc : TypeId × Value → H} {P : Program} {W : World} {base : Nat} {spare : Nat → Bool} {held : Bool}

theorem addr_at {w : World} {a : Addr} {j : Nat} {u : Value} (h : w.cell? (a.add j) = some u) : a.spot = none ∨ j ≠ 0 ∧ a.spot ≠ none := by
  by_cases h0 : a.spot = none
  · exact .inl h0
  · right
    refine ⟨?_, h0⟩
    rintro rfl
    exact h0 (World.cell?_spot h)

/-- bytes -/
theorem open_bytes {t e : TypeId} {fuel : Nat} {cs : List Value} {x : DataW H × List MemPlace} (ht : P.underlying t = some (.slice e)) (he : P.underlying e = some (.int .u8)) (hc : P.cellsOf e = 1)
    (h : DataW.trod enc P W base (fun _ => true) held fuel t cs = some x) : ∃ (A : Option Addr) (c : Nat) (l : List UInt8), cs = [.slice A l.length c] ∧ Sees W (old W) 1 (.slice A l.length c) l.length (bcells l) := by
  rcases open_ints ht he hc h with ⟨rfl, _⟩ | ⟨a, len, cap, zs, rfl, _, hl, hm, hz, _, hcell, hwz⟩
  · exact ⟨none, 0, [], rfl, sees_old (Rd.nil 1 W)⟩
  · simp only [if_true] at hz
    have hlen : ((zs.take len).map fun z => UInt8.ofNat z.toNat).length = len := by simp; omega
    refine ⟨some a, cap, (zs.take len).map fun z => UInt8.ofNat z.toNat, by rw [hlen], ?_⟩
    rw [hlen]
    refine sees_old ⟨by rw [bcells_length, hlen]; omega, some a, cap, rfl, hl, hm, ?_⟩
    right
    refine ⟨a, rfl, fun j u hu => ?_⟩
    have hj : j < len := by have := (List.getElem?_eq_some_iff.1 hu).1; rwa [bcells_length, hlen] at this
    have h0 := hcell 0 (by omega)
    have hsp : a.spot = none := by
      have := World.cell?_spot h0
      simpa [Addr.add] using this
    refine ⟨hsp, ?_⟩
    have hcj := hcell j (by omega)
    obtain ⟨b, off, sp⟩ := a
    simp only at hsp
    subst hsp
    rw [addr_add] at hcj
    rw [hcj, ← hu]
    have hw := hwz (zs.getD j 0) (by rw [List.getD_eq_getElem?_getD, List.getElem?_eq_getElem (by omega)]; exact List.getElem_mem _)
    have hb : 0 ≤ zs.getD j 0 ∧ zs.getD j 0 ≤ 255 := by simpa [Lit.wf, IntKind.min, IntKind.max, IntKind.signed, IntKind.bits] using hw
    have hg : zs.getD j 0 = zs[j]'(by omega) := by rw [List.getD_eq_getElem?_getD, List.getElem?_eq_getElem (by omega)]; rfl
    rw [hg] at hb ⊢
    simp only [bcells, List.map_map, List.getElem?_map, List.getElem?_take_of_lt hj, List.getElem?_eq_getElem (show j < zs.length by omega), Option.map_some, Function.comp, bcell]
    congr 2
    rw [UInt8.toNat_ofNat']
    omega

/-- numbers -/
theorem open_nums {t e : TypeId} {fuel : Nat} {cs : List Value} {x : DataW H × List MemPlace} (ht : P.underlying t = some (.slice e)) (he : P.underlying e = some (.int .i64)) (hc : P.cellsOf e = 1)
    (h : DataW.trod enc P W base (fun _ => true) held fuel t cs = some x) : ∃ (A : Option Addr) (c : Nat) (l : List Int), cs = [.slice A l.length c] ∧ Sees W (old W) 1 (.slice A l.length c) l.length (icells l) := by
  rcases open_ints ht he hc h with ⟨rfl, _⟩ | ⟨a, len, cap, zs, rfl, _, hl, hm, hz, _, hcell, hwz⟩
  · exact ⟨none, 0, [], rfl, sees_old (Rd.nil 1 W)⟩
  · simp only [if_true] at hz
    have hlen : (zs.take len).length = len := by simp; omega
    refine ⟨some a, cap, zs.take len, by rw [hlen], ?_⟩
    rw [hlen]
    refine sees_old ⟨by rw [icells_length, hlen]; omega, some a, cap, rfl, hl, hm, ?_⟩
    right
    refine ⟨a, rfl, fun j u hu => ?_⟩
    have hj : j < len := by have := (List.getElem?_eq_some_iff.1 hu).1; rwa [icells_length, hlen] at this
    have h0 := hcell 0 (by omega)
    have hsp : a.spot = none := by
      have := World.cell?_spot h0
      simpa [Addr.add] using this
    refine ⟨hsp, ?_⟩
    have hcj := hcell j (by omega)
    obtain ⟨b, off, sp⟩ := a
    simp only at hsp
    subst hsp
    rw [addr_add] at hcj
    rw [hcj, ← hu]
    have hg : zs.getD j 0 = zs[j]'(by omega) := by rw [List.getD_eq_getElem?_getD, List.getElem?_eq_getElem (by omega)]; rfl
    rw [hg]
    simp [icells, List.getElem?_take_of_lt hj, List.getElem?_eq_getElem (show j < zs.length by omega)]

/-- a slice of anything: its cells -/
theorem open_cells {t e : TypeId} {size fuel : Nat} {cs : List Value} {x : DataW H × List MemPlace} (ht : P.underlying t = some (.slice e)) (hc : P.cellsOf e = size) (hsz : 0 < size)
    (h : DataW.trod enc P W base (fun _ => true) held fuel t cs = some x) : ∃ (A : Option Addr) (n c : Nat) (vs : List Value), cs = [.slice A n c] ∧ Sees W (old W) size (.slice A n c) n vs ∧
      ∀ i, i < n → ∃ cs' m y, DataW.trod enc P W base (fun _ => true) held m e cs' = some y ∧ cs'.length = size ∧ ∀ j, j < size → vs[i * size + j]? = cs'[j]? := by
  rcases open_slice ht h with ⟨rfl, _⟩ | ⟨a, len, cap, m, n, D, Pl, rfl, _, hl, hm, hmm, _, hx⟩
  · exact ⟨none, 0, 0, [], rfl, sees_old (Rd.nil size W), fun i hi => absurd hi (by omega)⟩
  · simp only [if_true] at hmm
    subst hmm
    rw [hc] at hx
    have hx' : ∀ i, i < len → ∃ cs', (cs'.length = size ∧ ∀ j, j < size → W.cell? ((a.add (i * size)).add j) = cs'[j]?) ∧ DataW.trod enc P W base (fun _ => true) held n e cs' = some (D i, Pl i) := fun i hi => by
      obtain ⟨cs', h1, h2⟩ := hx i (by omega)
      obtain ⟨_, h3, h4⟩ := World.cells?_some h1
      exact ⟨cs', ⟨h3, h4⟩, h2⟩
    obtain ⟨F, hF⟩ : ∃ F : Nat → List Value, ∀ i, i < len → ((F i).length = size ∧ ∀ j, j < size → W.cell? ((a.add (i * size)).add j) = (F i)[j]?) ∧ DataW.trod enc P W base (fun _ => true) held n e (F i) = some (D i, Pl i) :=
      ⟨fun i => if hi : i < len then (hx' i hi).choose else [], fun i hi => by simp only [dif_pos hi]; exact (hx' i hi).choose_spec⟩
    have hlenF : ∀ k, k ≤ len → ((List.range k).flatMap F).length = k * size := by
      intro k
      induction k with
      | zero => intro _; simp
      | succ k ih =>
        intro hk
        rw [List.range_succ, List.flatMap_append, List.length_append, ih (by omega)]
        simp only [List.flatMap_cons, List.flatMap_nil, List.append_nil]
        rw [(hF k (by omega)).1.1, Nat.add_mul, Nat.one_mul]
    have hget : ∀ k, k ≤ len → ∀ i, i < k → ∀ j, j < size → ((List.range k).flatMap F)[i * size + j]? = (F i)[j]? := by
      intro k
      induction k with
      | zero => intro _ i hi; omega
      | succ k ih =>
        intro hk i hi j hj
        rw [List.range_succ, List.flatMap_append]
        simp only [List.flatMap_cons, List.flatMap_nil, List.append_nil]
        by_cases hik : i < k
        · rw [List.getElem?_append_left]
          · exact ih (by omega) i hik j hj
          · rw [hlenF k (by omega)]
            calc i * size + j < i * size + size := by omega
              _ = (i + 1) * size := by rw [Nat.add_mul, Nat.one_mul]
              _ ≤ k * size := Nat.mul_le_mul_right _ (by omega)
        · obtain rfl : i = k := by omega
          rw [List.getElem?_append_right (by rw [hlenF i (by omega)]; omega), hlenF i (by omega)]
          congr 1
          omega
    refine ⟨some a, len, m, (List.range len).flatMap F, rfl, sees_old ⟨hlenF len (Nat.le_refl _), some a, m, rfl, hl, hm, .inr ⟨a, rfl, fun j u hu => ?_⟩⟩, fun i hi => ⟨F i, n, _, (hF i hi).2, (hF i hi).1.1, fun j hj => hget len (Nat.le_refl _) i hi j hj⟩⟩
    have hj : j < len * size := by have := (List.getElem?_eq_some_iff.1 hu).1; rwa [hlenF len (Nat.le_refl _)] at this
    have hlen0 : 0 < len := by
      rcases Nat.eq_zero_or_pos len with h0 | h0
      · subst h0; omega
      · exact h0
    have hsp : a.spot = none := by
      have h0 := (hF 0 hlen0).1.2 0 hsz
      have h1 : (F 0)[0]? = some ((F 0)[0]'(by rw [(hF 0 hlen0).1.1]; exact hsz)) := List.getElem?_eq_getElem _
      rw [h1] at h0
      have := World.cell?_spot h0
      simpa [Addr.add] using this
    obtain ⟨b, off, sp⟩ := a
    simp only at hsp
    subst hsp
    refine ⟨rfl, ?_⟩
    have hdiv : j / size < len := by rw [Nat.div_lt_iff_lt_mul hsz]; exact hj
    have hmod := Nat.mod_lt j hsz
    have e1 : j / size * size + j % size = j := Nat.div_add_mod' j size
    have h1 := hget len (Nat.le_refl _) (j / size) hdiv (j % size) hmod
    rw [e1, hu] at h1
    have h2 := (hF (j / size) hdiv).1.2 (j % size) hmod
    rw [addr_add, addr_add, Nat.add_assoc, e1, ← h1] at h2
    exact h2

/-- a struct's fields -/
theorem open_field {t : TypeId} {fs : Array Field} {fuel : Nat} {cs : List Value} {x : DataW H × List MemPlace} (ht : P.underlying t = some (.struct fs)) (h : DataW.trod enc P W base spare held fuel t cs = some x) (i : Nat) (f : Field) (hf : fs[i]? = some f) :
    ∃ m y, DataW.trod enc P W base spare held m f.type ((cs.drop f.offset).take (P.cellsOf f.type)) = some y := by
  obtain ⟨xs, n, _, _, _, hlen, hg⟩ := DataW.trod_struct ht h
  have hlt : i < xs.length := by rw [hlen]; exact (Array.getElem?_eq_some_iff.1 hf).1
  refine ⟨n, xs[i], ?_⟩
  rw [hg i f hf]
  exact List.getElem?_eq_getElem hlt
theorem one_cell {cs : List Value} {k : Nat} {v : Value} (h : (cs.drop k).take 1 = [v]) : cs[k]? = some v := by
  have h1 : ((cs.drop k).take 1)[0]? = some v := by rw [h]; rfl
  rw [List.getElem?_take_of_lt (by decide), List.getElem?_drop] at h1
  simpa using h1
/-- an integer field at place k -/
theorem open_int_at {t : TypeId} {k : IntKind} {fuel j : Nat} {cs : List Value} {x : DataW H × List MemPlace} (ht : P.underlying t = some (.int k)) (h : DataW.trod enc P W base spare held fuel t ((cs.drop j).take 1) = some x) :
    ∃ n, cs[j]? = some (.int k n) ∧ (Lit.int k n).wf = true := by
  obtain ⟨n, h1, _, hw⟩ := DataW.trod_int ht h
  exact ⟨n, one_cell h1, hw⟩
/-- a choice for each of finitely many -/
theorem choose_list {α : Type} {n : Nat} {p : Nat → α → Prop} (h : ∀ i, i < n → ∃ a, p i a) : ∃ l : List α, l.length = n ∧ ∀ (i : Nat) (hi : i < l.length), p i l[i] := by
  induction n with
  | zero => exact ⟨[], rfl, fun i hi => absurd hi (by simp)⟩
  | succ n ih =>
    obtain ⟨l, hl, hp⟩ := ih fun i hi => h i (by omega)
    obtain ⟨a, ha⟩ := h n (by omega)
    refine ⟨l ++ [a], by simp [hl], fun i hi => ?_⟩
    by_cases hin : i < l.length
    · rw [List.getElem_append_left hin]; exact hp i hin
    · obtain rfl : i = n := by simp at hi; omega
      rw [List.getElem_append_right (by omega)]
      simpa using ha
end

theorem nat_u64 {a : Int} (h : (Lit.int .u64 a).wf = true) : ∃ n : Nat, a = n ∧ n ≤ 18446744073709551615 := by
  have hb : 0 ≤ a ∧ a ≤ 18446744073709551615 := by simpa [Lit.wf, IntKind.min, IntKind.max, IntKind.signed, IntKind.bits] using h
  exact ⟨a.toNat, by omega, by omega⟩
theorem nat_u32 {a : Int} (h : (Lit.int .u32 a).wf = true) : ∃ n : UInt32, a = n.toNat := by
  have hb : 0 ≤ a ∧ a ≤ 4294967295 := by simpa [Lit.wf, IntKind.min, IntKind.max, IntKind.signed, IntKind.bits] using h
  exact ⟨UInt32.ofNat a.toNat, by rw [UInt32.toNat_ofNat']; omega⟩
theorem nat_u8 {a : Int} (h : (Lit.int .u8 a).wf = true) : ∃ n : UInt8, a = n.toNat := by
  have hb : 0 ≤ a ∧ a ≤ 255 := by simpa [Lit.wf, IntKind.min, IntKind.max, IntKind.signed, IntKind.bits] using h
  exact ⟨UInt8.ofNat a.toNat, by rw [UInt8.toNat_ofNat']; omega⟩
theorem int_i64 {a : Int} (h : (Lit.int .i64 a).wf = true) : -9223372036854775808 ≤ a ∧ a ≤ 9223372036854775807 := by
  simpa [Lit.wf, IntKind.min, IntKind.max, IntKind.signed, IntKind.bits] using h
theorem str_le {s : ByteArray} (h : s.data.toList.length ≤ maxLen) : s.size ≤ 9223372036854775807 := by
  simp only [Array.length_toList] at h
  unfold maxLen at h
  exact Nat.le_trans h (by decide)
theorem Sees.Trod_below {W w : World} (h : Has W (old W) w) : Below W.heap.size W w := h.old_below
end Go.Sl
