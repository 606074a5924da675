/-
  An append that does not lose the slice it was handed.
-/
import Derived.Test.YtbiacehmfbopfaaSl2
namespace Go.Sl
open Go.RowKit
set_option linter.unusedVariables false
set_option linter.unusedSimpArgs false

theorem run_append_keep {P : Program} (w : World) (t ty e : TypeId) (i : TypeInfo) (z : Value) (size bytes : Nat) (ht : P.underlying t = some (.slice e)) (hi : P.info? e = some i) (hz : i.zero = some z)
    (hsize : i.size = size) (hby : i.bytes = bytes) (hzs : z.cells.size = size) (hsz : 0 < size)
    (v : Value) (n : Nat) (xs : List Value) (hown : w.ownsRow 0 e size v n xs)
    (a : Addr) (m c : Nat) (news : List Value) (hl : news.length = m * size) (hnews : ∀ j u, news[j]? = some u → w.cell? (a.add j) = some u) (h1 : ∀ u ∈ news, u.oneCell' = true)
    (h63 : n + m ≤ maxLen) (hbytes : (n + m) * bytes ≤ 140737488355328) :
    ∃ v' w', (Builtin.append_ #[t, t] ty #[v, .slice (some a) m c]).run P w = .ok v' w' ∧ w'.ownsRow 0 e size v' (n + m) (xs ++ news) ∧
      ((w.grownBy w' v.ownBlock ∧ v'.ownBlock = v.ownBlock) ∨ (w.grownBy w' none ∧ v'.ownBlock = some w.heap.size)) := by
  subst hsize
  subst hby
  have hsmall : n + m ≤ 9223372036854775807 := by simp only [maxLen] at h63; omega
  have hlen : (xs ++ news).length = (n + m) * i.size := by rw [List.length_append, hown.1, hl, Nat.add_mul]
  have grown : ∀ (old : Nat), old < n + m →
      (w.drew.alloc (.cells (xs.toArray ++ news.toArray ++ Builtin.zeroCells z.cells (grownCap w (n + m) old e - (n + m))) e)).ownsRow 0 e i.size
        (.slice (some ⟨w.heap.size, 0, none⟩) (n + m) (grownCap w (n + m) old e)) (n + m) (xs ++ news) ∧
      w.grownBy (w.drew.alloc (.cells (xs.toArray ++ news.toArray ++ Builtin.zeroCells z.cells (grownCap w (n + m) old e - (n + m))) e)) none := by
    intro old ho
    have hge := grownCap_ge w (n + m) old e
    have hcm : grownCap w (n + m) old e ≤ maxLen := grownCap_le_maxLen w (n + m) old e h63
    refine ⟨⟨hlen, .inr ⟨w.heap.size, _, _, rfl, Nat.zero_le _, heap_alloc_new w.drew _, hge, hcm, ?_, ?_⟩⟩, ⟨rfl, rfl, rfl, by simp, fun k hk _ => Below.heap_alloc w.drew _ k hk⟩⟩
    · simp only [Array.size_append, List.size_toArray, size_zeroCells, hzs, hown.1, hl, ← Nat.add_mul]
      congr 1
      omega
    · simp only [Array.toList_append, List.append_assoc]
      rw [← List.append_assoc, ← hlen]
      exact List.take_left
  rcases hown.2 with ⟨rfl, rfl⟩ | ⟨g, cap, cur, rfl, hbg, hg, hnc, hcm, hcs, htake⟩
  · have hx : xs = [] := List.eq_nil_of_length_eq_zero (by simpa using hown.1)
    subst hx
    by_cases hm : m = 0
    · subst hm
      have hn : news = [] := List.eq_nil_of_length_eq_zero (by simpa using hl)
      subst hn
      refine ⟨.slice none 0 0, w, ?_, World.ownsRow_nil w 0 e i.size, .inl ⟨⟨rfl, rfl, rfl, Nat.le_refl _, fun _ _ _ => rfl⟩, rfl⟩⟩
      simp [Builtin.append_, run_underlying ht, sizeOf, typeInfo, hi, Builtin.lenOf, Builtin.firstCells, loadCells, loadCellsFrom]
    · have hr := run_append_nil (P := P) w t ty e i z ht hi hz a m c news hl hnews (by omega) (by omega) (by have hb := hbytes; simp only [Nat.zero_add] at hb; omega)
      have hgr := grown 0 (by omega)
      simp only [Nat.zero_add, List.nil_append, Array.empty_append] at hgr ⊢
      exact ⟨_, _, hr, hgr.1, .inr ⟨hgr.2, rfl⟩⟩
  · by_cases hroom : n + m ≤ cap
    · have hfit : n * i.size + news.length ≤ cur.size := by rw [hl, hcs, ← Nat.add_mul]; exact Nat.mul_le_mul_right _ hroom
      have hr := run_append_room (P := P) w t ty e i ht hi g n cap cur hg a m c news hl hnews h1 hroom hfit
      refine ⟨_, _, hr, ⟨hlen, .inr ⟨g, cap, _, rfl, hbg, setRow_heap w g cur _ e _ hg, hroom, hcm, ?_, ?_⟩⟩, .inl ⟨⟨rfl, rfl, rfl, by simp, fun k _ hk => setRow_other w g k _ (fun e => hk (by simp [Value.ownBlock, e]))⟩, rfl⟩⟩
      · simp only [List.size_toArray, List.length_append, List.length_take, List.length_drop, Array.length_toList]
        omega
      · rw [htake, ← hlen]
        exact List.take_left
    · have holds : ∀ j u, xs[j]? = some u → w.cell? ((⟨g, 0, none⟩ : Addr).add j) = some u := hown.cells (g := g) rfl
      have hr := run_append_grow (P := P) w t ty e i z ht hi hz ⟨g, 0, none⟩ n cap xs hown.1 holds a m c news hl hnews (by omega) (by omega) (growslice_fits (by omega) hbytes)
      have hgr := grown cap (by omega)
      exact ⟨_, _, hr, hgr.1, .inr ⟨hgr.2, rfl⟩⟩

theorem Has.row_keep {s : World} {e : TypeId} {size : Nat} {v v' : Value} {n n' : Nat} {xs news : List Value} {r : HProp} {w w' : World} (h : Has s (sep (row e size v n xs) r) w)
    (ho : w'.ownsRow 0 e size v' n' (xs ++ news)) (hc : (w.grownBy w' v.ownBlock ∧ v'.ownBlock = v.ownBlock) ∨ (w.grownBy w' none ∧ v'.ownBlock = some w.heap.size)) :
    ∃ G, Has s (sep (row e size v' n' (xs ++ news)) (sep G r)) w' ∧ Sees s (sep (row e size v' n' (xs ++ news)) G) size v n xs := by
  rcases hc with ⟨hg, hb⟩ | ⟨hg, hb⟩
  · have h1 := h.row_step hg ho (fun k hk => .inl (hb ▸ hk))
    refine ⟨Sl.emp, h1.ofEmp.second, fun w2 hw => ?_⟩
    have h2 := hw.ownsRow
    have h0 := h.ownsRow
    refine ⟨h0.1, ?_⟩
    rcases h0.2 with ⟨rfl, rfl⟩ | ⟨g, cap, cur, rfl, _, hg', hnc, hcm, _⟩
    · exact ⟨none, 0, rfl, Nat.le_refl _, Nat.zero_le _, .inl ⟨rfl, rfl⟩⟩
    · refine ⟨_, cap, rfl, hnc, hcm, .inr ⟨_, rfl, fun j u hu => ⟨rfl, ?_⟩⟩⟩
      have hj := (List.getElem?_eq_some_iff.1 hu).1
      rcases h2.2 with ⟨rfl, _⟩ | ⟨g2, cap2, cur2, rfl, _, hg2, hnc2, hcm2, _⟩
      · simp [Value.ownBlock] at hb
      · simp [Value.ownBlock] at hb
        subst hb
        have := h2.cells (g := g2) rfl j u (by rw [List.getElem?_append_left hj]; exact hu)
        rwa [addr_add] at this
  · exact ⟨_, (h.row_nil e size).row_step hg ho (fun k hk => .inr (by rw [hb] at hk; injection hk with hk; omega)), (fun w2 hw => Rd.of_row (hw.cast (sep_comm _ _)).ownsRow)⟩

section ops
variable {P : Program} {ops : Array Oper} {rest : List Oper} {o : Oper} {a : Act} {Q : Exit → Act → World → Prop} {w : World} {st : World}
/-- APPEND to a row of one's own; the slice handed in is still read -/
theorem wp_append_keep (hgd : o.guard = none) (s x : Operand) (t e : TypeId) (size bytes : Nat) (z : Value)
    (ho : o.op = .call { callee := .builtin .append, args := #[s, x], argTypes := #[t, t] })
    (ht : P.underlying t = some (.slice e)) (hi : (P.info? e).map (fun i => (i.zero, i.size, i.bytes)) = some (some z, size, bytes)) (hzs : z.cells.size = size) (hsz : 0 < size)
    {v vx : Value} {n m : Nat} {xs news : List Value} {R : HProp} (hs : a.eval s = v) (hx : a.eval x = vx) (h : Has st (sep (row e size v n xs) R) w) (hr : Rd size w vx m news) (hm : 0 < m)
    (h1 : ∀ u ∈ news, u.oneCell' = true) (hb1 : n + m ≤ maxLen) (hb2 : (n + m) * bytes ≤ 140737488355328)
    (K : ∀ A c G w', Has st (sep (row e size (.slice A (n + m) c) (n + m) (xs ++ news)) (sep G R)) w' → Sees st (sep (row e size (.slice A (n + m) c) (n + m) (xs ++ news)) G) size v n xs → wpList P ops Q rest (a.put o.dst (.slice A (n + m) c)) w') : wpList P ops Q (o :: rest) a w := by
  obtain ⟨i, hi0, hi1⟩ : ∃ i, P.info? e = some i ∧ (i.zero = some z ∧ i.size = size ∧ i.bytes = bytes) := by
    cases hp : P.info? e with
    | none => rw [hp] at hi; cases hi
    | some i => rw [hp] at hi; simp at hi; exact ⟨i, rfl, hi⟩
  obtain ⟨hz, hsize, hby⟩ := hi1
  obtain ⟨hl, ad, cap, rfl, hmc, _, hnone | ⟨ad, rfl, hc⟩⟩ := hr
  · omega
  · obtain ⟨v', w', hrun, ho', hcase⟩ := run_append_keep (P := P) w t o.type e i z size bytes ht hi0 hz hsize hby hzs hsz v n xs h.ownsRow ad m cap news hl (fun j u hu => by obtain ⟨b, off, sp⟩ := ad; obtain ⟨h2, h3⟩ := hc j u hu; simp only at h2; subst h2; rw [addr_add]; exact h3) h1 hb1 hb2
    refine wpList_plain hgd fun _ hK => ?_
    unfold Oper.wp execOp
    simp only [ho, resolve, invoke, builtin, Sem.run_bind, Sem.run_pure, Result.andThen_ok, List.map_toArray, List.map_cons, List.map_nil, hs, hx, hrun]
    obtain ⟨A, c, rfl⟩ := ownsRow_slice ho'
    obtain ⟨G, h2, h3⟩ := h.row_keep ho' hcase
    exact hK _ _ (K A c G w' h2 h3)
end ops
end Go.Sl
