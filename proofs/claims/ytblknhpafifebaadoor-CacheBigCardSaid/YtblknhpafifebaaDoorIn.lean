/-
  Within a fence: an operation that calls nothing is carried out as everywhere; pieces of memory while a loop over a function is under way. No program in sight.
-/
import Derived.RangeFuncNested
import Derived.RangeFuncLeaves
import Derived.Shelf.Abstract
import Derived.OwnWalkIn
import Derived.TacticsInMore
import Derived.LoopNIn
import Derived.LoopIn
import Derived.Test.YtblknhpafifebaaDoorStg
namespace Go.Sl
open Go Go.RowKit
set_option linter.unusedVariables false
set_option linter.unusedSimpArgs false
variable {P : Program} {o : Oper} {a : Act} {w : World} {K : Act → World → Prop} {Q : Exit → Act → World → Prop}

def quietOp : Op → Bool
  | .alloc _ | .box _ _ | .load _ _ | .store _ _ _ | .buildSlice _ _ _ | .build _ _ | .fieldAddr _ _ _ | .indexAddr _ _ _ | .binOp _ _ _ _ _ => true
  | _ => false
theorem wpIn_of_wp (F : Fence) (n : Nat) (hq : quietOp o.op = true) (h : o.wp P a w K Q) : o.wpIn F n P a w K Q := by
  have hab : o.about P w a.eval = none := by
    unfold Oper.about
    cases ho : o.op <;> simp_all [quietOp]
  have hsm : o.semAt F.round a.eval = execOp a.eval o := Oper.semAt_plain F _ _ (by intro c e; rw [e] at hq; cases hq)
  refine ⟨(by rw [hab]; intro f e; cases e), ?_⟩
  rw [hsm]
  unfold Oper.wp at h
  have hr : (∃ v w', (execOp a.eval o).run P w = .ok (.value v) w') ∨ (∃ w', (execOp a.eval o).run P w = .ok .skip w') ∨ ∃ x w', (execOp a.eval o).run P w = .halt x w' := by
    have hv : ∀ s : Sem Value, (∃ v w', (s >>= fun v => Pure.pure (Next.value v) : Sem Next).run P w = .ok (.value v) w') ∨ (∃ w', (s >>= fun v => Pure.pure (Next.value v) : Sem Next).run P w = .ok .skip w') ∨ ∃ x w', (s >>= fun v => Pure.pure (Next.value v) : Sem Next).run P w = .halt x w' := by
      intro s
      simp only [Sem.run_bind, Sem.run_pure]
      cases s.run P w with
      | ok v w' => exact .inl ⟨v, w', rfl⟩
      | halt x w' => exact .inr (.inr ⟨x, w', rfl⟩)
    have hu : ∀ s : Sem Unit, (∃ v w', (s >>= fun _ => Pure.pure Next.skip : Sem Next).run P w = .ok (.value v) w') ∨ (∃ w', (s >>= fun _ => Pure.pure Next.skip : Sem Next).run P w = .ok .skip w') ∨ ∃ x w', (s >>= fun _ => Pure.pure Next.skip : Sem Next).run P w = .halt x w' := by
      intro s
      simp only [Sem.run_bind, Sem.run_pure]
      cases s.run P w with
      | ok v w' => exact .inr (.inl ⟨w', rfl⟩)
      | halt x w' => exact .inr (.inr ⟨x, w', rfl⟩)
    unfold execOp
    cases ho : o.op <;> rw [ho] at hq <;> first | exact hv _ | exact hu _ | (cases hq; done)
  rcases hr with ⟨v, w', e⟩ | ⟨w', e⟩ | ⟨x, w', e⟩ <;> rw [e] at h ⊢
  · exact h
  · exact h
  · cases x <;> exact h
theorem wpIn_of_append (F : Fence) (n : Nat) {s x : Operand} {t : TypeId} (ho : o.op = .call { callee := .builtin .append, args := #[s, x], argTypes := #[t, t] }) (h : o.wp P a w K Q) : o.wpIn F n P a w K Q := by
  have hsm : o.semAt F.round a.eval = execOp a.eval o := Oper.semAt_plain F _ _ (by rw [ho]; intro c e; cases e)
  refine ⟨by simp [Oper.about, ho, resolve, Target.leads, Sem.run_pure], ?_⟩
  rw [hsm]
  unfold Oper.wp execOp at h
  unfold execOp
  simp only [ho, resolve, invoke, builtin, Sem.run_bind, Sem.run_pure, Result.andThen_ok] at h ⊢
  revert h
  generalize Sem.run P _ w = r
  intro h
  cases r with
  | ok v w' => exact h
  | halt x w' => cases x <;> exact h

theorem opw_allocC (t : TypeId) (z : Value) (cells : Array Value) (ho : o.op = .alloc t) (hi : (P.info? t).map (·.zero) = some (some z)) (hc : z.cells = cells)
    (hK : K (a.put o.dst (.pointer (some ⟨w.heap.size, 0, none⟩))) (w.alloc (.cells cells t))) : o.wp P a w K Q := by
  subst hc
  obtain ⟨i, hi0, hi1⟩ : ∃ i, P.info? t = some i ∧ i.zero = some z := by
    cases hp : P.info? t with
    | none => rw [hp] at hi; cases hi
    | some i => rw [hp] at hi; simp at hi; exact ⟨i, rfl, hi⟩
  have hr : (Instr.alloc t true (.tuple #[])).run P w = .ok (.pointer (some ⟨w.heap.size, 0, none⟩)) (w.alloc (.cells z.cells t)) := by
    simp [Instr.alloc, zeroValue, typeInfo, hi0, hi1, newVar, Sem.run_bind, go_sem]
  unfold Oper.wp execOp
  simp only [ho, Sem.run_bind, hr, Sem.run_pure, Result.andThen_ok, Oper.upon_value]
  exact hK
theorem op_appendG (s x : Operand) (t e : TypeId) (size bytes : Nat) (z : Value)
    (ho : o.op = .call { callee := .builtin .append, args := #[s, x], argTypes := #[t, t] })
    (ht : P.underlying t = some (.slice e)) (hi : (P.info? e).map (fun i => (i.zero, i.size, i.bytes)) = some (some z, size, bytes)) (hzs : z.cells.size = size) (hsz : 0 < size)
    {v vx : Value} {n m : Nat} {xs news : List Value} {st : World} {R : HProp} (hs : a.eval s = v) (hx : a.eval x = vx) (h : Has st (sep (row e size v n xs) R) w) (hr : Rd size w vx m news)
    (h1 : ∀ u ∈ news, u.oneCell' = true) (hb1 : n + m ≤ maxLen) (hb2 : (n + m) * bytes ≤ 140737488355328)
    (hK : ∀ A c w', Has st (sep (row e size (.slice A (n + m) c) (n + m) (xs ++ news)) R) w' → w.grownBy w' v.ownBlock → K (a.put o.dst (.slice A (n + m) c)) w') : o.wp P a w K Q := by
  obtain ⟨i, hi0, hi1⟩ : ∃ i, P.info? e = some i ∧ (i.zero = some z ∧ i.size = size ∧ i.bytes = bytes) := by
    cases hp : P.info? e with
    | none => rw [hp] at hi; cases hi
    | some i => rw [hp] at hi; simp at hi; exact ⟨i, rfl, hi⟩
  obtain ⟨hz, hsize, hby⟩ := hi1
  obtain ⟨hl, ad, cap, rfl, hmc, _, hnone | ⟨ad, rfl, hc⟩⟩ := hr
  · obtain ⟨rfl, rfl⟩ := hnone
    obtain rfl : m = 0 := by omega
    have : news = [] := List.eq_nil_of_length_eq_zero (by simpa using hl)
    subst this
    have hrun := run_append_owned_none (P := P) (w := w) 0 t o.type e i size ht hi0 v n xs h.ownsRow
    obtain ⟨A, c, rfl⟩ := h.row_slice
    unfold Oper.wp execOp
    simp only [ho, resolve, invoke, builtin, Sem.run_bind, Sem.run_pure, Result.andThen_ok, List.map_toArray, List.map_cons, List.map_nil, hs, hx, hrun]
    have := hK A c w (by simpa using h) ⟨rfl, rfl, rfl, Nat.le_refl _, fun _ _ _ => rfl⟩
    rw [Oper.upon_value]
    simpa using this
  · obtain ⟨v', w', hrun, ho', hg, hn, hb⟩ := run_append_at (P := P) w t o.type e i z size bytes ht hi0 hz hsize hby hzs hsz v n xs h.ownsRow ad m cap news hl (fun j u hu => by obtain ⟨b, off, sp⟩ := ad; obtain ⟨h2, h3⟩ := hc j u hu; simp only at h2; subst h2; rw [addr_add]; exact h3) h1 hb1 hb2
    unfold Oper.wp execOp
    simp only [ho, resolve, invoke, builtin, Sem.run_bind, Sem.run_pure, Result.andThen_ok, List.map_toArray, List.map_cons, List.map_nil, hs, hx, hrun]
    obtain ⟨A, c, rfl⟩ := ownsRow_slice ho'
    refine hK A c w' (h.row_step hg ho' ?_) hg
    intro k hk
    rcases hb with hb | hb
    · exact .inl (hb ▸ hk)
    · rw [hb] at hk; injection hk with hk; exact .inr (by omega)

theorem opw_store1C {st : World} (t : TypeId) (x y : Operand) (ho : o.op = .store t x y) (hi : (P.info? t).map (·.size) = some 1) (g j : Nat) (v : Value) (hx : a.eval x = .pointer (some ⟨g, j, none⟩)) (hy : a.eval y = v) (hv : v.oneCell' = true)
    {R : HProp} {c : Array Value} {T : TypeId} (h : Has st (sep (Sl.blk g (.cells c T (0, 0))) R) w) (hj : j < c.size)
    (hK : K (a.put o.dst undef) (w.setCell ⟨g, j, none⟩ v)) : o.wp P a w K Q := by
  unfold Oper.wp execOp
  simp only [ho, hx, hy, Instr.storeAt, Instr.sureAddr, Sem.run_bind, Sem.run_pure, Result.andThen_ok, run_storeVar1 t g j v hv hi h hj, Oper.upon_skip]
  exact hK
theorem opw_row1C (t E : TypeId) (size : Nat) (z : Value) (x : Operand) (val : Value) (xs : List Value) (ho : o.op = .buildSlice t 1 #[(0, x)]) (ht : P.underlying t = some (.slice E)) (hi : (P.info? E).map (fun i => (i.zero, i.size)) = some (some z, size))
    (hz : z.cells.size = size) (h0 : 0 < size) (hsm : size ≤ 1000) (hx : a.eval x = val) (hv : val.cells = xs.toArray) (hl : xs.length = size)
    (hK : K (a.put o.dst (.slice (some ⟨w.heap.size, 0, none⟩) 1 1)) (w.alloc (.cells xs.toArray E))) : o.wp P a w K Q := by
  obtain ⟨i, hi0, hi1, hi2⟩ : ∃ i, P.info? E = some i ∧ i.zero = some z ∧ i.size = size := by
    cases hp : P.info? E with
    | none => rw [hp] at hi; cases hi
    | some i => rw [hp] at hi; simp at hi; exact ⟨i, rfl, hi⟩
  refine wp_buildSlice t E 1 #[(0, x)] ho xs.toArray i z ht hi0 hi1 (by rw [hi2]; omega) (by rw [hi2]; omega) ?_ hK
  have e : ((#[(0, x)] : Array (Nat × Operand)).map fun (i, x) => (i, a.eval x)).toList = [(0, val)] := by simp [hx]
  rw [e, hi2, fill_cons _ _ 0 0 size val [] (by simp) (by rw [hv]; simp [hl]) (by simp)]
  simp [Instr.fill, hv]
/-- what lies beside all that lay in w lies behind it -/
theorem new_of_old {w W : World} {p R : HProp} {x : Nat} {o : Obj} (h : Has w (sep (Sl.blk x o) (sep R (old w))) W) : w.heap.size ≤ x := by
  obtain ⟨_, _, _, _, ⟨a, b, ha, ⟨c, d, hc, hd, hcd, rfl⟩, hab, rfl⟩, _⟩ := h
  have ha' : a = _ := ha
  have hd' : d = _ := hd
  subst ha' hd'
  rcases Nat.lt_or_ge x w.heap.size with hlt | hge
  · exfalso
    rcases hab x with g | g
    · simp at g
    · have g' : (c x).or (w.heap[x]?) = none := g
      rw [Array.getElem?_eq_getElem hlt] at g'
      cases hcx : c x <;> simp [hcx] at g'
  · exact hge
theorem row_new {w W : World} {R : HProp} {e : TypeId} {size : Nat} {v : Value} {n : Nat} {xs : List Value} (h : Has w (sep (row e size v n xs) (sep R (old w))) W) : ∀ g, v.ownBlock = some g → w.heap.size ≤ g ∧ ∃ o : Obj, W.heap[g]? = some o ∧ o.isCells = true := by
  intro g hg
  obtain ⟨A, c, rfl⟩ := h.row_slice
  cases A with
  | none => simp [Value.ownBlock] at hg
  | some ad =>
    obtain ⟨g', e1⟩ : ∃ g', ad = ⟨g', 0, none⟩ := by
      rcases h.ownsRow.2 with ⟨e, _⟩ | ⟨g', _, _, e, _⟩
      · cases e
      · injection e with e; injection e with e; exact ⟨g', e⟩
    subst e1
    simp [Value.ownBlock] at hg
    subst hg
    obtain ⟨cur, _, _, _, _, h2⟩ := h.row_open
    exact ⟨new_of_old (p := emp) h2, _, h2.blk, rfl⟩
/-- with all that lay as the rest, to a part of it -/
theorem Has.of_old {st w W : World} {X R : HProp} (h : Has w (sep X (old w)) W) (h0 : Has st R w) : Has st (sep X R) W := by
  obtain ⟨a, b, c, _, ⟨x, y, hx, hy, hxy, rfl⟩, hk⟩ := h
  obtain ⟨a', b', c', z, hz, hzk⟩ := h0
  have hy' : y = _ := hy
  subst hy'
  refine ⟨a.trans a', b.trans b', c.trans c', _, ⟨x, z, hx, hz, ?_, rfl⟩, ?_⟩
  · intro k
    rcases hxy k with g | g
    · exact .inl g
    · right
      cases hzz : z k with
      | none => rfl
      | some o => have g' : w.heap[k]? = none := g; rw [hzk k o hzz] at g'; cases g'
  · intro k o ho
    have ho' : (x k).or (z k) = some o := ho
    refine hk k o ?_
    show (x k).or (w.heap[k]?) = some o
    cases hxx : x k with
    | some u => rw [hxx] at ho'; simpa using ho'
    | none => rw [hxx] at ho'; simp at ho'; simpa using hzk k o ho'
theorem has_old_of {w W : World} (h : Below w.heap.size w W) : Has w (old w) W :=
  ⟨h.os, h.tape, h.output, _, rfl, fun k o ho => (h.block k (Array.getElem?_eq_some_iff.1 ho).1).trans ho⟩
/-- exactly this part of the heap -/
def just (h0 : Hp) : HProp := fun h => h = h0
theorem Has.fix {st : World} {R : HProp} {w : World} (h : Has st R w) : ∃ h0, R h0 ∧ (∀ k o, h0 k = some o → k < w.heap.size) ∧ Has st (just h0) w := by
  obtain ⟨a, b, c, x, hx, hk⟩ := h
  exact ⟨x, hx, fun k o ho => (Array.getElem?_eq_some_iff.1 (hk k o ho)).1, a, b, c, x, rfl, hk⟩
theorem Has.unjust {st : World} {R : HProp} {w : World} {h0 : Hp} (h : Has st (just h0) w) (hR : R h0) : Has st R w := h.mono fun x hx => by have : x = h0 := hx; rw [this]; exact hR
theorem Has.unjustR {st : World} {X R : HProp} {w : World} {h0 : Hp} (h : Has st (sep X (just h0)) w) (hR : R h0) : Has st (sep X R) w := by
  refine h.mono ?_
  rintro _ ⟨a, b, ha, hb, hab, rfl⟩
  exact ⟨a, b, ha, by have : b = h0 := hb; rw [this]; exact hR, hab, rfl⟩
/-- what lies below B lies on -/
theorem Has.below {st : World} {h0 : Hp} {w w' : World} {B : Nat} (h : Has st (just h0) w) (hB : ∀ k o, h0 k = some o → k < B) (hb : Below B w w') : Has st (just h0) w' := by
  obtain ⟨a, b, c, x, hx, hk⟩ := h
  have : x = h0 := hx
  subst this
  exact ⟨hb.os.trans a, hb.tape.trans b, hb.output.trans c, x, rfl, fun k o ho => (hb.block k (hB k o ho)).trans (hk k o ho)⟩
/-- pieces all of whose blocks are cells, beside what lies below B, abide the turn of blocks that are no cells -/
def Cellish (p : HProp) : Prop := ∀ h, p h → ∀ k o, h k = some o → o.isCells = true
theorem cellish_sep {p q : HProp} (hp : Cellish p) (hq : Cellish q) : Cellish (sep p q) := by
  rintro _ ⟨a, b, ha, hb, _, rfl⟩ k o ho
  have ho' : (a k).or (b k) = some o := ho
  cases hx : a k with
  | some y => rw [hx] at ho'; simp at ho'; subst ho'; exact hp a ha k _ hx
  | none => rw [hx] at ho'; simp at ho'; exact hq b hb k o ho'
theorem cellish_blk (b : Nat) (c : Array Value) (t : TypeId) (f : Nat × Nat) : Cellish (Sl.blk b (.cells c t f)) := by
  intro h hh k o ho
  have : h = _ := hh
  subst this
  have ho' : (if k = b then some (Obj.cells c t f) else none) = some o := ho
  split at ho'
  · injection ho' with ho'; subst ho'; rfl
  · cases ho'
theorem cellish_row (e : TypeId) (size : Nat) (v : Value) (n : Nat) (xs : List Value) : Cellish (row e size v n xs) := by
  rintro h ⟨_, ⟨_, _, rfl⟩ | ⟨g, cap, cur, _, rfl, _⟩⟩ k o ho
  · cases ho
  · have ho' : (if k = g then some (Obj.cells cur e (0, 0)) else none) = some o := ho
    split at ho'
    · injection ho' with ho'; subst ho'; rfl
    · cases ho'
theorem cellish_ex {α : Type} {p : α → HProp} (hp : ∀ x, Cellish (p x)) : Cellish (ex p) := fun h ⟨x, hx⟩ => hp x h hx
theorem cellish_pure (φ : Prop) : Cellish (Sl.pure φ) := by
  rintro h ⟨_, rfl⟩ k o ho; cases ho
theorem own_has {β : Type} {st : World} {B : Nat} {p : β → HProp} {h0 : Hp} (hp : ∀ s, Cellish (p s)) (hB : ∀ k o, h0 k = some o → k < B) : OwnFrom B (fun s W => Has st (sep (p s) (just h0)) W) := by
  intro s W W' row ⟨a, b, c, _, ⟨x, y, hx, hy, hxy, rfl⟩, hk⟩ hg hr
  have : y = h0 := hy
  subst this
  refine ⟨hg.os.trans a, hg.tape.trans b, hg.output.trans c, _, ⟨x, y, hx, rfl, hxy, rfl⟩, fun k o ho => ?_⟩
  have hW := hk k o ho
  have hlt := (Array.getElem?_eq_some_iff.1 hW).1
  rw [hg.block k hlt ?_]
  · exact hW
  · intro e
    obtain ⟨h1, o2, h2, h3⟩ := hr k e.symm
    rw [hW] at h2
    injection h2 with h2
    subst h2
    have ho' : (x k).or (y k) = some o := ho
    cases hxk : x k with
    | some z =>
      rw [hxk] at ho'; simp at ho'; subst ho'
      rw [hp s x hx k _ hxk] at h3; cases h3
    | none =>
      rw [hxk] at ho'; simp at ho'
      have := hB k o ho'
      omega
end Go.Sl
