/-
  A row gets the run-time's mark ([]byte of a constant).
-/
import Derived.Test.YtblknhpafifebaaDoorTailN
namespace Go.Sl
open Go Go.RowKit
set_option linter.unusedVariables false
set_option linter.unusedSimpArgs false
theorem Has.freeze {s : World} {b : Nat} {c : Array Value} {t : TypeId} {r : HProp} {w : World} (h : Has s (sep (Sl.blk b (.cells c t (0, 0))) r) w) (k : Nat) :
    Has s (sep (Sl.blk b (.cells c t (k, k + 1))) r) (w.freeze ⟨b, k, none⟩ 1) :=
  h.step fun x hx hk => by
    have hx' : x = _ := hx
    subst hx'
    have hb : w.heap[b]? = some (.cells c t (0, 0)) := hk _ _ (by simp)
    refine ⟨fun k => k = b, _, ⟨rfl, rfl, rfl, by simp [World.freeze], fun j _ hn => ?_⟩, rfl, ?_, ?_, ?_⟩
    · simp only [World.freeze, Nat.one_ne_zero, if_false, Array.getElem?_modify]
      rw [if_neg (fun e => hn e.symm)]
    · intro j o ho
      split at ho
      · next e =>
        subst e
        injection ho with ho
        subst ho
        simp [World.freeze, Array.getElem?_modify, hb]
      · cases ho
    · rintro j rfl _; simp
    · intro j hj
      left
      split at hj
      · next e => subst e; simp
      · exact absurd rfl hj
theorem opw_mark {P : Program} {o : Oper} {a : Act} {w : World} {K : Act → World → Prop} {Q : Exit → Act → World → Prop} {st : World} (t e : TypeId) (x : Operand) (ho : o.op = .convert t t x) (q n c : Nat) (hx : a.eval x = .slice (some ⟨q, 0, none⟩) n c)
    (ht : P.underlying t = some (.slice e)) (he : P.underlying e = some (.int .u8)) {R : HProp} {C : Array Value} {T : TypeId} (h : Has st (sep (blk q (.cells C T (0, 0))) R) w)
    (hK : ∀ w', Has st (sep (blk q (.cells C T (C.size, C.size + 1))) R) w' → K (a.put o.dst (.slice (some ⟨q, 0, none⟩) n c)) w') : o.wp P a w K Q := by
  have hsh : w.shape? q = some (T, C.size) := by unfold World.shape?; rw [h.blk]
  have hr : (execOp a.eval o).run P w = .ok (.value (.slice (some ⟨q, 0, none⟩) n c)) (w.freeze ⟨q, C.size, none⟩ 1) := by
    unfold execOp
    simp [ho, hx, convert, run_underlying ht, run_underlying he, markStringish, hsh]
  unfold Oper.wp
  rw [hr]
  exact hK _ (h.freeze C.size)
end Go.Sl
