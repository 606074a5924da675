/-
  The rule of XReg2 with guarded operations; laws for single operations on strings, truth values, rows of bytes.
-/
import Derived.Test.YtblknhpafifebaaDoorMark
import Derived.Stop.BytesEq
namespace Go.Sl
open Go Go.RowKit
set_option linter.unusedVariables false
set_option linter.unusedSimpArgs false
/-- is the operation wanted, as its guard's slot tells? -/
def gd (o : Oper) (u : Nat → Value) : Bool := match o.guard with
  | none => true
  | some (j, c) => match u j with
    | .bool x => x == c
    | _ => false
/-- each guard is told by an operation with a slot -/
def guardsB (ops : List Oper) : Bool := ops.all fun o => match o.guard with
  | none => true
  | some (j, _) => (dstAt ops j).isSome
section
variable {P : Program} {Q : Exit → Act → World → Prop}
structure RegStep3 (P : Program) (Q : Exit → Act → World → Prop) (a : Act) (ops : List Oper) (I : (Nat → Bool) → (Nat → Value) → World → Prop) (i : Nat) (o : Oper) : Prop where
  out : ∀ (L : Nat → Bool) (u : Nat → Value) (w : World) (b : Act), L i = false → waits o L → Down ops L → Kept a ops L u → I L u w → (∀ j t, dstAt ops j = some t → b.eval (.tmp t) = u j) → (∀ t, (dsts ops).contains t = false → b.eval (.tmp t) = a.eval (.tmp t)) →
    if gd o u = true then o.wp P b w (fun a' w' => ∃ v, a' = b.put o.dst v ∧ I (upd L i true) (upd u i v) w') Q else I (upd L i true) (upd u i undef) w
def RegSteps3 (P : Program) (Q : Exit → Act → World → Prop) (a : Act) (ops : List Oper) (I : (Nat → Bool) → (Nat → Value) → World → Prop) : Nat → List Oper → Prop
  | _, [] => True
  | i, o :: os => RegStep3 P Q a ops I i o ∧ RegSteps3 P Q a ops I (i + 1) os
theorem RegSteps3.steps {a : Act} {ops : List Oper} {I : (Nat → Bool) → (Nat → Value) → World → Prop} (hn : (dsts ops).Nodup) (hsz : (dsts ops).all (fun d => decide (d < a.tmps.size)) = true) (hg : guardsB ops = true) : ∀ {os : List Oper} {k : Nat}, (∀ o ∈ os, o ∈ ops) → RegSteps3 P Q a ops I k os → RegSteps P Q a ops I k os := by
  intro os
  induction os with
  | nil => intro k _ _; trivial
  | cons o os ih =>
    intro k hm h
    refine ⟨⟨fun L u w hL hw hD hU hI => ?_⟩, ih (fun o ho => hm o (by simp [ho])) h.2⟩
    have hin : ∀ j t, dstAt ops j = some t → (frame a ops 0 u).eval (.tmp t) = u j := by
      intro j t hj
      have hm : t ∈ dsts ops := by
        unfold dstAt at hj
        cases ho : ops[j]? with
        | none => rw [ho] at hj; cases hj
        | some p =>
          rw [ho] at hj
          exact List.mem_filterMap.2 ⟨p, List.mem_of_getElem? ho, hj⟩
      have hlt : t < a.tmps.size := by
        rw [List.all_eq_true] at hsz
        simpa using hsz t hm
      rw [frame_in a 0 u j t hn hj hlt, Nat.zero_add]
    have hlen : ∀ (os : List Oper) (a : Act) (k : Nat), (frame a os k u).tmps.size = a.tmps.size := by
      intro os
      induction os with
      | nil => intro a k; rfl
      | cons o os ih => intro a k; rw [frame_cons, ih, put_size]
    have hst := h.1.out L u w (frame a ops 0 u) hL hw hD hU hI hin (fun t ht => frame_out a 0 u t (by simpa using ht))
    have e : Region.wanted o (yielded ops.toArray (frame a ops 0 u).tmps) = gd o u := by
      unfold Region.wanted gd
      cases hgo : o.guard with
      | none => rfl
      | some jc =>
        obtain ⟨j, c⟩ := jc
        unfold guardsB at hg
        rw [List.all_eq_true] at hg
        have h1 := hg o (hm o (by simp))
        rw [hgo] at h1
        obtain ⟨t, ht⟩ := Option.isSome_iff_exists.1 h1
        have h2 := hin j t ht
        have hmt : t ∈ dsts ops := by
          have ht' := ht
          unfold dstAt at ht'
          cases ho : ops[j]? with
          | none => rw [ho] at ht'; cases ht'
          | some p =>
            rw [ho] at ht'
            exact List.mem_filterMap.2 ⟨p, List.mem_of_getElem? ho, ht'⟩
        have hlt : t < (frame a ops 0 u).tmps.size := by
          rw [hlen]
          rw [List.all_eq_true] at hsz
          simpa using hsz t hmt
        have h3 : (frame a ops 0 u).tmps[t]? = some (u j) := by
          rw [← h2]
          show _ = some ((frame a ops 0 u).tmps.getD t undef)
          rw [Array.getD_eq_getD_getElem?, Array.getElem?_eq_getElem hlt]; rfl
        have h4 : (ops.toArray[j]?.bind (·.dst)) = some t := by
          rw [List.getElem?_toArray]; exact ht
        simp only [yielded, h4, Option.bind_some, h3]
        cases u j <;> simp
    rw [e]
    exact hst
theorem wp_region_inv3 {id : Nat} {ops : List Oper} {a : Act} {w : World} (I : (Nat → Bool) → (Nat → Value) → World → Prop) (hm : P.follows .mixedOrders = true) (hn : (dsts ops).Nodup) (hb : backB ops = true) (hsz : (dsts ops).all (fun d => decide (d < a.tmps.size)) = true) (hg : guardsB ops = true)
    (h0 : ∀ u, I (fun _ => false) u w.drew) (hs : RegSteps3 P Q a ops I 0 ops)
    (hend : ∀ L u w, (∀ i, i < ops.length → L i = true) → I L u w → Q .normal (frame a ops 0 u) w) : (Code.region id ops.toArray true).wp P Q a w :=
  wp_region_inv I hm hn hb h0 (hs.steps hn hsz hg (fun _ h => h)) hend
theorem RegStep3.plain {a : Act} {ops : List Oper} {I : (Nat → Bool) → (Nat → Value) → World → Prop} {i : Nat} {o : Oper} (hg : o.guard = none)
    (h : ∀ (L : Nat → Bool) (u : Nat → Value) (w : World) (b : Act), L i = false → waits o L → Down ops L → Kept a ops L u → I L u w → (∀ j t, dstAt ops j = some t → b.eval (.tmp t) = u j) → (∀ t, (dsts ops).contains t = false → b.eval (.tmp t) = a.eval (.tmp t)) →
    o.wp P b w (fun a' w' => ∃ v, a' = b.put o.dst v ∧ I (upd L i true) (upd u i v) w') Q) : RegStep3 P Q a ops I i o := ⟨fun L u w b hL hw hD hU hI hin hout => by
      rw [if_pos (by unfold gd; rw [hg])]
      exact h L u w b hL hw hD hU hI hin hout⟩
theorem RegStep3.yes {a : Act} {ops : List Oper} {I : (Nat → Bool) → (Nat → Value) → World → Prop} {i : Nat} {o : Oper} (j : Nat) (c : Bool) (hg : o.guard = some (j, c))
    (hj : ∀ (L : Nat → Bool) (u : Nat → Value) (w : World), waits o L → I L u w → u j = .bool c)
    (h : ∀ (L : Nat → Bool) (u : Nat → Value) (w : World) (b : Act), L i = false → waits o L → Down ops L → Kept a ops L u → I L u w → (∀ j t, dstAt ops j = some t → b.eval (.tmp t) = u j) → (∀ t, (dsts ops).contains t = false → b.eval (.tmp t) = a.eval (.tmp t)) →
    o.wp P b w (fun a' w' => ∃ v, a' = b.put o.dst v ∧ I (upd L i true) (upd u i v) w') Q) : RegStep3 P Q a ops I i o := ⟨fun L u w b hL hw hD hU hI hin hout => by
      rw [if_pos (by unfold gd; rw [hg]; simp [hj L u w hw hI])]
      exact h L u w b hL hw hD hU hI hin hout⟩
theorem RegStep3.no {a : Act} {ops : List Oper} {I : (Nat → Bool) → (Nat → Value) → World → Prop} {i : Nat} {o : Oper} (j : Nat) (c : Bool) (hg : o.guard = some (j, c))
    (h : ∀ (L : Nat → Bool) (u : Nat → Value) (w : World), L i = false → waits o L → Down ops L → I L u w → u j = .bool (!c) ∧ I (upd L i true) (upd u i undef) w) : RegStep3 P Q a ops I i o := ⟨fun L u w b hL hw hD hU hI hin hout => by
      have := h L u w hL hw hD hI
      rw [if_neg (by unfold gd; rw [hg]; simp [this.1])]
      exact this.2⟩
variable {o : Oper} {a : Act} {w : World} {K : Act → World → Prop}
theorem opw_pickT (c x y : Operand) (v : Value) (ho : o.op = .pick c x y) (hc : a.eval c = .bool true) (hx : a.eval x = v) (hK : K (a.put o.dst v) w) : o.wp P a w K Q := by
  refine opw_run v ?_ hK
  unfold execOp
  simp [ho, hc, hx, asBool, Sem.run_bind, Sem.run_pure, Result.andThen_ok]
theorem opw_pickF (c x y : Operand) (v : Value) (ho : o.op = .pick c x y) (hc : a.eval c = .bool false) (hy : a.eval y = v) (hK : K (a.put o.dst v) w) : o.wp P a w K Q := by
  refine opw_run v ?_ hK
  unfold execOp
  simp [ho, hc, hy, asBool, Sem.run_bind, Sem.run_pure, Result.andThen_ok]
/-- the bytes of a text -/
def str (l : List UInt8) : ByteArray := ⟨l.toArray⟩
theorem str_list (l : List UInt8) : (str l).toList = l := by rw [ByteArray.toList_eq]; simp [str]
theorem str_size (l : List UInt8) : (str l).size = l.length := by simp [str, ByteArray.size]
theorem str_take (l : List UInt8) (k : Nat) : (str l).extract 0 k = str (l.take k) := by
  apply ByteArray.ext; simp [str]
theorem str_drop (l : List UInt8) (k : Nat) : (str l).extract k (str l).size = str (l.drop k) := by
  apply ByteArray.ext; simp [str, ByteArray.size]; exact List.take_of_length_le (by simp)
theorem str_add (l m : List UInt8) : str l ++ str m = str (l ++ m) := by
  apply ByteArray.ext; simp [str, ByteArray.data_append]
def cmpS (op : BinOp) (l m : List UInt8) : Option Bool := match op with
  | .eql => some (l == m) | .neq => some (!(l == m)) | .lss => some (Op.bytesLess l m) | _ => none
theorem opw_cmpStr (op : BinOp) (t t' : TypeId) (x y : Operand) (l m : List UInt8) (Z : Bool) (ho : o.op = .binOp op t x y t') (hx : a.eval x = .string (str l)) (hy : a.eval y = .string (str m)) (hz : cmpS op l m = some Z) (hK : K (a.put o.dst (.bool Z)) w) : o.wp P a w K Q := by
  refine opw_run (.bool Z) ?_ hK
  unfold execOp
  unfold cmpS at hz
  cases op <;> simp only [reduceCtorEq, Option.some.injEq] at hz
  all_goals (subst hz; simp only [ho, hx, hy, eqGuard, binOp_string_eql, binOp_string_neq, binOp_string_lss, str_list, Sem.run_bind, Sem.run_pure, Result.andThen_ok, Bool.not_false, Bool.not_true, Bool.false_eq_true, if_false, if_true])
theorem opw_slTo (T : TypeId) (x h : Operand) (hu : P.underlying T = some .string) (ho : o.op = .slice T x none (some h) none) (l : List UInt8) (k : Nat) (hx : a.eval x = .string (str l)) (hh : a.eval h = .int .i64 (k : Int)) (hk : k ≤ l.length) (hK : K (a.put o.dst (.string (str (l.take k)))) w) : o.wp P a w K Q := by
  refine opw_run (.string (str (l.take k))) ?_ hK
  unfold execOp
  simp only [ho, hx, hh, Option.map_none, Option.map_some, Sem.run_bind, run_sliceAt_string _ _ _ _ _ _ hu, run_slice_string_to_if _ _ _ _ _ hu, str_size, Int.toNat_natCast, str_take]
  rw [if_pos (by omega)]
  rfl
theorem opw_slFrom (T : TypeId) (x h : Operand) (hu : P.underlying T = some .string) (ho : o.op = .slice T x (some h) none none) (l : List UInt8) (k : Nat) (hx : a.eval x = .string (str l)) (hh : a.eval h = .int .i64 (k : Int)) (hk : k ≤ l.length) (hK : K (a.put o.dst (.string (str (l.drop k)))) w) : o.wp P a w K Q := by
  refine opw_run (.string (str (l.drop k))) ?_ hK
  unfold execOp
  simp only [ho, hx, hh, Option.map_none, Option.map_some, Sem.run_bind, run_sliceAt_string _ _ _ _ _ _ hu, run_slice_string_from_if _ _ _ _ _ hu, Int.toNat_natCast, str_drop]
  rw [if_pos (by rw [str_size]; omega)]
  rfl
theorem opw_addStr (t t' : TypeId) (x y : Operand) (l m : List UInt8) (ho : o.op = .binOp .add t x y t') (hx : a.eval x = .string (str l)) (hy : a.eval y = .string (str m)) (hb : l.length + m.length ≤ 9223372036854775807) (hK : K (a.put o.dst (.string (str (l ++ m)))) w) : o.wp P a w K Q := by
  refine opw_run (.string (str (l ++ m))) ?_ hK
  unfold execOp
  simp only [ho, hx, hy, eqGuard, binOp_string_add, Sem.run_bind, Sem.run_pure, Result.andThen_ok, Bool.not_false, if_true]
  rw [run_string_add_sum w _ _ (by rw [str_size, str_size]; omega), str_add]
  rfl
theorem opw_eqBool (t t' : TypeId) (x y : Operand) (X Y : Bool) (hu : P.underlying t = some .bool) (ho : o.op = .binOp .eql t x y t') (hx : a.eval x = .bool X) (hy : a.eval y = .bool Y) (Z : Bool) (hz : (X == Y) = Z) (hK : K (a.put o.dst (.bool Z)) w) : o.wp P a w K Q := by
  subst hz
  refine opw_run (.bool (X == Y)) ?_ hK
  unfold execOp
  simp only [ho, hx, hy, eqGuard, Sem.run_bind, Sem.run_pure, Result.andThen_ok, run_eql_bool w t X Y hu, Bool.not_true, Bool.false_eq_true, if_false]
theorem opw_neBool (t t' : TypeId) (x y : Operand) (X Y : Bool) (hu : P.underlying t = some .bool) (ho : o.op = .binOp .neq t x y t') (hx : a.eval x = .bool X) (hy : a.eval y = .bool Y) (Z : Bool) (hz : (!(X == Y)) = Z) (hK : K (a.put o.dst (.bool Z)) w) : o.wp P a w K Q := by
  subst hz
  refine opw_run (.bool (!(X == Y))) ?_ hK
  unfold execOp
  simp only [ho, hx, hy, eqGuard, Sem.run_bind, Sem.run_pure, Result.andThen_ok, run_neq_bool w t X Y hu, Bool.not_true, Bool.false_eq_true, if_false]
theorem opw_not (t : TypeId) (x : Operand) (X : Bool) (ho : o.op = .unOp .not t x) (hx : a.eval x = .bool X) (Z : Bool) (hz : (!X) = Z) (hK : K (a.put o.dst (.bool Z)) w) : o.wp P a w K Q := by
  subst hz
  refine opw_run (.bool (!X)) ?_ hK
  unfold execOp
  simp [ho, hx, Op.unary, asBool, Sem.run_bind, Sem.run_pure, Result.andThen_ok]
theorem opw_eqRow (t t' e : TypeId) (n : Nat) (x y : Operand) (l m : List UInt8) (ht : P.underlying t = some (.array n e)) (he : P.underlying e = some (.int .u8)) (hsz : (P.info? e).map (·.size) = some 1) (hg : P.eqGuardType P.depth t = false) (hl : l.length = n) (hm : m.length = n)
    (ho : o.op = .binOp .eql t x y t') (hx : a.eval x = .agg (bcells l).toArray) (hy : a.eval y = .agg (bcells m).toArray) (Z : Bool) (hz : (l == m) = Z) (hK : K (a.put o.dst (.bool Z)) w) : o.wp P a w K Q := by
  subst hz
  refine opw_run (.bool (l == m)) ?_ hK
  have hsz' : ∀ w, (sizeOf e).run P w = .ok 1 w := fun w => by
    cases hi : P.info? e with
    | none => rw [hi] at hsz; cases hsz
    | some i => rw [hi] at hsz; simp at hsz; rw [run_sizeOf w hi]; simp [Program.cellsOf, hi, hsz]
  have := run_eql_bytes (P := P) w t e n ht he hsz' l m hl hm
  unfold execOp
  simp only [ho, hx, hy, Sem.run_bind, run_eqGuard_agg _ _ _ _ _ _ _ hg, Result.andThen_ok]
  rw [show (bcells l).toArray = (l.map Extern.Stop.cell).toArray from rfl, show (bcells m).toArray = (m.map Extern.Stop.cell).toArray from rfl, this]
  rfl
theorem opw_neRow (t t' e : TypeId) (n : Nat) (x y : Operand) (l m : List UInt8) (ht : P.underlying t = some (.array n e)) (he : P.underlying e = some (.int .u8)) (hsz : (P.info? e).map (·.size) = some 1) (hg : P.eqGuardType P.depth t = false) (hl : l.length = n) (hm : m.length = n)
    (ho : o.op = .binOp .neq t x y t') (hx : a.eval x = .agg (bcells l).toArray) (hy : a.eval y = .agg (bcells m).toArray) (Z : Bool) (hz : (!(l == m)) = Z) (hK : K (a.put o.dst (.bool Z)) w) : o.wp P a w K Q := by
  subst hz
  refine opw_run (.bool (!(l == m))) ?_ hK
  have hsz' : ∀ w, (sizeOf e).run P w = .ok 1 w := fun w => by
    cases hi : P.info? e with
    | none => rw [hi] at hsz; cases hsz
    | some i => rw [hi] at hsz; simp at hsz; rw [run_sizeOf w hi]; simp [Program.cellsOf, hi, hsz]
  have := run_equalIn_bytes (P := P) w 9998 t e n ht he hsz' l m hl hm
  unfold execOp
  simp only [ho, hx, hy, Sem.run_bind, run_eqGuard_agg _ _ _ _ _ _ _ hg, Result.andThen_ok, run_neq_struct]
  rw [show (bcells l).toArray = (l.map Extern.Stop.cell).toArray from rfl, show (bcells m).toArray = (m.map Extern.Stop.cell).toArray from rfl, this]
  rfl
theorem run_str (src dst e : TypeId) (hs : P.underlying src = some (.slice e)) (he : P.underlying e = some (.int .u8)) (hd : P.underlying dst = some .string)
    {v : Value} {n : Nat} {l : List UInt8} {w : World} (hr : Rd 1 w v n (bcells l)) : (convert src dst v).run P w = .ok (.string (str l)) w := by
  obtain ⟨hl, A, cap, rfl, hnc, hcm, ⟨rfl, rfl⟩ | ⟨ad, rfl, hc⟩⟩ := hr
  · obtain rfl : n = 0 := by omega
    have : l = [] := List.eq_nil_of_length_eq_zero (by rw [bcells_length] at hl; omega)
    subst this
    rw [run_convert_bytes_string w src dst e none 0 0 hs he hd]
    rfl
  · have hn : n = l.length := by rw [bcells_length] at hl; omega
    subst hn
    exact run_convert_bytes_back w src dst e ad cap l hs he hd fun j hj => by obtain ⟨b, off, sp⟩ := ad; obtain ⟨h2, h3⟩ := hc j _ (bcells_get hj); simp only at h2; subst h2; rw [addr_add]; exact h3
theorem opw_toStr (src dst e : TypeId) (x : Operand) (hs : P.underlying src = some (.slice e)) (he : P.underlying e = some (.int .u8)) (hd : P.underlying dst = some .string) (ho : o.op = .convert src dst x) (v : Value) (n : Nat) (l : List UInt8) (hx : a.eval x = v) (hr : Rd 1 w v n (bcells l))
    (hK : K (a.put o.dst (.string (str l))) w) : o.wp P a w K Q := by
  refine opw_run (.string (str l)) ?_ hK
  unfold execOp
  simp only [ho, hx, Sem.run_bind, run_str src dst e hs he hd hr, Result.andThen_ok, Sem.run_pure]
theorem opw_extract (x : Operand) (i : Nat) (vs : Array Value) (v : Value) (ho : o.op = .extract x i) (hx : a.eval x = .tuple vs) (hv : vs[i]? = some v) (hK : K (a.put o.dst v) w) : o.wp P a w K Q := by
  refine opw_run v ?_ hK
  unfold execOp
  simp [ho, hx, hv, Instr.extract, Sem.run_bind, Sem.run_pure, Result.andThen_ok]
end
end Go.Sl
