/-
  Several texts of this proof in one: Opl, Seen, Opn, RowLaw, Tail, Reg2, TailN, Mark, Reg3.
-/
import Derived.Test.YtblknhpafifebaaDoorM0
import Derived.Deep.MidRow
import Derived.Laws.CopyRow
import Derived.Great.BuildSlice
import Derived.Stop.BytesEq
/-
  Single operations: what each asks, and what it leaves, as laws on 'Oper.wp'. No program in sight.
-/
namespace Go.Sl
open Go Go.RowKit
set_option linter.unusedVariables false
set_option linter.unusedSimpArgs false
theorem list2 {α : Type} {x y : α} {l m : List α} (h : x = y) (h2 : l = m) : x :: l = y :: m := by rw [h, h2]
section
variable {P : Program} {o : Oper} {a : Act} {w : World} {K : Act → World → Prop} {Q : Exit → Act → World → Prop} {st : World}
theorem opw_move (x : Operand) (v : Value) (ho : o.op = .move x ∨ o.op = .assign x) (hx : a.eval x = v) (hK : K (a.put o.dst v) w) : o.wp P a w K Q := by
  unfold Oper.wp execOp
  rcases ho with ho | ho <;> (simp only [ho, hx, Sem.run_pure, Oper.upon_value]; exact hK)
/-- a value that is reckoned without memory -/
theorem opw_run (v : Value) (hr : (execOp a.eval o).run P w = .ok (.value v) w) (hK : K (a.put o.dst v) w) : o.wp P a w K Q := by
  unfold Oper.wp
  rw [hr]
  exact hK
theorem opw_alloc (t : TypeId) (z : Value) (cells : Array Value) (ho : o.op = .alloc t) (hi : (P.info? t).map (·.zero) = some (some z)) (hc : z.cells = cells) {R : HProp} (h : Has st R w)
    (hK : ∀ p w', p = w.heap.size → Has st (sep (Sl.blk p (.cells cells t (0, 0))) R) w' → K (a.put o.dst (.pointer (some ⟨p, 0, none⟩))) w') : o.wp P a w K Q := by
  subst hc
  obtain ⟨i, hi0, hi1⟩ : ∃ i, P.info? t = some i ∧ i.zero = some z := by
    cases hp : P.info? t with
    | none => rw [hp] at hi; cases hi
    | some i => rw [hp] at hi; simp at hi; exact ⟨i, rfl, hi⟩
  have hr : (Instr.alloc t true (.tuple #[])).run P w = .ok (.pointer (some ⟨w.heap.size, 0, none⟩)) (w.alloc (.cells z.cells t)) := by
    simp [Instr.alloc, zeroValue, typeInfo, hi0, hi1, newVar, Sem.run_bind, go_sem]
  unfold Oper.wp execOp
  simp only [ho, Sem.run_bind, hr, Sem.run_pure, Result.andThen_ok, Oper.upon_value]
  exact hK _ _ rfl (h.alloc _)
/-- a whole block is loaded -/
theorem opw_loadRow (ty : TypeId) (x : Operand) (ho : o.op = .load ty x) (g : Nat) (hx : a.eval x = .pointer (some ⟨g, 0, none⟩)) (t : TypeId) (cs : Array Value) (fr : Nat × Nat) (d : TypeDesc)
    (hu : P.underlying ty = some d) (hd : (match d with | .struct _ | .array _ _ => true | _ => false) = true) (hi : (P.info? ty).map (·.size) = some cs.size) {R : HProp} (h : Has st (sep (Sl.blk g (.cells cs t fr)) R) w)
    (hK : K (a.put o.dst (.agg cs)) w) : o.wp P a w K Q :=
  wp_load_row ty x ho g hx t cs fr d h.blk hu hd hi hK
/-- a whole block is stored to -/
theorem opw_storeRow (ty : TypeId) (x y : Operand) (ho : o.op = .store ty x y) (g : Nat) (cells : Array Value) (hx : a.eval x = .pointer (some ⟨g, 0, none⟩)) (hy : a.eval y = .agg cells) (t : TypeId) (old : Array Value)
    (hi : (P.info? ty).map (·.size) = some cells.size) (hold : old.size = cells.size) (h1 : cells.all (·.oneCell') = true) {R : HProp} (h : Has st (sep (Sl.blk g (.cells old t (0, 0))) R) w)
    (hK : ∀ w', Has st (sep (Sl.blk g (.cells cells t (0, 0))) R) w' → K (a.put o.dst undef) w') : o.wp P a w K Q :=
  wp_store_row ty x y ho g cells hx hy t old h.blk hi hold h1 (hK _ (h.setRow cells))
/-- function f has a text, and is no clock -/
def entersB (P : Program) (f : FuncId) : Bool := match P.funcs[f]? with | some fn => !(fn.name == "runtime.NumGoroutine") && !fn.body.isNone | none => false
theorem run_enters {P : Program} {f : FuncId} (h : entersB P f = true) (args : Array Value) (w : World) : (callFunc f args).run P w = .ok (.enter f args) w := by
  unfold entersB at h
  unfold callFunc
  cases hf : P.funcs[f]? with
  | none => rw [hf] at h; cases h
  | some fn =>
    rw [hf] at h
    simp only [Bool.and_eq_true, Bool.not_eq_true'] at h
    have h1 : ¬ fn.name = "runtime.NumGoroutine" := by simpa using h.1
    have h2 : ¬ fn.body = none := fun e => by rw [e] at h; simp at h
    simp [go_sem, hf, h1, h2]
/-- a call of a function that is known -/
theorem opw_call (f : FuncId) (args : List Operand) (ts : Array TypeId) (vs : List Value) (ho : o.op = .call { callee := .value (.func f), args := args.toArray, argTypes := ts }) (hf : entersB P f = true) (hvs : args.map a.eval = vs)
    (h : Calls P f vs.toArray w fun e w' => match e with | .returned v => K (a.put o.dst v) w' | .panicked c => Q (.panic c) a w' | .outgrown => LetsOut Q) : o.wp P a w K Q := by
  subst hvs
  unfold Oper.wp execOp
  simp only [ho, resolve, Act.eval, Deferred.ofValue, Sem.run_bind, Sem.run_pure, Result.andThen_ok, invoke]
  rw [show (#[] ++ Array.map a.eval args.toArray ++ #[] : Array Value) = (args.map a.eval).toArray by simp, run_enters hf]
  rw [Oper.upon_enter]
  exact Calls.mono h fun e w' he => by cases e <;> exact he
/-- a call whose contract says that it returns -/
theorem opw_call_ret (f : FuncId) (args : List Operand) (ts : Array TypeId) (vs : List Value) (ho : o.op = .call { callee := .value (.func f), args := args.toArray, argTypes := ts }) (hf : entersB P f = true) (hvs : args.map a.eval = vs)
    {post : Ending → World → Prop} (h : Calls P f vs.toArray w post) (hK : ∀ e w', post e w' → ∃ v, e = .returned v ∧ K (a.put o.dst v) w') : o.wp P a w K Q :=
  opw_call f args ts vs ho hf hvs (h.mono fun e w' hp => by obtain ⟨v, rfl, hk⟩ := hK e w' hp; exact hk)
theorem opw_bin32 (op : BinOp) (t t' : TypeId) (x y : Operand) (X Y Z : UInt32) (ho : o.op = .binOp op t x y t') (hx : a.eval x = .int .u32 (X.toNat : Int)) (hy : a.eval y = .int .u32 (Y.toNat : Int))
    (hz : op = .add ∧ Z = X + Y ∨ op = .xor ∧ Z = X ^^^ Y ∨ op = .and ∧ Z = X &&& Y ∨ op = .or ∧ Z = X ||| Y) (hK : K (a.put o.dst (.int .u32 (Z.toNat : Int))) w) : o.wp P a w K Q := by
  refine opw_run (.int .u32 (Z.toNat : Int)) ?_ hK
  unfold execOp
  have e1 := w32_add X Y
  have e2 := w32_xor X Y
  have e3 := w32_and X Y
  have e4 := w32_or X Y
  unfold bits at e2 e3 e4
  simp only at e2 e3 e4
  rcases hz with ⟨rfl, rfl⟩ | ⟨rfl, rfl⟩ | ⟨rfl, rfl⟩ | ⟨rfl, rfl⟩ <;>
    simp only [ho, hx, hy, eqGuard, binOp, Op.intArith, Op.intBits, Sem.run_bind, Sem.run_pure, Result.andThen_ok, Bool.not_false, if_true, ne_eq, not_true_eq_false, if_false, e1, e2, e3, e4]
theorem opw_not32 (t : TypeId) (x : Operand) (X : UInt32) (ho : o.op = .unOp .xor t x) (hx : a.eval x = .int .u32 (X.toNat : Int)) (hK : K (a.put o.dst (.int .u32 ((~~~ X).toNat : Int))) w) : o.wp P a w K Q := by
  refine opw_run (.int .u32 ((~~~ X).toNat : Int)) ?_ hK
  unfold execOp
  simp only [ho, hx, Sem.run_bind]
  have e := w32_not X
  unfold bits at e
  simp only at e
  have hs : (if IntKind.u32.signed = true then (-1 : Int) else IntKind.u32.max) = IntKind.u32.max := if_neg (by decide)
  simp only [Op.unary, Op.intBits, hs, e, Sem.run_pure, Result.andThen_ok]
/-- one cell is loaded -/
theorem opw_load1 (t : TypeId) (x : Operand) (ho : o.op = .load t x) (d : TypeDesc) (hu : P.underlying t = some d) (hd : (match d with | .struct _ | .array _ _ => false | _ => true) = true) (ad : Addr) (v : Value)
    (hx : a.eval x = .pointer (some ad)) (hc : w.cell? ad = some v) (hK : K (a.put o.dst v) w) : o.wp P a w K Q := by
  refine opw_run v ?_ hK
  have hagg : (isAgg t).run P w = .ok false w := by
    unfold isAgg
    rw [Sem.run_bind, run_underlying hu w]
    cases d <;> simp_all
  unfold execOp
  simp only [ho, hx, Instr.loadAt, Instr.sureAddr, loadVar, Sem.run_bind, Sem.run_pure, Result.andThen_ok, hagg]
  simp [go_sem, hc]
theorem opw_indexArr (T e : TypeId) (n : Nat) (x ix : Operand) (ho : o.op = .indexAddr T x ix) (hu : P.underlying T = some (.array n e)) (hsz : (P.info? e).map (·.size) = some 1) (g off j : Nat) (hx : a.eval x = .pointer (some ⟨g, off, none⟩))
    (k : IntKind) (hix : a.eval ix = .int k (j : Int)) (hj : j < n) (hK : K (a.put o.dst (.pointer (some ⟨g, off + j, none⟩))) w) : o.wp P a w K Q := by
  refine opw_run (.pointer (some ⟨g, off + j, none⟩)) ?_ hK
  obtain ⟨i, hi0, hi1⟩ : ∃ i, P.info? e = some i ∧ i.size = 1 := by
    cases hp : P.info? e with
    | none => rw [hp] at hsz; cases hsz
    | some i => rw [hp] at hsz; simp at hsz; exact ⟨i, rfl, hsz⟩
  have hj1 : (0 : Int) ≤ j := by omega
  have hj2 : (j : Int) < n := by omega
  unfold execOp
  simp only [ho, hx, hix, Instr.indexAt, Instr.sureAddr, asIntOf, Sem.run_bind, Sem.run_pure, Result.andThen_ok, run_underlying hu]
  simp [sizeOf, typeInfo, hi0, hi1, go_sem, hj, addr_add]
/-- a struct or array is built of parts -/
theorem opw_build (t : TypeId) (parts : List (Nat × Operand)) (vs : List (Nat × Value)) (cells : Array Value) (ho : o.op = .build t parts.toArray) (hvs : parts.map (fun p => (p.1, a.eval p.2)) = vs) (hb : P.built t vs = some cells)
    (hK : K (a.put o.dst (.agg cells)) w) : o.wp P a w K Q := by
  have e : ((parts.toArray.map fun (p : Nat × Operand) => (p.1, a.eval p.2)).toList) = vs := by rw [← hvs]; simp
  refine wp_build t parts.toArray ho ?_ ?_
  · show (P.built t (parts.toArray.map fun (p : Nat × Operand) => (p.1, a.eval p.2)).toList).isSome = true
    rw [e, hb]; rfl
  · show K (a.put o.dst (.agg ((P.built t (parts.toArray.map fun (p : Nat × Operand) => (p.1, a.eval p.2)).toList).getD #[]))) w
    rw [e, hb]; exact hK
theorem wpl_build {ops : Array Oper} {rest : List Oper} (hg : o.guard = none) (t : TypeId) (parts : List (Nat × Operand)) (vs : List (Nat × Value)) (cells : Array Value) (ho : o.op = .build t parts.toArray) (hvs : parts.map (fun p => (p.1, a.eval p.2)) = vs) (hb : P.built t vs = some cells)
    (h : wpList P ops Q rest (a.put o.dst (.agg cells)) w) : wpList P ops Q (o :: rest) a w :=
  wpList_plain hg fun _ hK => opw_build t parts vs cells ho hvs hb (hK _ _ h)
/-- one cell is stored to -/
theorem run_storeVar1 (t : TypeId) (g j : Nat) (v : Value) (hv : v.oneCell' = true) (hi : (P.info? t).map (·.size) = some 1) {R : HProp} {c : Array Value} {T : TypeId} (h : Has st (sep (Sl.blk g (.cells c T (0, 0))) R) w) (hj : j < c.size) :
    (storeVar t ⟨g, j, none⟩ v).run P w = .ok () (w.setCell ⟨g, j, none⟩ v) := by
  obtain ⟨i, hi0, hi1⟩ : ∃ i, P.info? t = some i ∧ i.size = 1 := by
    cases hp : P.info? t with
    | none => rw [hp] at hi; cases hi
    | some i => rw [hp] at hi; simp at hi; exact ⟨i, rfl, hi⟩
  have hcells : v.cells = #[v] := by cases v <;> first | rfl | (simp [Value.oneCell'] at hv)
  have hc : w.cell? ⟨g, j, none⟩ = some c[j] := by rw [h.cell]; simp [hj]
  have hf := h.free j
  have hadd : (⟨g, j, none⟩ : Addr).add 0 = ⟨g, j, none⟩ := by rw [addr_add]; rfl
  have hst : (store (⟨g, j, none⟩ : Addr) v).run P w = .ok () (w.setCell ⟨g, j, none⟩ v) := by
    rw [run_store P w _ v _ hv, hc]
    simp [hf]
  unfold storeVar
  simp only [hcells, Sem.run_bind, sizeOf, typeInfo, hi0]
  simp [go_sem, hi0, hi1, storeCells, hadd, hst]
theorem opw_store1 (t : TypeId) (x y : Operand) (ho : o.op = .store t x y) (hi : (P.info? t).map (·.size) = some 1) (g j : Nat) (v : Value) (hx : a.eval x = .pointer (some ⟨g, j, none⟩)) (hy : a.eval y = v) (hv : v.oneCell' = true)
    {R : HProp} {c : Array Value} {T : TypeId} (h : Has st (sep (Sl.blk g (.cells c T (0, 0))) R) w) (hj : j < c.size)
    (hK : ∀ w', Has st (sep (Sl.blk g (.cells (c.setIfInBounds j v) T (0, 0))) R) w' → K (a.put o.dst undef) w') : o.wp P a w K Q := by
  unfold Oper.wp execOp
  simp only [ho, hx, hy, Instr.storeAt, Instr.sureAddr, Sem.run_bind, Sem.run_pure, Result.andThen_ok, run_storeVar1 t g j v hv hi h hj, Oper.upon_skip]
  exact hK _ (h.set j v)
/-- part of a block is loaded, as an array or a struct -/
theorem opw_loadMid (ty : TypeId) (x : Operand) (ho : o.op = .load ty x) (g off : Nat) (hx : a.eval x = .pointer (some ⟨g, off, none⟩)) (cs : List Value) (d : TypeDesc)
    (hu : P.underlying ty = some d) (hd : d.isRow = true) (hi : (P.info? ty).map (·.size) = some cs.length) {R : HProp} {c : Array Value} {T : TypeId} {fr : Nat × Nat} (h : Has st (sep (Sl.blk g (.cells c T fr)) R) w)
    (hc : (c.toList.drop off).take cs.length = cs) (hK : K (a.put o.dst (.agg cs.toArray)) w) : o.wp P a w K Q := by
  refine wp_load_mid ty x ho g off hx cs d (fun j v hv => ?_) hu hd hi hK
  rw [h.cell]
  have hj := (List.getElem?_eq_some_iff.1 hv).1
  rw [← hc, List.getElem?_take_of_lt hj, List.getElem?_drop] at hv
  simpa using hv
theorem splice_ok {c : Array Value} {off : Nat} {vs : List Value} (h : off + vs.length ≤ c.size) : (c.toList.take off ++ vs ++ c.toList.drop (off + vs.length)).length = c.size := by
  simp; omega
/-- part of a block is stored to -/
theorem opw_storeMid (ty : TypeId) (x y : Operand) (ho : o.op = .store ty x y) (g off : Nat) (vs : List Value) (hx : a.eval x = .pointer (some ⟨g, off, none⟩)) (hy : a.eval y = .agg vs.toArray)
    (hi : (P.info? ty).map (·.size) = some vs.length) (h1 : ∀ v ∈ vs, v.oneCell' = true) {R : HProp} {c : Array Value} {T : TypeId} (h : Has st (sep (Sl.blk g (.cells c T (0, 0))) R) w) (hl : off + vs.length ≤ c.size)
    (hK : ∀ w', Has st (sep (Sl.blk g (.cells (c.toList.take off ++ vs ++ c.toList.drop (off + vs.length)).toArray T (0, 0))) R) w' → K (a.put o.dst undef) w') : o.wp P a w K Q := by
  obtain ⟨i, hi0, hi1⟩ : ∃ i, P.info? ty = some i ∧ i.size = vs.length := by
    cases hp : P.info? ty with
    | none => rw [hp] at hi; cases hi
    | some i => rw [hp] at hi; simp at hi; exact ⟨i, rfl, hi⟩
  have hst := run_storeCells_at (P := P) g off T vs 0 c w h.blk (by omega) h1
  simp only [Nat.add_zero] at hst
  unfold Oper.wp execOp
  simp only [ho, hx, hy, Instr.storeAt, Instr.sureAddr, Sem.run_bind, Sem.run_pure, Result.andThen_ok, storeVar]
  have hsz : (Value.agg vs.toArray).cells = vs.toArray := rfl
  simp only [hsz, sizeOf, typeInfo]
  simp [go_sem, hi0, hi1, hst]
  exact hK _ (by rw [List.append_assoc]; exact h.setRow _)
theorem opw_nilCheck (x : Operand) (ad : Addr) (ho : o.op = .nilCheck x) (hx : a.eval x = .pointer (some ad)) (hK : K (a.put o.dst (.pointer (some ad))) w) : o.wp P a w K Q := by
  refine opw_run (.pointer (some ad)) ?_ hK
  unfold execOp
  simp only [ho, hx, Sem.run_pure]
/-- field f of struct type S lies n cells behind its head -/
def fieldB (P : Program) (S : TypeId) (f n : Nat) : Bool := match P.underlying S with
  | some (.struct fs) => match fs[f]? with
    | some fd => fd.offset == n && (match P.info? fd.type with | some i => i.size != 0 | none => false)
    | none => false
  | _ => false
theorem opw_field (S : TypeId) (x : Operand) (f n : Nat) (ho : o.op = .fieldAddr S x f) (hf : fieldB P S f n = true) (g off : Nat) (hx : a.eval x = .pointer (some ⟨g, off, none⟩))
    (hK : K (a.put o.dst (.pointer (some ⟨g, off + n, none⟩))) w) : o.wp P a w K Q := by
  refine opw_run (.pointer (some ⟨g, off + n, none⟩)) ?_ hK
  unfold fieldB at hf
  split at hf
  · rename_i fs hu
    split at hf
    · rename_i fd hfd
      simp only [Bool.and_eq_true, beq_iff_eq] at hf
      obtain ⟨rfl, hi⟩ := hf
      split at hi
      · rename_i i hi0
        have hne : ¬ i.size = 0 := by simpa using hi
        unfold execOp
        simp only [ho, hx, Instr.fieldAt, Instr.sureAddr, Sem.run_bind, Sem.run_pure, Result.andThen_ok, run_underlying hu, hfd, fieldPlace, sizeOf, typeInfo]
        simp [go_sem, hi0, hne, addr_add]
      · cases hi
    · cases hf
  · cases hf
theorem opw_len (x : Operand) (t e : TypeId) (hu : P.underlying t = some (.slice e)) (A : Option Addr) (n c : Nat) (ho : o.op = .call { callee := .builtin .len, args := #[x], argTypes := #[t] }) (hx : a.eval x = .slice A n c) (hK : K (a.put o.dst (.int .i64 (n : Int))) w) : o.wp P a w K Q := by
  refine opw_run (.int .i64 (n : Int)) ?_ hK
  unfold execOp
  simp only [ho, resolve, invoke, builtin, Sem.run_bind, Sem.run_pure, Result.andThen_ok, List.map_toArray, List.map_cons, List.map_nil, hx]
  simp [Builtin.len_, Builtin.lenOf, run_underlying hu, go_sem]
theorem opw_addNat (t t' : TypeId) (x y : Operand) (n m : Nat) (ho : o.op = .binOp .add t x y t') (hx : a.eval x = .int .i64 (n : Int)) (hy : a.eval y = .int .i64 (m : Int)) (hb : n + m ≤ 9223372036854775807) (hK : K (a.put o.dst (.int .i64 ((n + m : Nat) : Int))) w) : o.wp P a w K Q := by
  refine opw_run (.int .i64 ((n + m : Nat) : Int)) ?_ hK
  have e : IntKind.i64.wrap ((n : Int) + (m : Int)) = ((n + m : Nat) : Int) := by rw [IntWalk.i64_in _ ⟨by omega, by omega⟩]; omega
  unfold execOp
  simp only [ho, hx, hy, eqGuard, binOp, Op.intArith, Sem.run_bind, Sem.run_pure, Result.andThen_ok, Bool.not_false, if_true, ne_eq, not_true_eq_false, if_false, e]
end
section
variable {P : Program} {ops : Array Oper} {rest : List Oper} {o : Oper} {a : Act} {Q : Exit → Act → World → Prop} {w : World} {st : World}
theorem wpl_alloc (hg : o.guard = none) (t : TypeId) (z : Value) (cells : Array Value) (ho : o.op = .alloc t) (hi : (P.info? t).map (·.zero) = some (some z)) (hc : z.cells = cells) {R : HProp} (h : Has st R w)
    (hK : ∀ p w', p = w.heap.size → Has st (sep (Sl.blk p (.cells cells t (0, 0))) R) w' → wpList P ops Q rest (a.put o.dst (.pointer (some ⟨p, 0, none⟩))) w') : wpList P ops Q (o :: rest) a w :=
  wpList_plain hg fun _ hk => opw_alloc t z cells ho hi hc h fun p w' hp h' => hk _ _ (hK p w' hp h')
theorem wpl_loadMid (hg : o.guard = none) (ty : TypeId) (x : Operand) (ho : o.op = .load ty x) (g off : Nat) (hx : a.eval x = .pointer (some ⟨g, off, none⟩)) (cs : List Value) (d : TypeDesc)
    (hu : P.underlying ty = some d) (hd : d.isRow = true) (hi : (P.info? ty).map (·.size) = some cs.length) {R : HProp} {c : Array Value} {T : TypeId} {fr : Nat × Nat} (h : Has st (sep (Sl.blk g (.cells c T fr)) R) w)
    (hc : (c.toList.drop off).take cs.length = cs) (hK : wpList P ops Q rest (a.put o.dst (.agg cs.toArray)) w) : wpList P ops Q (o :: rest) a w :=
  wpList_plain hg fun _ hk => opw_loadMid ty x ho g off hx cs d hu hd hi h hc (hk _ _ hK)
theorem wpl_storeMid (hg : o.guard = none) (ty : TypeId) (x y : Operand) (ho : o.op = .store ty x y) (g off : Nat) (vs : List Value) (hx : a.eval x = .pointer (some ⟨g, off, none⟩)) (hy : a.eval y = .agg vs.toArray)
    (hi : (P.info? ty).map (·.size) = some vs.length) (h1 : ∀ v ∈ vs, v.oneCell' = true) {R : HProp} {c : Array Value} {T : TypeId} (h : Has st (sep (Sl.blk g (.cells c T (0, 0))) R) w) (hl : off + vs.length ≤ c.size)
    (hK : ∀ w', Has st (sep (Sl.blk g (.cells (c.toList.take off ++ vs ++ c.toList.drop (off + vs.length)).toArray T (0, 0))) R) w' → wpList P ops Q rest (a.put o.dst undef) w') : wpList P ops Q (o :: rest) a w :=
  wpList_plain hg fun _ hk => opw_storeMid ty x y ho g off vs hx hy hi h1 h hl fun w' h' => hk _ _ (hK w' h')
theorem wpl_loadRow (hg : o.guard = none) (ty : TypeId) (x : Operand) (ho : o.op = .load ty x) (g : Nat) (hx : a.eval x = .pointer (some ⟨g, 0, none⟩)) (t : TypeId) (cs : Array Value) (fr : Nat × Nat) (d : TypeDesc)
    (hu : P.underlying ty = some d) (hd : (match d with | .struct _ | .array _ _ => true | _ => false) = true) (hi : (P.info? ty).map (·.size) = some cs.size) {R : HProp} (h : Has st (sep (Sl.blk g (.cells cs t fr)) R) w)
    (hK : wpList P ops Q rest (a.put o.dst (.agg cs)) w) : wpList P ops Q (o :: rest) a w :=
  wpList_load_row hg ty x ho g hx t cs fr d h.blk hu hd hi hK
theorem wpl_storeRow (hg : o.guard = none) (ty : TypeId) (x y : Operand) (ho : o.op = .store ty x y) (g : Nat) (cells : Array Value) (hx : a.eval x = .pointer (some ⟨g, 0, none⟩)) (hy : a.eval y = .agg cells) (t : TypeId) (old : Array Value)
    (hi : (P.info? ty).map (·.size) = some cells.size) (hold : old.size = cells.size) (h1 : cells.all (·.oneCell') = true) {R : HProp} (h : Has st (sep (Sl.blk g (.cells old t (0, 0))) R) w)
    (hK : ∀ w', Has st (sep (Sl.blk g (.cells cells t (0, 0))) R) w' → wpList P ops Q rest (a.put o.dst undef) w') : wpList P ops Q (o :: rest) a w :=
  wpList_plain hg fun _ hk => opw_storeRow ty x y ho g cells hx hy t old hi hold h1 h fun w' h' => hk _ _ (hK w' h')
theorem wpl_call_ret (hg : o.guard = none) (f : FuncId) (args : List Operand) (ts : Array TypeId) (vs : List Value) (ho : o.op = .call { callee := .value (.func f), args := args.toArray, argTypes := ts }) (hf : entersB P f = true) (hvs : args.map a.eval = vs)
    {post : Ending → World → Prop} (h : Calls P f vs.toArray w post) (hK : ∀ e w', post e w' → ∃ v, e = .returned v ∧ wpList P ops Q rest (a.put o.dst v) w') : wpList P ops Q (o :: rest) a w :=
  wpList_plain hg fun _ hk => opw_call_ret f args ts vs ho hf hvs h fun e w' hp => by obtain ⟨v, hv, hk'⟩ := hK e w' hp; exact ⟨v, hv, hk _ _ hk'⟩
end
end Go.Sl

/-
  A piece that lets a slice be read, whatever else it is.
-/
namespace Go.Sl
open Go Go.RowKit
set_option linter.unusedVariables false
set_option linter.unusedSimpArgs false
def seenP (size : Nat) (v : Value) (n : Nat) (xs : List Value) : HProp := fun h => ∃ G : HProp, G h ∧ ∀ st R, Sees st (sep G R) size v n xs
theorem Has.openSeen {st : World} {R : HProp} {w : World} {size : Nat} {v : Value} {n : Nat} {xs : List Value} (h : Has st (sep (seenP size v n xs) R) w) : ∃ G, Has st (sep G R) w ∧ ∀ st R, Sees st (sep G R) size v n xs := by
  obtain ⟨a, b, c, _, ⟨y, z, ⟨G, hG, hs⟩, hz, hyz, rfl⟩, hk⟩ := h
  exact ⟨G, ⟨a, b, c, _, ⟨y, z, hG, hz, hyz, rfl⟩, hk⟩, hs⟩
theorem Has.toSeen {st : World} {G R : HProp} {w : World} {size : Nat} {v : Value} {n : Nat} {xs : List Value} (h : Has st (sep G R) w) (hs : ∀ st R, Sees st (sep G R) size v n xs) : Has st (sep (seenP size v n xs) R) w :=
  h.monoL fun x hx => ⟨G, hx, hs⟩
theorem sees_seen (st : World) (size : Nat) (v : Value) (n : Nat) (xs : List Value) (R : HProp) : Sees st (sep (seenP size v n xs) R) size v n xs := by
  intro w hw
  obtain ⟨G, hG, hs⟩ := hw.openSeen
  exact hs st R w hG
theorem Has.seen_nil {st : World} {R : HProp} {w : World} (size : Nat) (h : Has st R w) : Has st (sep (seenP size (.slice none 0 0) 0 []) R) w :=
  h.ofEmp.toSeen fun _ _ w' _ => Rd.nil size w'
theorem Has.row_seen {st : World} {R : HProp} {w : World} {e : TypeId} {size : Nat} {v : Value} {n : Nat} {xs : List Value} (h : Has st (sep (row e size v n xs) R) w) : Has st (sep (seenP size v n xs) R) w :=
  h.toSeen fun st R => sees_row st e size v n xs R
/-- a part of what is seen is seen -/
theorem Has.seen_part {st : World} {R : HProp} {w : World} {size : Nat} {v v' : Value} {n n' : Nat} {xs xs' : List Value} (h : Has st (sep (seenP size v n xs) R) w) (hp : ∀ w', Rd size w' v n xs → Rd size w' v' n' xs') : Has st (sep (seenP size v' n' xs') R) w :=
  h.toSeen fun st R w' hw => hp w' (sees_seen st size v n xs R w' hw)
theorem bcells_drop (l : List UInt8) (k : Nat) : (bcells l).drop k = bcells (l.drop k) := by simp [bcells]
theorem bcells_take (l : List UInt8) (k : Nat) : (bcells l).take k = bcells (l.take k) := by simp [bcells]
/-- a slice that is not nil -/
theorem Rd.nil_or {size : Nat} {w : World} {A : Option Addr} {n c : Nat} {xs : List Value} (h : Rd size w (.slice A n c) n xs) : (A = none ∧ n = 0 ∧ c = 0 ∧ xs = []) ∨ ∃ ad, A = some ad := by
  obtain ⟨hl, A', c', e, h1, h2, ⟨rfl, rfl⟩ | ⟨ad, rfl, _⟩⟩ := h
  · injection e with e1 e2 e3
    subst e1 e3
    obtain rfl : n = 0 := by omega
    exact .inl ⟨rfl, rfl, rfl, List.eq_nil_of_length_eq_zero (by omega)⟩
  · injection e with e1 e2 e3
    exact .inr ⟨ad, e1⟩
end Go.Sl

/-
  Single operations on whole numbers, conversions, comparisons; one cell of a row.
-/
namespace Go.Sl
open Go Go.RowKit
set_option linter.unusedVariables false
set_option linter.unusedSimpArgs false
section
variable {P : Program} {o : Oper} {a : Act} {w : World} {K : Act → World → Prop} {Q : Exit → Act → World → Prop} {st : World}
/-- what an operation on two numbers of one kind gives -/
def binZ (op : BinOp) (k : IntKind) (X Y : Int) : Option Int := match op with
  | .add => some (k.wrap (X + Y))
  | .sub => some (k.wrap (X - Y))
  | .mul => some (k.wrap (X * Y))
  | .quo => if Y = 0 then none else some (k.wrap (X.tdiv Y))
  | .rem => if Y = 0 then none else some (X.tmod Y)
  | _ => none
theorem opw_bin (op : BinOp) (t t' : TypeId) (x y : Operand) (k : IntKind) (X Y Z : Int) (ho : o.op = .binOp op t x y t') (hx : a.eval x = .int k X) (hy : a.eval y = .int k Y) (hz : binZ op k X Y = some Z) (hK : K (a.put o.dst (.int k Z)) w) : o.wp P a w K Q := by
  refine opw_run (.int k Z) ?_ hK
  unfold execOp
  unfold binZ at hz
  cases op <;> simp only [reduceCtorEq, Option.some.injEq] at hz
  all_goals try (subst hz; simp only [ho, hx, hy, eqGuard, binOp, Op.intArith, Sem.run_bind, Sem.run_pure, Result.andThen_ok, Bool.not_false, if_true, ne_eq, not_true_eq_false, if_false]; done)
  all_goals
    split at hz
    · cases hz
    · rename_i hne
      simp only [Option.some.injEq] at hz
      subst hz
      simp only [ho, hx, hy, eqGuard, binOp, Op.intDiv, if_neg hne, Sem.run_bind, Sem.run_pure, Result.andThen_ok, Bool.not_false, if_true, ne_eq, not_true_eq_false, if_false]
def shZ (op : BinOp) (k : IntKind) (X Y : Int) : Option Int := if Y < 0 then none else match op with
  | .shl => some (k.wrap (X * 2 ^ (min Y.toNat k.bits)))
  | .shr => some (X.fdiv (2 ^ (min Y.toNat k.bits)))
  | _ => none
theorem opw_shift (op : BinOp) (t t' : TypeId) (x y : Operand) (k k' : IntKind) (X Y Z : Int) (ho : o.op = .binOp op t x y t') (hx : a.eval x = .int k X) (hy : a.eval y = .int k' Y) (hz : shZ op k X Y = some Z) (hK : K (a.put o.dst (.int k Z)) w) : o.wp P a w K Q := by
  refine opw_run (.int k Z) ?_ hK
  unfold execOp
  unfold shZ at hz
  split at hz
  · cases hz
  · rename_i hne
    cases op <;> simp only [reduceCtorEq, Option.some.injEq] at hz
    all_goals (subst hz; simp only [ho, hx, hy, eqGuard, binOp, Op.shift, if_neg hne, Sem.run_bind, Sem.run_pure, Result.andThen_ok, Bool.not_false, if_true])
/-- comparisons of numbers -/
def cmpZ (op : BinOp) (X Y : Int) : Option Bool := match op with
  | .eql => some (X == Y) | .neq => some (X != Y) | .lss => some (X < Y) | .leq => some (X ≤ Y) | .gtr => some (X > Y) | .geq => some (X ≥ Y) | _ => none
theorem opw_cmp (op : BinOp) (t t' : TypeId) (x y : Operand) (k : IntKind) (X Y : Int) (Z : Bool) (ho : o.op = .binOp op t x y t') (hx : a.eval x = .int k X) (hy : a.eval y = .int k Y) (hz : cmpZ op X Y = some Z) (hK : K (a.put o.dst (.bool Z)) w) : o.wp P a w K Q := by
  refine opw_run (.bool Z) ?_ hK
  unfold execOp
  unfold cmpZ at hz
  cases op <;> simp only [reduceCtorEq, Option.some.injEq] at hz
  all_goals (subst hz; simp only [ho, hx, hy, eqGuard, binOp, Op.intCmp, Sem.run_bind, Sem.run_pure, Result.andThen_ok, Bool.not_false, Bool.not_true, Bool.false_eq_true, if_false, if_true, ne_eq, not_true_eq_false])
theorem opw_conv (src dst : TypeId) (x : Operand) (k k' : IntKind) (X Z : Int) (ho : o.op = .convert src dst x) {d : TypeDesc} (hs : P.underlying src = some d) (hd : P.underlying dst = some (.int k')) (hx : a.eval x = .int k X) (hz : k'.wrap X = Z) (hK : K (a.put o.dst (.int k' Z)) w) : o.wp P a w K Q := by
  refine opw_run (.int k' Z) ?_ hK
  unfold execOp
  subst hz
  simp only [ho, hx, convert, Sem.run_bind, run_underlying hs, run_underlying hd, Result.andThen_ok, Conv.intToInt, Sem.run_pure]
theorem opw_box (t : TypeId) (v : Value) (cells : Array Value) {x : Operand} (ho : o.op = .box t x) (hx : a.eval x = v) (hc : v.cells = cells) {R : HProp} (h : Has st R w)
    (hK : ∀ p w', p = w.heap.size → Has st (sep (Sl.blk p (.cells cells t (0, 0))) R) w' → K (a.put o.dst (.pointer (some ⟨p, 0, none⟩))) w') : o.wp P a w K Q := by
  subst hc
  have hr : (Instr.box t v).run P w = .ok (.pointer (some ⟨w.heap.size, 0, none⟩)) (w.alloc (.cells v.cells t)) := by
    simp [Instr.box, newVar, go_sem]
  unfold Oper.wp execOp
  simp only [ho, hx, Sem.run_bind, hr, Sem.run_pure, Result.andThen_ok, Oper.upon_value]
  exact hK _ _ rfl (h.alloc _)
end
theorem i64_nat (n : Nat) (h : n ≤ 9223372036854775807) : IntKind.i64.wrap (n : Int) = (n : Int) := IntWalk.i64_in _ ⟨by omega, by omega⟩
theorem u64_nat (n : Nat) (h : n ≤ 18446744073709551615) : IntKind.u64.wrap (n : Int) = (n : Int) := IntWalk.u64_in _ ⟨by omega, by omega⟩
theorem bin_quo (n m : Nat) (hm : 0 < m) (h : n ≤ 9223372036854775807) : binZ .quo .i64 (n : Int) (m : Int) = some ((n / m : Nat) : Int) := by
  have h1 : n / m ≤ n := Nat.div_le_self _ _
  have e : (n : Int).tdiv (m : Int) = ((n / m : Nat) : Int) := by rw [Int.tdiv_eq_ediv_of_nonneg (by omega)]; simp
  unfold binZ
  rw [if_neg (by omega), e, i64_nat _ (by omega)]
theorem bin_rem (n m : Nat) (hm : 0 < m) : binZ .rem .i64 (n : Int) (m : Int) = some ((n % m : Nat) : Int) := by
  have e : (n : Int).tmod (m : Int) = ((n % m : Nat) : Int) := by rw [Int.tmod_eq_emod_of_nonneg (by omega)]; simp
  show (if (m : Int) = 0 then none else some ((n : Int).tmod (m : Int))) = _
  rw [if_neg (by omega), e]
theorem bin_add (n m : Nat) (h : n + m ≤ 9223372036854775807) : binZ .add .i64 (n : Int) (m : Int) = some ((n + m : Nat) : Int) := by
  unfold binZ
  rw [show (n : Int) + (m : Int) = ((n + m : Nat) : Int) by omega, i64_nat _ h]
theorem bin_mul (n m : Nat) (h : n * m ≤ 9223372036854775807) : binZ .mul .i64 (n : Int) (m : Int) = some ((n * m : Nat) : Int) := by
  unfold binZ
  rw [show (n : Int) * (m : Int) = ((n * m : Nat) : Int) by simp, i64_nat _ h]
theorem bin_sub (n m : Nat) (hm : m ≤ n) (h : n ≤ 9223372036854775807) : binZ .sub .i64 (n : Int) (m : Int) = some ((n - m : Nat) : Int) := by
  unfold binZ
  rw [show (n : Int) - (m : Int) = ((n - m : Nat) : Int) by omega, i64_nat _ (by omega)]
theorem sh_r (k : IntKind) (n m : Nat) (hm : m ≤ k.bits) : shZ .shr k (n : Int) (m : Int) = some ((n / 2 ^ m : Nat) : Int) := by
  unfold shZ
  rw [if_neg (by omega)]
  simp only [Int.toNat_natCast, Nat.min_eq_left hm]
  rw [Int.fdiv_eq_ediv_of_nonneg _ (Int.le_of_lt (Int.pow_pos (by decide))), Int.natCast_ediv, Int.natCast_pow]
  rfl
theorem wrap_u8 (n : Nat) : IntKind.u8.wrap (n : Int) = ((UInt8.ofNat n).toNat : Int) := by
  simp [IntKind.wrap, IntKind.signed, IntKind.bits, UInt8.toNat_ofNat']
end Go.Sl

/-
  A row of one's own is written in place; laws.
-/
namespace Go.Sl
open Go.RowKit
theorem Has.row_open {s : World} {e : TypeId} {size : Nat} {g n cap : Nat} {xs : List Value} {r : HProp} {w : World} (h : Has s (sep (row e size (.slice (some ⟨g, 0, none⟩) n cap) n xs) r) w) :
    ∃ cur, n ≤ cap ∧ cap ≤ maxLen ∧ cur.size = cap * size ∧ cur.toList.take (n * size) = xs ∧ Has s (sep (Sl.blk g (.cells cur e (0, 0))) r) w := by
  have h2 : Has s (sep (ex fun cur : Array Value => sep (pure (n ≤ cap ∧ cap ≤ maxLen ∧ cur.size = cap * size ∧ cur.toList.take (n * size) = xs)) (Sl.blk g (.cells cur e (0, 0)))) r) w := h.monoL fun x hx => by
    obtain ⟨_, ⟨e1, _⟩ | ⟨g', cap', cur, e1, hx', h1, h2, h3, h4⟩⟩ := hx
    · cases e1
    · injection e1 with e1 e2 e3
      injection e1 with e1
      injection e1 with e1
      subst e1 e3
      exact ⟨cur, (sep_pure _ _ _).2 ⟨⟨h1, h2, h3, h4⟩, hx'⟩⟩
  obtain ⟨cur, h3⟩ := h2.exL
  obtain ⟨⟨a, b, c, d⟩, h4⟩ := h3.assoc.pureL
  exact ⟨cur, a, b, c, d, h4⟩
theorem Has.row_set {s : World} {e : TypeId} {g n cap : Nat} {xs : List Value} {r : HProp} {w : World} (h : Has s (sep (row e 1 (.slice (some ⟨g, 0, none⟩) n cap) n xs) r) w) (i : Nat) (v : Value) :
    Has s (sep (row e 1 (.slice (some ⟨g, 0, none⟩) n cap) n (xs.set i v)) r) (w.setCell ⟨g, i, none⟩ v) := by
  obtain ⟨cur, h1, h2, h3, h4, h5⟩ := h.row_open
  refine (h5.set i v).row_of_blk 1 n cap h1 h2 (by rw [Array.size_setIfInBounds]; exact h3) ?_
  rw [Array.toList_setIfInBounds, List.take_set, h4]
theorem Has.row_free {s : World} {e : TypeId} {g n cap : Nat} {xs : List Value} {r : HProp} {w : World} (h : Has s (sep (row e 1 (.slice (some ⟨g, 0, none⟩) n cap) n xs) r) w) (i : Nat) : w.frozen? ⟨g, i, none⟩ = false := by
  obtain ⟨cur, h1, h2, h3, h4, h5⟩ := h.row_open
  exact h5.free i
theorem Has.row_at {s : World} {e : TypeId} {A : Option Addr} {n cap : Nat} {xs : List Value} {r : HProp} {w : World} (h : Has s (sep (row e 1 (.slice A n cap) n xs) r) w) (hn : 0 < n) : ∃ g, A = some ⟨g, 0, none⟩ := by
  rcases h.ownsRow.2 with ⟨_, e⟩ | ⟨g, cap', cur, e, _⟩
  · omega
  · injection e with e1; exact ⟨g, e1⟩
end Go.Sl

/-
  A region that draws its order and ends in 'x = append(y, e)': loads and reckoning, a literal of one element, the append, the assignment.
-/
namespace Go.Sl
open Go Go.RowKit
set_option linter.unusedVariables false
set_option linter.unusedSimpArgs false
/-- the cells of a slice literal -/
def litCells (P : Program) (t : TypeId) (len : Nat) (vs : List (Nat × Value)) : Option (TypeId × Array Value) := match P.underlying t with
  | some (.slice e) => match P.info? e with
    | some ie => match ie.zero with
      | some z => if len * ie.size > 2 ^ 24 then none else if len * ie.size = 0 then none else
        (Instr.fill (fun i => some (i * ie.size, ie.size)) ((Array.range (len * ie.size)).map (z.cells[· % z.cells.size]!)) vs).map fun c => (e, c)
      | none => none
    | none => none
  | _ => none
section
variable {P : Program} {o : Oper} {a : Act} {w : World} {K : Act → World → Prop} {Q : Exit → Act → World → Prop} {st : World}
theorem opw_lit (t : TypeId) (len : Nat) (parts : List (Nat × Operand)) (vs : List (Nat × Value)) (E : TypeId) (cells : Array Value) (ho : o.op = .buildSlice t len parts.toArray) (hvs : parts.map (fun p => (p.1, a.eval p.2)) = vs) (hc : litCells P t len vs = some (E, cells))
    {R : HProp} (h : Has st R w) (hK : ∀ q w', Has st (sep (Sl.blk q (.cells cells E (0, 0))) R) w' → K (a.put o.dst (.slice (some ⟨q, 0, none⟩) len len)) w') : o.wp P a w K Q := by
  unfold litCells at hc
  split at hc
  · rename_i e hu
    split at hc
    · rename_i ie hie
      split at hc
      · rename_i z hz
        split at hc
        · cases hc
        · rename_i h1
          split at hc
          · cases hc
          · rename_i h2
            rw [Option.map_eq_some_iff] at hc
            obtain ⟨c, hf, he⟩ := hc
            injection he with he1 he2
            subst he1 he2
            refine wp_buildSlice t e len parts.toArray ho c ie z hu hie hz h1 h2 ?_ (hK _ _ (h.alloc _))
            have ev : ((parts.toArray.map fun (p : Nat × Operand) => (p.1, a.eval p.2)).toList) = vs := by rw [← hvs]; simp
            show Instr.fill _ _ (parts.toArray.map fun (p : Nat × Operand) => (p.1, a.eval p.2)).toList = _
            rw [ev]; exact hf
      · cases hc
    · cases hc
  · cases hc
/-- what is left of a slice of one element in a block of its own -/
theorem rd_lit1 {w : World} {R : HProp} {q : Nat} {v : Value} {E : TypeId} (h : Has st (sep (Sl.blk q (.cells #[v] E (0, 0))) R) w) : Rd 1 w (.slice (some ⟨q, 0, none⟩) 1 1) 1 [v] :=
  sees_lit1 st R q E (0, 0) v w h
theorem opw_indexSl (T e : TypeId) (x ix : Operand) (ho : o.op = .indexAddr T x ix) (hu : P.underlying T = some (.slice e)) (hsz : (P.info? e).map (·.size) = some 1) (g off n c j : Nat) (hx : a.eval x = .slice (some ⟨g, off, none⟩) n c)
    (k : IntKind) (hix : a.eval ix = .int k (j : Int)) (hj : j < n) (hK : K (a.put o.dst (.pointer (some ⟨g, off + j, none⟩))) w) : o.wp P a w K Q := by
  refine opw_run (.pointer (some ⟨g, off + j, none⟩)) ?_ hK
  obtain ⟨i, hi0, hi1⟩ : ∃ i, P.info? e = some i ∧ i.size = 1 := by
    cases hp : P.info? e with
    | none => rw [hp] at hsz; cases hsz
    | some i => rw [hp] at hsz; simp at hsz; exact ⟨i, rfl, hsz⟩
  have hj1 : (0 : Int) ≤ j := by omega
  have hj2 : (j : Int) < n := by omega
  unfold execOp
  simp only [ho, hx, hix, Instr.indexAt, Instr.sureAddr, asIntOf, Sem.run_bind, Sem.run_pure, Result.andThen_ok, run_underlying hu]
  simp [sizeOf, typeInfo, hi0, hi1, go_sem, hj, addr_add]
end

/-- operation j waits for operation k, be it through others -/
def needs (ops : List Oper) : Nat → Nat → Nat → Bool
  | 0, _, _ => false
  | f + 1, j, k => match ops[j]? with
    | some o => (o.after.toList.filter (Region.binds .any)).any fun e => e.on == k || needs ops f e.on k
    | none => false
theorem Down.nots {ops : List Oper} {L : Nat → Bool} (h : Down ops L) (f : Nat) : ∀ (j k : Nat), L k = false → needs ops f j k = true → L j = false := by
  induction f with
  | zero => intro j k _ hn; cases hn
  | succ f ih =>
    intro j k hk hn
    unfold needs at hn
    cases hL : L j with
    | false => rfl
    | true =>
      exfalso
      cases ho : ops[j]? with
      | none => rw [ho] at hn; cases hn
      | some o =>
        rw [ho] at hn
        simp only [List.any_eq_true, Bool.or_eq_true, beq_iff_eq] at hn
        obtain ⟨e, he, hj⟩ := hn
        have hLe := h j o ho hL e he
        rcases hj with hj | hj
        · rw [hj, hk] at hLe; cases hLe
        · rw [ih _ _ hk hj] at hLe; cases hLe
/-- before the literal; behind it; behind the append; behind the assignment -/
def TailI (st : World) (E : TypeId) (V : Value) (n : Nat) (xs : List Value) (val : Value) (RR : HProp) (b p g : Nat) (L : Nat → Bool) (u : Nat → Value) (w : World) : Prop :=
  if L g then ∃ A c, u g = .slice A (n + 1) c ∧ Has st (sep (row E 1 (.slice A (n + 1) c) (n + 1) (xs ++ [val])) RR) w
  else if L p then ∃ A c, u p = .slice A (n + 1) c ∧ Has st (sep (row E 1 (.slice A (n + 1) c) (n + 1) (xs ++ [val])) RR) w
  else if L b then ∃ q, u b = .slice (some ⟨q, 0, none⟩) 1 1 ∧ Has st (sep (Sl.blk q (.cells #[val] E (0, 0))) (sep (row E 1 V n xs) RR)) w
  else Has st (sep (row E 1 V n xs) RR) w
section
variable {P : Program} {o : Oper} {a : Act} {w : World} {Q : Exit → Act → World → Prop} {st : World} {E : TypeId} {V : Value} {n : Nat} {xs : List Value} {val : Value} {RR : HProp} {b p g : Nat} {L : Nat → Bool} {u : Nat → Value} {φ : Nat → Option Value}
theorem TailI.start (h : Has st (sep (row E 1 V n xs) RR) w) (u : Nat → Value) : TailI st E V n xs val RR b p g (fun _ => false) u w := h
theorem TailI.base (h : TailI st E V n xs val RR b p g L u w) (h1 : L b = false) (h2 : L p = false) (h3 : L g = false) : Has st (sep (row E 1 V n xs) RR) w := by
  unfold TailI at h
  simpa only [h1, h2, h3, Bool.false_eq_true, if_false] using h
theorem TailI.at (h : TailI st E V n xs val RR b p g L u w) {ops : List Oper} (hD : Down ops L) (f i : Nat) (hL : L i = false) (h1 : needs ops f b i = true) (h2 : needs ops 1 p b = true) (h3 : needs ops 1 g p = true) : Has st (sep (row E 1 V n xs) RR) w := by
  have e1 := hD.nots f b i hL h1
  have e2 := hD.nots 1 p b e1 h2
  exact h.base e1 e2 (hD.nots 1 g p e2 h3)
theorem TailI.pure (h : TailI st E V n xs val RR b p g L u w) (k : Nat) (v : Value) (hk : k ≠ b ∧ k ≠ p ∧ k ≠ g) : TailI st E V n xs val RR b p g (upd L k true) (upd u k v) w := by
  unfold TailI at h ⊢
  rw [upd_ne L true (Ne.symm hk.1), upd_ne L true (Ne.symm hk.2.1), upd_ne L true (Ne.symm hk.2.2), upd_ne u v (Ne.symm hk.1), upd_ne u v (Ne.symm hk.2.1), upd_ne u v (Ne.symm hk.2.2)]
  exact h
theorem TailI.lit (hI : TailI st E V n xs val RR b p g L u w) (hS : Slots φ L u) (hφ : φ b = none) (h1 : L b = false) (h2 : L p = false) (h3 : L g = false) (hne : p ≠ b ∧ g ≠ b) (t : TypeId) (x : Operand) (ho : o.op = .buildSlice t 1 #[(0, x)]) (hx : a.eval x = val)
    (hc : litCells P t 1 [(0, val)] = some (E, #[val])) : o.wp P a w (fun a' w' => ∃ v, a' = a.put o.dst v ∧ Slots φ (upd L b true) (upd u b v) ∧ TailI st E V n xs val RR b p g (upd L b true) (upd u b v) w') Q := by
  refine opw_lit t 1 [(0, x)] [(0, val)] E #[val] ho (by simp [hx]) hc (hI.base h1 h2 h3) ?_
  intro q w' h'
  refine ⟨_, rfl, hS.step b _ (.inl hφ), ?_⟩
  unfold TailI
  rw [upd_ne L true hne.1, upd_ne L true hne.2, upd_same, h2, h3]
  exact ⟨q, upd_same _ _ _, h'⟩
theorem TailI.app (hI : TailI st E V n xs val RR b p g L u w) (hS : Slots φ L u) (hφ : φ p = none) (h1 : L b = true) (h2 : L p = false) (h3 : L g = false) (hne : g ≠ p) (s x : Operand) (t : TypeId) (bytes : Nat) (z : Value)
    (ho : o.op = .call { callee := .builtin .append, args := #[s, x], argTypes := #[t, t] }) (ht : P.underlying t = some (.slice E)) (hi : (P.info? E).map (fun i => (i.zero, i.size, i.bytes)) = some (some z, 1, bytes)) (hzs : z.cells.size = 1)
    (hs : a.eval s = V) (hx : a.eval x = u b) (hv : val.oneCell' = true) (hb1 : n + 1 ≤ maxLen) (hb2 : (n + 1) * bytes ≤ 140737488355328) :
    o.wp P a w (fun a' w' => ∃ v, a' = a.put o.dst v ∧ Slots φ (upd L p true) (upd u p v) ∧ TailI st E V n xs val RR b p g (upd L p true) (upd u p v) w') Q := by
  have h := hI
  unfold TailI at h
  simp only [h1, h2, h3, Bool.false_eq_true, if_false, if_true] at h
  obtain ⟨q, hq, h⟩ := h
  rw [hq] at hx
  refine op_append s x t E 1 bytes z ho ht hi hzs (by decide) hs hx h.second (rd_lit1 h) (by intro y hy; simp at hy; subst hy; exact hv) hb1 hb2 ?_
  intro A c w' h'
  refine ⟨_, rfl, hS.step p _ (.inl hφ), ?_⟩
  unfold TailI
  rw [upd_ne L true hne, upd_same, h3]
  exact ⟨A, c, upd_same _ _ _, h'.drop2⟩
theorem TailI.asg (hI : TailI st E V n xs val RR b p g L u w) (hS : Slots φ L u) (hφ : φ g = none) (h2 : L p = true) (h3 : L g = false) (x : Operand) (ho : o.op = .assign x) (hx : a.eval x = u p) :
    o.wp P a w (fun a' w' => ∃ v, a' = a.put o.dst v ∧ Slots φ (upd L g true) (upd u g v) ∧ TailI st E V n xs val RR b p g (upd L g true) (upd u g v) w') Q := by
  have h := hI
  unfold TailI at h
  simp only [h2, h3, Bool.false_eq_true, if_false, if_true] at h
  obtain ⟨A, c, hq, h⟩ := h
  refine opw_move x _ (.inr ho) hx ⟨_, rfl, hS.step g _ (.inl hφ), ?_⟩
  unfold TailI
  rw [upd_same]
  exact ⟨A, c, (upd_same _ _ _).trans hq, h⟩
theorem TailI.done (h : TailI st E V n xs val RR b p g L u w) (h3 : L g = true) : ∃ A c, u g = .slice A (n + 1) c ∧ Has st (sep (row E 1 (.slice A (n + 1) c) (n + 1) (xs ++ [val])) RR) w := by
  unfold TailI at h
  rwa [h3] at h
end
/-- a literal, then its assignment -/
def LitI (st : World) (E : TypeId) (len : Nat) (cells : Array Value) (BB : HProp) (b g : Nat) (L : Nat → Bool) (u : Nat → Value) (w : World) : Prop :=
  if L g then ∃ q, u g = .slice (some ⟨q, 0, none⟩) len len ∧ Has st (sep (Sl.blk q (.cells cells E (0, 0))) BB) w
  else if L b then ∃ q, u b = .slice (some ⟨q, 0, none⟩) len len ∧ Has st (sep (Sl.blk q (.cells cells E (0, 0))) BB) w
  else Has st BB w
section
variable {P : Program} {o : Oper} {a : Act} {w : World} {Q : Exit → Act → World → Prop} {st : World} {E : TypeId} {len : Nat} {cells : Array Value} {BB : HProp} {b g : Nat} {L : Nat → Bool} {u : Nat → Value} {φ : Nat → Option Value}
theorem LitI.start (h : Has st BB w) (u : Nat → Value) : LitI st E len cells BB b g (fun _ => false) u w := h
theorem LitI.at (h : LitI st E len cells BB b g L u w) {ops : List Oper} (hD : Down ops L) (f i : Nat) (hL : L i = false) (h1 : needs ops f b i = true) (h3 : needs ops 1 g b = true) : Has st BB w := by
  have e1 := hD.nots f b i hL h1
  have e2 := hD.nots 1 g b e1 h3
  unfold LitI at h
  simpa only [e1, e2, Bool.false_eq_true, if_false] using h
theorem LitI.pure (h : LitI st E len cells BB b g L u w) (k : Nat) (v : Value) (hk : k ≠ b ∧ k ≠ g) : LitI st E len cells BB b g (upd L k true) (upd u k v) w := by
  unfold LitI at h ⊢
  rw [upd_ne L true (Ne.symm hk.1), upd_ne L true (Ne.symm hk.2), upd_ne u v (Ne.symm hk.1), upd_ne u v (Ne.symm hk.2)]
  exact h
theorem LitI.lit (hI : LitI st E len cells BB b g L u w) (hS : Slots φ L u) (hφ : φ b = none) (h1 : L b = false) (h3 : L g = false) (hne : g ≠ b) (t : TypeId) (parts : List (Nat × Operand)) (vs : List (Nat × Value)) (ho : o.op = .buildSlice t len parts.toArray)
    (hvs : parts.map (fun p => (p.1, a.eval p.2)) = vs) (hc : litCells P t len vs = some (E, cells)) : o.wp P a w (fun a' w' => ∃ v, a' = a.put o.dst v ∧ Slots φ (upd L b true) (upd u b v) ∧ LitI st E len cells BB b g (upd L b true) (upd u b v) w') Q := by
  have h0 : Has st BB w := by
    unfold LitI at hI
    simpa only [h1, h3, Bool.false_eq_true, if_false] using hI
  refine opw_lit t len parts vs E cells ho hvs hc h0 ?_
  intro q w' h'
  refine ⟨_, rfl, hS.step b _ (.inl hφ), ?_⟩
  unfold LitI
  rw [upd_ne L true hne, upd_same, h3]
  exact ⟨q, upd_same _ _ _, h'⟩
theorem LitI.asg (hI : LitI st E len cells BB b g L u w) (hS : Slots φ L u) (hφ : φ g = none) (h2 : L b = true) (h3 : L g = false) (x : Operand) (ho : o.op = .assign x) (hx : a.eval x = u b) :
    o.wp P a w (fun a' w' => ∃ v, a' = a.put o.dst v ∧ Slots φ (upd L g true) (upd u g v) ∧ LitI st E len cells BB b g (upd L g true) (upd u g v) w') Q := by
  have h := hI
  unfold LitI at h
  simp only [h2, h3, Bool.false_eq_true, if_false, if_true] at h
  obtain ⟨q, hq, h⟩ := h
  refine opw_move x _ (.inr ho) hx ⟨_, rfl, hS.step g _ (.inl hφ), ?_⟩
  unfold LitI
  rw [upd_same]
  exact ⟨q, (upd_same _ _ _).trans hq, h⟩
theorem LitI.done (h : LitI st E len cells BB b g L u w) (h3 : L g = true) : ∃ q, u g = .slice (some ⟨q, 0, none⟩) len len ∧ Has st (sep (Sl.blk q (.cells cells E (0, 0))) BB) w := by
  unfold LitI at h
  rwa [h3] at h
end
theorem pair2 {α : Type} {i : Nat} {x y : α} {l m : List (Nat × α)} (h : x = y) (h2 : l = m) : (i, x) :: l = (i, y) :: m := by rw [h, h2]
theorem w32_mul (x y : UInt32) : IntKind.u32.wrap ((x.toNat : Int) * (y.toNat : Int)) = ((x * y).toNat : Int) := by
  rw [w32_wrap, UInt32.toNat_mul, Int.natCast_emod, Int.natCast_mul]; rfl
theorem bin32_mul (x y : UInt32) : binZ .mul .u32 (x.toNat : Int) (y.toNat : Int) = some ((x * y).toNat : Int) := by
  show some (IntKind.u32.wrap ((x.toNat : Int) * (y.toNat : Int))) = _
  rw [w32_mul]
end Go.Sl

/-
  The rule of XReg, its slots by name: no frame is reckoned at an operation.
-/
namespace Go.Sl
open Go Go.RowKit
set_option linter.unusedVariables false
set_option linter.unusedSimpArgs false
def dstAt (ops : List Oper) (j : Nat) : Option Tmp := (ops[j]?).bind (·.dst)
theorem put_eval_ne (a : Act) (d : Option Tmp) (v : Value) (t : Tmp) (h : d ≠ some t) : (a.put d v).eval (.tmp t) = a.eval (.tmp t) := by
  cases d with
  | none => rfl
  | some d =>
    have hne : d ≠ t := fun e => h (by rw [e])
    show (a.tmps.setIfInBounds d v).getD t undef = a.tmps.getD t undef
    rw [Array.getD_eq_getD_getElem?, Array.getD_eq_getD_getElem?, Array.getElem?_setIfInBounds_ne hne]
theorem put_eval_same (a : Act) (t : Tmp) (v : Value) (h : t < a.tmps.size) : (a.put (some t) v).eval (.tmp t) = v := by
  show (a.tmps.setIfInBounds t v).getD t undef = v
  rw [Array.getD_eq_getD_getElem?, Array.getElem?_setIfInBounds_self_of_lt h]; rfl
theorem put_size (a : Act) (d : Option Tmp) (v : Value) : (a.put d v).tmps.size = a.tmps.size := by
  cases d <;> simp [Act.put]
theorem frame_out {ops : List Oper} : ∀ (a : Act) (k : Nat) (u : Nat → Value) (t : Tmp), t ∉ dsts ops → (frame a ops k u).eval (.tmp t) = a.eval (.tmp t) := by
  induction ops with
  | nil => intro a k u t _; rfl
  | cons o os ih =>
    intro a k u t h
    have h1 : o.dst ≠ some t := fun e => h (by simp [dsts, e])
    have h2 : t ∉ dsts os := fun hm => h (by simp only [dsts, List.filterMap_cons] at hm ⊢; split <;> simp_all)
    rw [frame_cons, ih _ _ _ _ h2, put_eval_ne _ _ _ _ h1]
theorem frame_in {ops : List Oper} : ∀ (a : Act) (k : Nat) (u : Nat → Value) (j : Nat) (t : Tmp), (dsts ops).Nodup → dstAt ops j = some t → t < a.tmps.size → (frame a ops k u).eval (.tmp t) = u (k + j) := by
  induction ops with
  | nil => intro a k u j t _ h; simp [dstAt] at h
  | cons o os ih =>
    intro a k u j t hn h hlt
    have hn2 : (dsts os).Nodup := by
      simp only [dsts, List.filterMap_cons] at hn ⊢
      split at hn
      · exact hn
      · exact (List.nodup_cons.1 hn).2
    cases j with
    | zero =>
      have hd : o.dst = some t := by simpa [dstAt] using h
      have hnot : t ∉ dsts os := by
        simp only [dsts, List.filterMap_cons, hd] at hn
        exact (List.nodup_cons.1 hn).1
      rw [frame_cons, frame_out _ _ _ _ hnot, hd, put_eval_same _ _ _ hlt, Nat.add_zero]
    | succ j =>
      have h' : dstAt os j = some t := by simpa [dstAt] using h
      rw [frame_cons, ih _ _ _ _ _ hn2 h' (by rw [put_size]; exact hlt), show k + 1 + j = k + (j + 1) by omega]
section
variable {P : Program} {Q : Exit → Act → World → Prop}
structure RegStep2 (P : Program) (Q : Exit → Act → World → Prop) (a : Act) (ops : List Oper) (I : (Nat → Bool) → (Nat → Value) → World → Prop) (i : Nat) (o : Oper) : Prop where
  out : o.guard = none ∧ ∀ (L : Nat → Bool) (u : Nat → Value) (w : World) (b : Act), L i = false → waits o L → Down ops L → Kept a ops L u → I L u w → (∀ j t, dstAt ops j = some t → b.eval (.tmp t) = u j) → (∀ t, (dsts ops).contains t = false → b.eval (.tmp t) = a.eval (.tmp t)) →
    o.wp P b w (fun a' w' => ∃ v, a' = b.put o.dst v ∧ I (upd L i true) (upd u i v) w') Q
def RegSteps2 (P : Program) (Q : Exit → Act → World → Prop) (a : Act) (ops : List Oper) (I : (Nat → Bool) → (Nat → Value) → World → Prop) : Nat → List Oper → Prop
  | _, [] => True
  | i, o :: os => RegStep2 P Q a ops I i o ∧ RegSteps2 P Q a ops I (i + 1) os
theorem RegSteps2.steps {a : Act} {ops : List Oper} {I : (Nat → Bool) → (Nat → Value) → World → Prop} (hn : (dsts ops).Nodup) (hsz : (dsts ops).all (fun d => decide (d < a.tmps.size)) = true) : ∀ {os : List Oper} {k : Nat}, RegSteps2 P Q a ops I k os → RegSteps P Q a ops I k os := by
  intro os
  induction os with
  | nil => intro k _; trivial
  | cons o os ih =>
    intro k h
    refine ⟨RegStep.plainU h.1.out.1 fun L u w hL hw hD hU hI b hb => ?_, ih h.2⟩
    refine h.1.out.2 L u w b hL hw hD hU hI (fun j t hj => ?_) (fun t ht => ?_)
    · have hm : t ∈ dsts ops := by
        unfold dstAt at hj
        cases ho : ops[j]? with
        | none => rw [ho] at hj; cases hj
        | some p =>
          rw [ho] at hj
          exact List.mem_filterMap.2 ⟨p, List.mem_of_getElem? ho, hj⟩
      have hlt : t < a.tmps.size := by
        rw [List.all_eq_true] at hsz
        simpa using hsz t hm
      rw [hb, frame_in a 0 u j t hn hj hlt, Nat.zero_add]
    · rw [hb, frame_out a 0 u t (by simpa using ht)]
theorem wp_region_inv2 {id : Nat} {ops : List Oper} {a : Act} {w : World} (I : (Nat → Bool) → (Nat → Value) → World → Prop) (hm : P.follows .mixedOrders = true) (hn : (dsts ops).Nodup) (hb : backB ops = true) (hsz : (dsts ops).all (fun d => decide (d < a.tmps.size)) = true)
    (h0 : ∀ u, I (fun _ => false) u w.drew) (hs : RegSteps2 P Q a ops I 0 ops)
    (hend : ∀ L u w, (∀ i, i < ops.length → L i = true) → I L u w → Q .normal (frame a ops 0 u) w) : (Code.region id ops.toArray true).wp P Q a w :=
  wp_region_inv I hm hn hb h0 (hs.steps hn hsz) hend
theorem RegStep2.plain {a : Act} {ops : List Oper} {I : (Nat → Bool) → (Nat → Value) → World → Prop} {i : Nat} {o : Oper} (hg : o.guard = none)
    (h : ∀ (L : Nat → Bool) (u : Nat → Value) (w : World) (b : Act), L i = false → waits o L → Down ops L → Kept a ops L u → I L u w → (∀ j t, dstAt ops j = some t → b.eval (.tmp t) = u j) → (∀ t, (dsts ops).contains t = false → b.eval (.tmp t) = a.eval (.tmp t)) →
    o.wp P b w (fun a' w' => ∃ v, a' = b.put o.dst v ∧ I (upd L i true) (upd u i v) w') Q) : RegStep2 P Q a ops I i o := ⟨hg, h⟩
end
end Go.Sl

/-
  As XTail, with a literal of several elements. Indexing a text.
-/
namespace Go.Sl
open Go Go.RowKit
set_option linter.unusedVariables false
set_option linter.unusedSimpArgs false
/-- before the literal; behind it; behind the append; behind the assignment -/
def TailN (st : World) (E : TypeId) (V : Value) (n : Nat) (xs : List Value) (vals : List Value) (RR : HProp) (b p g : Nat) (L : Nat → Bool) (u : Nat → Value) (w : World) : Prop :=
  if L g then ∃ A c, u g = .slice A (n + vals.length) c ∧ Has st (sep (row E 1 (.slice A (n + vals.length) c) (n + vals.length) (xs ++ vals)) RR) w
  else if L p then ∃ A c, u p = .slice A (n + vals.length) c ∧ Has st (sep (row E 1 (.slice A (n + vals.length) c) (n + vals.length) (xs ++ vals)) RR) w
  else if L b then ∃ q, u b = .slice (some ⟨q, 0, none⟩) vals.length vals.length ∧ Has st (sep (Sl.blk q (.cells vals.toArray E (0, 0))) (sep (row E 1 V n xs) RR)) w
  else Has st (sep (row E 1 V n xs) RR) w
section
variable {P : Program} {o : Oper} {a : Act} {w : World} {Q : Exit → Act → World → Prop} {st : World} {E : TypeId} {V : Value} {n : Nat} {xs : List Value} {vals : List Value} {RR : HProp} {b p g : Nat} {L : Nat → Bool} {u : Nat → Value} {φ : Nat → Option Value}
theorem TailN.start (h : Has st (sep (row E 1 V n xs) RR) w) (u : Nat → Value) : TailN st E V n xs vals RR b p g (fun _ => false) u w := h
theorem TailN.base (h : TailN st E V n xs vals RR b p g L u w) (h1 : L b = false) (h2 : L p = false) (h3 : L g = false) : Has st (sep (row E 1 V n xs) RR) w := by
  unfold TailN at h
  simpa only [h1, h2, h3, Bool.false_eq_true, if_false] using h
theorem TailN.at (h : TailN st E V n xs vals RR b p g L u w) {ops : List Oper} (hD : Down ops L) (f i : Nat) (hL : L i = false) (h1 : needs ops f b i = true) (h2 : needs ops 1 p b = true) (h3 : needs ops 1 g p = true) : Has st (sep (row E 1 V n xs) RR) w := by
  have e1 := hD.nots f b i hL h1
  have e2 := hD.nots 1 p b e1 h2
  exact h.base e1 e2 (hD.nots 1 g p e2 h3)
theorem TailN.pure (h : TailN st E V n xs vals RR b p g L u w) (k : Nat) (v : Value) (hk : k ≠ b ∧ k ≠ p ∧ k ≠ g) : TailN st E V n xs vals RR b p g (upd L k true) (upd u k v) w := by
  unfold TailN at h ⊢
  rw [upd_ne L true (Ne.symm hk.1), upd_ne L true (Ne.symm hk.2.1), upd_ne L true (Ne.symm hk.2.2), upd_ne u v (Ne.symm hk.1), upd_ne u v (Ne.symm hk.2.1), upd_ne u v (Ne.symm hk.2.2)]
  exact h
theorem TailN.lit (hI : TailN st E V n xs vals RR b p g L u w) (hS : Slots φ L u) (hφ : φ b = none) (h1 : L b = false) (h2 : L p = false) (h3 : L g = false) (hne : p ≠ b ∧ g ≠ b) (t : TypeId) (len : Nat) (parts : List (Nat × Operand)) (vs : List (Nat × Value)) (ho : o.op = .buildSlice t len parts.toArray) (hvs : parts.map (fun p => (p.1, a.eval p.2)) = vs)
    (hlen : vals.length = len) (hc : litCells P t len vs = some (E, vals.toArray)) : o.wp P a w (fun a' w' => ∃ v, a' = a.put o.dst v ∧ Slots φ (upd L b true) (upd u b v) ∧ TailN st E V n xs vals RR b p g (upd L b true) (upd u b v) w') Q := by
  refine opw_lit t len parts vs E vals.toArray ho hvs hc (hI.base h1 h2 h3) ?_
  intro q w' h'
  refine ⟨_, rfl, hS.step b _ (.inl hφ), ?_⟩
  unfold TailN
  rw [upd_ne L true hne.1, upd_ne L true hne.2, upd_same, h2, h3]
  exact ⟨q, (upd_same _ _ _).trans (by rw [hlen]), h'⟩
theorem rd_lits {st : World} {w : World} {R : HProp} {q : Nat} {vals : List Value} {E : TypeId} (h : Has st (sep (Sl.blk q (.cells vals.toArray E (0, 0))) R) w) (hm : vals.length ≤ maxLen) : Rd 1 w (.slice (some ⟨q, 0, none⟩) vals.length vals.length) vals.length vals :=
  ⟨by simp, _, vals.length, rfl, Nat.le_refl _, hm, .inr ⟨_, rfl, fun j u hu => ⟨rfl, by rw [Nat.zero_add, h.cell, List.getElem?_toArray]; exact hu⟩⟩⟩
theorem TailN.app (hI : TailN st E V n xs vals RR b p g L u w) (hS : Slots φ L u) (hφ : φ p = none) (h1 : L b = true) (h2 : L p = false) (h3 : L g = false) (hne : g ≠ p) (s x : Operand) (t : TypeId) (bytes : Nat) (z : Value)
    (ho : o.op = .call { callee := .builtin .append, args := #[s, x], argTypes := #[t, t] }) (ht : P.underlying t = some (.slice E)) (hi : (P.info? E).map (fun i => (i.zero, i.size, i.bytes)) = some (some z, 1, bytes)) (hzs : z.cells.size = 1)
    (hs : a.eval s = V) (hx : a.eval x = u b) (hv : ∀ y ∈ vals, y.oneCell' = true) (hb1 : n + vals.length ≤ maxLen) (hb2 : (n + vals.length) * bytes ≤ 140737488355328) :
    o.wp P a w (fun a' w' => ∃ v, a' = a.put o.dst v ∧ Slots φ (upd L p true) (upd u p v) ∧ TailN st E V n xs vals RR b p g (upd L p true) (upd u p v) w') Q := by
  have h := hI
  unfold TailN at h
  simp only [h1, h2, h3, Bool.false_eq_true, if_false, if_true] at h
  obtain ⟨q, hq, h⟩ := h
  rw [hq] at hx
  refine op_append s x t E 1 bytes z ho ht hi hzs (by decide) hs hx h.second (rd_lits h (by omega)) hv hb1 hb2 ?_
  intro A c w' h'
  refine ⟨_, rfl, hS.step p _ (.inl hφ), ?_⟩
  unfold TailN
  rw [upd_ne L true hne, upd_same, h3]
  exact ⟨A, c, upd_same _ _ _, h'.drop2⟩
theorem TailN.asg (hI : TailN st E V n xs vals RR b p g L u w) (hS : Slots φ L u) (hφ : φ g = none) (h2 : L p = true) (h3 : L g = false) (x : Operand) (ho : o.op = .assign x) (hx : a.eval x = u p) :
    o.wp P a w (fun a' w' => ∃ v, a' = a.put o.dst v ∧ Slots φ (upd L g true) (upd u g v) ∧ TailN st E V n xs vals RR b p g (upd L g true) (upd u g v) w') Q := by
  have h := hI
  unfold TailN at h
  simp only [h2, h3, Bool.false_eq_true, if_false, if_true] at h
  obtain ⟨A, c, hq, h⟩ := h
  refine opw_move x _ (.inr ho) hx ⟨_, rfl, hS.step g _ (.inl hφ), ?_⟩
  unfold TailN
  rw [upd_same]
  exact ⟨A, c, (upd_same _ _ _).trans hq, h⟩
theorem TailN.done (h : TailN st E V n xs vals RR b p g L u w) (h3 : L g = true) : ∃ A c, u g = .slice A (n + vals.length) c ∧ Has st (sep (row E 1 (.slice A (n + vals.length) c) (n + vals.length) (xs ++ vals)) RR) w := by
  unfold TailN at h
  rwa [h3] at h
end

section
variable {P : Program} {o : Oper} {a : Act} {w : World} {K : Act → World → Prop} {Q : Exit → Act → World → Prop} {st : World}
theorem opw_indexStr (T : TypeId) (x ix : Operand) (ho : o.op = .index T x ix) (hu : P.underlying T = some .string) (s : ByteArray) (hx : a.eval x = .string s) (k : IntKind) (j : Nat) (hix : a.eval ix = .int k (j : Int)) (c : UInt8) (hj : s.data.toList[j]? = some c)
    (hK : K (a.put o.dst (.int .u8 (c.toNat : Int))) w) : o.wp P a w K Q := by
  refine opw_run (.int .u8 (c.toNat : Int)) ?_ hK
  have hlt : j < s.size := by have := (List.getElem?_eq_some_iff.1 hj).1; simpa using this
  have hg : s[j]? = some c := by
    rw [getElem?_pos s j hlt]
    have := (List.getElem?_eq_some_iff.1 hj).2
    rw [← this]; rfl
  unfold execOp
  simp only [ho, hx, hix, Instr.index, asIntOf, Sem.run_bind, Sem.run_pure, Result.andThen_ok, run_underlying hu]
  simp [hg, go_sem]
theorem opw_indexAgg (T e : TypeId) (n : Nat) (x ix : Operand) (ho : o.op = .index T x ix) (hu : P.underlying T = some (.array n e)) {d : TypeDesc} (hue : P.underlying e = some d) (hd : d.isRow = false) (hsz : (P.info? e).map (·.size) = some 1) (cs : Array Value) (hx : a.eval x = .agg cs) (k : IntKind) (j : Nat) (hix : a.eval ix = .int k (j : Int)) (hj : j < n) (v : Value) (hv : cs[j]? = some v)
    (hK : K (a.put o.dst v) w) : o.wp P a w K Q := by
  refine opw_run v ?_ hK
  obtain ⟨i, hi0, hi1⟩ : ∃ i, P.info? e = some i ∧ i.size = 1 := by
    cases hp : P.info? e with
    | none => rw [hp] at hsz; cases hsz
    | some i => rw [hp] at hsz; simp at hsz; exact ⟨i, rfl, hsz⟩
  have hagg : (isAgg e).run P w = .ok false w := by
    unfold isAgg
    rw [Sem.run_bind, run_underlying hue w]
    cases d <;> simp_all [TypeDesc.isRow]
  unfold execOp
  simp only [ho, hx, hix, Instr.index, asIntOf, Sem.run_bind, Sem.run_pure, Result.andThen_ok, run_underlying hu]
  simp [sizeOf, typeInfo, hi0, hi1, go_sem, hj, part, hagg, hv]
theorem opw_and8 (t t' : TypeId) (x y : Operand) (X Y Z : Int) (ho : o.op = .binOp .and t x y t') (hx : a.eval x = .int .u8 X) (hy : a.eval y = .int .u8 Y) (hz : bits .and .u8 X Y = Z) (hK : K (a.put o.dst (.int .u8 Z)) w) : o.wp P a w K Q := by
  refine opw_run (.int .u8 Z) ?_ hK
  unfold execOp
  unfold bits at hz
  simp only at hz
  simp only [ho, hx, hy, eqGuard, binOp, Op.intBits, Sem.run_bind, Sem.run_pure, Result.andThen_ok, Bool.not_false, if_true, ne_eq, not_true_eq_false, if_false, hz]
end
end Go.Sl

/-
  A row gets the run-time's mark ([]byte of a constant).
-/
namespace Go.Sl
open Go Go.RowKit
set_option linter.unusedVariables false
set_option linter.unusedSimpArgs false
theorem Has.freeze {s : World} {b : Nat} {c : Array Value} {t : TypeId} {r : HProp} {w : World} (h : Has s (sep (Sl.blk b (.cells c t (0, 0))) r) w) (k : Nat) :
    Has s (sep (Sl.blk b (.cells c t (k, k + 1))) r) (w.freeze ⟨b, k, none⟩ 1) :=
  h.step fun x hx hk => by
    have hx' : x = _ := hx
    subst hx'
    have hb : w.heap[b]? = some (.cells c t (0, 0)) := hk _ _ (by simp)
    refine ⟨fun k => k = b, _, ⟨rfl, rfl, rfl, by simp [World.freeze], fun j _ hn => ?_⟩, rfl, ?_, ?_, ?_⟩
    · simp only [World.freeze, Nat.one_ne_zero, if_false, Array.getElem?_modify]
      rw [if_neg (fun e => hn e.symm)]
    · intro j o ho
      split at ho
      · next e =>
        subst e
        injection ho with ho
        subst ho
        simp [World.freeze, Array.getElem?_modify, hb]
      · cases ho
    · rintro j rfl _; simp
    · intro j hj
      left
      split at hj
      · next e => subst e; simp
      · exact absurd rfl hj
theorem opw_mark {P : Program} {o : Oper} {a : Act} {w : World} {K : Act → World → Prop} {Q : Exit → Act → World → Prop} {st : World} (t e : TypeId) (x : Operand) (ho : o.op = .convert t t x) (q n c : Nat) (hx : a.eval x = .slice (some ⟨q, 0, none⟩) n c)
    (ht : P.underlying t = some (.slice e)) (he : P.underlying e = some (.int .u8)) {R : HProp} {C : Array Value} {T : TypeId} (h : Has st (sep (blk q (.cells C T (0, 0))) R) w)
    (hK : ∀ w', Has st (sep (blk q (.cells C T (C.size, C.size + 1))) R) w' → K (a.put o.dst (.slice (some ⟨q, 0, none⟩) n c)) w') : o.wp P a w K Q := by
  have hsh : w.shape? q = some (T, C.size) := by unfold World.shape?; rw [h.blk]
  have hr : (execOp a.eval o).run P w = .ok (.value (.slice (some ⟨q, 0, none⟩) n c)) (w.freeze ⟨q, C.size, none⟩ 1) := by
    unfold execOp
    simp [ho, hx, convert, run_underlying ht, run_underlying he, markStringish, hsh]
  unfold Oper.wp
  rw [hr]
  exact hK _ (h.freeze C.size)
end Go.Sl

/-
  The rule of XReg2 with guarded operations; laws for single operations on strings, truth values, rows of bytes.
-/
namespace Go.Sl
open Go Go.RowKit
set_option linter.unusedVariables false
set_option linter.unusedSimpArgs false
/-- is the operation wanted, as its guard's slot tells? -/
def gd (o : Oper) (u : Nat → Value) : Bool := match o.guard with
  | none => true
  | some (j, c) => match u j with
    | .bool x => x == c
    | _ => false
/-- each guard is told by an operation with a slot -/
def guardsB (ops : List Oper) : Bool := ops.all fun o => match o.guard with
  | none => true
  | some (j, _) => (dstAt ops j).isSome
section
variable {P : Program} {Q : Exit → Act → World → Prop}
structure RegStep3 (P : Program) (Q : Exit → Act → World → Prop) (a : Act) (ops : List Oper) (I : (Nat → Bool) → (Nat → Value) → World → Prop) (i : Nat) (o : Oper) : Prop where
  out : ∀ (L : Nat → Bool) (u : Nat → Value) (w : World) (b : Act), L i = false → waits o L → Down ops L → Kept a ops L u → I L u w → (∀ j t, dstAt ops j = some t → b.eval (.tmp t) = u j) → (∀ t, (dsts ops).contains t = false → b.eval (.tmp t) = a.eval (.tmp t)) →
    if gd o u = true then o.wp P b w (fun a' w' => ∃ v, a' = b.put o.dst v ∧ I (upd L i true) (upd u i v) w') Q else I (upd L i true) (upd u i undef) w
def RegSteps3 (P : Program) (Q : Exit → Act → World → Prop) (a : Act) (ops : List Oper) (I : (Nat → Bool) → (Nat → Value) → World → Prop) : Nat → List Oper → Prop
  | _, [] => True
  | i, o :: os => RegStep3 P Q a ops I i o ∧ RegSteps3 P Q a ops I (i + 1) os
theorem RegSteps3.steps {a : Act} {ops : List Oper} {I : (Nat → Bool) → (Nat → Value) → World → Prop} (hn : (dsts ops).Nodup) (hsz : (dsts ops).all (fun d => decide (d < a.tmps.size)) = true) (hg : guardsB ops = true) : ∀ {os : List Oper} {k : Nat}, (∀ o ∈ os, o ∈ ops) → RegSteps3 P Q a ops I k os → RegSteps P Q a ops I k os := by
  intro os
  induction os with
  | nil => intro k _ _; trivial
  | cons o os ih =>
    intro k hm h
    refine ⟨⟨fun L u w hL hw hD hU hI => ?_⟩, ih (fun o ho => hm o (by simp [ho])) h.2⟩
    have hin : ∀ j t, dstAt ops j = some t → (frame a ops 0 u).eval (.tmp t) = u j := by
      intro j t hj
      have hm : t ∈ dsts ops := by
        unfold dstAt at hj
        cases ho : ops[j]? with
        | none => rw [ho] at hj; cases hj
        | some p =>
          rw [ho] at hj
          exact List.mem_filterMap.2 ⟨p, List.mem_of_getElem? ho, hj⟩
      have hlt : t < a.tmps.size := by
        rw [List.all_eq_true] at hsz
        simpa using hsz t hm
      rw [frame_in a 0 u j t hn hj hlt, Nat.zero_add]
    have hlen : ∀ (os : List Oper) (a : Act) (k : Nat), (frame a os k u).tmps.size = a.tmps.size := by
      intro os
      induction os with
      | nil => intro a k; rfl
      | cons o os ih => intro a k; rw [frame_cons, ih, put_size]
    have hst := h.1.out L u w (frame a ops 0 u) hL hw hD hU hI hin (fun t ht => frame_out a 0 u t (by simpa using ht))
    have e : Region.wanted o (yielded ops.toArray (frame a ops 0 u).tmps) = gd o u := by
      unfold Region.wanted gd
      cases hgo : o.guard with
      | none => rfl
      | some jc =>
        obtain ⟨j, c⟩ := jc
        unfold guardsB at hg
        rw [List.all_eq_true] at hg
        have h1 := hg o (hm o (by simp))
        rw [hgo] at h1
        obtain ⟨t, ht⟩ := Option.isSome_iff_exists.1 h1
        have h2 := hin j t ht
        have hmt : t ∈ dsts ops := by
          have ht' := ht
          unfold dstAt at ht'
          cases ho : ops[j]? with
          | none => rw [ho] at ht'; cases ht'
          | some p =>
            rw [ho] at ht'
            exact List.mem_filterMap.2 ⟨p, List.mem_of_getElem? ho, ht'⟩
        have hlt : t < (frame a ops 0 u).tmps.size := by
          rw [hlen]
          rw [List.all_eq_true] at hsz
          simpa using hsz t hmt
        have h3 : (frame a ops 0 u).tmps[t]? = some (u j) := by
          rw [← h2]
          show _ = some ((frame a ops 0 u).tmps.getD t undef)
          rw [Array.getD_eq_getD_getElem?, Array.getElem?_eq_getElem hlt]; rfl
        have h4 : (ops.toArray[j]?.bind (·.dst)) = some t := by
          rw [List.getElem?_toArray]; exact ht
        simp only [yielded, h4, Option.bind_some, h3]
        cases u j <;> simp
    rw [e]
    exact hst
theorem wp_region_inv3 {id : Nat} {ops : List Oper} {a : Act} {w : World} (I : (Nat → Bool) → (Nat → Value) → World → Prop) (hm : P.follows .mixedOrders = true) (hn : (dsts ops).Nodup) (hb : backB ops = true) (hsz : (dsts ops).all (fun d => decide (d < a.tmps.size)) = true) (hg : guardsB ops = true)
    (h0 : ∀ u, I (fun _ => false) u w.drew) (hs : RegSteps3 P Q a ops I 0 ops)
    (hend : ∀ L u w, (∀ i, i < ops.length → L i = true) → I L u w → Q .normal (frame a ops 0 u) w) : (Code.region id ops.toArray true).wp P Q a w :=
  wp_region_inv I hm hn hb h0 (hs.steps hn hsz hg (fun _ h => h)) hend
theorem RegStep3.plain {a : Act} {ops : List Oper} {I : (Nat → Bool) → (Nat → Value) → World → Prop} {i : Nat} {o : Oper} (hg : o.guard = none)
    (h : ∀ (L : Nat → Bool) (u : Nat → Value) (w : World) (b : Act), L i = false → waits o L → Down ops L → Kept a ops L u → I L u w → (∀ j t, dstAt ops j = some t → b.eval (.tmp t) = u j) → (∀ t, (dsts ops).contains t = false → b.eval (.tmp t) = a.eval (.tmp t)) →
    o.wp P b w (fun a' w' => ∃ v, a' = b.put o.dst v ∧ I (upd L i true) (upd u i v) w') Q) : RegStep3 P Q a ops I i o := ⟨fun L u w b hL hw hD hU hI hin hout => by
      rw [if_pos (by unfold gd; rw [hg])]
      exact h L u w b hL hw hD hU hI hin hout⟩
theorem RegStep3.yes {a : Act} {ops : List Oper} {I : (Nat → Bool) → (Nat → Value) → World → Prop} {i : Nat} {o : Oper} (j : Nat) (c : Bool) (hg : o.guard = some (j, c))
    (hj : ∀ (L : Nat → Bool) (u : Nat → Value) (w : World), waits o L → I L u w → u j = .bool c)
    (h : ∀ (L : Nat → Bool) (u : Nat → Value) (w : World) (b : Act), L i = false → waits o L → Down ops L → Kept a ops L u → I L u w → (∀ j t, dstAt ops j = some t → b.eval (.tmp t) = u j) → (∀ t, (dsts ops).contains t = false → b.eval (.tmp t) = a.eval (.tmp t)) →
    o.wp P b w (fun a' w' => ∃ v, a' = b.put o.dst v ∧ I (upd L i true) (upd u i v) w') Q) : RegStep3 P Q a ops I i o := ⟨fun L u w b hL hw hD hU hI hin hout => by
      rw [if_pos (by unfold gd; rw [hg]; simp [hj L u w hw hI])]
      exact h L u w b hL hw hD hU hI hin hout⟩
theorem RegStep3.no {a : Act} {ops : List Oper} {I : (Nat → Bool) → (Nat → Value) → World → Prop} {i : Nat} {o : Oper} (j : Nat) (c : Bool) (hg : o.guard = some (j, c))
    (h : ∀ (L : Nat → Bool) (u : Nat → Value) (w : World), L i = false → waits o L → Down ops L → I L u w → u j = .bool (!c) ∧ I (upd L i true) (upd u i undef) w) : RegStep3 P Q a ops I i o := ⟨fun L u w b hL hw hD hU hI hin hout => by
      have := h L u w hL hw hD hI
      rw [if_neg (by unfold gd; rw [hg]; simp [this.1])]
      exact this.2⟩
variable {o : Oper} {a : Act} {w : World} {K : Act → World → Prop}
theorem opw_pickT (c x y : Operand) (v : Value) (ho : o.op = .pick c x y) (hc : a.eval c = .bool true) (hx : a.eval x = v) (hK : K (a.put o.dst v) w) : o.wp P a w K Q := by
  refine opw_run v ?_ hK
  unfold execOp
  simp [ho, hc, hx, asBool, Sem.run_bind, Sem.run_pure, Result.andThen_ok]
theorem opw_pickF (c x y : Operand) (v : Value) (ho : o.op = .pick c x y) (hc : a.eval c = .bool false) (hy : a.eval y = v) (hK : K (a.put o.dst v) w) : o.wp P a w K Q := by
  refine opw_run v ?_ hK
  unfold execOp
  simp [ho, hc, hy, asBool, Sem.run_bind, Sem.run_pure, Result.andThen_ok]
/-- the bytes of a text -/
def str (l : List UInt8) : ByteArray := ⟨l.toArray⟩
theorem str_list (l : List UInt8) : (str l).toList = l := by rw [ByteArray.toList_eq]; simp [str]
theorem str_size (l : List UInt8) : (str l).size = l.length := by simp [str, ByteArray.size]
theorem str_take (l : List UInt8) (k : Nat) : (str l).extract 0 k = str (l.take k) := by
  apply ByteArray.ext; simp [str]
theorem str_drop (l : List UInt8) (k : Nat) : (str l).extract k (str l).size = str (l.drop k) := by
  apply ByteArray.ext; simp [str, ByteArray.size]; exact List.take_of_length_le (by simp)
theorem str_add (l m : List UInt8) : str l ++ str m = str (l ++ m) := by
  apply ByteArray.ext; simp [str, ByteArray.data_append]
def cmpS (op : BinOp) (l m : List UInt8) : Option Bool := match op with
  | .eql => some (l == m) | .neq => some (!(l == m)) | .lss => some (Op.bytesLess l m) | _ => none
theorem opw_cmpStr (op : BinOp) (t t' : TypeId) (x y : Operand) (l m : List UInt8) (Z : Bool) (ho : o.op = .binOp op t x y t') (hx : a.eval x = .string (str l)) (hy : a.eval y = .string (str m)) (hz : cmpS op l m = some Z) (hK : K (a.put o.dst (.bool Z)) w) : o.wp P a w K Q := by
  refine opw_run (.bool Z) ?_ hK
  unfold execOp
  unfold cmpS at hz
  cases op <;> simp only [reduceCtorEq, Option.some.injEq] at hz
  all_goals (subst hz; simp only [ho, hx, hy, eqGuard, binOp_string_eql, binOp_string_neq, binOp_string_lss, str_list, Sem.run_bind, Sem.run_pure, Result.andThen_ok, Bool.not_false, Bool.not_true, Bool.false_eq_true, if_false, if_true])
theorem opw_slTo (T : TypeId) (x h : Operand) (hu : P.underlying T = some .string) (ho : o.op = .slice T x none (some h) none) (l : List UInt8) (k : Nat) (hx : a.eval x = .string (str l)) (hh : a.eval h = .int .i64 (k : Int)) (hk : k ≤ l.length) (hK : K (a.put o.dst (.string (str (l.take k)))) w) : o.wp P a w K Q := by
  refine opw_run (.string (str (l.take k))) ?_ hK
  unfold execOp
  simp only [ho, hx, hh, Option.map_none, Option.map_some, Sem.run_bind, run_sliceAt_string _ _ _ _ _ _ hu, run_slice_string_to_if _ _ _ _ _ hu, str_size, Int.toNat_natCast, str_take]
  rw [if_pos (by omega)]
  rfl
theorem opw_slFrom (T : TypeId) (x h : Operand) (hu : P.underlying T = some .string) (ho : o.op = .slice T x (some h) none none) (l : List UInt8) (k : Nat) (hx : a.eval x = .string (str l)) (hh : a.eval h = .int .i64 (k : Int)) (hk : k ≤ l.length) (hK : K (a.put o.dst (.string (str (l.drop k)))) w) : o.wp P a w K Q := by
  refine opw_run (.string (str (l.drop k))) ?_ hK
  unfold execOp
  simp only [ho, hx, hh, Option.map_none, Option.map_some, Sem.run_bind, run_sliceAt_string _ _ _ _ _ _ hu, run_slice_string_from_if _ _ _ _ _ hu, Int.toNat_natCast, str_drop]
  rw [if_pos (by rw [str_size]; omega)]
  rfl
theorem opw_addStr (t t' : TypeId) (x y : Operand) (l m : List UInt8) (ho : o.op = .binOp .add t x y t') (hx : a.eval x = .string (str l)) (hy : a.eval y = .string (str m)) (hb : l.length + m.length ≤ 9223372036854775807) (hK : K (a.put o.dst (.string (str (l ++ m)))) w) : o.wp P a w K Q := by
  refine opw_run (.string (str (l ++ m))) ?_ hK
  unfold execOp
  simp only [ho, hx, hy, eqGuard, binOp_string_add, Sem.run_bind, Sem.run_pure, Result.andThen_ok, Bool.not_false, if_true]
  rw [run_string_add_sum w _ _ (by rw [str_size, str_size]; omega), str_add]
  rfl
theorem opw_eqBool (t t' : TypeId) (x y : Operand) (X Y : Bool) (hu : P.underlying t = some .bool) (ho : o.op = .binOp .eql t x y t') (hx : a.eval x = .bool X) (hy : a.eval y = .bool Y) (Z : Bool) (hz : (X == Y) = Z) (hK : K (a.put o.dst (.bool Z)) w) : o.wp P a w K Q := by
  subst hz
  refine opw_run (.bool (X == Y)) ?_ hK
  unfold execOp
  simp only [ho, hx, hy, eqGuard, Sem.run_bind, Sem.run_pure, Result.andThen_ok, run_eql_bool w t X Y hu, Bool.not_true, Bool.false_eq_true, if_false]
theorem opw_neBool (t t' : TypeId) (x y : Operand) (X Y : Bool) (hu : P.underlying t = some .bool) (ho : o.op = .binOp .neq t x y t') (hx : a.eval x = .bool X) (hy : a.eval y = .bool Y) (Z : Bool) (hz : (!(X == Y)) = Z) (hK : K (a.put o.dst (.bool Z)) w) : o.wp P a w K Q := by
  subst hz
  refine opw_run (.bool (!(X == Y))) ?_ hK
  unfold execOp
  simp only [ho, hx, hy, eqGuard, Sem.run_bind, Sem.run_pure, Result.andThen_ok, run_neq_bool w t X Y hu, Bool.not_true, Bool.false_eq_true, if_false]
theorem opw_not (t : TypeId) (x : Operand) (X : Bool) (ho : o.op = .unOp .not t x) (hx : a.eval x = .bool X) (Z : Bool) (hz : (!X) = Z) (hK : K (a.put o.dst (.bool Z)) w) : o.wp P a w K Q := by
  subst hz
  refine opw_run (.bool (!X)) ?_ hK
  unfold execOp
  simp [ho, hx, Op.unary, asBool, Sem.run_bind, Sem.run_pure, Result.andThen_ok]
theorem opw_eqRow (t t' e : TypeId) (n : Nat) (x y : Operand) (l m : List UInt8) (ht : P.underlying t = some (.array n e)) (he : P.underlying e = some (.int .u8)) (hsz : (P.info? e).map (·.size) = some 1) (hg : P.eqGuardType P.depth t = false) (hl : l.length = n) (hm : m.length = n)
    (ho : o.op = .binOp .eql t x y t') (hx : a.eval x = .agg (bcells l).toArray) (hy : a.eval y = .agg (bcells m).toArray) (Z : Bool) (hz : (l == m) = Z) (hK : K (a.put o.dst (.bool Z)) w) : o.wp P a w K Q := by
  subst hz
  refine opw_run (.bool (l == m)) ?_ hK
  have hsz' : ∀ w, (sizeOf e).run P w = .ok 1 w := fun w => by
    cases hi : P.info? e with
    | none => rw [hi] at hsz; cases hsz
    | some i => rw [hi] at hsz; simp at hsz; rw [run_sizeOf w hi]; simp [Program.cellsOf, hi, hsz]
  have := run_eql_bytes (P := P) w t e n ht he hsz' l m hl hm
  unfold execOp
  simp only [ho, hx, hy, Sem.run_bind, run_eqGuard_agg _ _ _ _ _ _ _ hg, Result.andThen_ok]
  rw [show (bcells l).toArray = (l.map Extern.Stop.cell).toArray from rfl, show (bcells m).toArray = (m.map Extern.Stop.cell).toArray from rfl, this]
  rfl
theorem opw_neRow (t t' e : TypeId) (n : Nat) (x y : Operand) (l m : List UInt8) (ht : P.underlying t = some (.array n e)) (he : P.underlying e = some (.int .u8)) (hsz : (P.info? e).map (·.size) = some 1) (hg : P.eqGuardType P.depth t = false) (hl : l.length = n) (hm : m.length = n)
    (ho : o.op = .binOp .neq t x y t') (hx : a.eval x = .agg (bcells l).toArray) (hy : a.eval y = .agg (bcells m).toArray) (Z : Bool) (hz : (!(l == m)) = Z) (hK : K (a.put o.dst (.bool Z)) w) : o.wp P a w K Q := by
  subst hz
  refine opw_run (.bool (!(l == m))) ?_ hK
  have hsz' : ∀ w, (sizeOf e).run P w = .ok 1 w := fun w => by
    cases hi : P.info? e with
    | none => rw [hi] at hsz; cases hsz
    | some i => rw [hi] at hsz; simp at hsz; rw [run_sizeOf w hi]; simp [Program.cellsOf, hi, hsz]
  have := run_equalIn_bytes (P := P) w 9998 t e n ht he hsz' l m hl hm
  unfold execOp
  simp only [ho, hx, hy, Sem.run_bind, run_eqGuard_agg _ _ _ _ _ _ _ hg, Result.andThen_ok, run_neq_struct]
  rw [show (bcells l).toArray = (l.map Extern.Stop.cell).toArray from rfl, show (bcells m).toArray = (m.map Extern.Stop.cell).toArray from rfl, this]
  rfl
theorem run_str (src dst e : TypeId) (hs : P.underlying src = some (.slice e)) (he : P.underlying e = some (.int .u8)) (hd : P.underlying dst = some .string)
    {v : Value} {n : Nat} {l : List UInt8} {w : World} (hr : Rd 1 w v n (bcells l)) : (convert src dst v).run P w = .ok (.string (str l)) w := by
  obtain ⟨hl, A, cap, rfl, hnc, hcm, ⟨rfl, rfl⟩ | ⟨ad, rfl, hc⟩⟩ := hr
  · obtain rfl : n = 0 := by omega
    have : l = [] := List.eq_nil_of_length_eq_zero (by rw [bcells_length] at hl; omega)
    subst this
    rw [run_convert_bytes_string w src dst e none 0 0 hs he hd]
    rfl
  · have hn : n = l.length := by rw [bcells_length] at hl; omega
    subst hn
    exact run_convert_bytes_back w src dst e ad cap l hs he hd fun j hj => by obtain ⟨b, off, sp⟩ := ad; obtain ⟨h2, h3⟩ := hc j _ (bcells_get hj); simp only at h2; subst h2; rw [addr_add]; exact h3
theorem opw_toStr (src dst e : TypeId) (x : Operand) (hs : P.underlying src = some (.slice e)) (he : P.underlying e = some (.int .u8)) (hd : P.underlying dst = some .string) (ho : o.op = .convert src dst x) (v : Value) (n : Nat) (l : List UInt8) (hx : a.eval x = v) (hr : Rd 1 w v n (bcells l))
    (hK : K (a.put o.dst (.string (str l))) w) : o.wp P a w K Q := by
  refine opw_run (.string (str l)) ?_ hK
  unfold execOp
  simp only [ho, hx, Sem.run_bind, run_str src dst e hs he hd hr, Result.andThen_ok, Sem.run_pure]
theorem opw_extract (x : Operand) (i : Nat) (vs : Array Value) (v : Value) (ho : o.op = .extract x i) (hx : a.eval x = .tuple vs) (hv : vs[i]? = some v) (hK : K (a.put o.dst v) w) : o.wp P a w K Q := by
  refine opw_run v ?_ hK
  unfold execOp
  simp [ho, hx, hv, Instr.extract, Sem.run_bind, Sem.run_pure, Result.andThen_ok]
end
end Go.Sl
