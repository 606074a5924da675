/-
  Single operations: what each asks, and what it leaves, as laws on 'Oper.wp'. No program in sight.
-/
import Derived.Test.YtblknhpafifebaaDoorReg
import Derived.Test.YtblknhpafifebaaDoorArr
import Derived.Deep.MidRow
import Derived.Laws.CopyRow
namespace Go.Sl
open Go Go.RowKit
set_option linter.unusedVariables false
set_option linter.unusedSimpArgs false
theorem list2 {α : Type} {x y : α} {l m : List α} (h : x = y) (h2 : l = m) : x :: l = y :: m := by rw [h, h2]
section
variable {P : Program} {o : Oper} {a : Act} {w : World} {K : Act → World → Prop} {Q : Exit → Act → World → Prop} {st : World}
theorem opw_move (x : Operand) (v : Value) (ho : o.op = .move x ∨ o.op = .assign x) (hx : a.eval x = v) (hK : K (a.put o.dst v) w) : o.wp P a w K Q := by
  unfold Oper.wp execOp
  rcases ho with ho | ho <;> (simp only [ho, hx, Sem.run_pure, Oper.upon_value]; exact hK)
/-- a value that is reckoned without memory -/
theorem opw_run (v : Value) (hr : (execOp a.eval o).run P w = .ok (.value v) w) (hK : K (a.put o.dst v) w) : o.wp P a w K Q := by
  unfold Oper.wp
  rw [hr]
  exact hK
theorem opw_alloc (t : TypeId) (z : Value) (cells : Array Value) (ho : o.op = .alloc t) (hi : (P.info? t).map (·.zero) = some (some z)) (hc : z.cells = cells) {R : HProp} (h : Has st R w)
    (hK : ∀ p w', p = w.heap.size → Has st (sep (Sl.blk p (.cells cells t (0, 0))) R) w' → K (a.put o.dst (.pointer (some ⟨p, 0, none⟩))) w') : o.wp P a w K Q := by
  subst hc
  obtain ⟨i, hi0, hi1⟩ : ∃ i, P.info? t = some i ∧ i.zero = some z := by
    cases hp : P.info? t with
    | none => rw [hp] at hi; cases hi
    | some i => rw [hp] at hi; simp at hi; exact ⟨i, rfl, hi⟩
  have hr : (Instr.alloc t true (.tuple #[])).run P w = .ok (.pointer (some ⟨w.heap.size, 0, none⟩)) (w.alloc (.cells z.cells t)) := by
    simp [Instr.alloc, zeroValue, typeInfo, hi0, hi1, newVar, Sem.run_bind, go_sem]
  unfold Oper.wp execOp
  simp only [ho, Sem.run_bind, hr, Sem.run_pure, Result.andThen_ok, Oper.upon_value]
  exact hK _ _ rfl (h.alloc _)
/-- a whole block is loaded -/
theorem opw_loadRow (ty : TypeId) (x : Operand) (ho : o.op = .load ty x) (g : Nat) (hx : a.eval x = .pointer (some ⟨g, 0, none⟩)) (t : TypeId) (cs : Array Value) (fr : Nat × Nat) (d : TypeDesc)
    (hu : P.underlying ty = some d) (hd : (match d with | .struct _ | .array _ _ => true | _ => false) = true) (hi : (P.info? ty).map (·.size) = some cs.size) {R : HProp} (h : Has st (sep (Sl.blk g (.cells cs t fr)) R) w)
    (hK : K (a.put o.dst (.agg cs)) w) : o.wp P a w K Q :=
  wp_load_row ty x ho g hx t cs fr d h.blk hu hd hi hK
/-- a whole block is stored to -/
theorem opw_storeRow (ty : TypeId) (x y : Operand) (ho : o.op = .store ty x y) (g : Nat) (cells : Array Value) (hx : a.eval x = .pointer (some ⟨g, 0, none⟩)) (hy : a.eval y = .agg cells) (t : TypeId) (old : Array Value)
    (hi : (P.info? ty).map (·.size) = some cells.size) (hold : old.size = cells.size) (h1 : cells.all (·.oneCell') = true) {R : HProp} (h : Has st (sep (Sl.blk g (.cells old t (0, 0))) R) w)
    (hK : ∀ w', Has st (sep (Sl.blk g (.cells cells t (0, 0))) R) w' → K (a.put o.dst undef) w') : o.wp P a w K Q :=
  wp_store_row ty x y ho g cells hx hy t old h.blk hi hold h1 (hK _ (h.setRow cells))
/-- function f has a text, and is no clock -/
def entersB (P : Program) (f : FuncId) : Bool := match P.funcs[f]? with | some fn => !(fn.name == "runtime.NumGoroutine") && !fn.body.isNone | none => false
theorem run_enters {P : Program} {f : FuncId} (h : entersB P f = true) (args : Array Value) (w : World) : (callFunc f args).run P w = .ok (.enter f args) w := by
  unfold entersB at h
  unfold callFunc
  cases hf : P.funcs[f]? with
  | none => rw [hf] at h; cases h
  | some fn =>
    rw [hf] at h
    simp only [Bool.and_eq_true, Bool.not_eq_true'] at h
    have h1 : ¬ fn.name = "runtime.NumGoroutine" := by simpa using h.1
    have h2 : ¬ fn.body = none := fun e => by rw [e] at h; simp at h
    simp [go_sem, hf, h1, h2]
/-- a call of a function that is known -/
theorem opw_call (f : FuncId) (args : List Operand) (ts : Array TypeId) (vs : List Value) (ho : o.op = .call { callee := .value (.func f), args := args.toArray, argTypes := ts }) (hf : entersB P f = true) (hvs : args.map a.eval = vs)
    (h : Calls P f vs.toArray w fun e w' => match e with | .returned v => K (a.put o.dst v) w' | .panicked c => Q (.panic c) a w' | .outgrown => LetsOut Q) : o.wp P a w K Q := by
  subst hvs
  unfold Oper.wp execOp
  simp only [ho, resolve, Act.eval, Deferred.ofValue, Sem.run_bind, Sem.run_pure, Result.andThen_ok, invoke]
  rw [show (#[] ++ Array.map a.eval args.toArray ++ #[] : Array Value) = (args.map a.eval).toArray by simp, run_enters hf]
  rw [Oper.upon_enter]
  exact Calls.mono h fun e w' he => by cases e <;> exact he
/-- a call whose contract says that it returns -/
theorem opw_call_ret (f : FuncId) (args : List Operand) (ts : Array TypeId) (vs : List Value) (ho : o.op = .call { callee := .value (.func f), args := args.toArray, argTypes := ts }) (hf : entersB P f = true) (hvs : args.map a.eval = vs)
    {post : Ending → World → Prop} (h : Calls P f vs.toArray w post) (hK : ∀ e w', post e w' → ∃ v, e = .returned v ∧ K (a.put o.dst v) w') : o.wp P a w K Q :=
  opw_call f args ts vs ho hf hvs (h.mono fun e w' hp => by obtain ⟨v, rfl, hk⟩ := hK e w' hp; exact hk)
theorem opw_bin32 (op : BinOp) (t t' : TypeId) (x y : Operand) (X Y Z : UInt32) (ho : o.op = .binOp op t x y t') (hx : a.eval x = .int .u32 (X.toNat : Int)) (hy : a.eval y = .int .u32 (Y.toNat : Int))
    (hz : op = .add ∧ Z = X + Y ∨ op = .xor ∧ Z = X ^^^ Y ∨ op = .and ∧ Z = X &&& Y ∨ op = .or ∧ Z = X ||| Y) (hK : K (a.put o.dst (.int .u32 (Z.toNat : Int))) w) : o.wp P a w K Q := by
  refine opw_run (.int .u32 (Z.toNat : Int)) ?_ hK
  unfold execOp
  have e1 := w32_add X Y
  have e2 := w32_xor X Y
  have e3 := w32_and X Y
  have e4 := w32_or X Y
  unfold bits at e2 e3 e4
  simp only at e2 e3 e4
  rcases hz with ⟨rfl, rfl⟩ | ⟨rfl, rfl⟩ | ⟨rfl, rfl⟩ | ⟨rfl, rfl⟩ <;>
    simp only [ho, hx, hy, eqGuard, binOp, Op.intArith, Op.intBits, Sem.run_bind, Sem.run_pure, Result.andThen_ok, Bool.not_false, if_true, ne_eq, not_true_eq_false, if_false, e1, e2, e3, e4]
theorem opw_not32 (t : TypeId) (x : Operand) (X : UInt32) (ho : o.op = .unOp .xor t x) (hx : a.eval x = .int .u32 (X.toNat : Int)) (hK : K (a.put o.dst (.int .u32 ((~~~ X).toNat : Int))) w) : o.wp P a w K Q := by
  refine opw_run (.int .u32 ((~~~ X).toNat : Int)) ?_ hK
  unfold execOp
  simp only [ho, hx, Sem.run_bind]
  have e := w32_not X
  unfold bits at e
  simp only at e
  have hs : (if IntKind.u32.signed = true then (-1 : Int) else IntKind.u32.max) = IntKind.u32.max := if_neg (by decide)
  simp only [Op.unary, Op.intBits, hs, e, Sem.run_pure, Result.andThen_ok]
/-- one cell is loaded -/
theorem opw_load1 (t : TypeId) (x : Operand) (ho : o.op = .load t x) (d : TypeDesc) (hu : P.underlying t = some d) (hd : (match d with | .struct _ | .array _ _ => false | _ => true) = true) (ad : Addr) (v : Value)
    (hx : a.eval x = .pointer (some ad)) (hc : w.cell? ad = some v) (hK : K (a.put o.dst v) w) : o.wp P a w K Q := by
  refine opw_run v ?_ hK
  have hagg : (isAgg t).run P w = .ok false w := by
    unfold isAgg
    rw [Sem.run_bind, run_underlying hu w]
    cases d <;> simp_all
  unfold execOp
  simp only [ho, hx, Instr.loadAt, Instr.sureAddr, loadVar, Sem.run_bind, Sem.run_pure, Result.andThen_ok, hagg]
  simp [go_sem, hc]
theorem opw_indexArr (T e : TypeId) (n : Nat) (x ix : Operand) (ho : o.op = .indexAddr T x ix) (hu : P.underlying T = some (.array n e)) (hsz : (P.info? e).map (·.size) = some 1) (g off j : Nat) (hx : a.eval x = .pointer (some ⟨g, off, none⟩))
    (k : IntKind) (hix : a.eval ix = .int k (j : Int)) (hj : j < n) (hK : K (a.put o.dst (.pointer (some ⟨g, off + j, none⟩))) w) : o.wp P a w K Q := by
  refine opw_run (.pointer (some ⟨g, off + j, none⟩)) ?_ hK
  obtain ⟨i, hi0, hi1⟩ : ∃ i, P.info? e = some i ∧ i.size = 1 := by
    cases hp : P.info? e with
    | none => rw [hp] at hsz; cases hsz
    | some i => rw [hp] at hsz; simp at hsz; exact ⟨i, rfl, hsz⟩
  have hj1 : (0 : Int) ≤ j := by omega
  have hj2 : (j : Int) < n := by omega
  unfold execOp
  simp only [ho, hx, hix, Instr.indexAt, Instr.sureAddr, asIntOf, Sem.run_bind, Sem.run_pure, Result.andThen_ok, run_underlying hu]
  simp [sizeOf, typeInfo, hi0, hi1, go_sem, hj, addr_add]
/-- a struct or array is built of parts -/
theorem opw_build (t : TypeId) (parts : List (Nat × Operand)) (vs : List (Nat × Value)) (cells : Array Value) (ho : o.op = .build t parts.toArray) (hvs : parts.map (fun p => (p.1, a.eval p.2)) = vs) (hb : P.built t vs = some cells)
    (hK : K (a.put o.dst (.agg cells)) w) : o.wp P a w K Q := by
  have e : ((parts.toArray.map fun (p : Nat × Operand) => (p.1, a.eval p.2)).toList) = vs := by rw [← hvs]; simp
  refine wp_build t parts.toArray ho ?_ ?_
  · show (P.built t (parts.toArray.map fun (p : Nat × Operand) => (p.1, a.eval p.2)).toList).isSome = true
    rw [e, hb]; rfl
  · show K (a.put o.dst (.agg ((P.built t (parts.toArray.map fun (p : Nat × Operand) => (p.1, a.eval p.2)).toList).getD #[]))) w
    rw [e, hb]; exact hK
theorem wpl_build {ops : Array Oper} {rest : List Oper} (hg : o.guard = none) (t : TypeId) (parts : List (Nat × Operand)) (vs : List (Nat × Value)) (cells : Array Value) (ho : o.op = .build t parts.toArray) (hvs : parts.map (fun p => (p.1, a.eval p.2)) = vs) (hb : P.built t vs = some cells)
    (h : wpList P ops Q rest (a.put o.dst (.agg cells)) w) : wpList P ops Q (o :: rest) a w :=
  wpList_plain hg fun _ hK => opw_build t parts vs cells ho hvs hb (hK _ _ h)
/-- one cell is stored to -/
theorem run_storeVar1 (t : TypeId) (g j : Nat) (v : Value) (hv : v.oneCell' = true) (hi : (P.info? t).map (·.size) = some 1) {R : HProp} {c : Array Value} {T : TypeId} (h : Has st (sep (Sl.blk g (.cells c T (0, 0))) R) w) (hj : j < c.size) :
    (storeVar t ⟨g, j, none⟩ v).run P w = .ok () (w.setCell ⟨g, j, none⟩ v) := by
  obtain ⟨i, hi0, hi1⟩ : ∃ i, P.info? t = some i ∧ i.size = 1 := by
    cases hp : P.info? t with
    | none => rw [hp] at hi; cases hi
    | some i => rw [hp] at hi; simp at hi; exact ⟨i, rfl, hi⟩
  have hcells : v.cells = #[v] := by cases v <;> first | rfl | (simp [Value.oneCell'] at hv)
  have hc : w.cell? ⟨g, j, none⟩ = some c[j] := by rw [h.cell]; simp [hj]
  have hf := h.free j
  have hadd : (⟨g, j, none⟩ : Addr).add 0 = ⟨g, j, none⟩ := by rw [addr_add]; rfl
  have hst : (store (⟨g, j, none⟩ : Addr) v).run P w = .ok () (w.setCell ⟨g, j, none⟩ v) := by
    rw [run_store P w _ v _ hv, hc]
    simp [hf]
  unfold storeVar
  simp only [hcells, Sem.run_bind, sizeOf, typeInfo, hi0]
  simp [go_sem, hi0, hi1, storeCells, hadd, hst]
theorem opw_store1 (t : TypeId) (x y : Operand) (ho : o.op = .store t x y) (hi : (P.info? t).map (·.size) = some 1) (g j : Nat) (v : Value) (hx : a.eval x = .pointer (some ⟨g, j, none⟩)) (hy : a.eval y = v) (hv : v.oneCell' = true)
    {R : HProp} {c : Array Value} {T : TypeId} (h : Has st (sep (Sl.blk g (.cells c T (0, 0))) R) w) (hj : j < c.size)
    (hK : ∀ w', Has st (sep (Sl.blk g (.cells (c.setIfInBounds j v) T (0, 0))) R) w' → K (a.put o.dst undef) w') : o.wp P a w K Q := by
  unfold Oper.wp execOp
  simp only [ho, hx, hy, Instr.storeAt, Instr.sureAddr, Sem.run_bind, Sem.run_pure, Result.andThen_ok, run_storeVar1 t g j v hv hi h hj, Oper.upon_skip]
  exact hK _ (h.set j v)
/-- part of a block is loaded, as an array or a struct -/
theorem opw_loadMid (ty : TypeId) (x : Operand) (ho : o.op = .load ty x) (g off : Nat) (hx : a.eval x = .pointer (some ⟨g, off, none⟩)) (cs : List Value) (d : TypeDesc)
    (hu : P.underlying ty = some d) (hd : d.isRow = true) (hi : (P.info? ty).map (·.size) = some cs.length) {R : HProp} {c : Array Value} {T : TypeId} {fr : Nat × Nat} (h : Has st (sep (Sl.blk g (.cells c T fr)) R) w)
    (hc : (c.toList.drop off).take cs.length = cs) (hK : K (a.put o.dst (.agg cs.toArray)) w) : o.wp P a w K Q := by
  refine wp_load_mid ty x ho g off hx cs d (fun j v hv => ?_) hu hd hi hK
  rw [h.cell]
  have hj := (List.getElem?_eq_some_iff.1 hv).1
  rw [← hc, List.getElem?_take_of_lt hj, List.getElem?_drop] at hv
  simpa using hv
theorem splice_ok {c : Array Value} {off : Nat} {vs : List Value} (h : off + vs.length ≤ c.size) : (c.toList.take off ++ vs ++ c.toList.drop (off + vs.length)).length = c.size := by
  simp; omega
/-- part of a block is stored to -/
theorem opw_storeMid (ty : TypeId) (x y : Operand) (ho : o.op = .store ty x y) (g off : Nat) (vs : List Value) (hx : a.eval x = .pointer (some ⟨g, off, none⟩)) (hy : a.eval y = .agg vs.toArray)
    (hi : (P.info? ty).map (·.size) = some vs.length) (h1 : ∀ v ∈ vs, v.oneCell' = true) {R : HProp} {c : Array Value} {T : TypeId} (h : Has st (sep (Sl.blk g (.cells c T (0, 0))) R) w) (hl : off + vs.length ≤ c.size)
    (hK : ∀ w', Has st (sep (Sl.blk g (.cells (c.toList.take off ++ vs ++ c.toList.drop (off + vs.length)).toArray T (0, 0))) R) w' → K (a.put o.dst undef) w') : o.wp P a w K Q := by
  obtain ⟨i, hi0, hi1⟩ : ∃ i, P.info? ty = some i ∧ i.size = vs.length := by
    cases hp : P.info? ty with
    | none => rw [hp] at hi; cases hi
    | some i => rw [hp] at hi; simp at hi; exact ⟨i, rfl, hi⟩
  have hst := run_storeCells_at (P := P) g off T vs 0 c w h.blk (by omega) h1
  simp only [Nat.add_zero] at hst
  unfold Oper.wp execOp
  simp only [ho, hx, hy, Instr.storeAt, Instr.sureAddr, Sem.run_bind, Sem.run_pure, Result.andThen_ok, storeVar]
  have hsz : (Value.agg vs.toArray).cells = vs.toArray := rfl
  simp only [hsz, sizeOf, typeInfo]
  simp [go_sem, hi0, hi1, hst]
  exact hK _ (by rw [List.append_assoc]; exact h.setRow _)
theorem opw_nilCheck (x : Operand) (ad : Addr) (ho : o.op = .nilCheck x) (hx : a.eval x = .pointer (some ad)) (hK : K (a.put o.dst (.pointer (some ad))) w) : o.wp P a w K Q := by
  refine opw_run (.pointer (some ad)) ?_ hK
  unfold execOp
  simp only [ho, hx, Sem.run_pure]
/-- field f of struct type S lies n cells behind its head -/
def fieldB (P : Program) (S : TypeId) (f n : Nat) : Bool := match P.underlying S with
  | some (.struct fs) => match fs[f]? with
    | some fd => fd.offset == n && (match P.info? fd.type with | some i => i.size != 0 | none => false)
    | none => false
  | _ => false
theorem opw_field (S : TypeId) (x : Operand) (f n : Nat) (ho : o.op = .fieldAddr S x f) (hf : fieldB P S f n = true) (g off : Nat) (hx : a.eval x = .pointer (some ⟨g, off, none⟩))
    (hK : K (a.put o.dst (.pointer (some ⟨g, off + n, none⟩))) w) : o.wp P a w K Q := by
  refine opw_run (.pointer (some ⟨g, off + n, none⟩)) ?_ hK
  unfold fieldB at hf
  split at hf
  · rename_i fs hu
    split at hf
    · rename_i fd hfd
      simp only [Bool.and_eq_true, beq_iff_eq] at hf
      obtain ⟨rfl, hi⟩ := hf
      split at hi
      · rename_i i hi0
        have hne : ¬ i.size = 0 := by simpa using hi
        unfold execOp
        simp only [ho, hx, Instr.fieldAt, Instr.sureAddr, Sem.run_bind, Sem.run_pure, Result.andThen_ok, run_underlying hu, hfd, fieldPlace, sizeOf, typeInfo]
        simp [go_sem, hi0, hne, addr_add]
      · cases hi
    · cases hf
  · cases hf
theorem opw_len (x : Operand) (t e : TypeId) (hu : P.underlying t = some (.slice e)) (A : Option Addr) (n c : Nat) (ho : o.op = .call { callee := .builtin .len, args := #[x], argTypes := #[t] }) (hx : a.eval x = .slice A n c) (hK : K (a.put o.dst (.int .i64 (n : Int))) w) : o.wp P a w K Q := by
  refine opw_run (.int .i64 (n : Int)) ?_ hK
  unfold execOp
  simp only [ho, resolve, invoke, builtin, Sem.run_bind, Sem.run_pure, Result.andThen_ok, List.map_toArray, List.map_cons, List.map_nil, hx]
  simp [Builtin.len_, Builtin.lenOf, run_underlying hu, go_sem]
theorem opw_addNat (t t' : TypeId) (x y : Operand) (n m : Nat) (ho : o.op = .binOp .add t x y t') (hx : a.eval x = .int .i64 (n : Int)) (hy : a.eval y = .int .i64 (m : Int)) (hb : n + m ≤ 9223372036854775807) (hK : K (a.put o.dst (.int .i64 ((n + m : Nat) : Int))) w) : o.wp P a w K Q := by
  refine opw_run (.int .i64 ((n + m : Nat) : Int)) ?_ hK
  have e : IntKind.i64.wrap ((n : Int) + (m : Int)) = ((n + m : Nat) : Int) := by rw [IntWalk.i64_in _ ⟨by omega, by omega⟩]; omega
  unfold execOp
  simp only [ho, hx, hy, eqGuard, binOp, Op.intArith, Sem.run_bind, Sem.run_pure, Result.andThen_ok, Bool.not_false, if_true, ne_eq, not_true_eq_false, if_false, e]
end
section
variable {P : Program} {ops : Array Oper} {rest : List Oper} {o : Oper} {a : Act} {Q : Exit → Act → World → Prop} {w : World} {st : World}
theorem wpl_alloc (hg : o.guard = none) (t : TypeId) (z : Value) (cells : Array Value) (ho : o.op = .alloc t) (hi : (P.info? t).map (·.zero) = some (some z)) (hc : z.cells = cells) {R : HProp} (h : Has st R w)
    (hK : ∀ p w', p = w.heap.size → Has st (sep (Sl.blk p (.cells cells t (0, 0))) R) w' → wpList P ops Q rest (a.put o.dst (.pointer (some ⟨p, 0, none⟩))) w') : wpList P ops Q (o :: rest) a w :=
  wpList_plain hg fun _ hk => opw_alloc t z cells ho hi hc h fun p w' hp h' => hk _ _ (hK p w' hp h')
theorem wpl_loadMid (hg : o.guard = none) (ty : TypeId) (x : Operand) (ho : o.op = .load ty x) (g off : Nat) (hx : a.eval x = .pointer (some ⟨g, off, none⟩)) (cs : List Value) (d : TypeDesc)
    (hu : P.underlying ty = some d) (hd : d.isRow = true) (hi : (P.info? ty).map (·.size) = some cs.length) {R : HProp} {c : Array Value} {T : TypeId} {fr : Nat × Nat} (h : Has st (sep (Sl.blk g (.cells c T fr)) R) w)
    (hc : (c.toList.drop off).take cs.length = cs) (hK : wpList P ops Q rest (a.put o.dst (.agg cs.toArray)) w) : wpList P ops Q (o :: rest) a w :=
  wpList_plain hg fun _ hk => opw_loadMid ty x ho g off hx cs d hu hd hi h hc (hk _ _ hK)
theorem wpl_storeMid (hg : o.guard = none) (ty : TypeId) (x y : Operand) (ho : o.op = .store ty x y) (g off : Nat) (vs : List Value) (hx : a.eval x = .pointer (some ⟨g, off, none⟩)) (hy : a.eval y = .agg vs.toArray)
    (hi : (P.info? ty).map (·.size) = some vs.length) (h1 : ∀ v ∈ vs, v.oneCell' = true) {R : HProp} {c : Array Value} {T : TypeId} (h : Has st (sep (Sl.blk g (.cells c T (0, 0))) R) w) (hl : off + vs.length ≤ c.size)
    (hK : ∀ w', Has st (sep (Sl.blk g (.cells (c.toList.take off ++ vs ++ c.toList.drop (off + vs.length)).toArray T (0, 0))) R) w' → wpList P ops Q rest (a.put o.dst undef) w') : wpList P ops Q (o :: rest) a w :=
  wpList_plain hg fun _ hk => opw_storeMid ty x y ho g off vs hx hy hi h1 h hl fun w' h' => hk _ _ (hK w' h')
theorem wpl_loadRow (hg : o.guard = none) (ty : TypeId) (x : Operand) (ho : o.op = .load ty x) (g : Nat) (hx : a.eval x = .pointer (some ⟨g, 0, none⟩)) (t : TypeId) (cs : Array Value) (fr : Nat × Nat) (d : TypeDesc)
    (hu : P.underlying ty = some d) (hd : (match d with | .struct _ | .array _ _ => true | _ => false) = true) (hi : (P.info? ty).map (·.size) = some cs.size) {R : HProp} (h : Has st (sep (Sl.blk g (.cells cs t fr)) R) w)
    (hK : wpList P ops Q rest (a.put o.dst (.agg cs)) w) : wpList P ops Q (o :: rest) a w :=
  wpList_load_row hg ty x ho g hx t cs fr d h.blk hu hd hi hK
theorem wpl_storeRow (hg : o.guard = none) (ty : TypeId) (x y : Operand) (ho : o.op = .store ty x y) (g : Nat) (cells : Array Value) (hx : a.eval x = .pointer (some ⟨g, 0, none⟩)) (hy : a.eval y = .agg cells) (t : TypeId) (old : Array Value)
    (hi : (P.info? ty).map (·.size) = some cells.size) (hold : old.size = cells.size) (h1 : cells.all (·.oneCell') = true) {R : HProp} (h : Has st (sep (Sl.blk g (.cells old t (0, 0))) R) w)
    (hK : ∀ w', Has st (sep (Sl.blk g (.cells cells t (0, 0))) R) w' → wpList P ops Q rest (a.put o.dst undef) w') : wpList P ops Q (o :: rest) a w :=
  wpList_plain hg fun _ hk => opw_storeRow ty x y ho g cells hx hy t old hi hold h1 h fun w' h' => hk _ _ (hK w' h')
theorem wpl_call_ret (hg : o.guard = none) (f : FuncId) (args : List Operand) (ts : Array TypeId) (vs : List Value) (ho : o.op = .call { callee := .value (.func f), args := args.toArray, argTypes := ts }) (hf : entersB P f = true) (hvs : args.map a.eval = vs)
    {post : Ending → World → Prop} (h : Calls P f vs.toArray w post) (hK : ∀ e w', post e w' → ∃ v, e = .returned v ∧ wpList P ops Q rest (a.put o.dst v) w') : wpList P ops Q (o :: rest) a w :=
  wpList_plain hg fun _ hk => opw_call_ret f args ts vs ho hf hvs h fun e w' hp => by obtain ⟨v, hv, hk'⟩ := hK e w' hp; exact ⟨v, hv, hk _ _ hk'⟩
end
end Go.Sl
