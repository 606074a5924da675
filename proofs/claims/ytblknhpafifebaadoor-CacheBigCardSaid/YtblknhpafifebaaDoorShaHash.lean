/-
  sha.Hash: now, Len, and bytes.Clone.
-/
import Derived.Test.YtblknhpafifebaaDoorShaMix
import Derived.Test.YtblknhpafifebaaDoorShaRun
import Derived.Test.YtblknhpafifebaaDoorSeen
import Derived.WalkSpells
import Derived.WalkLawsBesides
namespace Go.Proofs.YtblknhpafifebaaDoor
open Go.RowKit Go.Sl Go.Sha
set_option linter.unusedVariables false
set_option linter.unusedSimpArgs false

theorem infoB : (Tryd.prog.info? 5).map (fun i => (i.zero, i.size, i.bytes)) = some (some (.int .u8 0), 1, 1) := by kernel_rfl

set_option maxHeartbeats 400000 in
theorem bclone_any (st : World) (R : HProp) (m : List UInt8) (v : Value) (w : World) (h : Has st R w) (hs : Sees st R 1 v m.length (bcells m)) (hb : m.length ≤ 140737488355328) :
    Calls Tryd.prog 43 #[v] w fun e w' => ∃ A c, e = .returned (.slice A m.length c) ∧ Has st (sep (row 5 1 (.slice A m.length c) m.length (bcells m)) R) w' := by
  have hr := hs w h
  obtain ⟨_, A, c, rfl, _, _, ⟨rfl, rfl⟩ | ⟨ad, rfl, _⟩⟩ := hs w h
  · obtain rfl : m = [] := List.eq_nil_of_length_eq_zero (by have := (hs w h).1; obtain ⟨_, _, e, h', _⟩ := (hs w h).2; injection e; omega)
    have he := fun (W : World) => Lib.run_eql_slice_nil (P := Tryd.prog) W 30 5 none 0 0 0 0 Tryd.underlying30
    go_enter Tryd.func43, Tryd.ntmps43
    go_wp2
    go_ret
    exact ⟨none, 0, rfl, h.row_nil _ _⟩
  · have he := fun (W : World) (n k : Nat) => Lib.run_eql_slice_nil (P := Tryd.prog) W 30 5 (some ad) n k 0 0 Tryd.underlying30
    go_enter Tryd.func43, Tryd.ntmps43
    go_wp2_with (refine wp_append rfl _ _ 30 5 1 1 (.int .u8 0) rfl Tryd.underlying30 infoB rfl (by decide) rfl rfl (h.row_empty 5 1) (hs _ (h.alloc' _)) (bcells_one m) (by unfold maxLen; omega) (by omega) ?_; intro A' c' w' h3 _)
    go_ret
    exact ⟨A', c', rfl, by simpa using h3⟩

/-- a Hash's cells -/
def hcells (b : Bool) (s : S8) (v : Value) (n : Nat) : Array Value := #[.bool b, .int .u32 s.a.toNat, .int .u32 s.b.toNat, .int .u32 s.c.toNat, .int .u32 s.d.toNat, .int .u32 s.e.toNat, .int .u32 s.f.toNat, .int .u32 s.g.toNat, .int .u32 s.h.toNat, v, .int .i64 n]
structure HashV where
  b : Bool
  s : S8
  v : Value
def hashOk (m : List UInt8) (x : HashV) : Prop := x.b = false ∧ m = [] ∨ x.b = true ∧ x.s = state m
def hashBlk (p : Nat) (m : List UInt8) (x : HashV) : HProp := blk p (.cells (hcells x.b x.s x.v m.length) 86 (0, 0))
/-- a Hash at block p that was written m -/
def hash (p : Nat) (m : List UInt8) : HProp := ex fun x : HashV => sep (pure (hashOk m x)) (sep (hashBlk p m x) (seenP 1 x.v (left m).length (bcells (left m))))
theorem openHash {st : World} {R : HProp} {w : World} {p : Nat} {m : List UInt8} (h : Has st (sep (hash p m) R) w) : ∃ x : HashV, hashOk m x ∧ Has st (sep (hashBlk p m x) (sep (seenP 1 x.v (left m).length (bcells (left m))) R)) w := by
  obtain ⟨x, h⟩ := h.exL
  obtain ⟨hx, h⟩ := h.assoc.pureL
  exact ⟨x, hx, h.assoc⟩
theorem toHash {st : World} {R : HProp} {w : World} {p : Nat} {m : List UInt8} (x : HashV) (hx : hashOk m x) (h : Has st (sep (hashBlk p m x) (sep (seenP 1 x.v (left m).length (bcells (left m))) R)) w) : Has st (sep (hash p m) R) w :=
  Has.ofEx (p := fun x : HashV => sep (pure (hashOk m x)) (sep (hashBlk p m x) (seenP 1 x.v (left m).length (bcells (left m))))) x ((Has.ofPure hx h.unassoc).unassoc)

/-- the first state lies where it was laid -/
def Start (st : World) (R : HProp) : Prop := ∀ w, Has st R w → ∃ T fr, w.heap[0]? = some (.cells (wcells Sha.start.list).toArray T fr)

set_option maxHeartbeats 1000000 in
theorem now_any (st : World) (R : HProp) (p : Nat) (m : List UInt8) (hst : Start st R) (w : World) (h : Has st (sep (hash p m) R) w) :
    Calls Tryd.prog 42 #[.pointer (some ⟨p, 0, none⟩)] w fun e w' => e = .returned (.agg (wcells (state m).list).toArray) ∧ Has st (sep (hash p m) R) w' := by
  obtain ⟨x, hx, h1⟩ := openHash h
  have HST := Lib.hid hst
  clear hst
  have HX := Lib.hid hx
  obtain ⟨b, s, v⟩ := x
  rcases hx with ⟨e1, e2⟩ | ⟨e1, e2⟩
  · simp only at e1
    subst e1 e2
    have h2 : Has st (sep (Sl.blk w.heap.size (.cells (wcells (List.replicate 8 0)).toArray 84)) _) (w.alloc (.cells #[.int .u32 0, .int .u32 0, .int .u32 0, .int .u32 0, .int .u32 0, .int .u32 0, .int .u32 0, .int .u32 0] 84)) := h1.alloc _
    obtain ⟨T, fr, hst2⟩ := HST.out _ h2.right.right.right
    obtain ⟨S, hS⟩ : ∃ S, S = state [] := ⟨_, rfl⟩
    rw [show Sha.start = S from hS.symm] at hst2
    rw [← hS]
    clear hS
    have HK := Lib.hid hst2
    have c0 : (w.alloc (.cells #[.int .u32 0, .int .u32 0, .int .u32 0, .int .u32 0, .int .u32 0, .int .u32 0, .int .u32 0, .int .u32 0] 84)).cell? ⟨p, 0, none⟩ = some (.bool false) := h2.second.cell 0
    clear hst2
    have H2 := Lib.hid h2
    clear h2
    go_enter Tryd.func42, Tryd.ntmps42
    go_wp2_with (first
      | (refine wpList_load_row rfl 84 _ rfl 0 rfl T (wcells S.list).toArray _ _ HK.out Tryd.underlying84 rfl info8 ?_)
      | (refine wpl_storeRow rfl 84 _ _ rfl w.heap.size (wcells S.list).toArray rfl rfl 84 (wcells (List.replicate 8 0)).toArray info8 rfl (wcells_all _) H2.out ?_; intro w3 h3))
    (try simp only [Exit.inBlock, Exit.then])
    refine bodyPost_ret (results_cell_row Tryd.results42 _ _ _ 84 _ _ _ rfl h3.blk Tryd.underlying84 rfl info8) rfl ?_
    exact ⟨rfl, toHash _ HX.out h3.right⟩
  · simp only at e1 e2
    subst e1 e2
    have h2 : Has st (sep (Sl.blk w.heap.size (.cells (wcells (List.replicate 8 0)).toArray 84)) _) (w.alloc (.cells #[.int .u32 0, .int .u32 0, .int .u32 0, .int .u32 0, .int .u32 0, .int .u32 0, .int .u32 0, .int .u32 0] 84)) := h1.alloc _
    have c0 : (w.alloc (.cells #[.int .u32 0, .int .u32 0, .int .u32 0, .int .u32 0, .int .u32 0, .int .u32 0, .int .u32 0, .int .u32 0] 84)).cell? ⟨p, 0, none⟩ = some (.bool true) := h2.second.cell 0
    have H2 := Lib.hid h2
    clear h2
    go_enter Tryd.func42, Tryd.ntmps42
    go_wp2_with (first
      | (refine wpl_loadMid rfl 84 _ rfl p 1 rfl (wcells (state m).list) _ Tryd.underlying84 rfl info8 H2.out.second rfl ?_)
      | (refine wpl_storeRow rfl 84 _ _ rfl w.heap.size (wcells (state m).list).toArray rfl rfl 84 (wcells (List.replicate 8 0)).toArray info8 rfl (wcells_all _) H2.out ?_; intro w3 h3))
    (try simp only [Exit.inBlock, Exit.then])
    refine bodyPost_ret (results_cell_row Tryd.results42 _ _ _ 84 _ _ _ rfl h3.blk Tryd.underlying84 rfl info8) rfl ?_
    exact ⟨rfl, toHash _ HX.out h3.right⟩

end Go.Proofs.YtblknhpafifebaaDoor
