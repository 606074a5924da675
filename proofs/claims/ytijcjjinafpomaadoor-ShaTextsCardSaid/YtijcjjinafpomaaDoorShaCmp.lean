/-
  bytes.Compare, bytes.IndexByte, and Less of both packages.
-/
import Derived.Test.YtijcjjinafpomaaDoorRefShaOf
import Derived.Lib.Bytealg
import Derived.Lib.BytesEntry
namespace Go.Sl
open Go Go.RowKit
set_option linter.unusedVariables false
set_option linter.unusedSimpArgs false
theorem Rd.bytesOf {P : Program} {w : World} {v : Value} {l : List UInt8} (h : Rd 1 w v l.length (bcells l)) : (Extern.Bytes.bytesOf v).run P w = .ok ⟨l.toArray⟩ w := by
  obtain ⟨hl, A, cap, rfl, hnc, hcm, ⟨rfl, rfl⟩ | ⟨ad, rfl, hc⟩⟩ := h
  · have : l = [] := List.eq_nil_of_length_eq_zero (by omega)
    subst this
    simp [Extern.Bytes.bytesOf, Sem.run_pure]
    rfl
  · have hr := Lib.run_loadBytesX (P := P) (w := w) (l.map fun c => (c.toNat : Int)) ad .empty (fun j x hj => by
      have hj' : j < l.length := by have := (List.getElem?_eq_some_iff.1 hj).1; simpa using this
      obtain ⟨b, off, sp⟩ := ad
      obtain ⟨h2, h3⟩ := hc j _ (bcells_get hj')
      simp only at h2
      subst h2
      rw [addr_add]
      have hx : x = (l[j].toNat : Int) := by
        rw [List.getElem?_map, List.getElem?_eq_getElem hj'] at hj
        simpa using hj.symm
      rw [hx]
      exact h3)
    rw [List.length_map] at hr
    show (Extern.Bytes.loadBytes ad l.length .empty).run P w = _
    rw [hr]
    have e : Lib.bytesOf (l.map fun c => (c.toNat : Int)) = l := by
      unfold Lib.bytesOf
      rw [List.map_map]
      conv => rhs; rw [← List.map_id l]
      refine List.map_congr_left fun c _ => ?_
      simp
    rw [e]
    simp
theorem run_compareSl {P : Program} {w : World} {v1 v2 : Value} {a b : List UInt8} (h1 : Rd 1 w v1 a.length (bcells a)) (h2 : Rd 1 w v2 b.length (bcells b)) :
    (Extern.BytealgCompare.compare #[v1, v2]).run P w = .ok (.int .i64 (Lib.compareBytes a b)) w := by
  change Sem.run P (do Pure.pure (goInt (Extern.BytealgCompare.cmp (← Extern.Bytes.bytesOf v1) (← Extern.Bytes.bytesOf v2)))) w = _
  simp only [Sem.run_bind, h1.bytesOf, h2.bytesOf, Sem.run_pure, Result.andThen]
  rw [Lib.cmp_eq]
  rfl
/-- the first place of a byte, -1 of none -/
def idxOf (l : List UInt8) (c : UInt8) : Int := match (List.range l.length).find? fun i => l.getD i 0 == c with | some i => (i : Int) | none => -1
theorem run_indexSl {P : Program} {w : World} {v : Value} {l : List UInt8} (h : Rd 1 w v l.length (bcells l)) (c : UInt8) :
    (Extern.BytealgIndexByte.indexByte #[v, .int .u8 (c.toNat : Int)]).run P w = .ok (.int .i64 (idxOf l c)) w := by
  change Sem.run P (do let b ← Extern.Bytes.bytesOf v; let c ← Extern.Bytes.asByte (.int .u8 (c.toNat : Int)); match (List.range b.size).find? fun i => b[i]! == c with | some i => Pure.pure (goInt i) | none => Pure.pure (goInt (-1))) w = _
  simp only [Sem.run_bind, h.bytesOf, Sem.run_pure, Result.andThen, Extern.Bytes.asByte]
  have e : (fun i => (ByteArray.mk l.toArray)[i]! == (c.toNat : Int).toNat.toUInt8) = fun i => l.getD i 0 == c := by
    funext i
    rw [Lib.get!_eq]
    simp
  rw [e]
  show Sem.run P (match (List.range l.length).find? (fun i => l.getD i 0 == c) with | some i => _ | none => _) w = _
  unfold idxOf
  cases (List.range l.length).find? (fun i => l.getD i 0 == c) <;> rfl
end Go.Sl
namespace Go.Proofs.YtijcjjinafpomaaDoor
open Go.RowKit Go.Sl Go.Sha
set_option linter.unusedVariables false
set_option linter.unusedSimpArgs false
set_option maxHeartbeats 1000000 in
theorem bcompare_any (a b : List UInt8) (v1 v2 : Value) (w : World) (h1 : Rd 1 w v1 a.length (bcells a)) (h2 : Rd 1 w v2 b.length (bcells b)) :
    Calls Tryd.prog 23 #[v1, v2] w fun e w' => e = .returned (.int .i64 (Lib.compareBytes a b)) ∧ w' = w := by
  have HC := Lib.hid (run_compareSl (P := Tryd.prog) h1 h2)
  clear h1 h2
  go_enter Tryd.func23, Tryd.ntmps23
  go_wp2
  rw [run_callFunc_extern Tryd.func30 (by kernel_rfl) (by kernel_rfl) (by kernel_rfl) (e := Extern.BytealgCompare.compare) (by kernel_rfl), HC.out]
  simp only [Result.andThen]
  rw [Oper.upon_value]
  go_wp2
  go_ret
  exact ⟨rfl, rfl⟩
set_option maxHeartbeats 1000000 in
theorem bindex_any (l : List UInt8) (c : UInt8) (v : Value) (w : World) (h : Rd 1 w v l.length (bcells l)) :
    Calls Tryd.prog 19 #[v, .int .u8 (c.toNat : Int)] w fun e w' => e = .returned (.int .i64 (idxOf l c)) ∧ w' = w := by
  have HC := Lib.hid (run_indexSl (P := Tryd.prog) h c)
  clear h
  go_enter Tryd.func19, Tryd.ntmps19
  go_wp2
  rw [run_callFunc_extern Tryd.func28 (by kernel_rfl) (by kernel_rfl) (by kernel_rfl) (e := Extern.BytealgIndexByte.indexByte) (by kernel_rfl), HC.out]
  simp only [Result.andThen]
  rw [Oper.upon_value]
  go_wp2
  go_ret
  exact ⟨rfl, rfl⟩
end Go.Proofs.YtijcjjinafpomaaDoor
