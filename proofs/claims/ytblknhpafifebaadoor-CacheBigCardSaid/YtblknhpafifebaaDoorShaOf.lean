/-
  sha.Of.
-/
import Derived.Test.YtblknhpafifebaaDoorShaSum
namespace Go.Proofs.YtblknhpafifebaaDoor
open Go.RowKit Go.Sl Go.Sha
set_option linter.unusedVariables false
set_option linter.unusedSimpArgs false

set_option maxRecDepth 100000 in
set_option maxHeartbeats 1000000 in
theorem shaOf_any (st : World) (R : HProp) (b : List UInt8) (v : Value) (hk : Keys st R) (hst : Start st R) (w : World) (h : Has st R w) (hs : Sees st R 1 v b.length (bcells b)) (hmb : b.length ≤ 140737488355000) :
    Calls Tryd.prog 29 #[v] w fun e w' => e = .returned (.agg (bcells (sha b)).toArray) ∧ Has st R w' := by
  have HS := Lib.hid hs
  have HKeys := Lib.hid hk
  have HST := Lib.hid hst
  obtain ⟨Ab, cb, rfl⟩ := hs.form h
  have hz : (bcells (sha b)).toArray.size = 32 := by simp [bcells_length, sha_length]
  have hi32 : (Tryd.prog.info? 34).map (·.size) = some (bcells (sha b)).toArray.size := by rw [hz]; exact infoID
  have hz2 : (bcells (List.replicate 32 (0 : UInt8))).toArray.size = (bcells (sha b)).toArray.size := by rw [hz]; rfl
  have HI := Lib.hid hi32
  have HZ2 := Lib.hid hz2
  obtain ⟨BS, hBS⟩ : ∃ BS, BS = sha b := ⟨_, rfl⟩
  rw [← hBS] at HI HZ2
  rw [← hBS]
  have HBS := Lib.hid hBS
  have HW : Hid (∀ p0 p1 w', Has st (sep (hash p1 []) (sep (blk p0 (.cells (bcells (List.replicate 32 0)).toArray 34 (0, 0))) R)) w' → Calls Tryd.prog 36 #[.pointer (some ⟨p1, 0, none⟩), .slice Ab b.length cb] w' fun e w'' => e = .returned (.tuple #[]) ∧ Has st (sep (hash p1 b) (sep (blk p0 (.cells (bcells (List.replicate 32 0)).toArray 34 (0, 0))) R)) w'') :=
    Lib.hid fun p0 p1 w' h' => write_any st (sep (blk p0 (.cells (bcells (List.replicate 32 0)).toArray 34 (0, 0))) R) p1 [] b (.slice Ab b.length cb) (fun w2 h2 => hk w2 h2.right) (fun w2 h2 => hst w2 h2.right) w' h' (fun w2 h2 => hs w2 h2.right) (by simp; omega)
  have HSU : Hid (∀ p0 p1 w', Has st (sep (hash p1 b) (sep (blk p0 (.cells (bcells (List.replicate 32 0)).toArray 34 (0, 0))) R)) w' → Calls Tryd.prog 37 #[.pointer (some ⟨p1, 0, none⟩)] w' fun e w'' => e = .returned (.agg (bcells BS).toArray) ∧ Has st (sep (hash p1 b) (sep (blk p0 (.cells (bcells (List.replicate 32 0)).toArray 34 (0, 0))) R)) w'') :=
    Lib.hid fun p0 p1 w' h' => by rw [hBS]; exact sum_any st (sep (blk p0 (.cells (bcells (List.replicate 32 0)).toArray 34 (0, 0))) R) p1 b (fun w2 h2 => hk w2 h2.right) (fun w2 h2 => hst w2 h2.right) w' h' hmb
  clear hs hk hst hz hi32 hz2 hBS
  go_enter Tryd.func29, Tryd.ntmps29
  go_wp2_with (first
    | (go_at_call 36; refine (HW.out p0 p1 _ H1.out).mono ?_; rintro e w2 ⟨rfl, h2⟩; have H2 := Lib.hid h2; clear h2)
    | (go_at_call 37; refine (HSU.out p0 p1 _ H2.out).mono ?_; rintro e w3 ⟨rfl, h3⟩; have H3 := Lib.hid h3.second; clear h3)
    | ((with_reducible refine wpList_plain rfl ?_); intro _ hk; (first
      | (refine opw_alloc 34 (.agg (bcells (List.replicate 32 0)).toArray) (bcells (List.replicate 32 0)).toArray rfl zeroID rfl h (fun p0 w0 hp h0 => hk _ _ ?_); clear hp; have H0 := Lib.hid h0; clear h0)
      | (refine opw_alloc 86 (.agg (hcells false ⟨0, 0, 0, 0, 0, 0, 0, 0⟩ (.slice none 0 0) 0)) (hcells false ⟨0, 0, 0, 0, 0, 0, 0, 0⟩ (.slice none 0 0) 0) rfl zeroHash rfl H0.out (fun p1 w1 hp h1 => hk _ _ ?_); clear hp; have H1 := Lib.hid (hash_new h1); clear h1)
      | (refine opw_storeRow 34 _ _ rfl p0 (bcells BS).toArray rfl rfl 34 (bcells (List.replicate 32 0)).toArray HI.out HZ2.out (bcells_all _) H3.out (fun w9 h9 => hk _ _ ?_))); simp only [Act.put, List.setIfInBounds_toArray, List.set_cons_zero, List.set_cons_succ]))
  refine bodyPost_ret (results_cell_row Tryd.results29 _ _ _ 34 _ _ _ rfl h9.blk Tryd.underlying34 rfl HI.out) rfl ?_
  exact ⟨rfl, h9.right.right⟩
end Go.Proofs.YtblknhpafifebaaDoor
