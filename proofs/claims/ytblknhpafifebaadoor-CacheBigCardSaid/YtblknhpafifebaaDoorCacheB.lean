/-
  slices.Delete of kept blobs.
-/
import Derived.Test.YtblknhpafifebaaDoorCacheA
import Derived.Deep.RegionLaw
import Derived.Shelf.RegionOpenPlain
namespace Go.Proofs.YtblknhpafifebaaDoor
open Go.RowKit Go.Sl Go.Sha
set_option linter.unusedVariables false
set_option linter.unusedSimpArgs false
set_option maxRecDepth 100000

theorem zeroVK (w : World) : (zeroValue 75).run Tryd.prog w = .ok (.agg zeroKc.toArray) w := by kernel_rfl
theorem zeroK_one : ∀ v ∈ (Value.agg zeroKc.toArray).cells.toList, v.oneCell' = true := by
  intro v hv
  have hv' : v ∈ zeroKc := by simpa [Value.cells] using hv
  rcases List.mem_append.1 hv' with hv' | hv'
  · exact bcells_onecell _ v hv'
  · rw [List.mem_singleton] at hv'; rw [hv']; rfl
set_option maxHeartbeats 2000000 in
theorem delete_any (st : World) (R : HProp) (g n cap i j M : Nat) (xs : List Value) (w : World) (h : Has st (sep (row 75 33 (.slice (some ⟨g, 0, none⟩) n cap) n xs) R) w) (hij : i < j) (hjn : j ≤ n) (hM : i + (n - j) = M) (h1 : ∀ u ∈ xs, u.oneCell' = true) :
    Calls Tryd.prog 40 #[.slice (some ⟨g, 0, none⟩) n cap, .int .i64 (i : Int), .int .i64 (j : Int)] w fun e w' => e = .returned (.slice (some ⟨g, 0, none⟩) M cap) ∧
      Has st (sep (row 75 33 (.slice (some ⟨g, 0, none⟩) M cap) M (xs.take (i * 33) ++ xs.drop (j * 33))) R) w' := by
  obtain ⟨cur, hnc, hcm, _⟩ := h.row_open
  have hic : i ≤ cap := by omega
  have hjc : j ≤ cap := by omega
  have hil : i ≤ j := by omega
  have hne : ¬ (i = j) := by omega
  have hcm' : cap ≤ 9223372036854775807 := by unfold maxLen at hcm; omega
  have hMn : M ≤ n := by omega
  have hMc : ¬ cap = M := by omega
  have HH := Lib.hid h
  have H1 := Lib.hid h1
  have HM := Lib.hid hM
  obtain ⟨A, hA, hAj⟩ : ∃ A : Addr, (if cap = j then some (⟨g, 0, none⟩ : Addr) else some ⟨g, j * 33, none⟩) = some A ∧ Hid (j < n → A = ⟨g, j * 33, none⟩) := by
    by_cases hc : cap = j
    · exact ⟨⟨g, 0, none⟩, by simp [hc], fun h' => by omega⟩
    · exact ⟨⟨g, j * 33, none⟩, by simp [hc], fun _ => rfl⟩
  have HS : Hid (subA 33 (some ⟨g, 0, none⟩) M cap = some ⟨g, M * 33, none⟩) := Lib.hid (by simp [subA, hMc, addr_add])
  have hkm : M + (n - M) ≤ n := by omega
  clear h h1 hcm hM
  go_enter Tryd.func40, Tryd.ntmps40
  go_wp2_with fail
  go_region_law (refine step_delete rfl (.tmp 22) (.tmp 25) 62 75 33 rfl Tryd.underlying62 infoK M HM.out hil hjn (by simp [Act.eval, Act.put]) (ad := A) (cap - j) (by simp [Act.eval, Act.put, hA]) hAj.out HH.out.drew H1.out ?_; intro w2 ys hyl hyt h2; have HY := Lib.hid hyt; have H2 := Lib.hid h2; clear hyt h2 hyl)
  go_wp2_with ((with_reducible refine wpList_plain rfl ?_); intro _ hk; (first
    | (refine opw_slC 62 75 33 _ _ _ rfl Tryd.underlying62 infoK (A := some ⟨g, 0, none⟩) (n := M) (cap := cap) rfl (by omega) M n (.inr ⟨.i64, rfl⟩) (.inr ⟨.i64, rfl⟩) (by omega) (by omega) (hk _ _ ?_))
    | (refine opw_clear _ 62 75 33 _ rfl Tryd.underlying62 zeroVK rfl zeroK_one (g := g) (n := n) (cap := cap) (k := M) (m := n - M) (A := subA 33 (some ⟨g, 0, none⟩) M cap) (cap - M) rfl (fun _ => HS.out) hkm H2.out (fun w3 zs _ hzt h3 => hk _ _ ?_); have H3 := Lib.hid h3; have HZ := Lib.hid hzt; clear h3 hzt)); simp only [Act.put, List.setIfInBounds_toArray, List.set_cons_zero, List.set_cons_succ])
  go_ret
  refine ⟨rfl, ?_⟩
  have h4 := H3.out.row_cut M hMn
  rw [HZ.out, HY.out] at h4
  exact h4
end Go.Proofs.YtblknhpafifebaaDoor
