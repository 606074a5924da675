/-
  sha.schedule.
-/
import Derived.Test.YtblknhpafifebaaDoorShaRor
import Derived.Test.YtblknhpafifebaaDoorArr
import Derived.Deep.RegionHeld3
import Derived.Deep.QuietTactic
import Derived.BigQuiet
namespace Go.Proofs.YtblknhpafifebaaDoor
open Go.RowKit Go.Sl Go.Sha
set_option linter.unusedVariables false
set_option linter.unusedSimpArgs false

/-- a block of words -/
abbrev wblk (b : Nat) (t : TypeId) (l : List UInt32) : HProp := blk b (.cells (wcells l).toArray t (0, 0))

theorem words_zero (l : List UInt8) (i : Nat) (h : i < 64) : (wcells (words l i ++ List.replicate (64 - i) 0)).toArray[i]? = some (.int .u32 0) := by
  have hl := words_length l i
  rw [List.getElem?_toArray, wcells_get (by rw [List.length_append, List.length_replicate]; omega), List.getElem_append_right (by omega)]
  simp
theorem words_get (l : List UInt8) (i j : Nat) (h : j < i) : (wcells (words l i ++ List.replicate (64 - i) 0)).toArray[j]? = some (.int .u32 (((words l i).getD j 0).toNat : Int)) := by
  have hl := words_length l i
  have h1 : j < (words l i).length := by omega
  rw [List.getElem?_toArray, wcells_get (by rw [List.length_append]; omega), List.getElem_append_left h1, List.getD_eq_getElem?_getD, List.getElem?_eq_getElem h1, Option.getD_some]

theorem info64 : (Tryd.prog.info? 96).map (·.size) = some 64 := by kernel_rfl
theorem wcells_all (l : List UInt32) : (wcells l).toArray.all (·.oneCell') = true := by
  rw [List.all_toArray, List.all_eq_true]
  exact wcells_one l
set_option maxRecDepth 100000 in
set_option maxHeartbeats 1000000 in
theorem schedule_any (st : World) (R : HProp) (l : List UInt8) (A : Option Addr) (c : Nat) (hs : Sees st R 1 (.slice A l.length c) l.length (bcells l)) (h64 : 64 ≤ l.length) (w : World) (h : Has st R w) :
    Calls Tryd.prog 45 #[.slice A l.length c] w fun e w' => e = .returned (.agg (wcells (words l 64)).toArray) ∧ Has st R w' := by
  have HS := Lib.hid hs
  clear hs
  go_enter Tryd.func45, Tryd.ntmps45
  go_wp2_with (fail)
  go_loopw [7] (fun v7 wr => ∃ i : Nat, i ≤ 64 ∧ v7 = .int .i64 i ∧ Has st (sep (wblk (w.heap.size + 1) 96 (words l i ++ List.replicate (64 - i) 0)) (sep (wblk w.heap.size 96 (List.replicate 64 0)) R)) wr) (fun v7 _ => 64 - (intOf v7).toNat)
  case atStart =>
    have h2 := (h.alloc (.cells (wcells (List.replicate 64 0)).toArray 96 (0, 0))).alloc (.cells (wcells (List.replicate 64 0)).toArray 96 (0, 0))
    rw [World.size_alloc] at h2
    exact ⟨0, Nat.zero_le _, rfl, h2⟩
  case round =>
    obtain ⟨i, hi, rfl, h2⟩ := hrel
    have hc := h2.cell i
    by_cases hlt : i < 64
    · by_cases h16 : i < 16
      · obtain ⟨g, off, cap, e, _, _, hb⟩ := Rd.open (HS.out wr h2.right.right) (by omega)
        injection e with e1 e2 e3
        subst e1
        obtain ⟨j0, hj0⟩ : ∃ j0, j0 = 4 * i := ⟨_, rfl⟩
        obtain ⟨j1, hj1⟩ : ∃ j1, j1 = 4 * i + 1 := ⟨_, rfl⟩
        obtain ⟨j2, hj2⟩ : ∃ j2, j2 = 4 * i + 2 := ⟨_, rfl⟩
        obtain ⟨j3, hj3⟩ : ∃ j3, j3 = 4 * i + 3 := ⟨_, rfl⟩
        have q0 : j0 < l.length := by omega
        have q1 : j1 < l.length := by omega
        have q2 : j2 < l.length := by omega
        have q3 : j3 < l.length := by omega
        have b0 := hb j0 _ (bcells_get q0)
        have b1 := hb j1 _ (bcells_get q1)
        have b2 := hb j2 _ (bcells_get q2)
        have b3 := hb j3 _ (bcells_get q3)
        have w0 : IntKind.i64.wrap (4 * (i : Int)) = (j0 : Int) := by rw [IntWalk.i64_in _ ⟨by omega, by omega⟩]; omega
        have w1 : IntKind.i64.wrap ((j0 : Int) + 1) = (j1 : Int) := by rw [IntWalk.i64_in _ ⟨by omega, by omega⟩]; omega
        have w2 : IntKind.i64.wrap ((j0 : Int) + 2) = (j2 : Int) := by rw [IntWalk.i64_in _ ⟨by omega, by omega⟩]; omega
        have w3 : IntKind.i64.wrap ((j0 : Int) + 3) = (j3 : Int) := by rw [IntWalk.i64_in _ ⟨by omega, by omega⟩]; omega
        have p0 : (0 : Int) ≤ (j0 : Int) ∧ (j0 : Int) < (l.length : Int) := by omega
        have p1 : (0 : Int) ≤ (j1 : Int) ∧ (j1 : Int) < (l.length : Int) := by omega
        have p2 : (0 : Int) ≤ (j2 : Int) ∧ (j2 : Int) < (l.length : Int) := by omega
        have p3 : (0 : Int) ≤ (j3 : Int) ∧ (j3 : Int) < (l.length : Int) := by omega
        have pi : (0 : Int) ≤ (i : Int) ∧ (i : Int) < 64 := by omega
        have hf := h2.free i
        have HJ := Lib.hid (⟨hj0, hj1, hj2, hj3⟩ : _ ∧ _ ∧ _ ∧ _)
        rw [show (wcells (words l i ++ List.replicate (64 - i) 0)).toArray[i]? = some (.int .u32 0) from words_zero l i hlt] at hc
        clear hb e2 e3 hj0 hj1 hj2 hj3
        go_wp2_with (fail)
        go_region_held3 (fun w' => w'.cell? ⟨g, off + j0, none⟩ = some (.int .u8 (l[j0].toNat : Int)) ∧ w'.cell? ⟨g, off + j1, none⟩ = some (.int .u8 (l[j1].toNat : Int)) ∧ w'.cell? ⟨g, off + j2, none⟩ = some (.int .u8 (l[j2].toNat : Int)) ∧ w'.cell? ⟨g, off + j3, none⟩ = some (.int .u8 (l[j3].toNat : Int)))
          (first | exact ⟨b0, b1, b2, b3⟩ | exact ⟨(HS.out _ (h2.drew.set i _).right.right).cell (bcells_get q0), (HS.out _ (h2.drew.set i _).right.right).cell (bcells_get q1), (HS.out _ (h2.drew.set i _).right.right).cell (bcells_get q2), (HS.out _ (h2.drew.set i _).right.right).cell (bcells_get q3)⟩) (fail)
        have h3 := h2.set i (.int .u32 ((l[j0].toUInt32 <<< 24 ||| l[j1].toUInt32 <<< 16 ||| l[j2].toUInt32 <<< 8 ||| l[j3].toUInt32).toNat : Int))
        have hw : l[j0].toUInt32 <<< 24 ||| l[j1].toUInt32 <<< 16 ||| l[j2].toUInt32 <<< 8 ||| l[j3].toUInt32 = word l i := by
          obtain ⟨rfl, rfl, rfl, rfl⟩ := HJ.out
          unfold word
          simp only [List.getD_eq_getElem?_getD, List.getElem?_eq_getElem q0, List.getElem?_eq_getElem q1, List.getElem?_eq_getElem q2, List.getElem?_eq_getElem q3, Option.getD_some]
        rw [hw] at h3
        have hv := word_val l[j0] l[j1] l[j2] l[j3]
        rw [hw] at hv
        simp only [hv]
        have h4 := h3
        rw [List.setIfInBounds_toArray, wcells_set, set_next (words l i) i (words_length l i) hlt, show words l i ++ [word l i] = words l (i + 1) from by simp [words, h16]] at h4
        have H4 := Lib.hid h4
        clear hv h2 h3 h4 hw b0 b1 b2 b3 hc hf
        go_wp2
        go_roundw
        case rel => exact ⟨i + 1, by omega, by go_num, H4.out.drew⟩
        case measure => simp [intOf]; omega
      · obtain ⟨j15, hj15⟩ : ∃ j, j = i - 15 := ⟨_, rfl⟩
        obtain ⟨j2, hj2⟩ : ∃ j, j = i - 2 := ⟨_, rfl⟩
        obtain ⟨j16, hj16⟩ : ∃ j, j = i - 16 := ⟨_, rfl⟩
        obtain ⟨j7, hj7⟩ : ∃ j, j = i - 7 := ⟨_, rfl⟩
        have g15 := words_get l i j15 (by omega)
        have g2 := words_get l i j2 (by omega)
        have g16 := words_get l i j16 (by omega)
        have g7 := words_get l i j7 (by omega)
        obtain ⟨x, hx⟩ : ∃ x, x = (words l i).getD j15 0 := ⟨_, rfl⟩
        obtain ⟨y, hy⟩ : ∃ y, y = (words l i).getD j2 0 := ⟨_, rfl⟩
        obtain ⟨u, hu⟩ : ∃ u, u = (words l i).getD j16 0 := ⟨_, rfl⟩
        obtain ⟨v, hv⟩ : ∃ v, v = (words l i).getD j7 0 := ⟨_, rfl⟩
        rw [← hx] at g15
        rw [← hy] at g2
        rw [← hu] at g16
        rw [← hv] at g7
        have b15 := (h2.cell j15).trans g15
        have b2 := (h2.cell j2).trans g2
        have HNX : Hid (u + (rr x 7 ^^^ rr x 18 ^^^ sh x 3) + v + (rr y 17 ^^^ rr y 19 ^^^ sh y 10) = next (words l i) i) := Lib.hid (by
          rw [hx, hy, hu, hv, hj15, hj2, hj16, hj7]; rfl)
        have w15 : IntKind.i64.wrap ((i : Int) - 15) = (j15 : Int) := by rw [IntWalk.i64_in _ ⟨by omega, by omega⟩]; omega
        have w2 : IntKind.i64.wrap ((i : Int) - 2) = (j2 : Int) := by rw [IntWalk.i64_in _ ⟨by omega, by omega⟩]; omega
        have w16 : IntKind.i64.wrap ((i : Int) - 16) = (j16 : Int) := by rw [IntWalk.i64_in _ ⟨by omega, by omega⟩]; omega
        have w7 : IntKind.i64.wrap ((i : Int) - 7) = (j7 : Int) := by rw [IntWalk.i64_in _ ⟨by omega, by omega⟩]; omega
        have p15 : (0 : Int) ≤ (j15 : Int) ∧ (j15 : Int) < 64 := by omega
        have p2 : (0 : Int) ≤ (j2 : Int) ∧ (j2 : Int) < 64 := by omega
        have p16 : (0 : Int) ≤ (j16 : Int) ∧ (j16 : Int) < 64 := by omega
        have p7 : (0 : Int) ≤ (j7 : Int) ∧ (j7 : Int) < 64 := by omega
        have pi : (0 : Int) ≤ (i : Int) ∧ (i : Int) < 64 := by omega
        have HG16 := Lib.hid g16
        have HG7 := Lib.hid g7
        have HJ16 := Lib.hid (show j16 < i by omega)
        have HJ7 := Lib.hid (show j7 < i by omega)
        clear g16 g7 g15 g2 hj15 hj2 hj16 hj7 hx hy hu hv hc
        go_wp2_with (fail)
        go_quiet (fail)
        have h3 := h2.drewN nq
        generalize wr.drewN nq = w5 at h3 ⊢
        clear h2 b15 b2
        have b16 := (h3.cell j16).trans HG16.out
        have b7 := (h3.cell j7).trans HG7.out
        have hset := h3.drew.set i (.int .u32 ((next (words l i) i).toNat : Int))
        have hc := h3.cell i
        have hf := h3.free i
        rw [words_zero l i hlt] at hc
        have H7 := Lib.hid (fun w => ror_any x 7 (by decide) w)
        have H18 := Lib.hid (fun w => ror_any x 18 (by decide) w)
        have H17 := Lib.hid (fun w => ror_any y 17 (by decide) w)
        have H19 := Lib.hid (fun w => ror_any y 19 (by decide) w)
        have ne16 := HJ16.out
        have ne7 := HJ7.out
        have HK : Hid (∀ z : Value, (w5.setCell ⟨w.heap.size + 1, i, none⟩ z).drew.cell? ⟨w.heap.size + 1, j16, none⟩ = some (.int .u32 (u.toNat : Int)) ∧ (w5.setCell ⟨w.heap.size + 1, i, none⟩ z).drew.cell? ⟨w.heap.size + 1, j7, none⟩ = some (.int .u32 (v.toNat : Int))) :=
          Lib.hid (fun z => ⟨((h3.set i z).drew.cell j16).trans ((Array.getElem?_setIfInBounds_ne (by omega)).trans HG16.out), ((h3.set i z).drew.cell j7).trans ((Array.getElem?_setIfInBounds_ne (by omega)).trans HG7.out)⟩)
        clear ne16 ne7
        have HSet := Lib.hid hset
        have H3 := Lib.hid h3
        clear hset h3
        go_wp2_with (fail)
        go_region_held3 (fun w' => w'.cell? ⟨w.heap.size + 1, j16, none⟩ = some (.int .u32 (u.toNat : Int)) ∧ w'.cell? ⟨w.heap.size + 1, j7, none⟩ = some (.int .u32 (v.toNat : Int))) (first | exact ⟨b16, b7⟩ | exact HK.out _)
          (first | (go_at_call_of 46 (Value.int .u32 x.toNat); first | (refine (H7.out _).mono ?_; rintro e w' ⟨rfl, rfl⟩) | (refine (H18.out _).mono ?_; rintro e w' ⟨rfl, rfl⟩)) | (go_at_call_of 46 (Value.int .u32 y.toNat); first | (refine (H17.out _).mono ?_; rintro e w' ⟨rfl, rfl⟩) | (refine (H19.out _).mono ?_; rintro e w' ⟨rfl, rfl⟩)))
        have h4 := HSet.out
        rw [List.setIfInBounds_toArray, wcells_set, set_next (words l i) i (words_length l i) hlt, show words l i ++ [next (words l i) i] = words l (i + 1) from by simp [words, h16]] at h4
        have hv := next_val u v x y
        rw [HNX.out] at hv
        simp only [hv]
        have H4 := Lib.hid h4
        clear hv h4 b16 b7 hc hf
        go_wp2
        go_roundw
        case rel => exact ⟨i + 1, by omega, by go_num, H4.out⟩
        case measure => simp [intOf]; omega
    · obtain rfl : i = 64 := by omega
      rw [show words l 64 ++ List.replicate (64 - 64) 0 = words l 64 by simp] at h2
      have hsz : (wcells (words l 64)).toArray.size = 64 := by simp [wcells_length, words_length]
      have hi64 : (Tryd.prog.info? 96).map (·.size) = some (wcells (words l 64)).toArray.size := by rw [hsz]; exact info64
      have H3 := Lib.hid (h2.second.setRow (wcells (words l 64)).toArray)
      have HI := Lib.hid hi64
      have HZ := Lib.hid hsz
      clear hi64 hsz hc
      go_wp2_with (first
        | (refine wpList_load_row rfl 96 _ rfl _ rfl 96 _ _ _ h2.blk Tryd.underlying96 rfl HI.out ?_)
        | (refine wpList_store_row rfl 96 _ _ rfl _ _ rfl rfl 96 _ h2.second.blk HI.out (by rw [HZ.out]; simp [wcells_length]) (wcells_all _) ?_))
      refine bodyPost_ret (results_cell_row Tryd.results45 _ _ _ 96 _ _ _ rfl H3.out.blk Tryd.underlying96 rfl HI.out) rfl ?_
      exact ⟨rfl, H3.out.right.right⟩
end Go.Proofs.YtblknhpafifebaaDoor
