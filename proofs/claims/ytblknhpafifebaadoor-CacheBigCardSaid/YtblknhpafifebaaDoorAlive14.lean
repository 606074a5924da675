/-
  coldstorelaw14.alive.
-/
import Derived.Test.YtblknhpafifebaaDoorCacheI
import Derived.Test.YtblknhpafifebaaDoorMark
namespace Go.Proofs.YtblknhpafifebaaDoor
open Go Go.RowKit Go.Sl Go.Sha
set_option linter.unusedVariables false
set_option linter.unusedSimpArgs false
set_option maxRecDepth 100000

theorem rd_bytes {st : World} {R : HProp} {w : World} {g : Nat} {l : List UInt8} {t : TypeId} {fr : Nat × Nat} (h : Has st (sep (blk g (.cells (bcells l).toArray t fr)) R) w) (hl : l.length ≤ maxLen) : Rd 1 w (.slice (some ⟨g, 0, none⟩) l.length l.length) l.length (bcells l) :=
  ⟨by simp [bcells_length], _, l.length, rfl, Nat.le_refl _, hl, .inr ⟨_, rfl, fun j u hu => ⟨rfl, by rw [Nat.zero_add, h.cell, List.getElem?_toArray]; exact hu⟩⟩⟩
theorem beq_comm8 (a b : List UInt8) : (a == b) = (b == a) := by
  by_cases h : a = b
  · rw [h]
  · rw [beq_eq_false_iff_ne.2 h, beq_eq_false_iff_ne.2 (Ne.symm h)]
theorem lv1 (S1 : List UInt8) : putL 3 [] S1 eAB = [(S1, eAB)] := by simp [putL, dropL, placeL, trimL]
theorem lv2 (S1 S2 : List UInt8) (h : (S1 == S2) = false) : putL 3 [(S1, eAB)] S2 eC = [(S1, eAB), (S2, eC)] := by simp [putL, dropL, placeL, trimL, totL, h, List.findIdx?_cons]
theorem lv3 (S1 S2 S3 : List UInt8) (h13 : (S1 == S3) = false) (h23 : (S2 == S3) = false) : putL 3 [(S1, eAB), (S2, eC)] S3 eD = [(S2, eC), (S3, eD)] := by simp [putL, dropL, placeL, trimL, totL, h13, h23, List.findIdx?_cons]
theorem lv4 (S1 S2 S3 : List UInt8) (h21 : (S2 == S1) = false) (h31 : (S3 == S1) = false) : getL S1 [(S2, eC), (S3, eD)] = ([(S2, eC), (S3, eD)], [], false) := by simp [getL, placeL, h21, h31, List.findIdx?_cons]
theorem lv5 (S2 S3 : List UInt8) (h : (sha eC == S2) = true) : getL S2 [(S2, eC), (S3, eD)] = ([(S3, eD), (S2, eC)], eC, true) := by simp [getL, placeL, List.findIdx?_cons]; simpa using h
theorem lv6 (S2 S3 : List UInt8) : spoilL S3 3 [(S3, eD), (S2, eC)] = ([(S3, [108]), (S2, eC)], true) := by simp [spoilL, placeL, List.findIdx?_cons, Sl.flip]; decide
theorem lv7 (S2 S3 : List UInt8) (h : (sha [108] == S3) = false) : getL S3 [(S3, [108]), (S2, eC)] = ([(S2, eC)], [], false) := by simp [getL, placeL, List.findIdx?_cons]; simpa using h

set_option maxHeartbeats 4000000 in
theorem alive_any (st : World) (R : HProp) (hk : Keys st R) (hst : Start st R) (w : World) (h : Has st R w) :
    Calls Tryd.prog 8 #[] w fun e w' => e = .returned (.bool true) ∧ Has st R w' := by
  obtain ⟨S1, hS1⟩ : ∃ S, S = sha eAB := ⟨_, rfl⟩
  obtain ⟨S2, hS2⟩ : ∃ S, S = sha eC := ⟨_, rfl⟩
  obtain ⟨S3, hS3⟩ : ∃ S, S = sha eD := ⟨_, rfl⟩
  have h12 : (S1 == S2) = false := by rw [hS1, hS2]; exact live_ab_c
  have h13 : (S1 == S3) = false := by rw [hS1, hS3]; exact live_ab_d
  have h23 : (S2 == S3) = false := by rw [hS2, hS3]; exact live_c_d
  have l1 : S1.length = 32 := by rw [hS1]; exact sha_length _
  have l2 : S2.length = 32 := by rw [hS2]; exact sha_length _
  have l3 : S3.length = 32 := by rw [hS3]; exact sha_length _
  obtain ⟨L1, hL1⟩ : ∃ L : CL, L = [(S1, eAB)] := ⟨_, rfl⟩
  obtain ⟨L2, hL2⟩ : ∃ L : CL, L = [(S1, eAB), (S2, eC)] := ⟨_, rfl⟩
  obtain ⟨L3, hL3⟩ : ∃ L : CL, L = [(S2, eC), (S3, eD)] := ⟨_, rfl⟩
  obtain ⟨L5, hL5⟩ : ∃ L : CL, L = [(S3, eD), (S2, eC)] := ⟨_, rfl⟩
  obtain ⟨L6, hL6⟩ : ∃ L : CL, L = [(S3, [108]), (S2, eC)] := ⟨_, rfl⟩
  obtain ⟨L7, hL7⟩ : ∃ L : CL, L = [(S2, eC)] := ⟨_, rfl⟩
  have HN := Lib.hid (newC (st := st) (R := R) (lim := 3) (l2 := 3) (by decide) (by decide))
  have HP1 := Lib.hid (putC (st := st) (R := R) (lim := 3) (L := []) (L' := L1) (b := eAB) (S := S1) hk hst hS1 (by rw [hL1]; exact (lv1 S1).symm) (by simp) (by simp [totL]) (by decide) (by decide))
  have HP2 := Lib.hid (putC (st := st) (R := R) (lim := 3) (L := L1) (L' := L2) (b := eC) (S := S2) hk hst hS2 (by rw [hL1, hL2]; exact (lv2 S1 S2 h12).symm) (by rw [hL1]; simp) (by rw [hL1]; simp [totL]) (by decide) (by decide))
  have HP3 := Lib.hid (putC (st := st) (R := R) (lim := 3) (L := L2) (L' := L3) (b := eD) (S := S3) hk hst hS3 (by rw [hL2, hL3]; exact (lv3 S1 S2 S3 h13 h23).symm) (by rw [hL2]; simp) (by rw [hL2]; simp [totL]) (by decide) (by decide))
  have HG1 := Lib.hid (getC (st := st) (R := R) (lim := 3) (L := L3) (L' := L3) (id := S1) (g := []) (ok := false) hk hst l1 (by rw [hL3]; exact lv4 S1 S2 S3 (by rw [beq_comm8]; exact h12) (by rw [beq_comm8]; exact h13)) (by rw [hL3]; simp) (by rw [hL3]; simp [totL]))
  have HG2 := Lib.hid (getC (st := st) (R := R) (lim := 3) (L := L3) (L' := L5) (id := S2) (g := eC) (ok := true) hk hst l2 (by rw [hL3, hL5]; exact lv5 S2 S3 (by rw [hS2]; simp)) (by rw [hL3]; simp) (by rw [hL3]; simp [totL]))
  have HZ2 := Lib.hid (sizeC (st := st) (lim := 3) (L := L5) (n := 2) (by rw [hL5]; simp [totL]))
  have HSP := Lib.hid (spoilC (st := st) (lim := 3) (L := L5) (L' := L6) (id := S3) (bit := 3) (ok := true) l3 (by rw [hL5, hL6]; exact lv6 S2 S3) (by rw [hL5]; simp) (by rw [hL5]; simp [totL]))
  have HG3 := Lib.hid (getC (st := st) (R := R) (lim := 3) (L := L6) (L' := L7) (id := S3) (g := []) (ok := false) hk hst l3 (by rw [hL6, hL7]; exact lv7 S2 S3 (by rw [hS3]; exact live_spoilt)) (by rw [hL6]; simp) (by rw [hL6]; simp [totL]))
  have HAL := Lib.hid (allC (st := st) (lim := 3) (L := L7) (most := 9) (T := [S2]) (by rw [hL7]; rfl) (by rw [hL7]; simp))
  have HWI := Lib.hid (wipeC (st := st) (lim := 3) (L := L7))
  have HLE := Lib.hid (lenC (st := st) (lim := 3) (L := []) (n := 0) rfl)
  have HZ0 := Lib.hid (sizeC (st := st) (lim := 3) (L := []) (n := 0) rfl)
  have HH := Lib.hid h
  have HI1 : Hid ((Tryd.prog.info? 34).map (·.size) = some (bcells S1).toArray.size) := Lib.hid (by rw [List.size_toArray, bcells_length, l1]; exact infoID)
  have HJ1 : Hid ((Tryd.prog.info? 34).map (·.size) = some (bcells S1).length) := Lib.hid (by rw [bcells_length, l1]; exact infoID)
  have HO1 : Hid ((bcells (List.replicate 32 (0 : UInt8))).toArray.size = (bcells S1).toArray.size) := Lib.hid (by simp [bcells_length, l1])
  have HI2 : Hid ((Tryd.prog.info? 34).map (·.size) = some (bcells S2).toArray.size) := Lib.hid (by rw [List.size_toArray, bcells_length, l2]; exact infoID)
  have HJ2 : Hid ((Tryd.prog.info? 34).map (·.size) = some (bcells S2).length) := Lib.hid (by rw [bcells_length, l2]; exact infoID)
  have HO2 : Hid ((bcells (List.replicate 32 (0 : UInt8))).toArray.size = (bcells S2).toArray.size) := Lib.hid (by simp [bcells_length, l2])
  have HI3 : Hid ((Tryd.prog.info? 34).map (·.size) = some (bcells S3).toArray.size) := Lib.hid (by rw [List.size_toArray, bcells_length, l3]; exact infoID)
  have HJ3 : Hid ((Tryd.prog.info? 34).map (·.size) = some (bcells S3).length) := Lib.hid (by rw [bcells_length, l3]; exact infoID)
  have HO3 : Hid ((bcells (List.replicate 32 (0 : UInt8))).toArray.size = (bcells S3).toArray.size) := Lib.hid (by simp [bcells_length, l3])
  obtain ⟨Z, hZ⟩ : ∃ Z, Z = (bcells (List.replicate 32 (0 : UInt8))).toArray := ⟨_, rfl⟩
  have HZI : Hid ((Tryd.prog.info? 34).map (·.zero) = some (some (.agg Z))) := Lib.hid (by rw [hZ]; exact zeroID)
  rw [← hZ] at HO1 HO2 HO3
  clear hS1 hS2 hS3 h12 h13 h23 l1 l2 l3 hL1 hL2 hL3 hL5 hL6 hL7 h hk hst hZ
  go_enter Tryd.func8, Tryd.ntmps8
  go_wp2_with (first
    | (have _k := T11; go_at_call 23; refine (HZ0.out _ _ _ T11.out).mono ?_; rintro e w9 ⟨rfl, h9⟩; have T12 := Lib.hid h9; clear h9)
    | (have _k := T10; go_at_call 22; refine (HLE.out _ _ _ T10.out).mono ?_; rintro e w9 ⟨rfl, h9⟩; have T11 := Lib.hid h9; clear h9)
    | (have _k := T9; go_at_call 19; refine (HWI.out _ _ _ T9.out).mono ?_; rintro e w9 ⟨rfl, h9⟩; have T10 := Lib.hid h9; clear h9)
    | (have _k := T8; go_at_call 21; refine (HAL.out _ _ _ T8.out).mono ?_; rintro e w9 ⟨Al, cl, rfl, h9⟩; have T9 := Lib.hid h9.right; clear h9)
    | (have _k := T7; go_at_call 15; refine (HG3.out _ _ _ (fun w h => h.right.right.right) T7.out).mono ?_; rintro e w9 ⟨Az, cz, rfl, h9⟩; have T8 := Lib.hid h9.right; clear h9)
    | (have _k := T6; go_at_call 18; refine (HSP.out _ _ _ T6.out).mono ?_; rintro e w9 ⟨rfl, h9⟩; have T7 := Lib.hid h9; clear h9)
    | (have _k := T5; go_at_call 23; refine (HZ2.out _ _ _ T5.out).mono ?_; rintro e w9 ⟨rfl, h9⟩; have T6 := Lib.hid h9.drop2; clear h9)
    | (have _k := T4; go_at_call 15; refine (HG2.out _ _ _ (fun w h => h.right.right.right) T4.out).mono ?_; rintro e w9 ⟨Ay, cy, rfl, h9⟩; have T5 := Lib.hid h9.second; clear h9)
    | (have _k := T3; go_at_call 15; refine (HG1.out _ _ _ (fun w h => h.right.right.right) T3.out).mono ?_; rintro e w9 ⟨Ax, cx, rfl, h9⟩; have T4 := Lib.hid h9.right; clear h9)
    | (have _k := M2; go_at_call 13; refine (HP3.out _ _ _ _ (fun w h => h.right) (fun w h => rd_bytes (l := eD) h (by decide)) M2.out).mono ?_; rintro e w9 ⟨rfl, h9⟩; have C3 := Lib.hid h9.drop2; clear h9)
    | (have _k := M1; go_at_call 13; refine (HP2.out _ _ _ _ (fun w h => h.right) (fun w h => rd_bytes (l := eC) h (by decide)) M1.out).mono ?_; rintro e w9 ⟨rfl, h9⟩; have C2 := Lib.hid h9.drop2; clear h9)
    | (have _k := M0; go_at_call 13; refine (HP1.out _ _ _ _ (fun w h => h.right) (fun w h => rd_bytes (l := eAB) h (by decide)) M0.out).mono ?_; rintro e w9 ⟨rfl, h9⟩; have C1 := Lib.hid h9.drop2; clear h9)
    | (go_at_call 10; refine (HN.out _ HH.out).mono ?_; rintro e w9 ⟨p, rfl, h9⟩; have C0 := Lib.hid h9; clear h9)
    | ((first | (with_reducible refine wpList_plain rfl ?_) | ((with_reducible refine wpList_yes _ _ rfl ?_ ?_); (focus rfl))); intro _ hk; (first
      | (have _k := T7; refine opw_loadMid 34 _ rfl ic 0 rfl (bcells S3) _ Tryd.underlying34 rfl HJ3.out T7.out.fourth (by simp) (hk _ _ ?_))
      | (have _k := T6; refine opw_loadMid 34 _ rfl ic 0 rfl (bcells S3) _ Tryd.underlying34 rfl HJ3.out T6.out.fourth (by simp) (hk _ _ ?_))
      | (refine opw_cmpStr .neq _ _ _ _ eC eC false rfl rfl rfl (by simp [cmpS]) (hk _ _ ?_))
      | (have _k := T5; refine opw_toStr _ _ 5 _ Tryd.underlying30 Tryd.underlying5 Tryd.underlying9 rfl (.slice Ay 1 cy) 1 eC rfl (Rd.of_row T5.out.second.ownsRow) (hk _ _ ?_))
      | (have _k := T4; refine opw_loadMid 34 _ rfl ib 0 rfl (bcells S2) _ Tryd.underlying34 rfl HJ2.out T4.out.third (by simp) (hk _ _ ?_))
      | (have _k := T3; refine opw_loadMid 34 _ rfl ia 0 rfl (bcells S1) _ Tryd.underlying34 rfl HJ1.out T3.out.second (by simp) (hk _ _ ?_))
      | (have _k := T2; refine opw_storeRow 34 _ _ rfl ic (bcells S3).toArray rfl rfl 34 Z HI3.out HO3.out (bcells_all _) (T2.out.cast (show _ = sep (blk ic (.cells Z 34 (0, 0))) (sep (blk ib (.cells (bcells S2).toArray 34 (0, 0))) (sep (blk ia (.cells (bcells S1).toArray 34 (0, 0))) (sep (cacheA p L3 3) R))) by ac_rfl)) (fun w9 h9 => hk _ _ ?_); have T3 := Lib.hid (h9.cast (show _ = sep (cacheA p L3 3) (sep (blk ia (.cells (bcells S1).toArray 34 (0, 0))) (sep (blk ib (.cells (bcells S2).toArray 34 (0, 0))) (sep (blk ic (.cells (bcells S3).toArray 34 (0, 0))) R))) by ac_rfl)); clear h9)
      | (have _k := T1; refine opw_storeRow 34 _ _ rfl ib (bcells S2).toArray rfl rfl 34 Z HI2.out HO2.out (bcells_all _) (T1.out.cast (show _ = sep (blk ib (.cells Z 34 (0, 0))) (sep (blk ia (.cells (bcells S1).toArray 34 (0, 0))) (sep (blk ic (.cells Z 34 (0, 0))) (sep (cacheA p L3 3) R))) by ac_rfl)) (fun w9 h9 => hk _ _ ?_); have T2 := Lib.hid h9; clear h9)
      | (have _k := A2; refine opw_storeRow 34 _ _ rfl ia (bcells S1).toArray rfl rfl 34 Z HI1.out HO1.out (bcells_all _) (A2.out.cast (show _ = sep (blk ia (.cells Z 34 (0, 0))) (sep (blk ib (.cells Z 34 (0, 0))) (sep (blk ic (.cells Z 34 (0, 0))) (sep (cacheA p L3 3) R))) by ac_rfl)) (fun w9 h9 => hk _ _ ?_); have T1 := Lib.hid h9; clear h9)
      | (have _k := A1; refine opw_alloc 34 (.agg Z) Z rfl HZI.out rfl A1.out (fun ic w9 hp h9 => hk _ _ ?_); clear hp; have A2 := Lib.hid h9; clear h9)
      | (have _k := A0; refine opw_alloc 34 (.agg Z) Z rfl HZI.out rfl A0.out (fun ib w9 hp h9 => hk _ _ ?_); clear hp; have A1 := Lib.hid h9; clear h9)
      | (have _k := C3; refine opw_alloc 34 (.agg Z) Z rfl HZI.out rfl C3.out (fun ia w9 hp h9 => hk _ _ ?_); clear hp; have A0 := Lib.hid h9; clear h9)
      | (have _k := B2; refine opw_mark 30 5 _ rfl qc 1 1 rfl Tryd.underlying30 Tryd.underlying5 B2.out (fun w9 h9 => hk _ _ ?_); have M2 := Lib.hid h9.second; clear h9)
      | (have _k := C2; refine opw_lit 30 1 _ [(0, .int .u8 100)] 5 (bcells eD).toArray rfl rfl (by kernel_rfl) C2.out (fun qc w9 h9 => hk _ _ ?_); have B2 := Lib.hid h9; clear h9)
      | (have _k := B1; refine opw_mark 30 5 _ rfl qb 1 1 rfl Tryd.underlying30 Tryd.underlying5 B1.out (fun w9 h9 => hk _ _ ?_); have M1 := Lib.hid h9.second; clear h9)
      | (have _k := C1; refine opw_lit 30 1 _ [(0, .int .u8 99)] 5 (bcells eC).toArray rfl rfl (by kernel_rfl) C1.out (fun qb w9 h9 => hk _ _ ?_); have B1 := Lib.hid h9; clear h9)
      | (have _k := B0; refine opw_mark 30 5 _ rfl qa 2 2 rfl Tryd.underlying30 Tryd.underlying5 B0.out (fun w9 h9 => hk _ _ ?_); have M0 := Lib.hid h9.second; clear h9)
      | (have _k := C0; refine opw_lit 30 2 _ [(0, .int .u8 97), (1, .int .u8 98)] 5 (bcells eAB).toArray rfl rfl (by kernel_rfl) C0.out (fun qa w9 h9 => hk _ _ ?_); have B0 := Lib.hid h9; clear h9)); simp only [Act.put, List.setIfInBounds_toArray, List.set_cons_zero, List.set_cons_succ]))
  go_ret
  exact ⟨rfl, T12.out.right.right.right.right⟩
end Go.Proofs.YtblknhpafifebaaDoor
