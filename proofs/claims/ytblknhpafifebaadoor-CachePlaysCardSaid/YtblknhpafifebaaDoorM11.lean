/-
  Several texts of this proof in one: Alive14, Same14, SameIds, PlaysLaw.
-/
import Derived.Test.YtblknhpafifebaaDoorM6
import Derived.Test.YtblknhpafifebaaDoorM1
import Derived.Test.YtblknhpafifebaaDoorM2
import Derived.Test.YtblknhpafifebaaDoorM3
import Derived.Test.YtblknhpafifebaaDoorM10
import Derived.Test.YtblknhpafifebaaDoorM9
/-
  coldstorelaw14.alive.
-/
namespace Go.Proofs.YtblknhpafifebaaDoor
open Go Go.RowKit Go.Sl Go.Sha
set_option linter.unusedVariables false
set_option linter.unusedSimpArgs false
set_option maxRecDepth 100000

theorem rd_bytes {st : World} {R : HProp} {w : World} {g : Nat} {l : List UInt8} {t : TypeId} {fr : Nat × Nat} (h : Has st (sep (blk g (.cells (bcells l).toArray t fr)) R) w) (hl : l.length ≤ maxLen) : Rd 1 w (.slice (some ⟨g, 0, none⟩) l.length l.length) l.length (bcells l) :=
  ⟨by simp [bcells_length], _, l.length, rfl, Nat.le_refl _, hl, .inr ⟨_, rfl, fun j u hu => ⟨rfl, by rw [Nat.zero_add, h.cell, List.getElem?_toArray]; exact hu⟩⟩⟩
theorem beq_comm8 (a b : List UInt8) : (a == b) = (b == a) := by
  by_cases h : a = b
  · rw [h]
  · rw [beq_eq_false_iff_ne.2 h, beq_eq_false_iff_ne.2 (Ne.symm h)]
theorem lv1 (S1 : List UInt8) : putL 3 [] S1 eAB = [(S1, eAB)] := by simp [putL, dropL, placeL, trimL]
theorem lv2 (S1 S2 : List UInt8) (h : (S1 == S2) = false) : putL 3 [(S1, eAB)] S2 eC = [(S1, eAB), (S2, eC)] := by simp [putL, dropL, placeL, trimL, totL, h, List.findIdx?_cons]
theorem lv3 (S1 S2 S3 : List UInt8) (h13 : (S1 == S3) = false) (h23 : (S2 == S3) = false) : putL 3 [(S1, eAB), (S2, eC)] S3 eD = [(S2, eC), (S3, eD)] := by simp [putL, dropL, placeL, trimL, totL, h13, h23, List.findIdx?_cons]
theorem lv4 (S1 S2 S3 : List UInt8) (h21 : (S2 == S1) = false) (h31 : (S3 == S1) = false) : getL S1 [(S2, eC), (S3, eD)] = ([(S2, eC), (S3, eD)], [], false) := by simp [getL, placeL, h21, h31, List.findIdx?_cons]
theorem lv5 (S2 S3 : List UInt8) (h : (sha eC == S2) = true) : getL S2 [(S2, eC), (S3, eD)] = ([(S3, eD), (S2, eC)], eC, true) := by simp [getL, placeL, List.findIdx?_cons]; simpa using h
theorem lv6 (S2 S3 : List UInt8) : spoilL S3 3 [(S3, eD), (S2, eC)] = ([(S3, [108]), (S2, eC)], true) := by simp [spoilL, placeL, List.findIdx?_cons, Sl.flip]; decide
theorem lv7 (S2 S3 : List UInt8) (h : (sha [108] == S3) = false) : getL S3 [(S3, [108]), (S2, eC)] = ([(S2, eC)], [], false) := by simp [getL, placeL, List.findIdx?_cons]; simpa using h

set_option maxHeartbeats 4000000 in
theorem alive_any (st : World) (R : HProp) (hk : Keys st R) (hst : Start st R) (w : World) (h : Has st R w) :
    Calls Tryd.prog 8 #[] w fun e w' => e = .returned (.bool true) ∧ Has st R w' := by
  obtain ⟨S1, hS1⟩ : ∃ S, S = sha eAB := ⟨_, rfl⟩
  obtain ⟨S2, hS2⟩ : ∃ S, S = sha eC := ⟨_, rfl⟩
  obtain ⟨S3, hS3⟩ : ∃ S, S = sha eD := ⟨_, rfl⟩
  have h12 : (S1 == S2) = false := by rw [hS1, hS2]; exact live_ab_c
  have h13 : (S1 == S3) = false := by rw [hS1, hS3]; exact live_ab_d
  have h23 : (S2 == S3) = false := by rw [hS2, hS3]; exact live_c_d
  have l1 : S1.length = 32 := by rw [hS1]; exact sha_length _
  have l2 : S2.length = 32 := by rw [hS2]; exact sha_length _
  have l3 : S3.length = 32 := by rw [hS3]; exact sha_length _
  obtain ⟨L1, hL1⟩ : ∃ L : CL, L = [(S1, eAB)] := ⟨_, rfl⟩
  obtain ⟨L2, hL2⟩ : ∃ L : CL, L = [(S1, eAB), (S2, eC)] := ⟨_, rfl⟩
  obtain ⟨L3, hL3⟩ : ∃ L : CL, L = [(S2, eC), (S3, eD)] := ⟨_, rfl⟩
  obtain ⟨L5, hL5⟩ : ∃ L : CL, L = [(S3, eD), (S2, eC)] := ⟨_, rfl⟩
  obtain ⟨L6, hL6⟩ : ∃ L : CL, L = [(S3, [108]), (S2, eC)] := ⟨_, rfl⟩
  obtain ⟨L7, hL7⟩ : ∃ L : CL, L = [(S2, eC)] := ⟨_, rfl⟩
  have HN := Lib.hid (newC (st := st) (R := R) (lim := 3) (l2 := 3) (by decide) (by decide))
  have HP1 := Lib.hid (putC (st := st) (R := R) (lim := 3) (L := []) (L' := L1) (b := eAB) (S := S1) hk hst hS1 (by rw [hL1]; exact (lv1 S1).symm) (by simp) (by simp [totL]) (by decide) (by decide))
  have HP2 := Lib.hid (putC (st := st) (R := R) (lim := 3) (L := L1) (L' := L2) (b := eC) (S := S2) hk hst hS2 (by rw [hL1, hL2]; exact (lv2 S1 S2 h12).symm) (by rw [hL1]; simp) (by rw [hL1]; simp [totL]) (by decide) (by decide))
  have HP3 := Lib.hid (putC (st := st) (R := R) (lim := 3) (L := L2) (L' := L3) (b := eD) (S := S3) hk hst hS3 (by rw [hL2, hL3]; exact (lv3 S1 S2 S3 h13 h23).symm) (by rw [hL2]; simp) (by rw [hL2]; simp [totL]) (by decide) (by decide))
  have HG1 := Lib.hid (getC (st := st) (R := R) (lim := 3) (L := L3) (L' := L3) (id := S1) (g := []) (ok := false) hk hst l1 (by rw [hL3]; exact lv4 S1 S2 S3 (by rw [beq_comm8]; exact h12) (by rw [beq_comm8]; exact h13)) (by rw [hL3]; simp) (by rw [hL3]; simp [totL]))
  have HG2 := Lib.hid (getC (st := st) (R := R) (lim := 3) (L := L3) (L' := L5) (id := S2) (g := eC) (ok := true) hk hst l2 (by rw [hL3, hL5]; exact lv5 S2 S3 (by rw [hS2]; simp)) (by rw [hL3]; simp) (by rw [hL3]; simp [totL]))
  have HZ2 := Lib.hid (sizeC (st := st) (lim := 3) (L := L5) (n := 2) (by rw [hL5]; simp [totL]))
  have HSP := Lib.hid (spoilC (st := st) (lim := 3) (L := L5) (L' := L6) (id := S3) (bit := 3) (ok := true) l3 (by rw [hL5, hL6]; exact lv6 S2 S3) (by rw [hL5]; simp) (by rw [hL5]; simp [totL]))
  have HG3 := Lib.hid (getC (st := st) (R := R) (lim := 3) (L := L6) (L' := L7) (id := S3) (g := []) (ok := false) hk hst l3 (by rw [hL6, hL7]; exact lv7 S2 S3 (by rw [hS3]; exact live_spoilt)) (by rw [hL6]; simp) (by rw [hL6]; simp [totL]))
  have HAL := Lib.hid (allC (st := st) (lim := 3) (L := L7) (most := 9) (T := [S2]) (by rw [hL7]; rfl) (by rw [hL7]; simp))
  have HWI := Lib.hid (wipeC (st := st) (lim := 3) (L := L7))
  have HLE := Lib.hid (lenC (st := st) (lim := 3) (L := []) (n := 0) rfl)
  have HZ0 := Lib.hid (sizeC (st := st) (lim := 3) (L := []) (n := 0) rfl)
  have HH := Lib.hid h
  have HI1 : Hid ((Tryd.prog.info? 34).map (·.size) = some (bcells S1).toArray.size) := Lib.hid (by rw [List.size_toArray, bcells_length, l1]; exact infoID)
  have HJ1 : Hid ((Tryd.prog.info? 34).map (·.size) = some (bcells S1).length) := Lib.hid (by rw [bcells_length, l1]; exact infoID)
  have HO1 : Hid ((bcells (List.replicate 32 (0 : UInt8))).toArray.size = (bcells S1).toArray.size) := Lib.hid (by simp [bcells_length, l1])
  have HI2 : Hid ((Tryd.prog.info? 34).map (·.size) = some (bcells S2).toArray.size) := Lib.hid (by rw [List.size_toArray, bcells_length, l2]; exact infoID)
  have HJ2 : Hid ((Tryd.prog.info? 34).map (·.size) = some (bcells S2).length) := Lib.hid (by rw [bcells_length, l2]; exact infoID)
  have HO2 : Hid ((bcells (List.replicate 32 (0 : UInt8))).toArray.size = (bcells S2).toArray.size) := Lib.hid (by simp [bcells_length, l2])
  have HI3 : Hid ((Tryd.prog.info? 34).map (·.size) = some (bcells S3).toArray.size) := Lib.hid (by rw [List.size_toArray, bcells_length, l3]; exact infoID)
  have HJ3 : Hid ((Tryd.prog.info? 34).map (·.size) = some (bcells S3).length) := Lib.hid (by rw [bcells_length, l3]; exact infoID)
  have HO3 : Hid ((bcells (List.replicate 32 (0 : UInt8))).toArray.size = (bcells S3).toArray.size) := Lib.hid (by simp [bcells_length, l3])
  obtain ⟨Z, hZ⟩ : ∃ Z, Z = (bcells (List.replicate 32 (0 : UInt8))).toArray := ⟨_, rfl⟩
  have HZI : Hid ((Tryd.prog.info? 34).map (·.zero) = some (some (.agg Z))) := Lib.hid (by rw [hZ]; exact zeroID)
  rw [← hZ] at HO1 HO2 HO3
  clear hS1 hS2 hS3 h12 h13 h23 l1 l2 l3 hL1 hL2 hL3 hL5 hL6 hL7 h hk hst hZ
  go_enter Tryd.func8, Tryd.ntmps8
  go_wp2_with (first
    | (have _k := T11; go_at_call 23; refine (HZ0.out _ _ _ T11.out).mono ?_; rintro e w9 ⟨rfl, h9⟩; have T12 := Lib.hid h9; clear h9)
    | (have _k := T10; go_at_call 22; refine (HLE.out _ _ _ T10.out).mono ?_; rintro e w9 ⟨rfl, h9⟩; have T11 := Lib.hid h9; clear h9)
    | (have _k := T9; go_at_call 19; refine (HWI.out _ _ _ T9.out).mono ?_; rintro e w9 ⟨rfl, h9⟩; have T10 := Lib.hid h9; clear h9)
    | (have _k := T8; go_at_call 21; refine (HAL.out _ _ _ T8.out).mono ?_; rintro e w9 ⟨Al, cl, rfl, h9⟩; have T9 := Lib.hid h9.right; clear h9)
    | (have _k := T7; go_at_call 15; refine (HG3.out _ _ _ (fun w h => h.right.right.right) T7.out).mono ?_; rintro e w9 ⟨Az, cz, rfl, h9⟩; have T8 := Lib.hid h9.right; clear h9)
    | (have _k := T6; go_at_call 18; refine (HSP.out _ _ _ T6.out).mono ?_; rintro e w9 ⟨rfl, h9⟩; have T7 := Lib.hid h9; clear h9)
    | (have _k := T5; go_at_call 23; refine (HZ2.out _ _ _ T5.out).mono ?_; rintro e w9 ⟨rfl, h9⟩; have T6 := Lib.hid h9.drop2; clear h9)
    | (have _k := T4; go_at_call 15; refine (HG2.out _ _ _ (fun w h => h.right.right.right) T4.out).mono ?_; rintro e w9 ⟨Ay, cy, rfl, h9⟩; have T5 := Lib.hid h9.second; clear h9)
    | (have _k := T3; go_at_call 15; refine (HG1.out _ _ _ (fun w h => h.right.right.right) T3.out).mono ?_; rintro e w9 ⟨Ax, cx, rfl, h9⟩; have T4 := Lib.hid h9.right; clear h9)
    | (have _k := M2; go_at_call 13; refine (HP3.out _ _ _ _ (fun w h => h.right) (fun w h => rd_bytes (l := eD) h (by decide)) M2.out).mono ?_; rintro e w9 ⟨rfl, h9⟩; have C3 := Lib.hid h9.drop2; clear h9)
    | (have _k := M1; go_at_call 13; refine (HP2.out _ _ _ _ (fun w h => h.right) (fun w h => rd_bytes (l := eC) h (by decide)) M1.out).mono ?_; rintro e w9 ⟨rfl, h9⟩; have C2 := Lib.hid h9.drop2; clear h9)
    | (have _k := M0; go_at_call 13; refine (HP1.out _ _ _ _ (fun w h => h.right) (fun w h => rd_bytes (l := eAB) h (by decide)) M0.out).mono ?_; rintro e w9 ⟨rfl, h9⟩; have C1 := Lib.hid h9.drop2; clear h9)
    | (go_at_call 10; refine (HN.out _ HH.out).mono ?_; rintro e w9 ⟨p, rfl, h9⟩; have C0 := Lib.hid h9; clear h9)
    | ((first | (with_reducible refine wpList_plain rfl ?_) | ((with_reducible refine wpList_yes _ _ rfl ?_ ?_); (focus rfl))); intro _ hk; (first
      | (have _k := T7; refine opw_loadMid 34 _ rfl ic 0 rfl (bcells S3) _ Tryd.underlying34 rfl HJ3.out T7.out.fourth (by simp) (hk _ _ ?_))
      | (have _k := T6; refine opw_loadMid 34 _ rfl ic 0 rfl (bcells S3) _ Tryd.underlying34 rfl HJ3.out T6.out.fourth (by simp) (hk _ _ ?_))
      | (refine opw_cmpStr .neq _ _ _ _ eC eC false rfl rfl rfl (by simp [cmpS]) (hk _ _ ?_))
      | (have _k := T5; refine opw_toStr _ _ 5 _ Tryd.underlying30 Tryd.underlying5 Tryd.underlying9 rfl (.slice Ay 1 cy) 1 eC rfl (Rd.of_row T5.out.second.ownsRow) (hk _ _ ?_))
      | (have _k := T4; refine opw_loadMid 34 _ rfl ib 0 rfl (bcells S2) _ Tryd.underlying34 rfl HJ2.out T4.out.third (by simp) (hk _ _ ?_))
      | (have _k := T3; refine opw_loadMid 34 _ rfl ia 0 rfl (bcells S1) _ Tryd.underlying34 rfl HJ1.out T3.out.second (by simp) (hk _ _ ?_))
      | (have _k := T2; refine opw_storeRow 34 _ _ rfl ic (bcells S3).toArray rfl rfl 34 Z HI3.out HO3.out (bcells_all _) (T2.out.cast (show _ = sep (blk ic (.cells Z 34 (0, 0))) (sep (blk ib (.cells (bcells S2).toArray 34 (0, 0))) (sep (blk ia (.cells (bcells S1).toArray 34 (0, 0))) (sep (cacheA p L3 3) R))) by ac_rfl)) (fun w9 h9 => hk _ _ ?_); have T3 := Lib.hid (h9.cast (show _ = sep (cacheA p L3 3) (sep (blk ia (.cells (bcells S1).toArray 34 (0, 0))) (sep (blk ib (.cells (bcells S2).toArray 34 (0, 0))) (sep (blk ic (.cells (bcells S3).toArray 34 (0, 0))) R))) by ac_rfl)); clear h9)
      | (have _k := T1; refine opw_storeRow 34 _ _ rfl ib (bcells S2).toArray rfl rfl 34 Z HI2.out HO2.out (bcells_all _) (T1.out.cast (show _ = sep (blk ib (.cells Z 34 (0, 0))) (sep (blk ia (.cells (bcells S1).toArray 34 (0, 0))) (sep (blk ic (.cells Z 34 (0, 0))) (sep (cacheA p L3 3) R))) by ac_rfl)) (fun w9 h9 => hk _ _ ?_); have T2 := Lib.hid h9; clear h9)
      | (have _k := A2; refine opw_storeRow 34 _ _ rfl ia (bcells S1).toArray rfl rfl 34 Z HI1.out HO1.out (bcells_all _) (A2.out.cast (show _ = sep (blk ia (.cells Z 34 (0, 0))) (sep (blk ib (.cells Z 34 (0, 0))) (sep (blk ic (.cells Z 34 (0, 0))) (sep (cacheA p L3 3) R))) by ac_rfl)) (fun w9 h9 => hk _ _ ?_); have T1 := Lib.hid h9; clear h9)
      | (have _k := A1; refine opw_alloc 34 (.agg Z) Z rfl HZI.out rfl A1.out (fun ic w9 hp h9 => hk _ _ ?_); clear hp; have A2 := Lib.hid h9; clear h9)
      | (have _k := A0; refine opw_alloc 34 (.agg Z) Z rfl HZI.out rfl A0.out (fun ib w9 hp h9 => hk _ _ ?_); clear hp; have A1 := Lib.hid h9; clear h9)
      | (have _k := C3; refine opw_alloc 34 (.agg Z) Z rfl HZI.out rfl C3.out (fun ia w9 hp h9 => hk _ _ ?_); clear hp; have A0 := Lib.hid h9; clear h9)
      | (have _k := B2; refine opw_mark 30 5 _ rfl qc 1 1 rfl Tryd.underlying30 Tryd.underlying5 B2.out (fun w9 h9 => hk _ _ ?_); have M2 := Lib.hid h9.second; clear h9)
      | (have _k := C2; refine opw_lit 30 1 _ [(0, .int .u8 100)] 5 (bcells eD).toArray rfl rfl (by kernel_rfl) C2.out (fun qc w9 h9 => hk _ _ ?_); have B2 := Lib.hid h9; clear h9)
      | (have _k := B1; refine opw_mark 30 5 _ rfl qb 1 1 rfl Tryd.underlying30 Tryd.underlying5 B1.out (fun w9 h9 => hk _ _ ?_); have M1 := Lib.hid h9.second; clear h9)
      | (have _k := C1; refine opw_lit 30 1 _ [(0, .int .u8 99)] 5 (bcells eC).toArray rfl rfl (by kernel_rfl) C1.out (fun qb w9 h9 => hk _ _ ?_); have B1 := Lib.hid h9; clear h9)
      | (have _k := B0; refine opw_mark 30 5 _ rfl qa 2 2 rfl Tryd.underlying30 Tryd.underlying5 B0.out (fun w9 h9 => hk _ _ ?_); have M0 := Lib.hid h9.second; clear h9)
      | (have _k := C0; refine opw_lit 30 2 _ [(0, .int .u8 97), (1, .int .u8 98)] 5 (bcells eAB).toArray rfl rfl (by kernel_rfl) C0.out (fun qa w9 h9 => hk _ _ ?_); have B0 := Lib.hid h9; clear h9)); simp only [Act.put, List.setIfInBounds_toArray, List.set_cons_zero, List.set_cons_succ]))
  go_ret
  exact ⟨rfl, T12.out.right.right.right.right⟩
end Go.Proofs.YtblknhpafifebaaDoor

/-
  coldstoreref01.Same.
-/
namespace Go.Proofs.YtblknhpafifebaaDoor
open Go Go.RowKit Go.Sl
set_option linter.unusedVariables false
set_option linter.unusedSimpArgs false
set_option maxHeartbeats 400000 in
theorem sameB_any (l m : List UInt8) (n k : Nat) (u v : Value) (w : World) (hu : Rd 1 w u n (bcells l)) (hv : Rd 1 w v k (bcells m)) :
    Calls Tryd.prog 16 #[u, v] w fun e w' => e = .returned (.bool (l == m)) ∧ w = w' := by
  obtain ⟨_, A, c, rfl, _⟩ := id hu
  obtain ⟨_, B, d, rfl, _⟩ := id hv
  go_enter Tryd.func16, Tryd.ntmps16
  go_wp2_with (first
    | (refine wp_string rfl 30 9 5 (.tmp 5) rfl Tryd.underlying30 Tryd.underlying5 Tryd.underlying9 rfl hu ?_)
    | (refine wp_string rfl 30 9 5 (.tmp 7) rfl Tryd.underlying30 Tryd.underlying5 Tryd.underlying9 rfl hv ?_))
  go_ret
  exact ⟨rfl, rfl⟩
end Go.Proofs.YtblknhpafifebaaDoor

/-
  coldstoreref10.SameIDs of the same sums.
-/
namespace Go.Proofs.YtblknhpafifebaaDoor
open Go Go.RowKit Go.Sl
set_option linter.unusedVariables false
set_option linter.unusedSimpArgs false
set_option maxRecDepth 100000
def SameRel (st : World) (R : HProp) (n : Nat) (v5 : Value) (wr : World) : Prop := ∃ i : Nat, i ≤ n ∧ v5 = .int .i64 (i : Int) ∧ Has st R wr
set_option maxHeartbeats 2000000 in
theorem sameIDs_any (st : World) (R : HProp) (T : List (List UInt8)) (hT : ∀ x ∈ T, x.length = 32) (hTl : T.length ≤ 1000000) (A : Option Addr) (c : Nat) (B : Option Addr) (d : Nat) (h1 : Sees st R 32 (.slice A T.length c) T.length (idsC T)) (h2 : Sees st R 32 (.slice B T.length d) T.length (idsC T)) (w : World) (h : Has st R w) :
    Calls Tryd.prog 20 #[.slice A T.length c, .slice B T.length d] w fun e w' => e = .returned (.bool true) ∧ Has st R w' := by
  have H1 := Lib.hid h1
  have H2 := Lib.hid h2
  have HT := Lib.hid hT
  obtain ⟨N, hN⟩ : ∃ N, N = T.length := ⟨_, rfl⟩
  rw [← hN] at H1 H2 ⊢
  have HN := Lib.hid hN
  rw [← hN] at hTl
  have HH := Lib.hid h
  have ZN : Hid (cmpZ .neq (N : Int) (N : Int) = some false) := Lib.hid (by simp [cmpZ])
  clear h1 h2 hT hN h
  go_enter Tryd.func20, Tryd.ntmps20
  go_wp2_with (first
    | (fail)
    | ((first | (with_reducible refine wpList_plain rfl ?_) | ((with_reducible refine wpList_yes _ _ rfl ?_ ?_); (focus rfl))); intro _ hk; (first
      | (refine opw_cmp .neq _ _ _ _ .i64 (N : Int) (N : Int) false rfl rfl rfl ZN.out (hk _ _ ?_))); simp only [Act.put, List.setIfInBounds_toArray, List.set_cons_zero, List.set_cons_succ]))
  go_loopw [5] (fun v5 wr => SameRel st R N v5 wr) (fun v5 _ => N - (intOf v5).toNat)
  case atStart => exact ⟨0, Nat.zero_le _, rfl, HH.out⟩
  case round =>
    obtain ⟨i, hi, rfl, h⟩ := hrel
    by_cases hlt : i < N
    · have hlt' : i < T.length := by rw [← HN.out]; exact hlt
      obtain ⟨g1, o1, rfl, _⟩ := (H1.out wr h).at (by omega)
      obtain ⟨g2, o2, rfl, _⟩ := (H2.out wr h).at (by omega)
      obtain ⟨X, hX⟩ : ∃ X, X = T[i] := ⟨_, rfl⟩
      have hXl : X.length = 32 := by rw [hX]; exact HT.out _ (List.getElem_mem hlt')
      have HC1 : Hid (∀ w, Has st R w → ∀ j u, (bcells X)[j]? = some u → w.cell? ⟨g1, o1 + i * 32 + j, none⟩ = some u) := Lib.hid fun w hw j u hj => by
        obtain ⟨g, o, e, hc⟩ := (H1.out w hw).at (by omega)
        injection e with e; injection e with e1 e2; subst e1 e2
        rw [Nat.add_assoc]; exact hc _ u (idsC_cell HT.out hlt' (by rw [← hX]; exact hj))
      have HC2 : Hid (∀ w, Has st R w → ∀ j u, (bcells X)[j]? = some u → w.cell? ⟨g2, o2 + i * 32 + j, none⟩ = some u) := Lib.hid fun w hw j u hj => by
        obtain ⟨g, o, e, hc⟩ := (H2.out w hw).at (by omega)
        injection e with e; injection e with e1 e2; subst e1 e2
        rw [Nat.add_assoc]; exact hc _ u (idsC_cell HT.out hlt' (by rw [← hX]; exact hj))
      have HJ : Hid ((Tryd.prog.info? 34).map (·.size) = some (bcells X).length) := Lib.hid (by rw [bcells_length, hXl]; exact infoID)
      have HL := Lib.hid hXl
      have HH3 := Lib.hid h
      have ZX : Hid ((!(X == X)) = false) := Lib.hid (by simp)
      clear hX hXl h hlt'
      go_wp2_with fail
      refine wp_region_inv3 (fun L u w' => Slots (fun kk => ([some (.slice (some ⟨g1, o1, none⟩) N c), some (.int .i64 ((i : Nat) : Int)), some (.pointer (some ⟨g1, o1 + i * 32, none⟩)), some (.agg (bcells X).toArray), some (.slice (some ⟨g2, o2, none⟩) N d), some (.int .i64 ((i : Nat) : Int)), some (.pointer (some ⟨g2, o2 + i * 32, none⟩)), some (.agg (bcells X).toArray), some (.bool false)] : List (Option Value)).getD kk none) L u ∧ Has st R w') (by kernel_rfl) (by decide +kernel) (by decide +kernel) (by kernel_rfl) (by kernel_rfl) (fun u => ⟨Slots.start _ u, HH3.out.drew⟩) ?_ ?_
      · refine ⟨?_, ?_, ?_, ?_, ?_, ?_, ?_, ?_, ?_, trivial⟩
        · refine RegStep3.plain rfl ?_; rintro L u w1 bA hL hW hD hU ⟨hS, hH⟩ hin hout; exact opw_move _ _ (.inl rfl) ((hout 0 (by kernel_rfl)).trans (by kernel_rfl)) ⟨_, rfl, hS.step 0 _ (.inr rfl), hH⟩
        · refine RegStep3.plain rfl ?_; rintro L u w1 bA hL hW hD hU ⟨hS, hH⟩ hin hout; exact opw_move _ _ (.inl rfl) ((hout 5 (by kernel_rfl)).trans (by kernel_rfl)) ⟨_, rfl, hS.step 1 _ (.inr rfl), hH⟩
        · refine RegStep3.plain rfl ?_; rintro L u w1 bA hL hW hD hU ⟨hS, hH⟩ hin hout; exact opw_indexN _ _ 32 _ _ rfl Tryd.underlying46 infoID g1 o1 N c i ((hin 0 17 rfl).trans (hS 0 _ rfl (hW.of 0 (by decide)))) .i64 ((hin 1 18 rfl).trans (hS 1 _ rfl (hW.of 1 (by decide)))) hlt ⟨_, rfl, hS.step 2 _ (.inr rfl), hH⟩
        · refine RegStep3.plain rfl ?_; rintro L u w1 bA hL hW hD hU ⟨hS, hH⟩ hin hout; exact wp_load_mid _ _ rfl g1 (o1 + i * 32) ((hin 2 19 rfl).trans (hS 2 _ rfl (hW.of 2 (by decide)))) (bcells X) _ (HC1.out _ hH) Tryd.underlying34 rfl HJ.out ⟨_, rfl, hS.step 3 _ (.inr rfl), hH⟩
        · refine RegStep3.plain rfl ?_; rintro L u w1 bA hL hW hD hU ⟨hS, hH⟩ hin hout; exact opw_move _ _ (.inl rfl) ((hout 1 (by kernel_rfl)).trans (by kernel_rfl)) ⟨_, rfl, hS.step 4 _ (.inr rfl), hH⟩
        · refine RegStep3.plain rfl ?_; rintro L u w1 bA hL hW hD hU ⟨hS, hH⟩ hin hout; exact opw_move _ _ (.inl rfl) ((hout 5 (by kernel_rfl)).trans (by kernel_rfl)) ⟨_, rfl, hS.step 5 _ (.inr rfl), hH⟩
        · refine RegStep3.plain rfl ?_; rintro L u w1 bA hL hW hD hU ⟨hS, hH⟩ hin hout; exact opw_indexN _ _ 32 _ _ rfl Tryd.underlying46 infoID g2 o2 N d i ((hin 4 21 rfl).trans (hS 4 _ rfl (hW.of 4 (by decide)))) .i64 ((hin 5 22 rfl).trans (hS 5 _ rfl (hW.of 5 (by decide)))) hlt ⟨_, rfl, hS.step 6 _ (.inr rfl), hH⟩
        · refine RegStep3.plain rfl ?_; rintro L u w1 bA hL hW hD hU ⟨hS, hH⟩ hin hout; exact wp_load_mid _ _ rfl g2 (o2 + i * 32) ((hin 6 23 rfl).trans (hS 6 _ rfl (hW.of 6 (by decide)))) (bcells X) _ (HC2.out _ hH) Tryd.underlying34 rfl HJ.out ⟨_, rfl, hS.step 7 _ (.inr rfl), hH⟩
        · refine RegStep3.plain rfl ?_; rintro L u w1 bA hL hW hD hU ⟨hS, hH⟩ hin hout; exact opw_neRow _ _ 5 32 _ _ X X Tryd.underlying34 Tryd.underlying5 infosz (by kernel_rfl) HL.out HL.out rfl ((hin 3 20 rfl).trans (hS 3 _ rfl (hW.of 3 (by decide)))) ((hin 7 24 rfl).trans (hS 7 _ rfl (hW.of 7 (by decide)))) false ZX.out ⟨_, rfl, hS.step 8 _ (.inr rfl), hH⟩
      intro L u w5 hL ⟨hS, hH⟩
      have E0 := hS 0 _ rfl (hL 0 (by decide))
      have E1 := hS 1 _ rfl (hL 1 (by decide))
      have E2 := hS 2 _ rfl (hL 2 (by decide))
      have E3 := hS 3 _ rfl (hL 3 (by decide))
      have E4 := hS 4 _ rfl (hL 4 (by decide))
      have E5 := hS 5 _ rfl (hL 5 (by decide))
      have E6 := hS 6 _ rfl (hL 6 (by decide))
      have E7 := hS 7 _ rfl (hL 7 (by decide))
      have E8 := hS 8 _ rfl (hL 8 (by decide))
      simp only [frame_cons, frame_nil, E0, E1, E2, E3, E4, E5, E6, E7, E8, Act.put, List.setIfInBounds_toArray, List.set_cons_zero, List.set_cons_succ]
      clear hL hS E0 E1 E2 E3 E4 E5 E6 E7 E8
      have H5 := Lib.hid hH
      clear hH
      go_wp2
      go_roundw
      case rel => exact ⟨i + 1, by omega, by go_num, H5.out⟩
      case measure => simp [intOf]; omega
    · go_wp2
      go_ret
      exact ⟨rfl, h⟩
end Go.Proofs.YtblknhpafifebaaDoor

/-
  coldstorelaw14.CachePlays: the plain part.
-/
namespace Go.Proofs.YtblknhpafifebaaDoor
open Go Go.RowKit Go.Sl Go.Sha
set_option linter.unusedVariables false
set_option linter.unusedSimpArgs false
set_option maxRecDepth 100000

theorem opw_max {P : Program} {o : Oper} {a : Act} {w : World} {K : Act → World → Prop} {Q : Exit → Act → World → Prop} (x y : Operand) (t : TypeId) (X Y Z : Int) (ho : o.op = .call { callee := .builtin .max, args := #[x, y], argTypes := #[t, t] }) (hx : a.eval x = .int .i64 X) (hy : a.eval y = .int .i64 Y) (hz : max X Y = Z) (hK : K (a.put o.dst (.int .i64 Z)) w) : o.wp P a w K Q := by
  refine opw_run (.int .i64 Z) ?_ hK
  subst hz
  unfold execOp
  simp only [ho, resolve, invoke, builtin, Sem.run_bind, Sem.run_pure, Result.andThen_ok, List.map_toArray, List.map_cons, List.map_nil, hx, hy]
  by_cases h : X < Y <;> simp [Builtin.max_, Builtin.max2, go_sem, h] <;> omega
theorem opw_min {P : Program} {o : Oper} {a : Act} {w : World} {K : Act → World → Prop} {Q : Exit → Act → World → Prop} (x y : Operand) (t : TypeId) (X Y Z : Int) (ho : o.op = .call { callee := .builtin .min, args := #[x, y], argTypes := #[t, t] }) (hx : a.eval x = .int .i64 X) (hy : a.eval y = .int .i64 Y) (hz : min X Y = Z) (hK : K (a.put o.dst (.int .i64 Z)) w) : o.wp P a w K Q := by
  refine opw_run (.int .i64 Z) ?_ hK
  subst hz
  unfold execOp
  simp only [ho, resolve, invoke, builtin, Sem.run_bind, Sem.run_pure, Result.andThen_ok, List.map_toArray, List.map_cons, List.map_nil, hx, hy]
  by_cases h : X ≤ Y <;> simp [Builtin.min_, Builtin.min2, go_sem, h] <;> omega
theorem layoutRC : layout Tryd.prog 29 = some ([(0, 1), (1, 1)], zrc) := by kernel_rfl
theorem builtRC (lm : Int) : Tryd.prog.built 29 [(1, .int .i64 lm)] = some (rcells (.slice none 0 0) lm) := by
  rw [built_of layoutRC]
  rfl
theorem sees_nilN (st : World) (R : HProp) (size : Nat) : Sees st R size (.slice none 0 0) 0 [] := fun w h => ((h.seen_nil size).openSeen.elim fun _ hG => hG.2 st R w hG.1)
theorem topL_all (L : CL) (h : L.length ≤ 1000) : topL L 1000 = L.map (·.1) := by
  unfold topL; exact List.take_of_length_le (by simp; omega)
theorem topL_len (L : CL) (m : Nat) : (topL L (m : Int)).length = min m L.length := by
  unfold topL; simp
theorem totL_set (L : CL) (i : Nat) (k : List UInt8 × List UInt8) (h : ∀ (hi : i < L.length), k.2.length = L[i].2.length) : totL (L.set i k) = totL L := by
  induction L generalizing i with
  | nil => rfl
  | cons x L ih =>
    cases i with
    | zero => have := h (by simp); simp only [List.set_cons_zero, tot_cons]; simp at this; omega
    | succ i => simp only [List.set_cons_succ, tot_cons]; rw [ih i (fun hi => by have := h (by simp; omega); simpa using this)]
theorem len_spoilL (id : List UInt8) (bit : Int) (L : CL) : (spoilL id bit L).1.length = L.length := by
  unfold spoilL
  split
  · rfl
  · split
    · rfl
    · split
      · rfl
      · simp
theorem tot_spoilL (id : List UInt8) (bit : Int) (L : CL) : totL (spoilL id bit L).1 = totL L := by
  unfold spoilL
  cases hp : placeL id L with
  | none => rfl
  | some i =>
    simp only
    cases hk : L[i]? with
    | none => rfl
    | some k =>
      simp only
      split
      · rfl
      · refine totL_set L i _ fun hi => ?_
        rw [List.getElem?_eq_getElem hi] at hk
        injection hk with hk
        show (Sl.flip _ _).length = _
        rw [flip_length, hk]
theorem abs_ids (K : List Kp) : (absK K).map (·.1) = K.map (·.id) := by simp [absK, Function.comp_def]
theorem zeroV8 (w : World) : (zeroValue 5).run Tryd.prog w = .ok (.int .u8 0) w := by kernel_rfl
theorem one8 : ∀ v ∈ (Value.int .u8 0).cells.toList, v.oneCell' = true := by
  intro v hv
  have : v = .int .u8 0 := by simpa [Value.cells] using hv
  subst this; rfl
/-- what a call of the reference leaves: a piece of its own by which the new row reads -/
def StepR (st : World) (R G : HProp) (i : Nat) (L2 : CL) (T : HProp) (B : Option Addr) (d : Nat) (K : List Kp) (G2 : HProp) (w : World) : Prop :=
  Hid (absK K = L2) ∧ K.length ≤ i + 1 ∧ tot K ≤ 100 * (i + 1) ∧ Has st (sep G2 T) w ∧ Hid (RS st (sep G2 (sep G R)) (.slice B K.length d) K)
theorem stepR {st : World} {R G : HProp} {i : Nat} {L2 : CL} {T : HProp} {w : World} {v : Value} {K : List Kp} {G2 : HProp} (hT : ∀ G2 w, Has st (sep G2 T) w → Has st (sep G2 (sep G R)) w) (hK : absK K = L2) (hl : L2.length ≤ i + 1) (ht : totL L2 ≤ 100 * (i + 1)) (h : Has st (sep G2 T) w) (hr : RS st (sep G2 (sep G R)) v K) :
    ∃ B d, v = .slice B K.length d ∧ StepR st R G i L2 T B d K G2 w := by
  obtain ⟨B, d, rfl⟩ := hr.row.form (hT _ _ h)
  refine ⟨B, d, rfl, Lib.hid hK, ?_, ?_, h, Lib.hid hr⟩
  · rw [← abs_length, hK]; exact hl
  · rw [← abs_tot, hK]; exact ht
def PutN (st : World) (R G : HProp) (lm : Int) (i : Nat) (B : Option Addr) (n d : Nat) (Bb : Option Addr) (nb db : Nat) (S : List UInt8) (L2 : CL) : Prop :=
  ∀ T w, (∀ G2 w, Has st (sep G2 T) w → Has st (sep G2 (sep G R)) w) → Has st T w → Calls Tryd.prog 12 #[.agg (rcells (.slice B n d) lm), .slice Bb nb db] w fun e w' => ∃ G2 B2 d2 K2, e = .returned (.tuple #[.agg (rcells (.slice B2 K2.length d2) lm), .agg (bcells S).toArray]) ∧ StepR st R G i L2 T B2 d2 K2 G2 w'
theorem putN {st : World} {R G : HProp} {lm : Int} {i n : Nat} {B : Option Addr} {d : Nat} {K : List Kp} (hRS : RS st (sep G R) (.slice B n d) K) (hn : n = K.length) (hni : n ≤ i) (ht : tot K ≤ 100 * i) (hi : i < 30) (hlm : 0 ≤ lm) {bl S : List UInt8} {Bb : Option Addr} {nb db : Nat} (hnb : nb = bl.length) (hb : nb ≤ 100) (hsb : Sees st R 1 (.slice Bb nb db) nb (bcells bl)) (hS : S = sha bl) {L2 : CL} (hL : L2 = putL lm (absK K) S bl) : PutN st R G lm i B n d Bb nb db S L2 := by
  intro T w hT h
  subst hn hnb hS hL
  refine (rput_any st T (sep G R) hT (.slice B K.length d) K lm hRS (by omega) (by omega) bl Bb db hsb.right (by omega) hlm w h).mono fun e w' h' => ?_
  obtain ⟨G2, v2, K2, e1, e2, h1, h2⟩ := h'
  obtain ⟨B2, d2, rfl, hs⟩ := stepR (i := i) hT e2 (by have := len_putL lm (absK K) (sha bl) bl; rw [abs_length] at this; omega) (by have := tot_putL lm (absK K) (sha bl) bl; rw [abs_tot] at this; omega) h1 h2
  exact ⟨G2, B2, d2, K2, e1, hs⟩
def GetN (st : World) (R G : HProp) (lm : Int) (i : Nat) (B : Option Addr) (n d : Nat) (S : List UInt8) (L2 : CL) (gb : List UInt8) (ok : Bool) : Prop :=
  ∀ T w, (∀ G2 w, Has st (sep G2 T) w → Has st (sep G2 (sep G R)) w) → Has st T w → Calls Tryd.prog 14 #[.agg (rcells (.slice B n d) lm), .agg (bcells S).toArray] w fun e w' => ∃ G2 B2 d2 K2 V c, e = .returned (.tuple #[.agg (rcells (.slice B2 K2.length d2) lm), .slice V gb.length c, .bool ok]) ∧ StepR st R G i L2 T B2 d2 K2 G2 w' ∧ Hid (Sees st (sep G2 (sep G R)) 1 (.slice V gb.length c) gb.length (bcells gb))
theorem getN {st : World} {R G : HProp} {lm : Int} {i n : Nat} {B : Option Addr} {d : Nat} {K : List Kp} (hRS : RS st (sep G R) (.slice B n d) K) (hn : n = K.length) (hni : n ≤ i) (ht : tot K ≤ 100 * i) (hi : i < 30) {S : List UInt8} (hS : S.length = 32) {L2 : CL} {gb : List UInt8} {ok : Bool} (hL : getL S (absK K) = (L2, gb, ok)) : GetN st R G lm i B n d S L2 gb ok := by
  intro T w hT h
  subst hn
  refine (rget_any st T (sep G R) hT (.slice B K.length d) K lm hRS (by omega) (by omega) S hS w h).mono fun e w' h' => ?_
  obtain ⟨G2, v2, K2, V, e1, e2, h1, h2, h3⟩ := h'
  have a1 := len_getL S (absK K)
  have a2 := tot_getL S (absK K)
  rw [hL] at e1 e2 h3 a1 a2
  rw [abs_length] at a1
  rw [abs_tot] at a2
  have a3 : L2.length ≤ K.length := a1
  have a4 : totL L2 ≤ tot K := a2
  obtain ⟨B2, d2, rfl, hs⟩ := stepR (i := i) hT e2 (by show L2.length ≤ _; omega) (by show totL L2 ≤ _; omega) h1 h2
  obtain ⟨A, c, rfl⟩ := h3.form (hT _ _ h1)
  exact ⟨G2, B2, d2, K2, A, c, e1, hs, Lib.hid h3⟩
def SpoilN (st : World) (R G : HProp) (lm : Int) (i : Nat) (B : Option Addr) (n d : Nat) (S : List UInt8) (bit : Int) (L2 : CL) (ok : Bool) : Prop :=
  ∀ T w, (∀ G2 w, Has st (sep G2 T) w → Has st (sep G2 (sep G R)) w) → Has st T w → Calls Tryd.prog 17 #[.agg (rcells (.slice B n d) lm), .agg (bcells S).toArray, .int .i64 bit] w fun e w' => ∃ G2 B2 d2 K2, e = .returned (.tuple #[.agg (rcells (.slice B2 K2.length d2) lm), .bool ok]) ∧ StepR st R G i L2 T B2 d2 K2 G2 w'
theorem spoilN {st : World} {R G : HProp} {lm : Int} {i n : Nat} {B : Option Addr} {d : Nat} {K : List Kp} (hRS : RS st (sep G R) (.slice B n d) K) (hn : n = K.length) (hni : n ≤ i) (ht : tot K ≤ 100 * i) (hi : i < 30) {S : List UInt8} (hS : S.length = 32) {bit : Int} {L2 : CL} {ok : Bool} (hL : spoilL S bit (absK K) = (L2, ok)) : SpoilN st R G lm i B n d S bit L2 ok := by
  intro T w hT h
  subst hn
  refine (rspoil_any st T (sep G R) hT (.slice B K.length d) K lm hRS (by omega) (by omega) S hS bit w h).mono fun e w' h' => ?_
  obtain ⟨G2, v2, K2, e1, e2, h1, h2⟩ := h'
  have a1 := len_spoilL S bit (absK K)
  have a2 := tot_spoilL S bit (absK K)
  rw [hL] at e1 e2 a1 a2
  rw [abs_length] at a1
  rw [abs_tot] at a2
  have a3 : L2.length = K.length := a1
  have a4 : totL L2 = tot K := a2
  obtain ⟨B2, d2, rfl, hs⟩ := stepR (i := i) hT e2 (by show L2.length ≤ _; omega) (by show totL L2 ≤ _; omega) h1 h2
  exact ⟨G2, B2, d2, K2, e1, hs⟩
theorem rs_assoc {st : World} {R G G2 : HProp} {v : Value} {K : List Kp} (h : RS st (sep G2 (sep G R)) v K) : RS st (sep (sep G2 G) R) v K := h.widen fun w h => h.assoc
end Go.Proofs.YtblknhpafifebaaDoor
