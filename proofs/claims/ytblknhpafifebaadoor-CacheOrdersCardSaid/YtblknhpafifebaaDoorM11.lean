/-
  Several texts of this proof in one: Alive14, Same14, SameIds, PlaysLaw, MapI, MapOp, KeepsLaw, MapE, RowO.
-/
import Derived.Test.YtblknhpafifebaaDoorM6
import Derived.Test.YtblknhpafifebaaDoorM1
import Derived.Test.YtblknhpafifebaaDoorM2
import Derived.Test.YtblknhpafifebaaDoorM3
import Derived.Test.YtblknhpafifebaaDoorM10
import Derived.Test.YtblknhpafifebaaDoorM9
import Derived.Test.YtblknhpafifebaaDoorM0
import Derived.WideKeyPair
import Derived.Carry
import Derived.MapKept
import Derived.Laws.CopyRow
/-
  coldstorelaw14.alive.
-/
namespace Go.Proofs.YtblknhpafifebaaDoor
open Go Go.RowKit Go.Sl Go.Sha
set_option linter.unusedVariables false
set_option linter.unusedSimpArgs false
set_option maxRecDepth 100000

theorem rd_bytes {st : World} {R : HProp} {w : World} {g : Nat} {l : List UInt8} {t : TypeId} {fr : Nat × Nat} (h : Has st (sep (blk g (.cells (bcells l).toArray t fr)) R) w) (hl : l.length ≤ maxLen) : Rd 1 w (.slice (some ⟨g, 0, none⟩) l.length l.length) l.length (bcells l) :=
  ⟨by simp [bcells_length], _, l.length, rfl, Nat.le_refl _, hl, .inr ⟨_, rfl, fun j u hu => ⟨rfl, by rw [Nat.zero_add, h.cell, List.getElem?_toArray]; exact hu⟩⟩⟩
theorem beq_comm8 (a b : List UInt8) : (a == b) = (b == a) := by
  by_cases h : a = b
  · rw [h]
  · rw [beq_eq_false_iff_ne.2 h, beq_eq_false_iff_ne.2 (Ne.symm h)]
theorem lv1 (S1 : List UInt8) : putL 3 [] S1 eAB = [(S1, eAB)] := by simp [putL, dropL, placeL, trimL]
theorem lv2 (S1 S2 : List UInt8) (h : (S1 == S2) = false) : putL 3 [(S1, eAB)] S2 eC = [(S1, eAB), (S2, eC)] := by simp [putL, dropL, placeL, trimL, totL, h, List.findIdx?_cons]
theorem lv3 (S1 S2 S3 : List UInt8) (h13 : (S1 == S3) = false) (h23 : (S2 == S3) = false) : putL 3 [(S1, eAB), (S2, eC)] S3 eD = [(S2, eC), (S3, eD)] := by simp [putL, dropL, placeL, trimL, totL, h13, h23, List.findIdx?_cons]
theorem lv4 (S1 S2 S3 : List UInt8) (h21 : (S2 == S1) = false) (h31 : (S3 == S1) = false) : getL S1 [(S2, eC), (S3, eD)] = ([(S2, eC), (S3, eD)], [], false) := by simp [getL, placeL, h21, h31, List.findIdx?_cons]
theorem lv5 (S2 S3 : List UInt8) (h : (sha eC == S2) = true) : getL S2 [(S2, eC), (S3, eD)] = ([(S3, eD), (S2, eC)], eC, true) := by simp [getL, placeL, List.findIdx?_cons]; simpa using h
theorem lv6 (S2 S3 : List UInt8) : spoilL S3 3 [(S3, eD), (S2, eC)] = ([(S3, [108]), (S2, eC)], true) := by simp [spoilL, placeL, List.findIdx?_cons, Sl.flip]; decide
theorem lv7 (S2 S3 : List UInt8) (h : (sha [108] == S3) = false) : getL S3 [(S3, [108]), (S2, eC)] = ([(S2, eC)], [], false) := by simp [getL, placeL, List.findIdx?_cons]; simpa using h

set_option maxHeartbeats 4000000 in
theorem alive_any (st : World) (R : HProp) (hk : Keys st R) (hst : Start st R) (w : World) (h : Has st R w) :
    Calls Tryd.prog 8 #[] w fun e w' => e = .returned (.bool true) ∧ Has st R w' := by
  obtain ⟨S1, hS1⟩ : ∃ S, S = sha eAB := ⟨_, rfl⟩
  obtain ⟨S2, hS2⟩ : ∃ S, S = sha eC := ⟨_, rfl⟩
  obtain ⟨S3, hS3⟩ : ∃ S, S = sha eD := ⟨_, rfl⟩
  have h12 : (S1 == S2) = false := by rw [hS1, hS2]; exact live_ab_c
  have h13 : (S1 == S3) = false := by rw [hS1, hS3]; exact live_ab_d
  have h23 : (S2 == S3) = false := by rw [hS2, hS3]; exact live_c_d
  have l1 : S1.length = 32 := by rw [hS1]; exact sha_length _
  have l2 : S2.length = 32 := by rw [hS2]; exact sha_length _
  have l3 : S3.length = 32 := by rw [hS3]; exact sha_length _
  obtain ⟨L1, hL1⟩ : ∃ L : CL, L = [(S1, eAB)] := ⟨_, rfl⟩
  obtain ⟨L2, hL2⟩ : ∃ L : CL, L = [(S1, eAB), (S2, eC)] := ⟨_, rfl⟩
  obtain ⟨L3, hL3⟩ : ∃ L : CL, L = [(S2, eC), (S3, eD)] := ⟨_, rfl⟩
  obtain ⟨L5, hL5⟩ : ∃ L : CL, L = [(S3, eD), (S2, eC)] := ⟨_, rfl⟩
  obtain ⟨L6, hL6⟩ : ∃ L : CL, L = [(S3, [108]), (S2, eC)] := ⟨_, rfl⟩
  obtain ⟨L7, hL7⟩ : ∃ L : CL, L = [(S2, eC)] := ⟨_, rfl⟩
  have HN := Lib.hid (newC (st := st) (R := R) (lim := 3) (l2 := 3) (by decide) (by decide))
  have HP1 := Lib.hid (putC (st := st) (R := R) (lim := 3) (L := []) (L' := L1) (b := eAB) (S := S1) hk hst hS1 (by rw [hL1]; exact (lv1 S1).symm) (by simp) (by simp [totL]) (by decide) (by decide))
  have HP2 := Lib.hid (putC (st := st) (R := R) (lim := 3) (L := L1) (L' := L2) (b := eC) (S := S2) hk hst hS2 (by rw [hL1, hL2]; exact (lv2 S1 S2 h12).symm) (by rw [hL1]; simp) (by rw [hL1]; simp [totL]) (by decide) (by decide))
  have HP3 := Lib.hid (putC (st := st) (R := R) (lim := 3) (L := L2) (L' := L3) (b := eD) (S := S3) hk hst hS3 (by rw [hL2, hL3]; exact (lv3 S1 S2 S3 h13 h23).symm) (by rw [hL2]; simp) (by rw [hL2]; simp [totL]) (by decide) (by decide))
  have HG1 := Lib.hid (getC (st := st) (R := R) (lim := 3) (L := L3) (L' := L3) (id := S1) (g := []) (ok := false) hk hst l1 (by rw [hL3]; exact lv4 S1 S2 S3 (by rw [beq_comm8]; exact h12) (by rw [beq_comm8]; exact h13)) (by rw [hL3]; simp) (by rw [hL3]; simp [totL]))
  have HG2 := Lib.hid (getC (st := st) (R := R) (lim := 3) (L := L3) (L' := L5) (id := S2) (g := eC) (ok := true) hk hst l2 (by rw [hL3, hL5]; exact lv5 S2 S3 (by rw [hS2]; simp)) (by rw [hL3]; simp) (by rw [hL3]; simp [totL]))
  have HZ2 := Lib.hid (sizeC (st := st) (lim := 3) (L := L5) (n := 2) (by rw [hL5]; simp [totL]))
  have HSP := Lib.hid (spoilC (st := st) (lim := 3) (L := L5) (L' := L6) (id := S3) (bit := 3) (ok := true) l3 (by rw [hL5, hL6]; exact lv6 S2 S3) (by rw [hL5]; simp) (by rw [hL5]; simp [totL]))
  have HG3 := Lib.hid (getC (st := st) (R := R) (lim := 3) (L := L6) (L' := L7) (id := S3) (g := []) (ok := false) hk hst l3 (by rw [hL6, hL7]; exact lv7 S2 S3 (by rw [hS3]; exact live_spoilt)) (by rw [hL6]; simp) (by rw [hL6]; simp [totL]))
  have HAL := Lib.hid (allC (st := st) (lim := 3) (L := L7) (most := 9) (T := [S2]) (by rw [hL7]; rfl) (by rw [hL7]; simp))
  have HWI := Lib.hid (wipeC (st := st) (lim := 3) (L := L7))
  have HLE := Lib.hid (lenC (st := st) (lim := 3) (L := []) (n := 0) rfl)
  have HZ0 := Lib.hid (sizeC (st := st) (lim := 3) (L := []) (n := 0) rfl)
  have HH := Lib.hid h
  have HI1 : Hid ((Tryd.prog.info? 34).map (·.size) = some (bcells S1).toArray.size) := Lib.hid (by rw [List.size_toArray, bcells_length, l1]; exact infoID)
  have HJ1 : Hid ((Tryd.prog.info? 34).map (·.size) = some (bcells S1).length) := Lib.hid (by rw [bcells_length, l1]; exact infoID)
  have HO1 : Hid ((bcells (List.replicate 32 (0 : UInt8))).toArray.size = (bcells S1).toArray.size) := Lib.hid (by simp [bcells_length, l1])
  have HI2 : Hid ((Tryd.prog.info? 34).map (·.size) = some (bcells S2).toArray.size) := Lib.hid (by rw [List.size_toArray, bcells_length, l2]; exact infoID)
  have HJ2 : Hid ((Tryd.prog.info? 34).map (·.size) = some (bcells S2).length) := Lib.hid (by rw [bcells_length, l2]; exact infoID)
  have HO2 : Hid ((bcells (List.replicate 32 (0 : UInt8))).toArray.size = (bcells S2).toArray.size) := Lib.hid (by simp [bcells_length, l2])
  have HI3 : Hid ((Tryd.prog.info? 34).map (·.size) = some (bcells S3).toArray.size) := Lib.hid (by rw [List.size_toArray, bcells_length, l3]; exact infoID)
  have HJ3 : Hid ((Tryd.prog.info? 34).map (·.size) = some (bcells S3).length) := Lib.hid (by rw [bcells_length, l3]; exact infoID)
  have HO3 : Hid ((bcells (List.replicate 32 (0 : UInt8))).toArray.size = (bcells S3).toArray.size) := Lib.hid (by simp [bcells_length, l3])
  obtain ⟨Z, hZ⟩ : ∃ Z, Z = (bcells (List.replicate 32 (0 : UInt8))).toArray := ⟨_, rfl⟩
  have HZI : Hid ((Tryd.prog.info? 34).map (·.zero) = some (some (.agg Z))) := Lib.hid (by rw [hZ]; exact zeroID)
  rw [← hZ] at HO1 HO2 HO3
  clear hS1 hS2 hS3 h12 h13 h23 l1 l2 l3 hL1 hL2 hL3 hL5 hL6 hL7 h hk hst hZ
  go_enter Tryd.func8, Tryd.ntmps8
  go_wp2_with (first
    | (have _k := T11; go_at_call 23; refine (HZ0.out _ _ _ T11.out).mono ?_; rintro e w9 ⟨rfl, h9⟩; have T12 := Lib.hid h9; clear h9)
    | (have _k := T10; go_at_call 22; refine (HLE.out _ _ _ T10.out).mono ?_; rintro e w9 ⟨rfl, h9⟩; have T11 := Lib.hid h9; clear h9)
    | (have _k := T9; go_at_call 19; refine (HWI.out _ _ _ T9.out).mono ?_; rintro e w9 ⟨rfl, h9⟩; have T10 := Lib.hid h9; clear h9)
    | (have _k := T8; go_at_call 21; refine (HAL.out _ _ _ T8.out).mono ?_; rintro e w9 ⟨Al, cl, rfl, h9⟩; have T9 := Lib.hid h9.right; clear h9)
    | (have _k := T7; go_at_call 15; refine (HG3.out _ _ _ (fun w h => h.right.right.right) T7.out).mono ?_; rintro e w9 ⟨Az, cz, rfl, h9⟩; have T8 := Lib.hid h9.right; clear h9)
    | (have _k := T6; go_at_call 18; refine (HSP.out _ _ _ T6.out).mono ?_; rintro e w9 ⟨rfl, h9⟩; have T7 := Lib.hid h9; clear h9)
    | (have _k := T5; go_at_call 23; refine (HZ2.out _ _ _ T5.out).mono ?_; rintro e w9 ⟨rfl, h9⟩; have T6 := Lib.hid h9.drop2; clear h9)
    | (have _k := T4; go_at_call 15; refine (HG2.out _ _ _ (fun w h => h.right.right.right) T4.out).mono ?_; rintro e w9 ⟨Ay, cy, rfl, h9⟩; have T5 := Lib.hid h9.second; clear h9)
    | (have _k := T3; go_at_call 15; refine (HG1.out _ _ _ (fun w h => h.right.right.right) T3.out).mono ?_; rintro e w9 ⟨Ax, cx, rfl, h9⟩; have T4 := Lib.hid h9.right; clear h9)
    | (have _k := M2; go_at_call 13; refine (HP3.out _ _ _ _ (fun w h => h.right) (fun w h => rd_bytes (l := eD) h (by decide)) M2.out).mono ?_; rintro e w9 ⟨rfl, h9⟩; have C3 := Lib.hid h9.drop2; clear h9)
    | (have _k := M1; go_at_call 13; refine (HP2.out _ _ _ _ (fun w h => h.right) (fun w h => rd_bytes (l := eC) h (by decide)) M1.out).mono ?_; rintro e w9 ⟨rfl, h9⟩; have C2 := Lib.hid h9.drop2; clear h9)
    | (have _k := M0; go_at_call 13; refine (HP1.out _ _ _ _ (fun w h => h.right) (fun w h => rd_bytes (l := eAB) h (by decide)) M0.out).mono ?_; rintro e w9 ⟨rfl, h9⟩; have C1 := Lib.hid h9.drop2; clear h9)
    | (go_at_call 10; refine (HN.out _ HH.out).mono ?_; rintro e w9 ⟨p, rfl, h9⟩; have C0 := Lib.hid h9; clear h9)
    | ((first | (with_reducible refine wpList_plain rfl ?_) | ((with_reducible refine wpList_yes _ _ rfl ?_ ?_); (focus rfl))); intro _ hk; (first
      | (have _k := T7; refine opw_loadMid 34 _ rfl ic 0 rfl (bcells S3) _ Tryd.underlying34 rfl HJ3.out T7.out.fourth (by simp) (hk _ _ ?_))
      | (have _k := T6; refine opw_loadMid 34 _ rfl ic 0 rfl (bcells S3) _ Tryd.underlying34 rfl HJ3.out T6.out.fourth (by simp) (hk _ _ ?_))
      | (refine opw_cmpStr .neq _ _ _ _ eC eC false rfl rfl rfl (by simp [cmpS]) (hk _ _ ?_))
      | (have _k := T5; refine opw_toStr _ _ 5 _ Tryd.underlying30 Tryd.underlying5 Tryd.underlying9 rfl (.slice Ay 1 cy) 1 eC rfl (Rd.of_row T5.out.second.ownsRow) (hk _ _ ?_))
      | (have _k := T4; refine opw_loadMid 34 _ rfl ib 0 rfl (bcells S2) _ Tryd.underlying34 rfl HJ2.out T4.out.third (by simp) (hk _ _ ?_))
      | (have _k := T3; refine opw_loadMid 34 _ rfl ia 0 rfl (bcells S1) _ Tryd.underlying34 rfl HJ1.out T3.out.second (by simp) (hk _ _ ?_))
      | (have _k := T2; refine opw_storeRow 34 _ _ rfl ic (bcells S3).toArray rfl rfl 34 Z HI3.out HO3.out (bcells_all _) (T2.out.cast (show _ = sep (blk ic (.cells Z 34 (0, 0))) (sep (blk ib (.cells (bcells S2).toArray 34 (0, 0))) (sep (blk ia (.cells (bcells S1).toArray 34 (0, 0))) (sep (cacheA p L3 3) R))) by ac_rfl)) (fun w9 h9 => hk _ _ ?_); have T3 := Lib.hid (h9.cast (show _ = sep (cacheA p L3 3) (sep (blk ia (.cells (bcells S1).toArray 34 (0, 0))) (sep (blk ib (.cells (bcells S2).toArray 34 (0, 0))) (sep (blk ic (.cells (bcells S3).toArray 34 (0, 0))) R))) by ac_rfl)); clear h9)
      | (have _k := T1; refine opw_storeRow 34 _ _ rfl ib (bcells S2).toArray rfl rfl 34 Z HI2.out HO2.out (bcells_all _) (T1.out.cast (show _ = sep (blk ib (.cells Z 34 (0, 0))) (sep (blk ia (.cells (bcells S1).toArray 34 (0, 0))) (sep (blk ic (.cells Z 34 (0, 0))) (sep (cacheA p L3 3) R))) by ac_rfl)) (fun w9 h9 => hk _ _ ?_); have T2 := Lib.hid h9; clear h9)
      | (have _k := A2; refine opw_storeRow 34 _ _ rfl ia (bcells S1).toArray rfl rfl 34 Z HI1.out HO1.out (bcells_all _) (A2.out.cast (show _ = sep (blk ia (.cells Z 34 (0, 0))) (sep (blk ib (.cells Z 34 (0, 0))) (sep (blk ic (.cells Z 34 (0, 0))) (sep (cacheA p L3 3) R))) by ac_rfl)) (fun w9 h9 => hk _ _ ?_); have T1 := Lib.hid h9; clear h9)
      | (have _k := A1; refine opw_alloc 34 (.agg Z) Z rfl HZI.out rfl A1.out (fun ic w9 hp h9 => hk _ _ ?_); clear hp; have A2 := Lib.hid h9; clear h9)
      | (have _k := A0; refine opw_alloc 34 (.agg Z) Z rfl HZI.out rfl A0.out (fun ib w9 hp h9 => hk _ _ ?_); clear hp; have A1 := Lib.hid h9; clear h9)
      | (have _k := C3; refine opw_alloc 34 (.agg Z) Z rfl HZI.out rfl C3.out (fun ia w9 hp h9 => hk _ _ ?_); clear hp; have A0 := Lib.hid h9; clear h9)
      | (have _k := B2; refine opw_mark 30 5 _ rfl qc 1 1 rfl Tryd.underlying30 Tryd.underlying5 B2.out (fun w9 h9 => hk _ _ ?_); have M2 := Lib.hid h9.second; clear h9)
      | (have _k := C2; refine opw_lit 30 1 _ [(0, .int .u8 100)] 5 (bcells eD).toArray rfl rfl (by kernel_rfl) C2.out (fun qc w9 h9 => hk _ _ ?_); have B2 := Lib.hid h9; clear h9)
      | (have _k := B1; refine opw_mark 30 5 _ rfl qb 1 1 rfl Tryd.underlying30 Tryd.underlying5 B1.out (fun w9 h9 => hk _ _ ?_); have M1 := Lib.hid h9.second; clear h9)
      | (have _k := C1; refine opw_lit 30 1 _ [(0, .int .u8 99)] 5 (bcells eC).toArray rfl rfl (by kernel_rfl) C1.out (fun qb w9 h9 => hk _ _ ?_); have B1 := Lib.hid h9; clear h9)
      | (have _k := B0; refine opw_mark 30 5 _ rfl qa 2 2 rfl Tryd.underlying30 Tryd.underlying5 B0.out (fun w9 h9 => hk _ _ ?_); have M0 := Lib.hid h9.second; clear h9)
      | (have _k := C0; refine opw_lit 30 2 _ [(0, .int .u8 97), (1, .int .u8 98)] 5 (bcells eAB).toArray rfl rfl (by kernel_rfl) C0.out (fun qa w9 h9 => hk _ _ ?_); have B0 := Lib.hid h9; clear h9)); simp only [Act.put, List.setIfInBounds_toArray, List.set_cons_zero, List.set_cons_succ]))
  go_ret
  exact ⟨rfl, T12.out.right.right.right.right⟩
end Go.Proofs.YtblknhpafifebaaDoor

/-
  coldstoreref01.Same.
-/
namespace Go.Proofs.YtblknhpafifebaaDoor
open Go Go.RowKit Go.Sl
set_option linter.unusedVariables false
set_option linter.unusedSimpArgs false
set_option maxHeartbeats 400000 in
theorem sameB_any (l m : List UInt8) (n k : Nat) (u v : Value) (w : World) (hu : Rd 1 w u n (bcells l)) (hv : Rd 1 w v k (bcells m)) :
    Calls Tryd.prog 16 #[u, v] w fun e w' => e = .returned (.bool (l == m)) ∧ w = w' := by
  obtain ⟨_, A, c, rfl, _⟩ := id hu
  obtain ⟨_, B, d, rfl, _⟩ := id hv
  go_enter Tryd.func16, Tryd.ntmps16
  go_wp2_with (first
    | (refine wp_string rfl 30 9 5 (.tmp 5) rfl Tryd.underlying30 Tryd.underlying5 Tryd.underlying9 rfl hu ?_)
    | (refine wp_string rfl 30 9 5 (.tmp 7) rfl Tryd.underlying30 Tryd.underlying5 Tryd.underlying9 rfl hv ?_))
  go_ret
  exact ⟨rfl, rfl⟩
end Go.Proofs.YtblknhpafifebaaDoor

/-
  coldstoreref10.SameIDs of the same sums.
-/
namespace Go.Proofs.YtblknhpafifebaaDoor
open Go Go.RowKit Go.Sl
set_option linter.unusedVariables false
set_option linter.unusedSimpArgs false
set_option maxRecDepth 100000
def SameRel (st : World) (R : HProp) (n : Nat) (v5 : Value) (wr : World) : Prop := ∃ i : Nat, i ≤ n ∧ v5 = .int .i64 (i : Int) ∧ Has st R wr
set_option maxHeartbeats 2000000 in
theorem sameIDs_any (st : World) (R : HProp) (T : List (List UInt8)) (hT : ∀ x ∈ T, x.length = 32) (hTl : T.length ≤ 1000000) (A : Option Addr) (c : Nat) (B : Option Addr) (d : Nat) (h1 : Sees st R 32 (.slice A T.length c) T.length (idsC T)) (h2 : Sees st R 32 (.slice B T.length d) T.length (idsC T)) (w : World) (h : Has st R w) :
    Calls Tryd.prog 20 #[.slice A T.length c, .slice B T.length d] w fun e w' => e = .returned (.bool true) ∧ Has st R w' := by
  have H1 := Lib.hid h1
  have H2 := Lib.hid h2
  have HT := Lib.hid hT
  obtain ⟨N, hN⟩ : ∃ N, N = T.length := ⟨_, rfl⟩
  rw [← hN] at H1 H2 ⊢
  have HN := Lib.hid hN
  rw [← hN] at hTl
  have HH := Lib.hid h
  have ZN : Hid (cmpZ .neq (N : Int) (N : Int) = some false) := Lib.hid (by simp [cmpZ])
  clear h1 h2 hT hN h
  go_enter Tryd.func20, Tryd.ntmps20
  go_wp2_with (first
    | (fail)
    | ((first | (with_reducible refine wpList_plain rfl ?_) | ((with_reducible refine wpList_yes _ _ rfl ?_ ?_); (focus rfl))); intro _ hk; (first
      | (refine opw_cmp .neq _ _ _ _ .i64 (N : Int) (N : Int) false rfl rfl rfl ZN.out (hk _ _ ?_))); simp only [Act.put, List.setIfInBounds_toArray, List.set_cons_zero, List.set_cons_succ]))
  go_loopw [5] (fun v5 wr => SameRel st R N v5 wr) (fun v5 _ => N - (intOf v5).toNat)
  case atStart => exact ⟨0, Nat.zero_le _, rfl, HH.out⟩
  case round =>
    obtain ⟨i, hi, rfl, h⟩ := hrel
    by_cases hlt : i < N
    · have hlt' : i < T.length := by rw [← HN.out]; exact hlt
      obtain ⟨g1, o1, rfl, _⟩ := (H1.out wr h).at (by omega)
      obtain ⟨g2, o2, rfl, _⟩ := (H2.out wr h).at (by omega)
      obtain ⟨X, hX⟩ : ∃ X, X = T[i] := ⟨_, rfl⟩
      have hXl : X.length = 32 := by rw [hX]; exact HT.out _ (List.getElem_mem hlt')
      have HC1 : Hid (∀ w, Has st R w → ∀ j u, (bcells X)[j]? = some u → w.cell? ⟨g1, o1 + i * 32 + j, none⟩ = some u) := Lib.hid fun w hw j u hj => by
        obtain ⟨g, o, e, hc⟩ := (H1.out w hw).at (by omega)
        injection e with e; injection e with e1 e2; subst e1 e2
        rw [Nat.add_assoc]; exact hc _ u (idsC_cell HT.out hlt' (by rw [← hX]; exact hj))
      have HC2 : Hid (∀ w, Has st R w → ∀ j u, (bcells X)[j]? = some u → w.cell? ⟨g2, o2 + i * 32 + j, none⟩ = some u) := Lib.hid fun w hw j u hj => by
        obtain ⟨g, o, e, hc⟩ := (H2.out w hw).at (by omega)
        injection e with e; injection e with e1 e2; subst e1 e2
        rw [Nat.add_assoc]; exact hc _ u (idsC_cell HT.out hlt' (by rw [← hX]; exact hj))
      have HJ : Hid ((Tryd.prog.info? 34).map (·.size) = some (bcells X).length) := Lib.hid (by rw [bcells_length, hXl]; exact infoID)
      have HL := Lib.hid hXl
      have HH3 := Lib.hid h
      have ZX : Hid ((!(X == X)) = false) := Lib.hid (by simp)
      clear hX hXl h hlt'
      go_wp2_with fail
      refine wp_region_inv3 (fun L u w' => Slots (fun kk => ([some (.slice (some ⟨g1, o1, none⟩) N c), some (.int .i64 ((i : Nat) : Int)), some (.pointer (some ⟨g1, o1 + i * 32, none⟩)), some (.agg (bcells X).toArray), some (.slice (some ⟨g2, o2, none⟩) N d), some (.int .i64 ((i : Nat) : Int)), some (.pointer (some ⟨g2, o2 + i * 32, none⟩)), some (.agg (bcells X).toArray), some (.bool false)] : List (Option Value)).getD kk none) L u ∧ Has st R w') (by kernel_rfl) (by decide +kernel) (by decide +kernel) (by kernel_rfl) (by kernel_rfl) (fun u => ⟨Slots.start _ u, HH3.out.drew⟩) ?_ ?_
      · refine ⟨?_, ?_, ?_, ?_, ?_, ?_, ?_, ?_, ?_, trivial⟩
        · refine RegStep3.plain rfl ?_; rintro L u w1 bA hL hW hD hU ⟨hS, hH⟩ hin hout; exact opw_move _ _ (.inl rfl) ((hout 0 (by kernel_rfl)).trans (by kernel_rfl)) ⟨_, rfl, hS.step 0 _ (.inr rfl), hH⟩
        · refine RegStep3.plain rfl ?_; rintro L u w1 bA hL hW hD hU ⟨hS, hH⟩ hin hout; exact opw_move _ _ (.inl rfl) ((hout 5 (by kernel_rfl)).trans (by kernel_rfl)) ⟨_, rfl, hS.step 1 _ (.inr rfl), hH⟩
        · refine RegStep3.plain rfl ?_; rintro L u w1 bA hL hW hD hU ⟨hS, hH⟩ hin hout; exact opw_indexN _ _ 32 _ _ rfl Tryd.underlying46 infoID g1 o1 N c i ((hin 0 17 rfl).trans (hS 0 _ rfl (hW.of 0 (by decide)))) .i64 ((hin 1 18 rfl).trans (hS 1 _ rfl (hW.of 1 (by decide)))) hlt ⟨_, rfl, hS.step 2 _ (.inr rfl), hH⟩
        · refine RegStep3.plain rfl ?_; rintro L u w1 bA hL hW hD hU ⟨hS, hH⟩ hin hout; exact wp_load_mid _ _ rfl g1 (o1 + i * 32) ((hin 2 19 rfl).trans (hS 2 _ rfl (hW.of 2 (by decide)))) (bcells X) _ (HC1.out _ hH) Tryd.underlying34 rfl HJ.out ⟨_, rfl, hS.step 3 _ (.inr rfl), hH⟩
        · refine RegStep3.plain rfl ?_; rintro L u w1 bA hL hW hD hU ⟨hS, hH⟩ hin hout; exact opw_move _ _ (.inl rfl) ((hout 1 (by kernel_rfl)).trans (by kernel_rfl)) ⟨_, rfl, hS.step 4 _ (.inr rfl), hH⟩
        · refine RegStep3.plain rfl ?_; rintro L u w1 bA hL hW hD hU ⟨hS, hH⟩ hin hout; exact opw_move _ _ (.inl rfl) ((hout 5 (by kernel_rfl)).trans (by kernel_rfl)) ⟨_, rfl, hS.step 5 _ (.inr rfl), hH⟩
        · refine RegStep3.plain rfl ?_; rintro L u w1 bA hL hW hD hU ⟨hS, hH⟩ hin hout; exact opw_indexN _ _ 32 _ _ rfl Tryd.underlying46 infoID g2 o2 N d i ((hin 4 21 rfl).trans (hS 4 _ rfl (hW.of 4 (by decide)))) .i64 ((hin 5 22 rfl).trans (hS 5 _ rfl (hW.of 5 (by decide)))) hlt ⟨_, rfl, hS.step 6 _ (.inr rfl), hH⟩
        · refine RegStep3.plain rfl ?_; rintro L u w1 bA hL hW hD hU ⟨hS, hH⟩ hin hout; exact wp_load_mid _ _ rfl g2 (o2 + i * 32) ((hin 6 23 rfl).trans (hS 6 _ rfl (hW.of 6 (by decide)))) (bcells X) _ (HC2.out _ hH) Tryd.underlying34 rfl HJ.out ⟨_, rfl, hS.step 7 _ (.inr rfl), hH⟩
        · refine RegStep3.plain rfl ?_; rintro L u w1 bA hL hW hD hU ⟨hS, hH⟩ hin hout; exact opw_neRow _ _ 5 32 _ _ X X Tryd.underlying34 Tryd.underlying5 infosz (by kernel_rfl) HL.out HL.out rfl ((hin 3 20 rfl).trans (hS 3 _ rfl (hW.of 3 (by decide)))) ((hin 7 24 rfl).trans (hS 7 _ rfl (hW.of 7 (by decide)))) false ZX.out ⟨_, rfl, hS.step 8 _ (.inr rfl), hH⟩
      intro L u w5 hL ⟨hS, hH⟩
      have E0 := hS 0 _ rfl (hL 0 (by decide))
      have E1 := hS 1 _ rfl (hL 1 (by decide))
      have E2 := hS 2 _ rfl (hL 2 (by decide))
      have E3 := hS 3 _ rfl (hL 3 (by decide))
      have E4 := hS 4 _ rfl (hL 4 (by decide))
      have E5 := hS 5 _ rfl (hL 5 (by decide))
      have E6 := hS 6 _ rfl (hL 6 (by decide))
      have E7 := hS 7 _ rfl (hL 7 (by decide))
      have E8 := hS 8 _ rfl (hL 8 (by decide))
      simp only [frame_cons, frame_nil, E0, E1, E2, E3, E4, E5, E6, E7, E8, Act.put, List.setIfInBounds_toArray, List.set_cons_zero, List.set_cons_succ]
      clear hL hS E0 E1 E2 E3 E4 E5 E6 E7 E8
      have H5 := Lib.hid hH
      clear hH
      go_wp2
      go_roundw
      case rel => exact ⟨i + 1, by omega, by go_num, H5.out⟩
      case measure => simp [intOf]; omega
    · go_wp2
      go_ret
      exact ⟨rfl, h⟩
end Go.Proofs.YtblknhpafifebaaDoor

/-
  coldstorelaw14.CachePlays: the plain part.
-/
namespace Go.Proofs.YtblknhpafifebaaDoor
open Go Go.RowKit Go.Sl Go.Sha
set_option linter.unusedVariables false
set_option linter.unusedSimpArgs false
set_option maxRecDepth 100000

theorem opw_max {P : Program} {o : Oper} {a : Act} {w : World} {K : Act → World → Prop} {Q : Exit → Act → World → Prop} (x y : Operand) (t : TypeId) (X Y Z : Int) (ho : o.op = .call { callee := .builtin .max, args := #[x, y], argTypes := #[t, t] }) (hx : a.eval x = .int .i64 X) (hy : a.eval y = .int .i64 Y) (hz : max X Y = Z) (hK : K (a.put o.dst (.int .i64 Z)) w) : o.wp P a w K Q := by
  refine opw_run (.int .i64 Z) ?_ hK
  subst hz
  unfold execOp
  simp only [ho, resolve, invoke, builtin, Sem.run_bind, Sem.run_pure, Result.andThen_ok, List.map_toArray, List.map_cons, List.map_nil, hx, hy]
  by_cases h : X < Y <;> simp [Builtin.max_, Builtin.max2, go_sem, h] <;> omega
theorem opw_min {P : Program} {o : Oper} {a : Act} {w : World} {K : Act → World → Prop} {Q : Exit → Act → World → Prop} (x y : Operand) (t : TypeId) (X Y Z : Int) (ho : o.op = .call { callee := .builtin .min, args := #[x, y], argTypes := #[t, t] }) (hx : a.eval x = .int .i64 X) (hy : a.eval y = .int .i64 Y) (hz : min X Y = Z) (hK : K (a.put o.dst (.int .i64 Z)) w) : o.wp P a w K Q := by
  refine opw_run (.int .i64 Z) ?_ hK
  subst hz
  unfold execOp
  simp only [ho, resolve, invoke, builtin, Sem.run_bind, Sem.run_pure, Result.andThen_ok, List.map_toArray, List.map_cons, List.map_nil, hx, hy]
  by_cases h : X ≤ Y <;> simp [Builtin.min_, Builtin.min2, go_sem, h] <;> omega
theorem layoutRC : layout Tryd.prog 29 = some ([(0, 1), (1, 1)], zrc) := by kernel_rfl
theorem builtRC (lm : Int) : Tryd.prog.built 29 [(1, .int .i64 lm)] = some (rcells (.slice none 0 0) lm) := by
  rw [built_of layoutRC]
  rfl
theorem sees_nilN (st : World) (R : HProp) (size : Nat) : Sees st R size (.slice none 0 0) 0 [] := fun w h => ((h.seen_nil size).openSeen.elim fun _ hG => hG.2 st R w hG.1)
theorem topL_all (L : CL) (h : L.length ≤ 1000) : topL L 1000 = L.map (·.1) := by
  unfold topL; exact List.take_of_length_le (by simp; omega)
theorem topL_len (L : CL) (m : Nat) : (topL L (m : Int)).length = min m L.length := by
  unfold topL; simp
theorem totL_set (L : CL) (i : Nat) (k : List UInt8 × List UInt8) (h : ∀ (hi : i < L.length), k.2.length = L[i].2.length) : totL (L.set i k) = totL L := by
  induction L generalizing i with
  | nil => rfl
  | cons x L ih =>
    cases i with
    | zero => have := h (by simp); simp only [List.set_cons_zero, tot_cons]; simp at this; omega
    | succ i => simp only [List.set_cons_succ, tot_cons]; rw [ih i (fun hi => by have := h (by simp; omega); simpa using this)]
theorem len_spoilL (id : List UInt8) (bit : Int) (L : CL) : (spoilL id bit L).1.length = L.length := by
  unfold spoilL
  split
  · rfl
  · split
    · rfl
    · split
      · rfl
      · simp
theorem tot_spoilL (id : List UInt8) (bit : Int) (L : CL) : totL (spoilL id bit L).1 = totL L := by
  unfold spoilL
  cases hp : placeL id L with
  | none => rfl
  | some i =>
    simp only
    cases hk : L[i]? with
    | none => rfl
    | some k =>
      simp only
      split
      · rfl
      · refine totL_set L i _ fun hi => ?_
        rw [List.getElem?_eq_getElem hi] at hk
        injection hk with hk
        show (Sl.flip _ _).length = _
        rw [flip_length, hk]
theorem abs_ids (K : List Kp) : (absK K).map (·.1) = K.map (·.id) := by simp [absK, Function.comp_def]
theorem zeroV8 (w : World) : (zeroValue 5).run Tryd.prog w = .ok (.int .u8 0) w := by kernel_rfl
theorem one8 : ∀ v ∈ (Value.int .u8 0).cells.toList, v.oneCell' = true := by
  intro v hv
  have : v = .int .u8 0 := by simpa [Value.cells] using hv
  subst this; rfl
/-- what a call of the reference leaves: a piece of its own by which the new row reads -/
def StepR (st : World) (R G : HProp) (i : Nat) (L2 : CL) (T : HProp) (B : Option Addr) (d : Nat) (K : List Kp) (G2 : HProp) (w : World) : Prop :=
  Hid (absK K = L2) ∧ K.length ≤ i + 1 ∧ tot K ≤ 100 * (i + 1) ∧ Has st (sep G2 T) w ∧ Hid (RS st (sep G2 (sep G R)) (.slice B K.length d) K)
theorem stepR {st : World} {R G : HProp} {i : Nat} {L2 : CL} {T : HProp} {w : World} {v : Value} {K : List Kp} {G2 : HProp} (hT : ∀ G2 w, Has st (sep G2 T) w → Has st (sep G2 (sep G R)) w) (hK : absK K = L2) (hl : L2.length ≤ i + 1) (ht : totL L2 ≤ 100 * (i + 1)) (h : Has st (sep G2 T) w) (hr : RS st (sep G2 (sep G R)) v K) :
    ∃ B d, v = .slice B K.length d ∧ StepR st R G i L2 T B d K G2 w := by
  obtain ⟨B, d, rfl⟩ := hr.row.form (hT _ _ h)
  refine ⟨B, d, rfl, Lib.hid hK, ?_, ?_, h, Lib.hid hr⟩
  · rw [← abs_length, hK]; exact hl
  · rw [← abs_tot, hK]; exact ht
def PutN (st : World) (R G : HProp) (lm : Int) (i : Nat) (B : Option Addr) (n d : Nat) (Bb : Option Addr) (nb db : Nat) (S : List UInt8) (L2 : CL) : Prop :=
  ∀ T w, (∀ G2 w, Has st (sep G2 T) w → Has st (sep G2 (sep G R)) w) → Has st T w → Calls Tryd.prog 12 #[.agg (rcells (.slice B n d) lm), .slice Bb nb db] w fun e w' => ∃ G2 B2 d2 K2, e = .returned (.tuple #[.agg (rcells (.slice B2 K2.length d2) lm), .agg (bcells S).toArray]) ∧ StepR st R G i L2 T B2 d2 K2 G2 w'
theorem putN {st : World} {R G : HProp} {lm : Int} {i n : Nat} {B : Option Addr} {d : Nat} {K : List Kp} (hRS : RS st (sep G R) (.slice B n d) K) (hn : n = K.length) (hni : n ≤ i) (ht : tot K ≤ 100 * i) (hi : i < 30) (hlm : 0 ≤ lm) {bl S : List UInt8} {Bb : Option Addr} {nb db : Nat} (hnb : nb = bl.length) (hb : nb ≤ 100) (hsb : Sees st R 1 (.slice Bb nb db) nb (bcells bl)) (hS : S = sha bl) {L2 : CL} (hL : L2 = putL lm (absK K) S bl) : PutN st R G lm i B n d Bb nb db S L2 := by
  intro T w hT h
  subst hn hnb hS hL
  refine (rput_any st T (sep G R) hT (.slice B K.length d) K lm hRS (by omega) (by omega) bl Bb db hsb.right (by omega) hlm w h).mono fun e w' h' => ?_
  obtain ⟨G2, v2, K2, e1, e2, h1, h2⟩ := h'
  obtain ⟨B2, d2, rfl, hs⟩ := stepR (i := i) hT e2 (by have := len_putL lm (absK K) (sha bl) bl; rw [abs_length] at this; omega) (by have := tot_putL lm (absK K) (sha bl) bl; rw [abs_tot] at this; omega) h1 h2
  exact ⟨G2, B2, d2, K2, e1, hs⟩
def GetN (st : World) (R G : HProp) (lm : Int) (i : Nat) (B : Option Addr) (n d : Nat) (S : List UInt8) (L2 : CL) (gb : List UInt8) (ok : Bool) : Prop :=
  ∀ T w, (∀ G2 w, Has st (sep G2 T) w → Has st (sep G2 (sep G R)) w) → Has st T w → Calls Tryd.prog 14 #[.agg (rcells (.slice B n d) lm), .agg (bcells S).toArray] w fun e w' => ∃ G2 B2 d2 K2 V c, e = .returned (.tuple #[.agg (rcells (.slice B2 K2.length d2) lm), .slice V gb.length c, .bool ok]) ∧ StepR st R G i L2 T B2 d2 K2 G2 w' ∧ Hid (Sees st (sep G2 (sep G R)) 1 (.slice V gb.length c) gb.length (bcells gb))
theorem getN {st : World} {R G : HProp} {lm : Int} {i n : Nat} {B : Option Addr} {d : Nat} {K : List Kp} (hRS : RS st (sep G R) (.slice B n d) K) (hn : n = K.length) (hni : n ≤ i) (ht : tot K ≤ 100 * i) (hi : i < 30) {S : List UInt8} (hS : S.length = 32) {L2 : CL} {gb : List UInt8} {ok : Bool} (hL : getL S (absK K) = (L2, gb, ok)) : GetN st R G lm i B n d S L2 gb ok := by
  intro T w hT h
  subst hn
  refine (rget_any st T (sep G R) hT (.slice B K.length d) K lm hRS (by omega) (by omega) S hS w h).mono fun e w' h' => ?_
  obtain ⟨G2, v2, K2, V, e1, e2, h1, h2, h3⟩ := h'
  have a1 := len_getL S (absK K)
  have a2 := tot_getL S (absK K)
  rw [hL] at e1 e2 h3 a1 a2
  rw [abs_length] at a1
  rw [abs_tot] at a2
  have a3 : L2.length ≤ K.length := a1
  have a4 : totL L2 ≤ tot K := a2
  obtain ⟨B2, d2, rfl, hs⟩ := stepR (i := i) hT e2 (by show L2.length ≤ _; omega) (by show totL L2 ≤ _; omega) h1 h2
  obtain ⟨A, c, rfl⟩ := h3.form (hT _ _ h1)
  exact ⟨G2, B2, d2, K2, A, c, e1, hs, Lib.hid h3⟩
def SpoilN (st : World) (R G : HProp) (lm : Int) (i : Nat) (B : Option Addr) (n d : Nat) (S : List UInt8) (bit : Int) (L2 : CL) (ok : Bool) : Prop :=
  ∀ T w, (∀ G2 w, Has st (sep G2 T) w → Has st (sep G2 (sep G R)) w) → Has st T w → Calls Tryd.prog 17 #[.agg (rcells (.slice B n d) lm), .agg (bcells S).toArray, .int .i64 bit] w fun e w' => ∃ G2 B2 d2 K2, e = .returned (.tuple #[.agg (rcells (.slice B2 K2.length d2) lm), .bool ok]) ∧ StepR st R G i L2 T B2 d2 K2 G2 w'
theorem spoilN {st : World} {R G : HProp} {lm : Int} {i n : Nat} {B : Option Addr} {d : Nat} {K : List Kp} (hRS : RS st (sep G R) (.slice B n d) K) (hn : n = K.length) (hni : n ≤ i) (ht : tot K ≤ 100 * i) (hi : i < 30) {S : List UInt8} (hS : S.length = 32) {bit : Int} {L2 : CL} {ok : Bool} (hL : spoilL S bit (absK K) = (L2, ok)) : SpoilN st R G lm i B n d S bit L2 ok := by
  intro T w hT h
  subst hn
  refine (rspoil_any st T (sep G R) hT (.slice B K.length d) K lm hRS (by omega) (by omega) S hS bit w h).mono fun e w' h' => ?_
  obtain ⟨G2, v2, K2, e1, e2, h1, h2⟩ := h'
  have a1 := len_spoilL S bit (absK K)
  have a2 := tot_spoilL S bit (absK K)
  rw [hL] at e1 e2 a1 a2
  rw [abs_length] at a1
  rw [abs_tot] at a2
  have a3 : L2.length = K.length := a1
  have a4 : totL L2 = tot K := a2
  obtain ⟨B2, d2, rfl, hs⟩ := stepR (i := i) hT e2 (by show L2.length ≤ _; omega) (by show totL L2 ≤ _; omega) h1 h2
  exact ⟨G2, B2, d2, K2, e1, hs⟩
theorem rs_assoc {st : World} {R G G2 : HProp} {v : Value} {K : List Kp} (h : RS st (sep G2 (sep G R)) v K) : RS st (sep (sep G2 G) R) v K := h.widen fun w h => h.assoc
end Go.Proofs.YtblknhpafifebaaDoor

/-
  Maps keyed by sums of 32 bytes, as a piece of memory: made, asked, stored to, counted. No program in sight.
-/
namespace Go.Sl
open Go Go.RowKit
open Go.WideMaps (ArrKey KeyLaw)
set_option linter.unusedVariables false
set_option linter.unusedSimpArgs false

theorem mapM_some {α β : Type} {f : α → Option β} : ∀ {l : List α}, (∀ a ∈ l, ∃ b, f a = some b) → ∃ bs, l.mapM f = some bs
  | [], _ => ⟨[], rfl⟩
  | a :: l, h => by
    obtain ⟨b, hb⟩ := h a (by simp)
    obtain ⟨bs, hbs⟩ := mapM_some (l := l) (fun x hx => h x (by simp [hx]))
    exact ⟨b :: bs, by rw [List.mapM_cons, hb, hbs]; rfl⟩
theorem keyOf_sum {P : Program} {k e : TypeId} (A : ArrKey P k e 32) (he : P.underlying e = some (.int .u8)) (hsz : ∃ m, P.types.size = m + 1) {X : List UInt8} (hX : X.length = 32) : ∃ l, keyOf P k (.agg (bcells X).toArray) = some l := by
  have hkt := A.keyType hsz
  obtain ⟨m, hm⟩ := hsz
  have hb : (bcells X).length = 32 := by rw [bcells_length, hX]
  unfold keyOf
  simp only [A.hu]
  rw [if_pos (by simp [hkt, Value.formed, A.hu, A.size, hb]), hm]
  unfold Program.keyLits
  simp only [A.hu, Value.cells]
  rw [if_pos (by rw [A.size]; simp [hb])]
  obtain ⟨bs, hbs⟩ := mapM_some (f := fun i => P.keyLits (m + 1) e (((bcells X).toArray.toList.drop (i * P.cellsOf e)).take (P.cellsOf e))) (l := List.range 32) (fun i hi => by
    have hi' : i < X.length := by rw [hX]; exact List.mem_range.1 hi
    have e1 : ((bcells X).toArray.toList.drop i).take 1 = [.int .u8 (X[i].toNat : Int)] := by
      show ((bcells X).drop i).take 1 = _
      rw [List.drop_eq_getElem_cons (by rw [bcells_length]; exact hi'), List.take_succ_cons, List.take_zero]
      simp [bcells, bcell]
    refine ⟨[.int .u8 (X[i].toNat : Int)], ?_⟩
    show P.keyLits (m + 1) e (((bcells X).toArray.toList.drop (i * P.cellsOf e)).take (P.cellsOf e)) = _
    rw [A.one, Nat.mul_one, e1]
    have := X[i].toNat_lt
    have hw : (Lit.int .u8 (X[i].toNat : Int)).wf = true := by
      have h1 : IntKind.u8.min = 0 := rfl
      have h2 : IntKind.u8.max = 255 := rfl
      simp [Lit.wf, h1, h2]; omega
    simp [Program.keyLits, he, hw])
  exact ⟨_, by rw [hbs]; rfl⟩
theorem bcell_inj {a b : UInt8} (h : bcell a = bcell b) : a = b := by
  unfold bcell at h
  injection h with _ h
  exact UInt8.toNat_inj.1 (by omega)
theorem bcells_inj : ∀ {X Y : List UInt8}, bcells X = bcells Y → X = Y
  | [], [], _ => rfl
  | [], _ :: _, h => by simp [bcells] at h
  | _ :: _, [], h => by simp [bcells] at h
  | x :: X, y :: Y, h => by
    have h' : bcell x :: bcells X = bcell y :: bcells Y := h
    injection h' with h1 h2
    rw [bcell_inj h1, bcells_inj h2]

/-- what a map holds: keys, and values -/
abbrev ML := List (List UInt8 × Value)
def lookM (S : List UInt8) (M : ML) : Option Value := (M.find? (fun x => x.1 == S)).map (·.2)
def putM (S : List UInt8) (v : Value) : ML → ML
  | [] => [(S, v)]
  | x :: M => if x.1 = S then (S, v) :: M else x :: putM S v M
def keysM (M : ML) : List (List UInt8) := M.map (·.1)
theorem look_cons (S : List UInt8) (x : List UInt8 × Value) (M : ML) : lookM S (x :: M) = if x.1 = S then some x.2 else lookM S M := by
  unfold lookM
  rw [List.find?_cons]
  by_cases h : x.1 = S
  · simp [h]
  · rw [if_neg h, show (x.1 == S) = false by simpa using h]
theorem look_put (S T : List UInt8) (v : Value) : ∀ M : ML, lookM T (putM S v M) = if S = T then some v else lookM T M
  | [] => by unfold putM; rw [look_cons]
  | x :: M => by
    unfold putM
    by_cases h : x.1 = S
    · rw [if_pos h, look_cons, look_cons]
      by_cases h2 : S = T
      · simp [h2]
      · rw [if_neg h2, if_neg h2, if_neg (by rw [h]; exact h2)]
    · rw [if_neg h, look_cons, look_cons, look_put S T v M]
      by_cases h2 : x.1 = T
      · rw [if_pos h2, if_pos h2, if_neg (fun e => h (by rw [h2, e]))]
      · rw [if_neg h2, if_neg h2]
theorem look_none {S : List UInt8} : ∀ {M : ML}, lookM S M = none ↔ S ∉ keysM M
  | [] => by simp [lookM, keysM]
  | x :: M => by
    rw [look_cons]
    by_cases h : x.1 = S
    · rw [if_pos h]; simp [keysM, h]
    · rw [if_neg h, look_none (M := M)]
      simp [keysM, Ne.symm h]
theorem look_mem {S : List UInt8} {v : Value} : ∀ {M : ML}, lookM S M = some v → (S, v) ∈ M
  | [], h => by simp [lookM] at h
  | x :: M, h => by
    rw [look_cons] at h
    by_cases hx : x.1 = S
    · rw [if_pos hx] at h; injection h with h; subst hx h; simp
    · rw [if_neg hx] at h; exact List.mem_cons_of_mem _ (look_mem h)
theorem look_at {S : List UInt8} {v : Value} : ∀ {M : ML}, (keysM M).Nodup → ∀ {j : Nat}, M[j]? = some (S, v) → lookM S M = some v
  | [], _, j, h => by simp at h
  | x :: M, hn, 0, h => by simp at h; subst h; rw [look_cons, if_pos rfl]
  | x :: M, hn, j + 1, h => by
    have h' : M[j]? = some (S, v) := by simpa using h
    have hn' : x.1 ∉ keysM M ∧ (keysM M).Nodup := List.nodup_cons.1 hn
    have hm : S ∈ keysM M := List.mem_map.2 ⟨(S, v), List.mem_of_getElem? h', rfl⟩
    rw [look_cons, if_neg (fun e => hn'.1 (by rw [e]; exact hm)), look_at hn'.2 h']
theorem put_new {S : List UInt8} {v : Value} : ∀ {M : ML}, S ∉ keysM M → putM S v M = M ++ [(S, v)]
  | [], _ => rfl
  | x :: M, h => by
    have h' : ¬ S = x.1 ∧ S ∉ keysM M := by simpa [keysM] using h
    unfold putM
    rw [if_neg (fun e => h'.1 e.symm), put_new h'.2]; rfl
theorem put_set {S : List UInt8} {v u : Value} : ∀ {M : ML}, (keysM M).Nodup → ∀ {j : Nat}, M[j]? = some (S, u) → putM S v M = M.set j (S, v)
  | [], _, j, h => by simp at h
  | x :: M, hn, 0, h => by simp at h; subst h; unfold putM; rw [if_pos rfl]; rfl
  | x :: M, hn, j + 1, h => by
    have h' : M[j]? = some (S, u) := by simpa using h
    have hn' : x.1 ∉ keysM M ∧ (keysM M).Nodup := List.nodup_cons.1 hn
    have hm : S ∈ keysM M := List.mem_map.2 ⟨(S, u), List.mem_of_getElem? h', rfl⟩
    unfold putM
    rw [if_neg (fun e => hn'.1 (by rw [e]; exact hm)), put_set hn'.2 h']; rfl
theorem put_keys_old {S : List UInt8} {v : Value} {M : ML} (hn : (keysM M).Nodup) (h : S ∈ keysM M) : keysM (putM S v M) = keysM M := by
  obtain ⟨x, hx, rfl⟩ := List.mem_map.1 h
  obtain ⟨j, hj⟩ := List.getElem?_of_mem hx
  have hjl := (List.getElem?_eq_some_iff.1 hj).1
  rw [put_set hn (u := x.2) hj, keysM, List.map_set]
  refine List.ext_getElem? fun i => ?_
  rw [List.getElem?_set]
  split
  · next e => subst e; simp [keysM, hjl]; rw [(List.getElem?_eq_some_iff.1 hj).2]
  · rfl
theorem put_nodup {S : List UInt8} {v : Value} {M : ML} (hn : (keysM M).Nodup) : (keysM (putM S v M)).Nodup := by
  by_cases h : S ∈ keysM M
  · rw [put_keys_old hn h]; exact hn
  · rw [put_new h, keysM, List.map_append]
    exact List.nodup_append.2 ⟨hn, by simp, fun a ha b hb => by simp at hb; subst hb; exact fun e => h (e ▸ ha)⟩
theorem put_mem {S : List UInt8} {v : Value} : ∀ {M : ML} {x : List UInt8 × Value}, x ∈ putM S v M → x = (S, v) ∨ x ∈ M
  | [], x, h => by simp [putM] at h; exact .inl h
  | y :: M, x, h => by
    unfold putM at h
    split at h
    · rcases List.mem_cons.1 h with h | h
      · exact .inl h
      · exact .inr (List.mem_cons_of_mem _ h)
    · rcases List.mem_cons.1 h with h | h
      · exact .inr (by rw [h]; simp)
      · rcases put_mem h with h | h
        · exact .inl h
        · exact .inr (List.mem_cons_of_mem _ h)

/-- the entries, with what they were born at -/
def entM (M : ML) (bs : List Nat) : List MapEntry := (M.zip bs).map fun x => ⟨.agg (bcells x.1.1).toArray, x.1.2, x.2⟩
structure OkM (M : ML) (bs : List Nat) (c : Nat) : Prop where
  len : M.length = bs.length
  k32 : ∀ x ∈ M, x.1.length = 32
  nodup : (keysM M).Nodup
  bnodup : bs.Nodup
  blt : ∀ x ∈ bs, x < c
def mapB (m : Nat) (M : ML) (bs : List Nat) (c : Nat) : HProp := sep (pure (OkM M bs c)) (Sl.blk m (.map (entM M bs).toArray c))
/-- a map of one's own -/
def mapI (m : Nat) (M : ML) : HProp := ex fun p : List Nat × Nat => mapB m M p.1 p.2
/-- .. of which the entry of S was born at b -/
def mapS (m : Nat) (M : ML) (S : List UInt8) (b : Nat) : HProp := ex fun p : List Nat × Nat => sep (pure (∃ (j : Nat) (v : Value), M[j]? = some (S, v) ∧ p.1[j]? = some b)) (mapB m M p.1 p.2)
theorem mapB_open {st w : World} {m : Nat} {M : ML} {bs : List Nat} {c : Nat} {R : HProp} (h : Has st (sep (mapB m M bs c) R) w) : OkM M bs c ∧ Has st (sep (Sl.blk m (.map (entM M bs).toArray c)) R) w := h.assoc.pureL
theorem mapI_open {st w : World} {m : Nat} {M : ML} {R : HProp} (h : Has st (sep (mapI m M) R) w) : ∃ bs c, OkM M bs c ∧ Has st (sep (Sl.blk m (.map (entM M bs).toArray c)) R) w := by
  obtain ⟨⟨bs, c⟩, h1⟩ := h.exL
  exact ⟨bs, c, mapB_open h1⟩
theorem mapI_mk {st w : World} {m : Nat} {M : ML} {R : HProp} {bs : List Nat} {c : Nat} (ok : OkM M bs c) (h : Has st (sep (Sl.blk m (.map (entM M bs).toArray c)) R) w) : Has st (sep (mapI m M) R) w :=
  Has.ofEx (p := fun p : List Nat × Nat => mapB m M p.1 p.2) (bs, c) ((Has.ofPure ok h).unassoc)
theorem mapS_open {st w : World} {m : Nat} {M : ML} {S : List UInt8} {b : Nat} {R : HProp} (h : Has st (sep (mapS m M S b) R) w) : ∃ (bs : List Nat) (c j : Nat) (v : Value), M[j]? = some (S, v) ∧ bs[j]? = some b ∧ OkM M bs c ∧ Has st (sep (Sl.blk m (.map (entM M bs).toArray c)) R) w := by
  obtain ⟨⟨bs, c⟩, h1⟩ := h.exL
  obtain ⟨⟨j, v, h2, h3⟩, h4⟩ := h1.assoc.pureL
  obtain ⟨h5, h6⟩ := mapB_open h4
  exact ⟨bs, c, j, v, h2, h3, h5, h6⟩
theorem mapS_mk {st w : World} {m : Nat} {M : ML} {S : List UInt8} {b : Nat} {R : HProp} {bs : List Nat} {c j : Nat} {v : Value} (h1 : M[j]? = some (S, v)) (h2 : bs[j]? = some b) (ok : OkM M bs c) (h : Has st (sep (Sl.blk m (.map (entM M bs).toArray c)) R) w) : Has st (sep (mapS m M S b) R) w :=
  Has.ofEx (p := fun p : List Nat × Nat => sep (pure (∃ (j : Nat) (v : Value), M[j]? = some (S, v) ∧ p.1[j]? = some b)) (mapB m M p.1 p.2)) (bs, c) ((Has.ofPure ⟨j, v, h1, h2⟩ ((Has.ofPure ok h).unassoc)).unassoc)
theorem mapS_I {st w : World} {m : Nat} {M : ML} {S : List UInt8} {b : Nat} {R : HProp} (h : Has st (sep (mapS m M S b) R) w) : Has st (sep (mapI m M) R) w := by
  obtain ⟨bs, c, j, v, _, _, ok, h1⟩ := mapS_open h
  exact mapI_mk ok h1

theorem entM_len {M : ML} {bs : List Nat} {c : Nat} (ok : OkM M bs c) : (entM M bs).length = M.length := by
  unfold entM; simp [List.length_zip, ← ok.len]
theorem entM_get {M : ML} {bs : List Nat} {c : Nat} (ok : OkM M bs c) {j : Nat} {e : MapEntry} (h : (entM M bs)[j]? = some e) : ∃ x b, M[j]? = some x ∧ bs[j]? = some b ∧ e = ⟨.agg (bcells x.1).toArray, x.2, b⟩ := by
  unfold entM at h
  rw [List.getElem?_map] at h
  cases hz : (M.zip bs)[j]? with
  | none => rw [hz] at h; cases h
  | some y =>
    rw [hz] at h
    obtain ⟨h1, h2⟩ := List.getElem?_zip_eq_some.1 hz
    exact ⟨y.1, y.2, h1, h2, by simpa using h.symm⟩
theorem entM_at {M : ML} {bs : List Nat} {j : Nat} {x : List UInt8 × Value} {b : Nat} (h1 : M[j]? = some x) (h2 : bs[j]? = some b) : (entM M bs)[j]? = some ⟨.agg (bcells x.1).toArray, x.2, b⟩ := by
  unfold entM
  have hz : (M.zip bs)[j]? = some (x, b) := List.getElem?_zip_eq_some.2 ⟨h1, h2⟩
  rw [List.getElem?_map, hz]; rfl
theorem entM_push {M : ML} {bs : List Nat} {c : Nat} (ok : OkM M bs c) (S : List UInt8) (v : Value) (b : Nat) : entM (M ++ [(S, v)]) (bs ++ [b]) = entM M bs ++ [⟨.agg (bcells S).toArray, v, b⟩] := by
  unfold entM
  rw [List.zip_append ok.len, List.map_append]; rfl
theorem entM_set {M : ML} {bs : List Nat} {c : Nat} (ok : OkM M bs c) {j : Nat} (S : List UInt8) (v : Value) {b : Nat} (hb : bs[j]? = some b) : entM (M.set j (S, v)) bs = (entM M bs).set j ⟨.agg (bcells S).toArray, v, b⟩ := by
  refine List.ext_getElem? fun i => ?_
  rw [List.getElem?_set]
  by_cases hij : j = i
  · subst hij
    rw [if_pos rfl]
    have hj : j < M.length := by rw [ok.len]; exact (List.getElem?_eq_some_iff.1 hb).1
    rw [if_pos (by rw [entM_len ok]; exact hj), entM_at (x := (S, v)) (b := b) (by simp [hj]) hb]
  · rw [if_neg hij]
    unfold entM
    rw [List.getElem?_map, List.getElem?_map]
    congr 1
    unfold List.zip
    rw [List.getElem?_zipWith, List.getElem?_zipWith, List.getElem?_set_ne hij]
theorem OkM.put {M : ML} {bs : List Nat} {c : Nat} (ok : OkM M bs c) {S : List UInt8} (hS : S.length = 32) (v : Value) : OkM (putM S v M) (if S ∈ keysM M then bs else bs ++ [c]) (if S ∈ keysM M then c else c + 1) := by
  by_cases h : S ∈ keysM M
  · rw [if_pos h, if_pos h]
    refine ⟨?_, fun x hx => ?_, put_nodup ok.nodup, ok.bnodup, ok.blt⟩
    · have := congrArg List.length (put_keys_old (v := v) ok.nodup h)
      simp only [keysM, List.length_map] at this
      rw [this, ok.len]
    · rcases put_mem hx with rfl | hx
      · exact hS
      · exact ok.k32 x hx
  · rw [if_neg h, if_neg h]
    refine ⟨by rw [put_new h]; simp [ok.len], fun x hx => ?_, put_nodup ok.nodup, ?_, ?_⟩
    · rcases put_mem hx with rfl | hx
      · exact hS
      · exact ok.k32 x hx
    · exact List.nodup_append.2 ⟨ok.bnodup, by simp, fun a ha b hb => by simp at hb; subst hb; have := ok.blt a ha; omega⟩
    · intro x hx
      rcases List.mem_append.1 hx with hx | hx
      · have := ok.blt x hx; omega
      · simp at hx; omega
/-- what the laws ask of the key's type -/
structure SumKey (P : Program) (k : TypeId) : Prop where
  law : KeyLaw P k
  key : ∀ X : List UInt8, X.length = 32 → ∃ l, keyOf P k (.agg (bcells X).toArray) = some l
theorem find_sum {P : Program} {k : TypeId} (K : SumKey P k) {M : ML} {bs : List Nat} {c : Nat} (ok : OkM M bs c) {S : List UInt8} (hS : S.length = 32) (w : World) :
    (S ∉ keysM M ∧ (Instr.findKey k (.agg (bcells S).toArray) (entM M bs)).run P w = .ok none w) ∨
    ∃ j v b, M[j]? = some (S, v) ∧ bs[j]? = some b ∧ (entM M bs)[j]? = some ⟨.agg (bcells S).toArray, v, b⟩ ∧ (Instr.findKey k (.agg (bcells S).toArray) (entM M bs)).run P w = .ok (some (j, v)) w := by
  obtain ⟨l, hl⟩ := K.key S hS
  rcases K.law.find w hl (entM M bs) (fun e he => by
    obtain ⟨j, hj⟩ := List.getElem?_of_mem he
    obtain ⟨x, b, h1, h2, rfl⟩ := entM_get ok hj
    exact K.key x.1 (ok.k32 x (List.mem_of_getElem? h1))) with ⟨h1, h2⟩ | ⟨j, e, h1, h2, h3⟩
  · refine .inl ⟨fun hm => ?_, h1⟩
    obtain ⟨x, hx, rfl⟩ := List.mem_map.1 hm
    obtain ⟨j, hj⟩ := List.getElem?_of_mem hx
    have hjl : j < bs.length := by rw [← ok.len]; exact (List.getElem?_eq_some_iff.1 hj).1
    exact h2 _ (List.mem_of_getElem? (entM_at hj (List.getElem?_eq_getElem hjl))) rfl
  · obtain ⟨x, b, g1, g2, rfl⟩ := entM_get ok h2
    have hx : x.1 = S := by
      injection h3 with h3
      have := congrArg Array.toList h3
      exact bcells_inj (by simpa using this)
    obtain ⟨x1, x2⟩ := x
    simp only at hx
    subst hx
    exact .inr ⟨j, x2, b, g1, g2, h2, h1⟩
end Go.Sl

/-
  Maps keyed by sums: the operations.
-/
namespace Go.Sl
open Go Go.RowKit
open Go.WideMaps (ArrKey KeyLaw)
set_option linter.unusedVariables false
set_option linter.unusedSimpArgs false
def setBlk (w : World) (b : Nat) (o : Obj) : World := { w with heap := w.heap.setIfInBounds b o }
theorem Has.setBlk {s : World} {b : Nat} {o o' : Obj} {r : HProp} {w : World} (h : Has s (sep (Sl.blk b o) r) w) : Has s (sep (Sl.blk b o') r) (Sl.setBlk w b o') :=
  h.step fun x hx hk => by
    have hx' : x = _ := hx
    subst hx'
    have hb : w.heap[b]? = some o := hk b o (by simp)
    have hlt : b < w.heap.size := (Array.getElem?_eq_some_iff.1 hb).1
    refine ⟨fun k => k = b, _, ⟨rfl, rfl, rfl, by simp [Sl.setBlk], fun k _ hn => by simp [Sl.setBlk, Array.getElem?_setIfInBounds_ne (Ne.symm hn)]⟩, rfl, ?_, ?_, ?_⟩
    · intro k o1 ho
      split at ho
      · next e => subst e; injection ho with ho; subst ho; simp [Sl.setBlk, hlt]
      · cases ho
    · rintro k rfl _; simp
    · intro k hk'
      left
      split at hk'
      · next e => subst e; simp
      · exact absurd rfl hk'
section
variable {P : Program} {o : Oper} {a : Act} {w : World} {K : Act → World → Prop} {Q : Exit → Act → World → Prop} {st : World}
theorem opw_makeMap (t : TypeId) (ho : o.op = .makeMap t none) {R : HProp} (h : Has st R w) (hK : ∀ m w', Has st (sep (mapI m []) R) w' → K (a.put o.dst (.map (some m))) w') : o.wp P a w K Q := by
  have hr : (Instr.makeMap t none).run P w = .ok (.map (some w.heap.size)) (w.alloc (.map #[] 0)) := rfl
  unfold Oper.wp execOp
  simp only [ho, Option.map_none, Sem.run_bind, hr, Sem.run_pure, Result.andThen_ok, Oper.upon_value]
  exact hK _ _ (mapI_mk (bs := []) (c := 0) ⟨rfl, by simp, by simp [keysM], by simp, by simp⟩ (h.alloc _))
theorem run_lookup {t k e : TypeId} (ht : P.underlying t = some (.map k e)) (SK : SumKey P k) {z : Value} (hz : ∀ w, (zeroValue e).run P w = .ok z w) {m : Nat} {M : ML} {R : HProp} (h : Has st (sep (mapI m M) R) w) {S : List UInt8} (hS : S.length = 32) (c : Bool) :
    (Instr.lookup t (.map (some m)) (.agg (bcells S).toArray) c).run P w = .ok (if c then .tuple #[(lookM S M).getD z, .bool (lookM S M).isSome] else (lookM S M).getD z) w := by
  obtain ⟨bs, cl, ok, h1⟩ := mapI_open h
  have hb : w.heap[m]? = some (.map (entM M bs).toArray cl) := h1.blk
  obtain ⟨l, hl⟩ := SK.key S hS
  rcases find_sum SK ok hS w with ⟨g1, g2⟩ | ⟨j, v, b, g1, g2, g3, g4⟩
  · rw [look_none.2 g1]
    simp [Instr.lookup, run_underlying ht, MapKept.run_getObj_map hb, SK.law.check w _ hl, g2, hz w, Result.andThen]
  · rw [look_at ok.nodup g1]
    simp [Instr.lookup, run_underlying ht, MapKept.run_getObj_map hb, SK.law.check w _ hl, g4, Result.andThen]
theorem opw_lookupOk (t k e : TypeId) (x ix : Operand) (ho : o.op = .lookup t x ix true) (ht : P.underlying t = some (.map k e)) (SK : SumKey P k) (z : Value) (hz : ∀ w, (zeroValue e).run P w = .ok z w) {m : Nat} {M : ML} {R : HProp} (S : List UInt8) (hS : S.length = 32)
    (hx : a.eval x = .map (some m)) (hi : a.eval ix = .agg (bcells S).toArray) (h : Has st (sep (mapI m M) R) w) (hK : K (a.put o.dst (.tuple #[(lookM S M).getD z, .bool (lookM S M).isSome])) w) : o.wp P a w K Q := by
  refine opw_run _ ?_ hK
  unfold execOp
  have hr := run_lookup ht SK hz h hS true
  rw [if_pos rfl] at hr
  simp only [ho, hx, hi, Sem.run_bind, hr, Sem.run_pure, Result.andThen_ok]
theorem opw_lookup1 (t k e : TypeId) (x ix : Operand) (ho : o.op = .lookup t x ix false) (ht : P.underlying t = some (.map k e)) (SK : SumKey P k) (z : Value) (hz : ∀ w, (zeroValue e).run P w = .ok z w) {m : Nat} {M : ML} {R : HProp} (S : List UInt8) (hS : S.length = 32)
    (hx : a.eval x = .map (some m)) (hi : a.eval ix = .agg (bcells S).toArray) (h : Has st (sep (mapI m M) R) w) (v : Value) (hv : (lookM S M).getD z = v) (hK : K (a.put o.dst v) w) : o.wp P a w K Q := by
  refine opw_run v ?_ hK
  subst hv
  unfold execOp
  have hr := run_lookup ht SK hz h hS false
  rw [if_neg (by decide)] at hr
  simp only [ho, hx, hi, Sem.run_bind, hr, Sem.run_pure, Result.andThen_ok]
theorem put_old_eq {S : List UInt8} {v u : Value} {M : ML} {bs : List Nat} {c : Nat} (ok : OkM M bs c) {j : Nat} (h : M[j]? = some (S, u)) : S ∈ keysM M := List.mem_map.2 ⟨(S, u), List.mem_of_getElem? h, rfl⟩
theorem opw_mapUpdate (t k e : TypeId) (x ix y : Operand) (ho : o.op = .mapUpdate t x ix y) (ht : P.underlying t = some (.map k e)) (SK : SumKey P k) {m : Nat} {M : ML} {R : HProp} (S : List UInt8) (hS : S.length = 32) (v : Value)
    (hx : a.eval x = .map (some m)) (hi : a.eval ix = .agg (bcells S).toArray) (hy : a.eval y = v) (h : Has st (sep (mapI m M) R) w) (hK : ∀ w', Has st (sep (mapI m (putM S v M)) R) w' → K (a.put o.dst undef) w') : o.wp P a w K Q := by
  obtain ⟨bs, cl, ok, h1⟩ := mapI_open h
  have hb : w.heap[m]? = some (.map (entM M bs).toArray cl) := h1.blk
  obtain ⟨l, hl⟩ := SK.key S hS
  have ok2 := ok.put hS v
  rcases find_sum SK ok hS w with ⟨g1, g2⟩ | ⟨j, u, b, g1, g2, g3, g4⟩
  · rw [if_neg g1, if_neg g1] at ok2
    have hr : (Instr.mapUpdate t (.map (some m)) (.agg (bcells S).toArray) v).run P w = .ok () (Sl.setBlk w m (.map (entM (putM S v M) (bs ++ [cl])).toArray (cl + 1))) := by
      rw [put_new g1, entM_push ok]
      simp [Instr.mapUpdate, run_underlying ht, MapKept.run_getObj_map hb, SK.law.check w false hl, g2, MapKept.run_setObj_map _ hb, Result.andThen, Sl.setBlk]
    unfold Oper.wp execOp
    simp only [ho, hx, hi, hy, Sem.run_bind, hr, Sem.run_pure, Result.andThen_ok]
    exact hK _ (mapI_mk ok2 h1.setBlk)
  · have hm := put_old_eq (v := v) ok g1
    rw [if_pos hm, if_pos hm] at ok2
    have hj : (entM M bs).toArray[j]? = some ⟨.agg (bcells S).toArray, u, b⟩ := by simpa using g3
    have hr : (Instr.mapUpdate t (.map (some m)) (.agg (bcells S).toArray) v).run P w = .ok () (Sl.setBlk w m (.map (entM (putM S v M) bs).toArray cl)) := by
      have e1 : ((entM M bs).modify j fun e => { key := .agg (bcells S).toArray, val := v, born := e.born }) = entM (putM S v M) bs := by
        rw [put_set ok.nodup g1, entM_set ok S v g2]
        refine List.ext_getElem? fun i => ?_
        rw [List.getElem?_modify, List.getElem?_set]
        split
        · next e => subst e; simp [(List.getElem?_eq_some_iff.1 g3).1]; rw [(List.getElem?_eq_some_iff.1 g3).2]
        · simp
      simp [Instr.mapUpdate, run_underlying ht, MapKept.run_getObj_map hb, SK.law.check w false hl, g4, g3, SK.law.stays w hl, MapKept.run_setObj_map _ hb, Result.andThen, Sl.setBlk, e1]
    unfold Oper.wp execOp
    simp only [ho, hx, hi, hy, Sem.run_bind, hr, Sem.run_pure, Result.andThen_ok]
    exact hK _ (mapI_mk ok2 h1.setBlk)
theorem opw_lenMap (t k e : TypeId) (x : Operand) (ho : o.op = .call { callee := .builtin .len, args := #[x], argTypes := #[t] }) (ht : P.underlying t = some (.map k e)) {m : Nat} {M : ML} {R : HProp} (hx : a.eval x = .map (some m)) (h : Has st (sep (mapI m M) R) w) (hK : K (a.put o.dst (.int .i64 ((M.length : Nat) : Int))) w) : o.wp P a w K Q := by
  obtain ⟨bs, cl, ok, h1⟩ := mapI_open h
  have hb : w.heap[m]? = some (.map (entM M bs).toArray cl) := h1.blk
  refine opw_run _ ?_ hK
  unfold execOp
  simp only [ho, resolve, invoke, builtin, Sem.run_bind, Sem.run_pure, Result.andThen_ok, List.map_toArray, List.map_cons, List.map_nil, hx]
  simp [Builtin.len_, run_underlying ht, go_sem, MapKept.run_getObj_map hb, entM_len ok]
end
end Go.Sl

/-
  coldstorelaw14.CacheKeeps: the plain part.
-/
namespace Go.Proofs.YtblknhpafifebaaDoor
open Go Go.RowKit Go.Sl Go.Sha
set_option linter.unusedVariables false
set_option linter.unusedSimpArgs false
set_option maxRecDepth 100000

theorem arrID : Go.WideMaps.ArrKey Tryd.prog 34 5 32 := ⟨Tryd.underlying34, by kernel_rfl, by kernel_rfl, by kernel_rfl⟩
theorem sumKey : SumKey Tryd.prog 34 := ⟨arrID.law, fun X hX => keyOf_sum arrID Tryd.underlying5 ⟨Tryd.prog.types.size - 1, by kernel_rfl⟩ hX⟩
def idL (L : CL) : List (List UInt8) := L.map (·.1)
theorem drop_cons (S : List UInt8) (x : List UInt8 × List UInt8) (L : CL) : dropL S (x :: L) = if x.1 = S then L else x :: dropL S L := by
  unfold dropL placeL
  rw [List.findIdx?_cons]
  by_cases h : x.1 = S
  · rw [if_pos h, show (x.1 == S) = true by simpa using h]; rfl
  · rw [if_neg h, show (x.1 == S) = false by simpa using h]
    simp only [Bool.false_eq_true, if_false]
    cases List.findIdx? (fun k => k.1 == S) L <;> rfl
theorem drop_sub (S : List UInt8) : ∀ L : CL, (dropL S L).Sublist L
  | [] => by simp [dropL, placeL]
  | x :: L => by
    rw [drop_cons]
    split
    · exact List.sublist_cons_self _ _
    · exact (drop_sub S L).cons_cons _
theorem drop_not (S : List UInt8) : ∀ {L : CL}, (idL L).Nodup → S ∉ idL (dropL S L)
  | [], _ => by simp [dropL, placeL, idL]
  | x :: L, h => by
    have h' : x.1 ∉ idL L ∧ (idL L).Nodup := List.nodup_cons.1 h
    rw [drop_cons]
    split
    · next e => rw [← e]; exact h'.1
    · next e =>
      have := drop_not S h'.2
      simp [idL] at this ⊢
      exact ⟨fun h => e h.symm, this⟩
theorem trim_sub (lim : Int) (n : Nat) : ∀ L : CL, (trimL lim n L).Sublist L
  | [] => by simp [trimL]
  | x :: L => by
    rw [trimL]
    split
    · exact (trim_sub lim n L).trans (List.sublist_cons_self _ _)
    · exact List.Sublist.refl _
theorem trim_fits (lim : Int) (n : Nat) (hn : (n : Int) ≤ lim) : ∀ L : CL, ((totL (trimL lim n L) + n : Nat) : Int) ≤ lim
  | [] => by simpa [trimL, totL] using hn
  | x :: L => by
    rw [trimL]
    split
    · exact trim_fits lim n hn L
    · next h => omega
theorem place_not {S : List UInt8} {L : CL} (h : S ∉ idL L) : placeL S L = none := by
  unfold placeL
  rw [List.findIdx?_eq_none_iff]
  intro x hx
  have : ¬ x.1 = S := fun e => h (List.mem_map.2 ⟨x, hx, e⟩)
  simpa using this
theorem place_last {S b : List UInt8} {L : CL} (h : S ∉ idL L) : placeL S (L ++ [(S, b)]) = some L.length := by
  have h1 := place_not h
  unfold placeL at h1 ⊢
  rw [List.findIdx?_append, h1]
  simp [List.findIdx?_cons]
structure Keep (lm : Int) (L : CL) : Prop where
  nodup : (idL L).Nodup
  fits : (totL L : Int) ≤ lm
theorem keep_put {lm : Int} {L : CL} {S b : List UInt8} (h : Keep lm L) : Keep lm (putL lm L S b) := by
  have hd : (idL (dropL S L)).Nodup := h.nodup.sublist ((drop_sub S L).map _)
  unfold putL
  split
  · exact ⟨hd, by have := tot_dropL S L; have := h.fits; omega⟩
  · next hl =>
    refine ⟨?_, ?_⟩
    · have h1 := (trim_sub lm b.length (dropL S L)).map (·.1)
      have h2 : (idL (trimL lm b.length (dropL S L))).Nodup := hd.sublist h1
      show (List.map _ (_ ++ _)).Nodup
      rw [List.map_append]
      refine List.nodup_append.2 ⟨h2, by simp, fun a ha c hc => ?_⟩
      simp at hc
      intro e
      have ha' := h1.subset ha
      rw [e, hc] at ha'
      exact drop_not S h.nodup ha'
    · rw [tot_append]
      have := trim_fits lm b.length (by omega) (dropL S L)
      simpa [totL] using this
theorem get_put_fits {lm : Int} {L : CL} {S b : List UInt8} (h : Keep lm L) (hS : S = sha b) (hb : (b.length : Int) ≤ lm) : getL S (putL lm L S b) = (putL lm L S b, b, true) := by
  have hn : S ∉ idL (trimL lm b.length (dropL S L)) := fun hm => drop_not S h.nodup (((trim_sub lm b.length (dropL S L)).map (·.1)).subset hm)
  unfold putL
  rw [if_neg (by omega)]
  generalize trimL lm b.length (dropL S L) = T at hn
  unfold getL
  rw [place_last hn]
  simp only [List.getElem?_concat_length]
  rw [if_pos (by rw [← hS]; simp)]
  congr 1
  rw [List.eraseIdx_append_of_length_le (Nat.le_refl _)]
  simp
theorem get_put_big {lm : Int} {L : CL} {S b : List UInt8} (h : Keep lm L) (hb : lm < (b.length : Int)) : getL S (putL lm L S b) = (putL lm L S b, [], false) := by
  unfold putL
  rw [if_pos hb]
  unfold getL
  rw [place_not (drop_not S h.nodup)]
theorem tot_mem : ∀ {L : CL} {i : Nat} {k : List UInt8 × List UInt8}, L[i]? = some k → k.2.length ≤ totL L
  | [], i, k, h => by simp at h
  | x :: L, 0, k, h => by simp at h; subst h; rw [tot_cons]; omega
  | x :: L, i + 1, k, h => by
    have := tot_mem (L := L) (i := i) (k := k) (by simpa using h)
    rw [tot_cons]; omega
theorem perm_erase {α : Type} {L : List α} {i : Nat} (h : i < L.length) : (L.eraseIdx i ++ [L[i]]).Perm L := by
  have e : L.take i ++ L[i] :: L.drop (i + 1) = L := by
    rw [← List.drop_eq_getElem_cons h, List.take_append_drop]
  have h1 : (L.eraseIdx i ++ [L[i]]).Perm (L.take i ++ L[i] :: L.drop (i + 1)) := by
    rw [List.eraseIdx_eq_take_drop_succ]
    exact (List.perm_append_singleton _ _).trans List.perm_middle.symm
  rw [e] at h1; exact h1
theorem keep_get {lm : Int} {L L2 : CL} {S g : List UInt8} {ok : Bool} (h : Keep lm L) (e : getL S L = (L2, g, ok)) : Keep lm L2 ∧ (ok = true → sha g = S) ∧ g.length ≤ totL L := by
  have ht := tot_getL S L
  rw [e] at ht
  have ht' : totL L2 ≤ totL L := ht
  have hf : (totL L2 : Int) ≤ lm := by have := h.fits; omega
  unfold getL at e
  split at e
  · injection e with e1 e2; injection e2 with e2 e3; subst e1 e2 e3; exact ⟨h, (fun h => by cases h), by simp⟩
  · rename_i i _
    split at e
    · injection e with e1 e2; injection e2 with e2 e3; subst e1 e2 e3; exact ⟨h, (fun h => by cases h), by simp⟩
    · rename_i k hk
      obtain ⟨hil, hik⟩ := List.getElem?_eq_some_iff.1 hk
      split at e
      · next hs =>
        injection e with e1 e2; injection e2 with e2 e3; subst e1 e2 e3
        refine ⟨⟨?_, hf⟩, fun _ => by simpa using hs, tot_mem hk⟩
        have hp : (L.eraseIdx i ++ [k]).Perm L := by rw [← hik]; exact perm_erase hil
        exact (List.Perm.nodup_iff (l₂ := idL L) (hp.map _)).2 h.nodup
      · injection e with e1 e2; injection e2 with e2 e3; subst e1 e2 e3
        exact ⟨⟨h.nodup.sublist ((List.eraseIdx_sublist _ _).map _), hf⟩, (fun h => by cases h), by simp⟩
theorem keep_spoil {lm : Int} {L L2 : CL} {S : List UInt8} {bit : Int} {ok : Bool} (h : Keep lm L) (e : spoilL S bit L = (L2, ok)) : Keep lm L2 := by
  have ht := tot_spoilL S bit L
  rw [e] at ht
  have ht' : totL L2 = totL L := ht
  have hf : (totL L2 : Int) ≤ lm := by have := h.fits; omega
  unfold spoilL at e
  split at e
  · injection e with e1 e2; subst e1; exact h
  · rename_i i _
    split at e
    · injection e with e1 e2; subst e1; exact h
    · rename_i k hk
      obtain ⟨hil, hik⟩ := List.getElem?_eq_some_iff.1 hk
      split at e
      · injection e with e1 e2; subst e1; exact h
      · injection e with e1 e2; subst e1
        refine ⟨?_, hf⟩
        have : idL (L.set i (k.1, Sl.flip k.2 (bit % ((8 * k.2.length : Nat) : Int)).toNat)) = idL L := by
          unfold idL
          rw [List.map_set]
          refine List.ext_getElem? fun j => ?_
          rw [List.getElem?_set]
          split
          · next e => subst e; simp [hil, hik]
          · rfl
        rw [this]; exact h.nodup
theorem keep_nil {lm : Int} (h : 0 ≤ lm) : Keep lm [] := ⟨by simp [idL], by simpa [totL] using h⟩
end Go.Proofs.YtblknhpafifebaaDoor

/-
  Maps keyed by sums: 'm[k] op= v' (an entry, and a store into it). No program in sight.
-/
namespace Go.Sl
open Go Go.RowKit
set_option linter.unusedVariables false
set_option linter.unusedSimpArgs false
section
variable {P : Program} {o : Oper} {a : Act} {w : World} {K : Act → World → Prop} {Q : Exit → Act → World → Prop} {st : World}
theorem putM_self {S : List UInt8} {u : Value} {M : ML} (hn : (keysM M).Nodup) {j : Nat} (h : M[j]? = some (S, u)) : putM S u M = M := by
  rw [put_set hn h]
  refine List.ext_getElem? fun i => ?_
  rw [List.getElem?_set]
  split
  · next e => subst e; simp [(List.getElem?_eq_some_iff.1 h).1]; rw [(List.getElem?_eq_some_iff.1 h).2]
  · rfl
theorem opw_mapEntry (t k e : TypeId) (x ix : Operand) (ho : o.op = .mapEntry t x ix) (ht : P.underlying t = some (.map k e)) (SK : SumKey P k) (z : Value) (hz : ∀ w, (zeroValue e).run P w = .ok z w) {m : Nat} {M : ML} {R : HProp} (S : List UInt8) (hS : S.length = 32)
    (hx : a.eval x = .map (some m)) (hi : a.eval ix = .agg (bcells S).toArray) (h : Has st (sep (mapI m M) R) w) (hK : ∀ (b : Nat) w', Has st (sep (mapS m (putM S ((lookM S M).getD z) M) S b) R) w' → K (a.put o.dst (.tuple #[(lookM S M).getD z, .int .i64 (b : Int)])) w') : o.wp P a w K Q := by
  obtain ⟨bs, cl, ok, h1⟩ := mapI_open h
  have hb : w.heap[m]? = some (.map (entM M bs).toArray cl) := h1.blk
  obtain ⟨l, hl⟩ := SK.key S hS
  rcases find_sum SK ok hS w with ⟨g1, g2⟩ | ⟨j, u, b, g1, g2, g3, g4⟩
  · have ok2 := ok.put hS z
    rw [if_neg g1, if_neg g1] at ok2
    rw [look_none.2 g1] at hK
    have hr : (Instr.mapEntry t (.map (some m)) (.agg (bcells S).toArray)).run P w = .ok (.tuple #[z, .int .i64 (cl : Int)]) (Sl.setBlk w m (.map (entM (putM S z M) (bs ++ [cl])).toArray (cl + 1))) := by
      rw [put_new g1, entM_push ok]
      simp [Instr.mapEntry, run_underlying ht, MapKept.run_getObj_map hb, SK.law.check w false hl, g2, hz w, MapKept.run_setObj_map _ hb, Result.andThen, Sl.setBlk, goInt]
    unfold Oper.wp execOp
    simp only [ho, hx, hi, Sem.run_bind, hr, Sem.run_pure, Result.andThen_ok]
    refine hK cl _ (mapS_mk (j := M.length) (v := z) ?_ ?_ ok2 h1.setBlk)
    · rw [Option.getD_none, put_new g1]; simp
    · rw [ok.len]; simp
  · have hm := put_old_eq (v := u) ok g1
    rw [look_at ok.nodup g1] at hK
    have hr : (Instr.mapEntry t (.map (some m)) (.agg (bcells S).toArray)).run P w = .ok (.tuple #[u, .int .i64 (b : Int)]) (Sl.setBlk w m (.map (entM M bs).toArray cl)) := by
      have e1 : ((entM M bs).modify j fun e => { key := .agg (bcells S).toArray, val := e.val, born := e.born }) = entM M bs := by
        refine List.ext_getElem? fun i => ?_
        rw [List.getElem?_modify]
        split
        · next e => subst e; rw [g3]; rfl
        · simp
      simp [Instr.mapEntry, run_underlying ht, MapKept.run_getObj_map hb, SK.law.check w false hl, g4, g3, SK.law.stays w hl, MapKept.run_setObj_map _ hb, Result.andThen, Sl.setBlk, goInt, e1]
    unfold Oper.wp execOp
    simp only [ho, hx, hi, Sem.run_bind, hr, Sem.run_pure, Result.andThen_ok]
    have hp : putM S u M = M := putM_self ok.nodup g1
    refine hK b _ (mapS_mk (j := j) (v := u) (c := cl) ?_ g2 ?_ ?_)
    · rw [Option.getD_some, hp]; exact g1
    · rw [Option.getD_some, hp]; exact ok
    · rw [Option.getD_some, hp]; exact h1.setBlk
theorem opw_entryStore (t : TypeId) (x ix y : Operand) (ho : o.op = .entryStore t x ix y) {m : Nat} {M : ML} {S : List UInt8} {b : Nat} {R : HProp} (v : Value)
    (hx : a.eval x = .map (some m)) (hi : a.eval ix = .int .i64 (b : Int)) (hy : a.eval y = v) (h : Has st (sep (mapS m M S b) R) w) (hK : ∀ w', Has st (sep (mapI m (putM S v M)) R) w' → K (a.put o.dst undef) w') : o.wp P a w K Q := by
  obtain ⟨bs, cl, j, u, g1, g2, ok, h1⟩ := mapS_open h
  have hb : w.heap[m]? = some (.map (entM M bs).toArray cl) := h1.blk
  have hjl := (List.getElem?_eq_some_iff.1 g1).1
  have hS : S.length = 32 := ok.k32 _ (List.mem_of_getElem? g1)
  have hm := put_old_eq (v := u) ok g1
  have ok2 := ok.put hS v
  rw [if_pos hm, if_pos hm] at ok2
  have g3 := entM_at g1 g2
  have hf : (entM M bs).findIdx? (fun e => (e.born : Int) == (b : Int)) = some j := by
    rw [List.findIdx?_eq_some_iff_getElem]
    have hje : j < (entM M bs).length := by rw [entM_len ok]; exact hjl
    refine ⟨hje, ?_, fun i hi => ?_⟩
    · rw [(List.getElem?_eq_some_iff.1 g3).2]; simp
    · have hie : i < (entM M bs).length := by omega
      obtain ⟨x', b', f1, f2, f3⟩ := entM_get ok (List.getElem?_eq_getElem hie)
      rw [f3]
      have hjb : j < bs.length := by rw [← ok.len]; exact hjl
      have hib : i < bs.length := by omega
      have e1 : bs[i] = b' := by rw [List.getElem?_eq_getElem hib] at f2; injection f2
      have e2 : bs[j] = b := by rw [List.getElem?_eq_getElem hjb] at g2; injection g2
      have : b' ≠ b := by
        have := List.pairwise_iff_getElem.1 ok.bnodup i j hib hjb hi
        rw [e1, e2] at this; exact this
      simp; omega
  have hr : (Instr.entryStore t (.map (some m)) (.int .i64 (b : Int)) v).run P w = .ok () (Sl.setBlk w m (.map (entM (putM S v M) bs).toArray cl)) := by
    have e1 : ((entM M bs).modify j fun e => { key := e.key, val := v, born := e.born }) = entM (putM S v M) bs := by
      rw [put_set ok.nodup g1, entM_set ok S v g2]
      refine List.ext_getElem? fun i => ?_
      rw [List.getElem?_modify, List.getElem?_set]
      split
      · next e => subst e; rw [g3]; simp [(List.getElem?_eq_some_iff.1 g3).1]
      · simp
    simp [Instr.entryStore, MapKept.run_getObj_map hb, asInt, asIntOf, hf, MapKept.run_setObj_map _ hb, Result.andThen, Sl.setBlk, e1]
  unfold Oper.wp execOp
  simp only [ho, hx, hi, hy, Sem.run_bind, hr, Sem.run_pure, Result.andThen_ok]
  exact hK _ (mapI_mk ok2 h1.setBlk)
end
/-- a map with an entry that was handed out, in a tuple; then by its stamp alone -/
def mapT (m : Nat) (M : ML) (S : List UInt8) (u : Value) : HProp := ex fun p : Value × Nat => sep (pure (u = .tuple #[p.1, .int .i64 (p.2 : Int)])) (mapS m M S p.2)
def mapV (m : Nat) (M : ML) (S : List UInt8) (u : Value) : HProp := ex fun b : Nat => sep (pure (u = .int .i64 (b : Int))) (mapS m M S b)
theorem mapT_mk {st w : World} {m : Nat} {M : ML} {S : List UInt8} {v : Value} {b : Nat} {R : HProp} (h : Has st (sep (mapS m M S b) R) w) : Has st (sep (mapT m M S (.tuple #[v, .int .i64 (b : Int)])) R) w :=
  Has.ofEx (p := fun p : Value × Nat => sep (pure ((.tuple #[v, .int .i64 (b : Int)] : Value) = .tuple #[p.1, .int .i64 (p.2 : Int)])) (mapS m M S p.2)) (v, b) ((Has.ofPure rfl h).unassoc)
theorem mapT_open {st w : World} {m : Nat} {M : ML} {S : List UInt8} {u : Value} {R : HProp} (h : Has st (sep (mapT m M S u) R) w) : ∃ v b, u = .tuple #[v, .int .i64 ((b : Nat) : Int)] ∧ Has st (sep (mapS m M S b) R) w := by
  obtain ⟨⟨v, b⟩, h1⟩ := h.exL
  obtain ⟨h2, h3⟩ := h1.assoc.pureL
  exact ⟨v, b, h2, h3⟩
theorem mapV_mk {st w : World} {m : Nat} {M : ML} {S : List UInt8} {b : Nat} {R : HProp} (h : Has st (sep (mapS m M S b) R) w) : Has st (sep (mapV m M S (.int .i64 (b : Int))) R) w :=
  Has.ofEx (p := fun c : Nat => sep (pure ((.int .i64 (b : Int) : Value) = .int .i64 (c : Int))) (mapS m M S c)) b ((Has.ofPure rfl h).unassoc)
theorem mapV_open {st w : World} {m : Nat} {M : ML} {S : List UInt8} {u : Value} {R : HProp} (h : Has st (sep (mapV m M S u) R) w) : ∃ b, u = .int .i64 ((b : Nat) : Int) ∧ Has st (sep (mapS m M S b) R) w := by
  obtain ⟨b, h1⟩ := h.exL
  obtain ⟨h2, h3⟩ := h1.assoc.pureL
  exact ⟨b, h2, h3⟩
/-- whether or not the entry is there yet, what is asked for is the same -/
theorem look_stg {st w : World} {m : Nat} {M M1 : ML} {S : List UInt8} {u7 u8 : Value} {b7 b8 : Bool} {R : HProp} {z v : Value} (h : Has st (sep (stg b8 (mapV m M1 S u8) (stg b7 (mapT m M1 S u7) (mapI m M))) R) w) (h0 : (lookM S M).getD z = v) (h1 : (lookM S M1).getD z = v) :
    ∃ M', Has st (sep (mapI m M') R) w ∧ (lookM S M').getD z = v := by
  cases b8 with
  | true =>
    rw [stg_true] at h
    obtain ⟨b, _, h2⟩ := mapV_open h
    exact ⟨M1, mapS_I h2, h1⟩
  | false =>
    rw [stg_off rfl] at h
    cases b7 with
    | true =>
      rw [stg_true] at h
      obtain ⟨v', b, _, h2⟩ := mapT_open h
      exact ⟨M1, mapS_I h2, h1⟩
    | false =>
      rw [stg_off rfl] at h
      exact ⟨M, h, h0⟩
end Go.Sl

/-
  Rows of one's own that were cut at the front: a slice that begins within its block; append to it, and its tail. No program in sight.
-/
namespace Go.Sl
open Go Go.RowKit
set_option linter.unusedVariables false
set_option linter.unusedSimpArgs false
/-- a slice of cells of one each that begins anywhere in a block of one's own -/
def rowO (E : TypeId) (v : Value) (n : Nat) (xs : List Value) : HProp := ex fun p : Nat × Nat × Nat × Array Value =>
  sep (pure (v = .slice (some ⟨p.1, p.2.1, none⟩) n p.2.2.1 ∧ n ≤ p.2.2.1 ∧ p.2.2.1 ≤ maxLen ∧ p.2.2.2.size = p.2.1 + p.2.2.1 ∧ (p.2.2.2.toList.drop p.2.1).take n = xs)) (Sl.blk p.1 (.cells p.2.2.2 E (0, 0)))
theorem rowO_open {st w : World} {E : TypeId} {v : Value} {n : Nat} {xs : List Value} {R : HProp} (h : Has st (sep (rowO E v n xs) R) w) :
    ∃ g off cap cur, v = .slice (some ⟨g, off, none⟩) n cap ∧ n ≤ cap ∧ cap ≤ maxLen ∧ cur.size = off + cap ∧ (cur.toList.drop off).take n = xs ∧ Has st (sep (Sl.blk g (.cells cur E (0, 0))) R) w := by
  obtain ⟨⟨g, off, cap, cur⟩, h1⟩ := h.exL
  obtain ⟨⟨h2, h3, h4, h5, h6⟩, h7⟩ := h1.assoc.pureL
  exact ⟨g, off, cap, cur, h2, h3, h4, h5, h6, h7⟩
theorem rowO_mk {st w : World} {E : TypeId} {n : Nat} {xs : List Value} {R : HProp} {g off cap : Nat} {cur : Array Value} (h3 : n ≤ cap) (h4 : cap ≤ maxLen) (h5 : cur.size = off + cap) (h6 : (cur.toList.drop off).take n = xs) (h : Has st (sep (Sl.blk g (.cells cur E (0, 0))) R) w) :
    Has st (sep (rowO E (.slice (some ⟨g, off, none⟩) n cap) n xs) R) w :=
  Has.ofEx (p := fun p : Nat × Nat × Nat × Array Value => sep (pure ((.slice (some ⟨g, off, none⟩) n cap : Value) = .slice (some ⟨p.1, p.2.1, none⟩) n p.2.2.1 ∧ n ≤ p.2.2.1 ∧ p.2.2.1 ≤ maxLen ∧ p.2.2.2.size = p.2.1 + p.2.2.1 ∧ (p.2.2.2.toList.drop p.2.1).take n = xs)) (Sl.blk p.1 (.cells p.2.2.2 E (0, 0))))
    (g, off, cap, cur) ((Has.ofPure ⟨rfl, h3, h4, h5, h6⟩ h).unassoc)
/-- a row, whole or cut at the front -/
def lineP (E : TypeId) (v : Value) (n : Nat) (xs : List Value) : HProp := ex fun b : Bool => if b then row E 1 v n xs else rowO E v n xs
theorem line_row {st w : World} {E : TypeId} {v : Value} {n : Nat} {xs : List Value} {R : HProp} (h : Has st (sep (row E 1 v n xs) R) w) : Has st (sep (lineP E v n xs) R) w :=
  Has.ofEx (p := fun b : Bool => if b then row E 1 v n xs else rowO E v n xs) true (by simpa using h)
theorem line_rowO {st w : World} {E : TypeId} {v : Value} {n : Nat} {xs : List Value} {R : HProp} (h : Has st (sep (rowO E v n xs) R) w) : Has st (sep (lineP E v n xs) R) w :=
  Has.ofEx (p := fun b : Bool => if b then row E 1 v n xs else rowO E v n xs) false (by simpa using h)
theorem line_cases {st w : World} {E : TypeId} {v : Value} {n : Nat} {xs : List Value} {R : HProp} (h : Has st (sep (lineP E v n xs) R) w) : Has st (sep (row E 1 v n xs) R) w ∨ Has st (sep (rowO E v n xs) R) w := by
  obtain ⟨b, h1⟩ := h.exL
  cases b
  · right; simpa using h1
  · left; simpa using h1
theorem cell_of_heap {w : World} {g : Nat} {cur : Array Value} {E : TypeId} {f : Nat × Nat} (h : w.heap[g]? = some (.cells cur E f)) {j : Nat} {u : Value} (hu : cur[j]? = some u) : w.cell? ⟨g, j, none⟩ = some u := by
  simp [World.cell?, h, hu]
theorem rowO_rd {st w : World} {E : TypeId} {v : Value} {n : Nat} {xs : List Value} {R : HProp} (h : Has st (sep (rowO E v n xs) R) w) : Rd 1 w v n xs := by
  obtain ⟨g, off, cap, cur, rfl, h3, h4, h5, h6, h7⟩ := rowO_open h
  have hl : xs.length = n := by rw [← h6, List.length_take, List.length_drop, Array.length_toList]; omega
  refine ⟨by omega, _, _, rfl, h3, h4, .inr ⟨⟨g, off, none⟩, rfl, fun j u hu => ⟨rfl, ?_⟩⟩⟩
  have hj : j < n := by rw [← hl]; exact (List.getElem?_eq_some_iff.1 hu).1
  refine cell_of_heap h7.blk ?_
  rw [← h6, List.getElem?_take_of_lt hj, List.getElem?_drop] at hu
  simpa using hu
theorem line_rd {st w : World} {E : TypeId} {v : Value} {n : Nat} {xs : List Value} {R : HProp} (h : Has st (sep (lineP E v n xs) R) w) : Rd 1 w v n xs := by
  rcases line_cases h with h | h
  · exact Rd.of_row h.ownsRow
  · exact rowO_rd h
theorem line_slice {st w : World} {E : TypeId} {v : Value} {n : Nat} {xs : List Value} {R : HProp} (h : Has st (sep (lineP E v n xs) R) w) : ∃ A c, v = .slice A n c := by
  obtain ⟨_, A, c, e, _⟩ := line_rd h
  exact ⟨A, c, e⟩
/-- the tail of a row -/
theorem line_tail {st w : World} {E : TypeId} {A : Option Addr} {n c : Nat} {xs : List Value} {R : HProp} (h : Has st (sep (lineP E (.slice A n c) n xs) R) w) (hn : 2 ≤ n) : n ≤ c ∧ Has st (sep (lineP E (.slice (subA 1 A 1 c) (n - 1) (c - 1)) (n - 1) (xs.drop 1)) R) w := by
  have hO : ∃ g off cur, A = some ⟨g, off, none⟩ ∧ n ≤ c ∧ c ≤ maxLen ∧ cur.size = off + c ∧ (cur.toList.drop off).take n = xs ∧ Has st (sep (Sl.blk g (.cells cur E (0, 0))) R) w := by
    rcases line_cases h with h | h
    · obtain ⟨g, rfl⟩ := h.row_at33 (i := 0) (by omega)
      obtain ⟨cur, h1, h2, h3, h4, h5⟩ := h.row_open
      exact ⟨g, 0, cur, rfl, h1, h2, by omega, by simpa using h4, h5⟩
    · obtain ⟨g, off, cap, cur, e, h3, h4, h5, h6, h7⟩ := rowO_open h
      injection e with e1 e2 e3
      subst e1 e3
      exact ⟨g, off, cur, rfl, h3, h4, h5, h6, h7⟩
  obtain ⟨g, off, cur, rfl, h3, h4, h5, h6, h7⟩ := hO
  refine ⟨h3, ?_⟩
  have e : subA 1 (some ⟨g, off, none⟩) 1 c = some ⟨g, off + 1, none⟩ := by
    unfold subA
    rw [if_neg (by omega)]
    simp [Addr.add_lit]
  rw [e]
  refine line_rowO (rowO_mk (by omega) (by omega) (by omega) ?_ h7)
  rw [← h6, ← List.drop_drop, List.drop_take]
theorem run_append_roomO {P : Program} (w : World) (t ty e : TypeId) (i : TypeInfo) (ht : P.underlying t = some (.slice e)) (hi : P.info? e = some i) (h1s : i.size = 1)
    (g off sLen sCap : Nat) (cur : Array Value) (hg : w.heap[g]? = some (.cells cur e (0, 0)))
    (a : Addr) (m c : Nat) (news : List Value) (hl : news.length = m) (hnews : ∀ j u, news[j]? = some u → w.cell? (a.add j) = some u) (h1 : ∀ u ∈ news, u.oneCell' = true)
    (hroom : sLen + m ≤ sCap) (hfit : off + sLen + news.length ≤ cur.size) :
    (Builtin.append_ #[t, t] ty #[.slice (some ⟨g, off, none⟩) sLen sCap, .slice (some a) m c]).run P w =
      .ok (.slice (some ⟨g, off, none⟩) (sLen + m) sCap) (w.setRow g (cur.toList.take (off + sLen) ++ news ++ cur.toList.drop (off + sLen + news.length)).toArray) := by
  have hf := run_firstCells_some (P := P) w i.size m a m c news (by rw [h1s]; omega) hnews
  have hst := run_storeCells_at P g (off + sLen) e news 0 cur w hg (by simpa using hfit) h1
  simp only [Nat.add_zero] at hst
  simp [Builtin.append_, run_underlying ht, sizeOf, typeInfo, hi, Builtin.lenOf, hroom, hf, Addr.add_lit, h1s] at hst ⊢
  rw [h1s] at hf
  simp [hf, hst]
/-- one more, at the end of a row, whole or cut -/
theorem op_appendL {P : Program} {o : Oper} {a : Act} {w : World} {K : Act → World → Prop} {Q : Exit → Act → World → Prop} {st : World} (s x : Operand) (t e : TypeId) (bytes : Nat) (z : Value)
    (ho : o.op = .call { callee := .builtin .append, args := #[s, x], argTypes := #[t, t] })
    (ht : P.underlying t = some (.slice e)) (hi : (P.info? e).map (fun i => (i.zero, i.size, i.bytes)) = some (some z, 1, bytes)) (hzs : z.cells.size = 1)
    {v vx : Value} {n m : Nat} {xs news : List Value} {R : HProp} (hs : a.eval s = v) (hx : a.eval x = vx) (h : Has st (sep (lineP e v n xs) R) w) (hr : Rd 1 w vx m news) (hm : 0 < m)
    (h1 : ∀ u ∈ news, u.oneCell' = true) (hb1 : n + m ≤ maxLen) (hb2 : (n + m) * bytes ≤ 140737488355328)
    (hK : ∀ A c w', Has st (sep (lineP e (.slice A (n + m) c) (n + m) (xs ++ news)) R) w' → K (a.put o.dst (.slice A (n + m) c)) w') : o.wp P a w K Q := by
  rcases line_cases h with h | h
  · exact op_append s x t e 1 bytes z ho ht hi hzs (by decide) hs hx h hr h1 hb1 hb2 fun A c w' h' => hK A c w' (line_row h')
  · obtain ⟨i, hi0, hz, hsize, hby⟩ : ∃ i, P.info? e = some i ∧ (i.zero = some z ∧ i.size = 1 ∧ i.bytes = bytes) := by
      cases hp : P.info? e with
      | none => rw [hp] at hi; cases hi
      | some i => rw [hp] at hi; simp at hi; exact ⟨i, rfl, hi⟩
    have hxr := rowO_rd h
    obtain ⟨g, off, cap, cur, rfl, h3, h4, h5, h6, h7⟩ := rowO_open h
    have hxl : xs.length = n := by rw [← h6, List.length_take, List.length_drop, Array.length_toList]; omega
    have hnl : news.length = m := by have := hr.1; omega
    obtain ⟨b', off', cap', rfl, _, _, hc⟩ := hr.open hm
    have hnews : ∀ j u, news[j]? = some u → w.cell? ((⟨b', off', none⟩ : Addr).add j) = some u := fun j u hu => by rw [Addr.add_lit]; exact hc j u hu
    by_cases hroom : n + m ≤ cap
    · have hrun := run_append_roomO (P := P) w t o.type e i ht hi0 hsize g off n cap cur h7.blk ⟨b', off', none⟩ m cap' news hnl hnews h1 hroom (by omega)
      unfold Oper.wp execOp
      simp only [ho, resolve, invoke, builtin, Sem.run_bind, Sem.run_pure, Result.andThen_ok, List.map_toArray, List.map_cons, List.map_nil, hs, hx, hrun]
      refine hK _ _ _ (line_rowO (rowO_mk (by omega) h4 ?_ ?_ (h7.setRow _)))
      · simp only [List.size_toArray, List.length_append, List.length_take, List.length_drop, Array.length_toList]; omega
      · show ((cur.toList.take (off + n) ++ news ++ cur.toList.drop (off + n + news.length)).drop off).take (n + m) = _
        rw [List.append_assoc, List.drop_append_of_le_length (by rw [List.length_take, Array.length_toList]; omega), List.drop_take, show off + n - off = n by omega, h6, ← List.append_assoc]
        exact List.take_left' (by rw [List.length_append]; omega)
    · have holds : ∀ j u, xs[j]? = some u → w.cell? ((⟨g, off, none⟩ : Addr).add j) = some u := fun j u hu => by
        obtain ⟨_, A2, c2, e2, _, _, hh⟩ := hxr
        injection e2 with e2 _ _
        subst e2
        rcases hh with ⟨hh, _⟩ | ⟨ad, hh, hcl⟩
        · cases hh
        · injection hh with hh; subst hh; rw [Addr.add_lit]; exact (hcl j u hu).2
      have hrun := run_append_grow (P := P) (w := w) t o.type e i z ht hi0 hz ⟨g, off, none⟩ n cap xs (by rw [hsize]; omega) holds ⟨b', off', none⟩ m cap' news (by rw [hsize]; omega) hnews (by omega) (by simp only [maxLen] at hb1; omega) (growslice_fits (by omega) (by rw [hby]; exact hb2))
      unfold Oper.wp execOp
      simp only [ho, resolve, invoke, builtin, Sem.run_bind, Sem.run_pure, Result.andThen_ok, List.map_toArray, List.map_cons, List.map_nil, hs, hx, hrun]
      have hge := grownCap_ge w (n + m) cap e
      have hcm : grownCap w (n + m) cap e ≤ maxLen := grownCap_le_maxLen w (n + m) cap e hb1
      refine hK _ _ _ (line_row ((h7.right.drew.alloc _).row_of_blk 1 (n + m) _ hge hcm ?_ ?_))
      · simp only [Array.size_append, List.size_toArray, size_zeroCells, hzs, hxl, hnl]; omega
      · simp only [Array.toList_append, Nat.mul_one]
        exact List.take_left' (by simp; omega)
end Go.Sl
