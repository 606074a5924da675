/-
  coldstoreref03.Parse.
-/
import Derived.Test.YtijcjjinafpomaaDoorShaParse
namespace Go.Proofs.YtijcjjinafpomaaDoor
open Go.RowKit Go.Sl Go.Sha
set_option linter.unusedVariables false
set_option linter.unusedSimpArgs false
theorem dg_le (s : List UInt8) (i : Nat) : dg s i ≤ 16 := by
  unfold dg digitN
  split
  · omega
  · split <;> omega
theorem part_two (s : List UInt8) (i : Nat) (h : i < 32) : part s (2 * (i + 1)) = (part s (2 * i)).set i (UInt8.ofNat (16 * dg s (2 * i) + dg s (2 * i + 1))) := by
  rw [show 2 * (i + 1) = 2 * i + 1 + 1 by omega, part_succ s (2 * i + 1) (by omega), part_succ s (2 * i) (by omega), show (2 * i + 1) / 2 = i by omega, show 2 * i / 2 = i by omega, List.set_set, if_neg (by omega), show 2 * i + 1 - 1 = 2 * i by omega]
def refParseV (s : List UInt8) : Value := .tuple #[.agg (bcells (if okS s then part s 64 else List.replicate 32 0)).toArray, .bool (okS s)]
theorem refparse_no {s : List UInt8} (h : okS s = false) : refParseV s = .tuple #[.agg (bcells (List.replicate 32 0)).toArray, .bool false] := by unfold refParseV; rw [h]; rfl
theorem refparse_yes {s : List UInt8} (h : okS s = true) : refParseV s = .tuple #[.agg (bcells (part s 64)).toArray, .bool true] := by unfold refParseV; rw [h]; rfl
def RParseI (st : World) (R : HProp) (p : Nat) (s : List UInt8) (v : Value) (w : World) : Prop := ∃ i : Nat, i ≤ 32 ∧ v = .int .i64 ((i : Nat) : Int) ∧ (∀ j, j < 2 * i → dg s j < 16) ∧ Has st (sep (blk p (.cells (bcells (part s (2 * i))).toArray 24 (0, 0))) R) w
set_option maxRecDepth 100000 in
set_option maxHeartbeats 4000000 in
theorem refparse_any (st : World) (R : HProp) (s : ByteArray) (w : World) (h : Has st R w) (hsl : s.size ≤ 140737488355328) :
    Calls Tryd.prog 9 #[.string s] w fun e w' => e = .returned (refParseV s.data.toList) ∧ Has st R w' := by
  have HH := Lib.hid h
  obtain ⟨l, hl⟩ : ∃ l, l = s.data.toList := ⟨_, rfl⟩
  have hll : l.length = s.size := by rw [hl]; simp
  rw [← hl]
  have HL := Lib.hid hl
  have HLL := Lib.hid hll
  clear h hl hll
  by_cases h64 : s.size = 64
  · have hz : ((s.size : Int) != 64) = false := by rw [h64]; rfl
    have HZ : Hid (cmpZ .neq (s.size : Int) 64 = some false) := Lib.hid (by simp only [cmpZ, hz])
    have H64 := Lib.hid h64
    clear hz h64
    go_enter Tryd.func9, Tryd.ntmps9
    go_wp2_with ((with_reducible refine wpList_plain rfl ?_); intro _ hk; (first
      | (refine opw_build _ [] [] (bcells (List.replicate 32 0)).toArray rfl rfl (by kernel_rfl) (hk _ _ ?_))
      | (have _k := H0; refine opw_alloc 24 (.agg (bcells (List.replicate 32 0)).toArray) (bcells (List.replicate 32 0)).toArray rfl zeroID rfl H0.out (fun p1 w1 hp h1 => hk _ _ ?_); clear hp; have H1 := Lib.hid h1; clear h1)
      | (refine opw_alloc 24 (.agg (bcells (List.replicate 32 0)).toArray) (bcells (List.replicate 32 0)).toArray rfl zeroID rfl HH.out (fun p0 w0 hp h0 => hk _ _ ?_); clear hp; have H0 := Lib.hid h0; clear h0)
      | (refine opw_storeRow 24 _ _ rfl p1 (bcells (List.replicate 32 0)).toArray rfl rfl 24 (bcells (List.replicate 32 0)).toArray infoID rfl (bcells_all _) H1.out (fun w2 h2 => hk _ _ ?_); have H2 := Lib.hid h2; clear h2)
      | (refine opw_cmp .neq _ _ _ _ .i64 (s.size : Int) 64 false rfl rfl rfl HZ.out (hk _ _ ?_))); simp only [Act.put, List.setIfInBounds_toArray, List.set_cons_zero, List.set_cons_succ])
    go_loopw [5] (RParseI st (sep (blk p0 (.cells (bcells (List.replicate 32 0)).toArray 24 (0, 0))) R) p1 l) (fun v _ => 32 - (intOf v).toNat)
    case atStart => exact ⟨0, Nat.zero_le _, rfl, fun j hj => absurd hj (by omega), by rw [part_zero]; exact H2.out⟩
    case round =>
      obtain ⟨i, hi, rfl, hs, h3⟩ := hrel
      have HS := Lib.hid hs
      clear H2 H1 H0 HH hs
      by_cases hlt : i < 32
      · obtain ⟨j0, hj0⟩ : ∃ j, j = 2 * i := ⟨_, rfl⟩
        obtain ⟨j1, hj1⟩ : ∃ j, j = j0 + 1 := ⟨_, rfl⟩
        have b1 : binZ .mul .i64 2 (i : Int) = some (j0 : Int) := by rw [hj0]; exact bin_mul 2 i (by omega)
        have b2 : binZ .add .i64 (j0 : Int) 1 = some (j1 : Int) := by rw [hj1]; exact bin_add j0 1 (by omega)
        have gc : ∀ j, j < 64 → s.data.toList[j]? = some (l.getD j 0) := by
          intro j hj
          have hil : j < l.length := by rw [HLL.out, H64.out]; exact hj
          rw [← HL.out, List.getD_eq_getElem?_getD, List.getElem?_eq_getElem hil]; rfl
        obtain ⟨c0, hc0⟩ : ∃ c, c = l.getD j0 0 := ⟨_, rfl⟩
        obtain ⟨c1, hc1⟩ : ∃ c, c = l.getD j1 0 := ⟨_, rfl⟩
        have g0 := gc j0 (by omega)
        have g1 := gc j1 (by omega)
        rw [← hc0] at g0
        rw [← hc1] at g1
        obtain ⟨a, ha⟩ : ∃ d, d = dg l j0 := ⟨_, rfl⟩
        obtain ⟨b, hb⟩ : ∃ d, d = dg l j1 := ⟨_, rfl⟩
        have d0 : ∀ w : World, Calls Tryd.prog 20 #[.int .u8 (c0.toNat : Int)] w fun e w' => e = .returned (.int .u8 (a : Int)) ∧ w = w' := fun w => by rw [ha]; unfold dg; rw [← hc0]; exact digit_any c0 w
        have d1 : ∀ w : World, Calls Tryd.prog 20 #[.int .u8 (c1.toNat : Int)] w fun e w' => e = .returned (.int .u8 (b : Int)) ∧ w = w' := fun w => by rw [hb]; unfold dg; rw [← hc1]; exact digit_any c1 w
        have ha16 : a ≤ 16 := by rw [ha]; exact dg_le _ _
        have hb16 : b ≤ 16 := by rw [hb]; exact dg_le _ _
        have HA := Lib.hid ha
        have HB := Lib.hid hb
        have HJ0 := Lib.hid hj0
        have HJ1 := Lib.hid hj1
        have HG0 := Lib.hid g0
        have HG1 := Lib.hid g1
        have HD0 := Lib.hid d0
        have HD1 := Lib.hid d1
        have HB1 := Lib.hid b1
        have HB2 := Lib.hid b2
        have H3 := Lib.hid h3
        have hno : (¬ a < 16 ∨ ¬ b < 16) → okS l = false := by
          intro h
          unfold okS
          rw [Bool.and_eq_false_iff]; right
          rw [List.all_eq_false]
          rcases h with h | h
          · exact ⟨j0, List.mem_range.2 (by rw [hj0]; omega), by rw [← HA.out]; simpa using h⟩
          · exact ⟨j1, List.mem_range.2 (by rw [hj1, hj0]; omega), by rw [← HB.out]; simpa using h⟩
        have HNO := Lib.hid hno
        clear hj0 hj1 b1 b2 gc hc0 hc1 g0 g1 ha hb d0 d1 h3 hno
        by_cases hA : a < 16
        · by_cases hB : b < 16
          · obtain ⟨Y, hY⟩ : ∃ Y, Y = 16 * a := ⟨_, rfl⟩
            obtain ⟨Z, hZ⟩ : ∃ Z : UInt8, Z = UInt8.ofNat (16 * a + b) := ⟨_, rfl⟩
            have b3 : binZ .mul .u8 16 (a : Int) = some (Y : Int) := by
              show some (IntKind.u8.wrap (16 * (a : Int))) = _
              rw [hY]
              simp [IntKind.wrap, IntKind.signed, IntKind.bits]
              omega
            have b4 : binZ .add .u8 (Y : Int) (b : Int) = some (Z.toNat : Int) := by
              show some (IntKind.u8.wrap ((Y : Int) + (b : Int))) = _
              rw [hY, hZ, UInt8.toNat_ofNat']
              simp [IntKind.wrap, IntKind.signed, IntKind.bits]
            have hset : (part l (2 * i)).set i Z = part l (2 * (i + 1)) := by
              rw [part_two l i hlt, hZ, HA.out, HB.out, HJ1.out, HJ0.out]
            have hsz : 0 + i < (bcells (part l (2 * i))).toArray.size := by simp [bcells_length, part_length]; omega
            have HB3 := Lib.hid b3
            have HB4 := Lib.hid b4
            have HSET := Lib.hid hset
            have HSZ := Lib.hid hsz
            clear hY hZ b3 b4 hset hsz
            go_wp2_with (first
              | (have _k := HX1; go_at_call 20; refine (HD1.out _).mono ?_; rintro e w5 ⟨rfl, rfl⟩)
              | (go_at_call 20; refine (HD0.out _).mono ?_; rintro e w5 ⟨rfl, rfl⟩; have HX1 := Lib.hid True.intro)
              | ((with_reducible refine wpList_plain rfl ?_); intro _ hk; (first
                | (refine opw_bin .mul _ _ _ _ .i64 2 (i : Int) (j0 : Int) rfl rfl rfl HB1.out (hk _ _ ?_))
                | (refine opw_bin .add _ _ _ _ .i64 (j0 : Int) 1 (j1 : Int) rfl rfl rfl HB2.out (hk _ _ ?_))
                | (refine opw_indexStr _ _ _ rfl Tryd.underlying9 s rfl .i64 j0 rfl c0 HG0.out (hk _ _ ?_))
                | (refine opw_indexStr _ _ _ rfl Tryd.underlying9 s rfl .i64 j1 rfl c1 HG1.out (hk _ _ ?_))
                | (refine opw_bin .mul _ _ _ _ .u8 16 (a : Int) (Y : Int) rfl rfl rfl HB3.out (hk _ _ ?_))
                | (refine opw_bin .add _ _ _ _ .u8 (Y : Int) (b : Int) (Z.toNat : Int) rfl rfl rfl HB4.out (hk _ _ ?_))
                | (refine opw_indexArr 24 _ 32 _ _ rfl Tryd.underlying24 infosz p1 0 i rfl .i64 rfl hlt (hk _ _ ?_))
                | (refine opw_store1 5 _ _ rfl infosz p1 (0 + i) (.int .u8 (Z.toNat : Int)) rfl rfl rfl H3.out HSZ.out (fun w9 h9 => hk _ _ ?_))); simp only [Act.put, List.setIfInBounds_toArray, List.set_cons_zero, List.set_cons_succ]))
            go_wp2
            go_roundw
            case rel =>
              have hrel2 : RParseI st (sep (blk p0 (.cells (bcells (List.replicate 32 0)).toArray 24 (0, 0))) R) p1 l (.int .i64 ((i : Int) + 1)) w9 := by
                refine ⟨i + 1, by omega, by go_num, fun j hj => ?_, ?_⟩
                · by_cases e : j = j0
                  · subst e; rw [← HA.out]; exact hA
                  · by_cases e' : j = j1
                    · subst e'; rw [← HB.out]; exact hB
                    · have := HJ0.out; have := HJ1.out; exact HS.out j (by omega)
                · exact h9.cast (by rw [Nat.zero_add, List.setIfInBounds_toArray, show (bcells (part l (2 * i))).set i (.int .u8 (Z.toNat : Int)) = bcells (part l (2 * (i + 1))) by rw [← HSET.out]; simp [bcells, bcell, List.map_set]])
              first | exact hrel2 | ((repeat apply Exists.intro); exact ⟨hrel2, rfl⟩)
            case measure => simp [intOf]; omega
          · go_wp2_with (first
              | (have _k := HX1; go_at_call 20; refine (HD1.out _).mono ?_; rintro e w5 ⟨rfl, rfl⟩)
              | (go_at_call 20; refine (HD0.out _).mono ?_; rintro e w5 ⟨rfl, rfl⟩; have HX1 := Lib.hid True.intro)
              | ((with_reducible refine wpList_plain rfl ?_); intro _ hk; (first
                | (refine opw_bin .mul _ _ _ _ .i64 2 (i : Int) (j0 : Int) rfl rfl rfl HB1.out (hk _ _ ?_))
                | (refine opw_bin .add _ _ _ _ .i64 (j0 : Int) 1 (j1 : Int) rfl rfl rfl HB2.out (hk _ _ ?_))
                | (refine opw_indexStr _ _ _ rfl Tryd.underlying9 s rfl .i64 j0 rfl c0 HG0.out (hk _ _ ?_))
                | (refine opw_indexStr _ _ _ rfl Tryd.underlying9 s rfl .i64 j1 rfl c1 HG1.out (hk _ _ ?_))
                | (refine opw_build _ [] [] (bcells (List.replicate 32 0)).toArray rfl rfl (by kernel_rfl) (hk _ _ ?_))
                | (refine opw_storeRow 24 _ _ rfl p0 (bcells (List.replicate 32 0)).toArray rfl rfl 24 (bcells (List.replicate 32 0)).toArray infoID rfl (bcells_all _) H3.out.second (fun w9 h9 => hk _ _ ?_))); simp only [Act.put, List.setIfInBounds_toArray, List.set_cons_zero, List.set_cons_succ]))
            refine bodyPost_ret (Sl.results_cell_tmp Tryd.results9 _ _ _ 24 _ _ _ rfl h9.blk Tryd.underlying24 rfl infoID _ rfl) rfl ?_
            exact ⟨by rw [refparse_no (HNO.out (.inr hB))]; rfl, h9.right.right⟩
        · go_wp2_with (first
            | (have _k := HX1; go_at_call 20; refine (HD1.out _).mono ?_; rintro e w5 ⟨rfl, rfl⟩)
            | (go_at_call 20; refine (HD0.out _).mono ?_; rintro e w5 ⟨rfl, rfl⟩; have HX1 := Lib.hid True.intro)
            | ((with_reducible refine wpList_plain rfl ?_); intro _ hk; (first
              | (refine opw_bin .mul _ _ _ _ .i64 2 (i : Int) (j0 : Int) rfl rfl rfl HB1.out (hk _ _ ?_))
              | (refine opw_bin .add _ _ _ _ .i64 (j0 : Int) 1 (j1 : Int) rfl rfl rfl HB2.out (hk _ _ ?_))
              | (refine opw_indexStr _ _ _ rfl Tryd.underlying9 s rfl .i64 j0 rfl c0 HG0.out (hk _ _ ?_))
              | (refine opw_indexStr _ _ _ rfl Tryd.underlying9 s rfl .i64 j1 rfl c1 HG1.out (hk _ _ ?_))
              | (refine opw_build _ [] [] (bcells (List.replicate 32 0)).toArray rfl rfl (by kernel_rfl) (hk _ _ ?_))
              | (refine opw_storeRow 24 _ _ rfl p0 (bcells (List.replicate 32 0)).toArray rfl rfl 24 (bcells (List.replicate 32 0)).toArray infoID rfl (bcells_all _) H3.out.second (fun w9 h9 => hk _ _ ?_))); simp only [Act.put, List.setIfInBounds_toArray, List.set_cons_zero, List.set_cons_succ]))
          refine bodyPost_ret (Sl.results_cell_tmp Tryd.results9 _ _ _ 24 _ _ _ rfl h9.blk Tryd.underlying24 rfl infoID _ rfl) rfl ?_
          exact ⟨by rw [refparse_no (HNO.out (.inl hA))]; rfl, h9.right.right⟩
      · have hi32 : i = 32 := by omega
        subst hi32
        have H3 := Lib.hid h3
        have hinf : (Tryd.prog.info? 24).map (·.size) = some (bcells (part l 64)).toArray.size := by simp only [List.size_toArray, bcells_length, part_length]; exact infoID
        have hzz : (bcells (List.replicate 32 0)).toArray.size = (bcells (part l 64)).toArray.size := by simp only [List.size_toArray, bcells_length, part_length]; rfl
        have HI := Lib.hid hinf
        have HZZ := Lib.hid hzz
        clear h3 hinf hzz
        go_wp2_with ((with_reducible refine wpList_plain rfl ?_); intro _ hk; (first
          | (refine opw_loadRow 24 _ rfl p1 rfl 24 (bcells (part l 64)).toArray (0, 0) _ Tryd.underlying24 rfl HI.out H3.out (hk _ _ ?_))
          | (refine opw_storeRow 24 _ _ rfl p0 (bcells (part l 64)).toArray rfl rfl 24 (bcells (List.replicate 32 0)).toArray HI.out HZZ.out (bcells_all _) H3.out.second (fun w9 h9 => hk _ _ ?_))); simp only [Act.put, List.setIfInBounds_toArray, List.set_cons_zero, List.set_cons_succ])
        have hyes : okS l = true := by
          unfold okS
          rw [Bool.and_eq_true]
          refine ⟨by rw [HLL.out, H64.out]; rfl, List.all_eq_true.2 fun j hj => ?_⟩
          exact decide_eq_true (HS.out j (by have := List.mem_range.1 hj; omega))
        refine bodyPost_ret (Sl.results_cell_tmp Tryd.results9 _ _ _ 24 _ _ _ rfl h9.blk Tryd.underlying24 rfl HI.out _ rfl) rfl ?_
        exact ⟨by rw [refparse_yes hyes]; rfl, h9.right.right⟩
  · have hz : ((s.size : Int) != 64) = true := by simp; omega
    have HZ : Hid (cmpZ .neq (s.size : Int) 64 = some true) := Lib.hid (by simp only [cmpZ, hz])
    have H64 := Lib.hid h64
    clear hz h64
    go_enter Tryd.func9, Tryd.ntmps9
    go_wp2_with ((with_reducible refine wpList_plain rfl ?_); intro _ hk; (first
      | (refine opw_build _ [] [] (bcells (List.replicate 32 0)).toArray rfl rfl (by kernel_rfl) (hk _ _ ?_))
      | (have _k := H0; refine opw_alloc 24 (.agg (bcells (List.replicate 32 0)).toArray) (bcells (List.replicate 32 0)).toArray rfl zeroID rfl H0.out (fun p1 w1 hp h1 => hk _ _ ?_); clear hp; have H1 := Lib.hid h1; clear h1)
      | (refine opw_alloc 24 (.agg (bcells (List.replicate 32 0)).toArray) (bcells (List.replicate 32 0)).toArray rfl zeroID rfl HH.out (fun p0 w0 hp h0 => hk _ _ ?_); clear hp; have H0 := Lib.hid h0; clear h0)
      | (refine opw_cmp .neq _ _ _ _ .i64 (s.size : Int) 64 true rfl rfl rfl HZ.out (hk _ _ ?_))
      | (have _k := H2; refine opw_loadRow 24 _ rfl p1 rfl 24 (bcells (List.replicate 32 0)).toArray (0, 0) _ Tryd.underlying24 rfl infoID H2.out (hk _ _ ?_))
      | (have _k := H2; refine opw_storeRow 24 _ _ rfl p0 (bcells (List.replicate 32 0)).toArray rfl rfl 24 (bcells (List.replicate 32 0)).toArray infoID rfl (bcells_all _) H2.out.second (fun w9 h9 => hk _ _ ?_))
      | (refine opw_storeRow 24 _ _ rfl p1 (bcells (List.replicate 32 0)).toArray rfl rfl 24 (bcells (List.replicate 32 0)).toArray infoID rfl (bcells_all _) H1.out (fun w2 h2 => hk _ _ ?_); have H2 := Lib.hid h2; clear h2)); simp only [Act.put, List.setIfInBounds_toArray, List.set_cons_zero, List.set_cons_succ])
    have hno : okS l = false := by
      unfold okS
      rw [Bool.and_eq_false_iff]; left
      exact decide_eq_false (by rw [HLL.out]; exact H64.out)
    refine bodyPost_ret (Sl.results_cell_tmp Tryd.results9 _ _ _ 24 _ _ _ rfl h9.blk Tryd.underlying24 rfl infoID _ rfl) rfl ?_
    exact ⟨by rw [refparse_no hno]; rfl, h9.right.right⟩
end Go.Proofs.YtijcjjinafpomaaDoor
