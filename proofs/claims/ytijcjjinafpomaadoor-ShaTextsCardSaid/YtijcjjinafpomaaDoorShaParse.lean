/-
  sha.Parse.
-/
import Derived.Test.YtijcjjinafpomaaDoorParse0
namespace Go.Proofs.YtijcjjinafpomaaDoor
open Go.RowKit Go.Sl Go.Sha
set_option linter.unusedVariables false
set_option linter.unusedSimpArgs false
theorem or16 (X d : Fin 16) : bits .or .u8 ((16 * X.val : Nat) : Int) (d.val : Int) = ((16 * X.val + d.val : Nat) : Int) := by
  have : ∀ X d : Fin 16, bits .or .u8 ((16 * X.val : Nat) : Int) (d.val : Int) = ((16 * X.val + d.val : Nat) : Int) := by decide +kernel
  exact this X d
theorem opw_or8 {P : Program} {o : Oper} {a : Act} {w : World} {K : Act → World → Prop} {Q : Exit → Act → World → Prop} (t t' : TypeId) (x y : Operand) (X Y Z : Int) (ho : o.op = .binOp .or t x y t') (hx : a.eval x = .int .u8 X) (hy : a.eval y = .int .u8 Y) (hz : bits .or .u8 X Y = Z) (hK : K (a.put o.dst (.int .u8 Z)) w) : o.wp P a w K Q := by
  refine opw_run (.int .u8 Z) ?_ hK
  unfold execOp
  unfold bits at hz
  simp only at hz
  simp only [ho, hx, hy, eqGuard, binOp, Op.intBits, Sem.run_bind, Sem.run_pure, Result.andThen_ok, Bool.not_false, if_true, ne_eq, not_true_eq_false, if_false, hz]
def ParseI (st : World) (R : HProp) (p : Nat) (s : List UInt8) (v : Value) (w : World) : Prop := ∃ i : Nat, i ≤ 64 ∧ v = .int .i64 ((i : Nat) : Int) ∧ (∀ j, j < i → dg s j < 16) ∧ Has st (sep (blk p (.cells (bcells (part s i)).toArray 24 (0, 0))) R) w
def parseV (s : List UInt8) : Value := .tuple #[.agg (bcells (if okS s then part s 64 else List.replicate 32 0)).toArray, .int .i64 (if okS s then 0 else 21)]
theorem parse_no {s : List UInt8} (h : okS s = false) : parseV s = .tuple #[.agg (bcells (List.replicate 32 0)).toArray, .int .i64 21] := by unfold parseV; rw [h]; rfl
theorem parse_yes {s : List UInt8} (h : okS s = true) : parseV s = .tuple #[.agg (bcells (part s 64)).toArray, .int .i64 0] := by unfold parseV; rw [h]; rfl
set_option maxRecDepth 100000 in
set_option maxHeartbeats 4000000 in
theorem parse_any (st : World) (R : HProp) (s : ByteArray) (w : World) (h : Has st R w) (hsl : s.size ≤ 140737488355328) :
    Calls Tryd.prog 8 #[.string s] w fun e w' => e = .returned (parseV s.data.toList) ∧ Has st R w' := by
  have HH := Lib.hid h
  obtain ⟨l, hl⟩ : ∃ l, l = s.data.toList := ⟨_, rfl⟩
  have hll : l.length = s.size := by rw [hl]; simp
  rw [← hl]
  have HL := Lib.hid hl
  have HLL := Lib.hid hll
  clear h hl hll
  by_cases h64 : s.size = 64
  · have hz : ((s.size : Int) != 64) = false := by rw [h64]; rfl
    have HZ : Hid (cmpZ .neq (s.size : Int) 64 = some false) := Lib.hid (by simp only [cmpZ, hz])
    have H64 := Lib.hid h64
    clear hz h64
    go_enter Tryd.func8, Tryd.ntmps8
    go_wp2_with ((with_reducible refine wpList_plain rfl ?_); intro _ hk; (first
      | (have _k := H0; refine opw_alloc 24 (.agg (bcells (List.replicate 32 0)).toArray) (bcells (List.replicate 32 0)).toArray rfl zeroID rfl H0.out (fun p1 w1 hp h1 => hk _ _ ?_); clear hp; have H1 := Lib.hid h1; clear h1)
      | (refine opw_alloc 24 (.agg (bcells (List.replicate 32 0)).toArray) (bcells (List.replicate 32 0)).toArray rfl zeroID rfl HH.out (fun p0 w0 hp h0 => hk _ _ ?_); clear hp; have H0 := Lib.hid h0; clear h0)
      | (refine opw_cmp .neq _ _ _ _ .i64 (s.size : Int) 64 false rfl rfl rfl HZ.out (hk _ _ ?_))); simp only [Act.put, List.setIfInBounds_toArray, List.set_cons_zero, List.set_cons_succ])
    simp only [H64.out]
    go_loopw [13] (ParseI st (sep (blk p0 (.cells (bcells (List.replicate 32 0)).toArray 24 (0, 0))) R) p1 l) (fun v _ => 64 - (intOf v).toNat)
    case atStart => exact ⟨0, Nat.zero_le _, rfl, fun j hj => absurd hj (by omega), by rw [part_zero]; exact H1.out⟩
    case round =>
      obtain ⟨i, hi, rfl, hs, h3⟩ := hrel
      have HS := Lib.hid hs
      clear H1 H0 HH hs
      by_cases hlt : i < 64
      · obtain ⟨c, hc⟩ : ∃ c, c = l.getD i 0 := ⟨_, rfl⟩
        have gc : s.data.toList[i]? = some c := by
          have hil : i < l.length := by rw [HLL.out, H64.out]; exact hlt
          rw [← HL.out, hc, List.getD_eq_getElem?_getD, List.getElem?_eq_getElem hil]; rfl
        obtain ⟨d, hd⟩ : ∃ d, d = dg l i := ⟨_, rfl⟩
        have hid : idxOf digs.data.toList c = if d < 16 then (d : Int) else -1 := by rw [idx_digs, hd, hc]; rfl
        have HGC := Lib.hid gc
        have HD := Lib.hid hd
        have H3 := Lib.hid h3
        clear hc gc hd h3
        by_cases h16 : d < 16
        · rw [if_pos h16] at hid
          have HID := Lib.hid hid
          clear hid
          obtain ⟨i2, hi2⟩ : ∃ i2, i2 = i / 2 := ⟨_, rfl⟩
          have b1 : binZ .quo .i64 (i : Int) 2 = some (i2 : Int) := by rw [hi2]; exact bin_quo i 2 (by decide) (by omega)
          have hi2b : i2 < 32 := by omega
          obtain ⟨X, hX⟩ : ∃ X, X = (part l i).getD i2 0 := ⟨_, rfl⟩
          have hXv := part_at l i hlt
          rw [← hi2, ← hX] at hXv
          have hXb : X.toNat < 16 := by
            rw [hXv]
            split
            · decide
            · have := HS.out (i - 1) (by omega)
              rw [UInt8.toNat_ofNat']; omega
          have gX : (bcells (part l i)).toArray[0 + i2]? = some (.int .u8 (X.toNat : Int)) := by
            rw [Nat.zero_add, List.getElem?_toArray, hX]; exact bget (by rw [part_length]; exact hi2b)
          obtain ⟨Y, hY⟩ : ∃ Y, Y = 16 * X.toNat := ⟨_, rfl⟩
          obtain ⟨Z, hZ⟩ : ∃ Z : UInt8, Z = UInt8.ofNat (16 * X.toNat + d) := ⟨_, rfl⟩
          have b2 : shZ .shl .u8 (X.toNat : Int) 4 = some (Y : Int) := by
            show (if (4 : Int) < 0 then none else some (IntKind.u8.wrap ((X.toNat : Int) * 2 ^ (min (4 : Int).toNat IntKind.u8.bits)))) = _
            rw [if_neg (by decide)]
            have e : (X.toNat : Int) * 2 ^ (min (4 : Int).toNat IntKind.u8.bits) = (Y : Int) := by rw [hY]; show (X.toNat : Int) * 16 = _; omega
            rw [e]
            simp [IntKind.wrap, IntKind.signed, IntKind.bits]
            omega
          have b3 : IntKind.u8.wrap (d : Int) = (d : Int) := by simp [IntKind.wrap, IntKind.signed, IntKind.bits]; omega
          have b4 : bits .or .u8 (Y : Int) (d : Int) = (Z.toNat : Int) := by
            have := or16 ⟨X.toNat, hXb⟩ ⟨d, h16⟩
            simp only at this
            rw [hY, hZ, this, UInt8.toNat_ofNat']
            omega
          have hset : (part l i).set i2 Z = part l (i + 1) := by
            rw [part_succ l i hlt, ← hi2, hZ, hXv]
            congr 1
            by_cases hp : i % 2 = 0
            · rw [if_pos hp, if_pos hp, HD.out]; simp
            · rw [if_neg hp, if_neg hp, HD.out]
              have := HS.out (i - 1) (by omega)
              congr 2
              rw [UInt8.toNat_ofNat']; omega
          have hsz : 0 + i2 < (bcells (part l i)).toArray.size := by simp [bcells_length, part_length]; omega
          have HB1 := Lib.hid b1
          have HB2 := Lib.hid b2
          have HB3 := Lib.hid b3
          have HB4 := Lib.hid b4
          have HGX := Lib.hid gX
          have HSET := Lib.hid hset
          have HSZ := Lib.hid hsz
          clear hi2 b1 hX hXv gX hY hZ b2 b3 b4 hset hsz
          go_wp2_with (first
            | (go_at_call 19; refine (bindex_any digs.data.toList c _ _ (rd_blk H4'.out (by decide))).mono ?_; rintro e w5 ⟨rfl, rfl⟩; rw [HID.out]; have H5 := Lib.hid H4'.out.right)
            | ((with_reducible refine wpList_plain rfl ?_); intro _ hk; (first
              | (refine opw_lit _ 16 _ _ 5 (bcells digs.data.toList).toArray rfl rfl (by kernel_rfl) H3.out (fun q w4 h4 => hk _ _ ?_); have H4 := Lib.hid h4; clear h4)
              | (refine opw_mark 22 5 _ rfl _ 16 16 rfl Tryd.underlying22 Tryd.underlying5 H4.out (fun w4' h4' => hk _ _ ?_); have H4' := Lib.hid h4'; clear h4' H4)
              | (refine opw_indexStr _ _ _ rfl Tryd.underlying9 s rfl .i64 i rfl c HGC.out (hk _ _ ?_))
              | (refine opw_bin .quo _ _ _ _ .i64 (i : Int) 2 (i2 : Int) rfl rfl rfl HB1.out (hk _ _ ?_))
              | (refine opw_indexArr 24 _ 32 _ _ rfl Tryd.underlying24 infosz p1 0 i2 rfl .i64 rfl hi2b (hk _ _ ?_))
              | (refine opw_load1 _ _ rfl _ Tryd.underlying5 rfl ⟨p1, 0 + i2, none⟩ (.int .u8 (X.toNat : Int)) rfl ((H5.out.cell (0 + i2)).trans HGX.out) (hk _ _ ?_))
              | (refine opw_shift .shl _ _ _ _ .u8 .u64 (X.toNat : Int) 4 (Y : Int) rfl rfl rfl HB2.out (hk _ _ ?_))
              | (refine opw_conv _ _ _ .i64 .u8 (d : Int) (d : Int) rfl Tryd.underlying3 Tryd.underlying5 rfl HB3.out (hk _ _ ?_))
              | (refine opw_or8 _ _ _ _ (Y : Int) (d : Int) (Z.toNat : Int) rfl rfl rfl HB4.out (hk _ _ ?_))
              | (refine opw_store1 5 _ _ rfl infosz p1 (0 + i2) (.int .u8 (Z.toNat : Int)) rfl rfl rfl H5.out HSZ.out (fun w9 h9 => hk _ _ ?_))); simp only [Act.put, List.setIfInBounds_toArray, List.set_cons_zero, List.set_cons_succ]))
          go_wp2
          go_roundw
          case rel =>
            have hrel2 : ParseI st (sep (blk p0 (.cells (bcells (List.replicate 32 0)).toArray 24 (0, 0))) R) p1 l (.int .i64 ((i : Int) + 1)) w9 := by
              refine ⟨i + 1, by omega, by go_num, fun j hj => ?_, ?_⟩
              · by_cases e : j = i
                · subst e; rw [← HD.out]; exact h16
                · exact HS.out j (by omega)
              · exact h9.cast (by rw [Nat.zero_add, List.setIfInBounds_toArray, show (bcells (part l i)).set i2 (.int .u8 (Z.toNat : Int)) = bcells (part l (i + 1)) by rw [← HSET.out]; simp [bcells, bcell, List.map_set]])
            first | exact hrel2 | ((repeat apply Exists.intro); exact ⟨hrel2, rfl⟩)
          case measure => simp [intOf]; omega
        · rw [if_neg h16] at hid
          have HID := Lib.hid hid
          clear hid
          go_wp2_with (first
            | (go_at_call 19; refine (bindex_any digs.data.toList c _ _ (rd_blk H4'.out (by decide))).mono ?_; rintro e w5 ⟨rfl, rfl⟩; rw [HID.out]; have H5 := Lib.hid H4'.out.right)
            | ((with_reducible refine wpList_plain rfl ?_); intro _ hk; (first
              | (refine opw_lit _ 16 _ _ 5 (bcells digs.data.toList).toArray rfl rfl (by kernel_rfl) H3.out (fun q w4 h4 => hk _ _ ?_); have H4 := Lib.hid h4; clear h4)
              | (refine opw_mark 22 5 _ rfl _ 16 16 rfl Tryd.underlying22 Tryd.underlying5 H4.out (fun w4' h4' => hk _ _ ?_); have H4' := Lib.hid h4'; clear h4' H4)
              | (refine opw_indexStr _ _ _ rfl Tryd.underlying9 s rfl .i64 i rfl c HGC.out (hk _ _ ?_))
              | (refine opw_build _ [] [] (bcells (List.replicate 32 0)).toArray rfl rfl (by kernel_rfl) (hk _ _ ?_))
              | (refine opw_storeRow 24 _ _ rfl p0 (bcells (List.replicate 32 0)).toArray rfl rfl 24 (bcells (List.replicate 32 0)).toArray infoID rfl (bcells_all _) H5.out.second (fun w9 h9 => hk _ _ ?_))); simp only [Act.put, List.setIfInBounds_toArray, List.set_cons_zero, List.set_cons_succ]))
          have hno : okS l = false := by
            unfold okS
            rw [Bool.and_eq_false_iff]; right
            rw [List.all_eq_false]
            exact ⟨i, List.mem_range.2 hlt, by rw [← HD.out]; simpa using h16⟩
          refine bodyPost_ret (Sl.results_cell_tmp Tryd.results8 _ _ _ 24 _ _ _ rfl h9.blk Tryd.underlying24 rfl infoID _ rfl) rfl ?_
          exact ⟨by rw [parse_no hno]; rfl, h9.right.right⟩
      ·
        have hi64 : i = 64 := by omega
        subst hi64
        have H3 := Lib.hid h3
        have hinf : (Tryd.prog.info? 24).map (·.size) = some (bcells (part l 64)).toArray.size := by simp only [List.size_toArray, bcells_length, part_length]; exact infoID
        have hzz : (bcells (List.replicate 32 0)).toArray.size = (bcells (part l 64)).toArray.size := by simp only [List.size_toArray, bcells_length, part_length]; rfl
        have HI := Lib.hid hinf
        have HZZ := Lib.hid hzz
        clear h3 hinf hzz
        go_wp2_with ((with_reducible refine wpList_plain rfl ?_); intro _ hk; (first
          | (refine opw_loadRow 24 _ rfl p1 rfl 24 (bcells (part l 64)).toArray (0, 0) _ Tryd.underlying24 rfl HI.out H3.out (hk _ _ ?_))
          | (refine opw_storeRow 24 _ _ rfl p0 (bcells (part l 64)).toArray rfl rfl 24 (bcells (List.replicate 32 0)).toArray HI.out HZZ.out (bcells_all _) H3.out.second (fun w9 h9 => hk _ _ ?_))); simp only [Act.put, List.setIfInBounds_toArray, List.set_cons_zero, List.set_cons_succ])
        have hyes : okS l = true := by
          unfold okS
          rw [Bool.and_eq_true]
          refine ⟨by rw [HLL.out, H64.out]; rfl, List.all_eq_true.2 fun j hj => ?_⟩
          exact decide_eq_true (HS.out j (List.mem_range.1 hj))
        refine bodyPost_ret (Sl.results_cell_tmp Tryd.results8 _ _ _ 24 _ _ _ rfl h9.blk Tryd.underlying24 rfl HI.out _ rfl) rfl ?_
        exact ⟨by rw [parse_yes hyes]; rfl, h9.right.right⟩
  ·
    have hz : ((s.size : Int) != 64) = true := by simp; omega
    have HZ : Hid (cmpZ .neq (s.size : Int) 64 = some true) := Lib.hid (by simp only [cmpZ, hz])
    have H64 := Lib.hid h64
    clear hz h64
    go_enter Tryd.func8, Tryd.ntmps8
    go_wp2_with ((with_reducible refine wpList_plain rfl ?_); intro _ hk; (first
      | (refine opw_build _ [] [] (bcells (List.replicate 32 0)).toArray rfl rfl (by kernel_rfl) (hk _ _ ?_))
      | (have _k := H0; refine opw_alloc 24 (.agg (bcells (List.replicate 32 0)).toArray) (bcells (List.replicate 32 0)).toArray rfl zeroID rfl H0.out (fun p1 w1 hp h1 => hk _ _ ?_); clear hp; have H1 := Lib.hid h1; clear h1)
      | (refine opw_alloc 24 (.agg (bcells (List.replicate 32 0)).toArray) (bcells (List.replicate 32 0)).toArray rfl zeroID rfl HH.out (fun p0 w0 hp h0 => hk _ _ ?_); clear hp; have H0 := Lib.hid h0; clear h0)
      | (refine opw_cmp .neq _ _ _ _ .i64 (s.size : Int) 64 true rfl rfl rfl HZ.out (hk _ _ ?_))
      | (refine opw_storeRow 24 _ _ rfl p0 (bcells (List.replicate 32 0)).toArray rfl rfl 24 (bcells (List.replicate 32 0)).toArray infoID rfl (bcells_all _) H1.out.second (fun w9 h9 => hk _ _ ?_))); simp only [Act.put, List.setIfInBounds_toArray, List.set_cons_zero, List.set_cons_succ])
    have hno : okS l = false := by
      unfold okS
      rw [Bool.and_eq_false_iff]; left
      exact decide_eq_false (by rw [HLL.out]; exact H64.out)
    refine bodyPost_ret (Sl.results_cell_tmp Tryd.results8 _ _ _ 24 _ _ _ rfl h9.blk Tryd.underlying24 rfl infoID _ rfl) rfl ?_
    exact ⟨by rw [parse_no hno]; rfl, h9.right.right⟩
end Go.Proofs.YtijcjjinafpomaaDoor
