/-
  coldstorelaw03.ShaBlocks.
-/
import Derived.Test.YtijcjjinafpomaaDoorTexts3
import Derived.Laws.MakeOwn
namespace Go.Sl
open Go Go.RowKit
set_option linter.unusedVariables false
set_option linter.unusedSimpArgs false
theorem opw_makeBytes {P : Program} {o : Oper} {a : Act} {w : World} {K : Act → World → Prop} {Q : Exit → Act → World → Prop} {st : World} (t e : TypeId) (x y : Operand) (ho : o.op = .makeSlice t x y) (ht : P.underlying t = some (.slice e)) (hi : (P.info? e).map (fun i => (i.zero, i.size, i.bytes)) = some (some (.int .u8 0), 1, 1))
    (k k' : IntKind) (n : Nat) (hx : a.eval x = .int k (n : Int)) (hy : a.eval y = .int k' (n : Int)) (hn : n ≤ 281474976710656) {R : HProp} (h : Has st R w)
    (hK : ∀ g w', Has st (sep (Sl.blk g (.cells (bcells (List.replicate n 0)).toArray e (0, 0))) R) w' → K (a.put o.dst (.slice (some ⟨g, 0, none⟩) n n)) w') : o.wp P a w K Q := by
  obtain ⟨i, hi0, hz, hs, hb⟩ : ∃ i, P.info? e = some i ∧ i.zero = some (.int .u8 0) ∧ i.size = 1 ∧ i.bytes = 1 := by
    cases hp : P.info? e with
    | none => rw [hp] at hi; cases hi
    | some i => rw [hp] at hi; simp at hi; exact ⟨i, rfl, hi.1, hi.2.1, hi.2.2⟩
  have hr := run_make (P := P) w t e i (.int .u8 0) ht hi0 hz k k' (n : Int) (n : Int) (by omega) (by omega) (by rw [hb]; omega) (by omega)
  have hc : madeCells (Value.int .u8 0).cells ((n : Int).toNat * i.size) = (bcells (List.replicate n 0)).toArray := by
    rw [hs, Int.toNat_natCast, Nat.mul_one]
    apply Array.ext
    · simp [size_madeCells, bcells_length]
    · intro j h1 h2
      simp [madeCells, bcells, bcell, Value.cells, Nat.mod_one]
  rw [hc, Int.toNat_natCast] at hr
  unfold Oper.wp execOp
  simp only [ho, hx, hy, Sem.run_bind, hr, Sem.run_pure, Result.andThen_ok, Oper.upon_value]
  exact hK _ _ (h.alloc _)
end Go.Sl
namespace Go.Proofs.YtijcjjinafpomaaDoor
open Go.RowKit Go.Sl Go.Sha
set_option linter.unusedVariables false
set_option linter.unusedSimpArgs false
/-- the bytes that the law asks for, i of them made -/
def fillB (c : UInt8) (N i : Nat) : List UInt8 := (List.range N).map fun j => if j < i then c + UInt8.ofNat (j / 32) else 0
theorem fillB_length (c : UInt8) (N i : Nat) : (fillB c N i).length = N := by simp [fillB]
theorem fillB_zero (c : UInt8) (N : Nat) : fillB c N 0 = List.replicate N 0 := by
  apply List.ext_getElem
  · simp [fillB]
  · intro j h1 h2; simp [fillB]
theorem fillB_succ (c : UInt8) (N i : Nat) (h : i < N) : (fillB c N i).set i (c + UInt8.ofNat (i / 32)) = fillB c N (i + 1) := by
  apply List.ext_getElem
  · simp [fillB]
  · intro j h1 h2
    rw [List.getElem_set]
    simp only [fillB, List.getElem_map, List.getElem_range]
    by_cases e : i = j
    · subst e; simp
    · rw [if_neg e]
      by_cases hj : j < i
      · rw [if_pos hj, if_pos (by omega)]
      · rw [if_neg hj, if_neg (by omega)]
def FillI (st : World) (R : HProp) (g : Nat) (c : UInt8) (N : Nat) (v : Value) (w : World) : Prop := ∃ i : Nat, i ≤ N ∧ v = .int .i64 ((i : Nat) : Int) ∧ Has st (sep (blk g (.cells (bcells (fillB c N i)).toArray 5 (0, 0))) R) w
def OneI (st : World) (R : HProp) (p7 p8 g : Nat) (B : List UInt8) (v : Value) (w : World) : Prop := ∃ i : Nat, i ≤ B.length ∧ v = .int .i64 ((i : Nat) : Int) ∧ Has st (sep (hash p7 (B.take i)) (sep (hash p8 []) (sep (blk g (.cells (bcells B).toArray 5 (0, 0))) R))) w
set_option maxRecDepth 100000 in
set_option maxHeartbeats 8000000 in
theorem blocks_any (st : World) (R : HProp) (hk : Keys st R) (hst : Start st R) (c : UInt8) (z : Int) (w : World) (h : Has st R w) :
    Calls Tryd.prog 6 #[.int .u8 (c.toNat : Int), .int .i64 z] w fun e w' => e = .returned (.bool true) ∧ Has st R w' := by
  obtain ⟨N, hN⟩ : ∃ N : Nat, (N : Int) = z % 256 := ⟨(z % 256).toNat, by omega⟩
  have hN255 : N ≤ 255 := by omega
  have b1 : bits .and .i64 z 255 = (N : Int) := by rw [hN]; exact i64_and255 z
  have HB1 := Lib.hid b1
  have HK := Lib.hid hk
  have HST := Lib.hid hst
  have HH := Lib.hid h
  clear hN b1 hk hst h
  go_enter Tryd.func6, Tryd.ntmps6
  go_wp2_with (first
    | (go_at_call 7; refine (alive_any st _ HK.out HST.out _ HH.out).mono ?_; rintro e w1 ⟨rfl, h1⟩; have H1 := Lib.hid h1; clear h1)
    | ((first | (with_reducible refine wpList_plain rfl ?_) | ((with_reducible refine wpList_yes _ _ rfl ?_ ?_); (focus rfl))); intro _ hk; (first
      | (refine opw_bits .and _ _ _ _ .i64 z 255 (N : Int) (.inl rfl) rfl rfl rfl HB1.out (hk _ _ ?_))
      | (refine opw_makeBytes 22 5 _ _ rfl Tryd.underlying22 infoB .i64 .i64 N rfl rfl (by omega) H1.out (fun g w2 h2 => hk _ _ ?_); have H2 := Lib.hid h2; clear h2)
      | (refine opw_len _ _ _ Tryd.underlying22 (some ⟨g, 0, none⟩) N N rfl rfl (hk _ _ ?_))); simp only [Act.put, List.setIfInBounds_toArray, List.set_cons_zero, List.set_cons_succ]))
  go_loopw [18] (FillI st R g c N) (fun v _ => N - (intOf v).toNat)
  case atStart => exact ⟨0, Nat.zero_le _, rfl, by rw [fillB_zero]; exact H2.out⟩
  case round =>
    obtain ⟨i, hi, rfl, h3⟩ := hrel
    have H3 := Lib.hid h3
    clear h3 H1 H2 HH
    by_cases hlt : i < N
    · obtain ⟨q, hq⟩ : ∃ q, q = i / 32 := ⟨_, rfl⟩
      obtain ⟨x, hx⟩ : ∃ x, x = c + UInt8.ofNat q := ⟨_, rfl⟩
      have c1 : shZ .shr .i64 (i : Int) 5 = some (q : Int) := by rw [hq]; exact sh_r .i64 i 5 (by decide)
      have c2 : IntKind.u8.wrap (q : Int) = (q : Int) := by simp [IntKind.wrap, IntKind.signed, IntKind.bits]; omega
      have c3 : binZ .add .u8 (c.toNat : Int) (q : Int) = some (x.toNat : Int) := by
        show some (IntKind.u8.wrap ((c.toNat : Int) + (q : Int))) = _
        rw [hx, UInt8.toNat_add, UInt8.toNat_ofNat']
        simp [IntKind.wrap, IntKind.signed, IntKind.bits]
      have hset : (bcells (fillB c N i)).set i (.int .u8 (x.toNat : Int)) = bcells (fillB c N (i + 1)) := by
        rw [← fillB_succ c N i hlt, ← hq, ← hx]; simp [bcells, bcell, List.map_set]
      have hsz : i < (bcells (fillB c N i)).toArray.size := by simp [bcells_length, fillB_length]; omega
      have C1 := Lib.hid c1
      have C2 := Lib.hid c2
      have C3 := Lib.hid c3
      have HSET := Lib.hid hset
      have HSZ := Lib.hid hsz
      clear hq hx c1 c2 c3 hset hsz
      go_wp2_with (first
        | (fail)
        | ((first | (with_reducible refine wpList_plain rfl ?_) | ((with_reducible refine wpList_yes _ _ rfl ?_ ?_); (focus rfl))); intro _ hk; (first
          | (refine opw_shift .shr _ _ _ _ .i64 .u64 (i : Int) 5 (q : Int) rfl rfl rfl C1.out (hk _ _ ?_))
          | (refine opw_conv _ _ _ .i64 .u8 (q : Int) (q : Int) rfl Tryd.underlying3 Tryd.underlying5 rfl C2.out (hk _ _ ?_))
          | (refine opw_bin .add _ _ _ _ .u8 (c.toNat : Int) (q : Int) (x.toNat : Int) rfl rfl rfl C3.out (hk _ _ ?_))
          | (refine opw_indexSl 22 5 _ _ rfl Tryd.underlying22 infosz g 0 N N i rfl rfl hlt (hk _ _ ?_))
          | (refine opw_store1 5 _ _ rfl infosz g i (.int .u8 (x.toNat : Int)) rfl rfl rfl H3.out HSZ.out (fun w9 h9 => hk _ _ ?_))); simp only [Act.put, List.setIfInBounds_toArray, List.set_cons_zero, List.set_cons_succ]))
      go_wp2
      go_roundw
      case rel =>
        have hrel2 : FillI st R g c N (.int .i64 ((i : Int) + 1)) w9 := ⟨i + 1, by omega, by go_num, by
          have := h9
          rw [List.setIfInBounds_toArray, HSET.out] at this
          exact this⟩
        first | exact hrel2 | ((repeat apply Exists.intro); exact ⟨hrel2, rfl⟩)
      case measure => simp [intOf]; omega
    · obtain rfl : i = N := by omega
      obtain ⟨B, hB⟩ : ∃ B, B = fillB c i i := ⟨_, rfl⟩
      have hBl : B.length = i := by rw [hB]; exact fillB_length c i i
      rw [← hB] at H3
      clear hB
      subst hBl
      clear hi hlt
      go_wp2_with (first
        | (fail)
        | ((first | (with_reducible refine wpList_plain rfl ?_) | ((with_reducible refine wpList_yes _ _ rfl ?_ ?_); (focus rfl))); intro _ hk; (first
          | (have _k := H4; refine opw_alloc 39 (.agg (hcells false ⟨0, 0, 0, 0, 0, 0, 0, 0⟩ (.slice none 0 0) 0)) (hcells false ⟨0, 0, 0, 0, 0, 0, 0, 0⟩ (.slice none 0 0) 0) rfl zeroHash rfl H4.out (fun p8 w5 hp h5 => hk _ _ ?_); clear hp; have H5 := Lib.hid (hash_new h5).second; clear h5)
          | (refine opw_alloc 39 (.agg (hcells false ⟨0, 0, 0, 0, 0, 0, 0, 0⟩ (.slice none 0 0) 0)) (hcells false ⟨0, 0, 0, 0, 0, 0, 0, 0⟩ (.slice none 0 0) 0) rfl zeroHash rfl H3.out (fun p7 w4 hp h4 => hk _ _ ?_); clear hp; have H4 := Lib.hid (hash_new h4); clear h4)
          | (refine opw_len _ _ _ Tryd.underlying22 (some ⟨g, 0, none⟩) B.length B.length rfl rfl (hk _ _ ?_))); simp only [Act.put, List.setIfInBounds_toArray, List.set_cons_zero, List.set_cons_succ]))
      have hsB : ∀ st' P, Sees st' (sep P (sep (blk g (.cells (bcells B).toArray 5 (0, 0))) R)) 1 (.slice (some ⟨g, 0, none⟩) B.length B.length) B.length (bcells B) := fun st' P w h => rd_blk h.right (by unfold maxLen; omega)
      have HSB := Lib.hid hsB
      have hsB0 : ∀ st', Sees st' (sep (blk g (.cells (bcells B).toArray 5 (0, 0))) R) 1 (.slice (some ⟨g, 0, none⟩) B.length B.length) B.length (bcells B) := fun st' w h => rd_blk h (by unfold maxLen; omega)
      have HSB0 := Lib.hid hsB0
      clear hsB hsB0
      go_loopw [32] (OneI st R p7 p8 g B) (fun v _ => B.length - (intOf v).toNat)
      case atStart => exact ⟨0, Nat.zero_le _, rfl, H5.out⟩
      case round =>
        obtain ⟨i, hi, rfl, h6⟩ := hrel
        clear H3 H4 H5
        by_cases hlt : i < B.length
        · obtain ⟨i1, hi1⟩ : ∃ i1, i1 = i + 1 := ⟨_, rfl⟩
          have d1 : binZ .add .i64 (i : Int) 1 = some (i1 : Int) := by rw [hi1]; exact bin_add i 1 (by omega)
          obtain ⟨r, hr⟩ : ∃ r, r = i % 8 := ⟨_, rfl⟩
          have d2 : bits .and .i64 (i : Int) 7 = (r : Int) := by rw [i64_and7, hr]; omega
          have hi1l : i1 ≤ B.length := by omega
          have hii : i ≤ i1 := by omega
          have hw : ∀ w, Has st (sep (hash p7 (B.take i)) (sep (hash p8 []) (sep (blk g (.cells (bcells B).toArray 5 (0, 0))) R))) w → Calls Tryd.prog 16 #[.pointer (some ⟨p7, 0, none⟩), .slice (subA 1 (some ⟨g, 0, none⟩) i B.length) (i1 - i) (B.length - i)] w fun e w' => e = .returned (.tuple #[]) ∧ Has st (sep (hash p7 (B.take i1)) (sep (hash p8 []) (sep (blk g (.cells (bcells B).toArray 5 (0, 0))) R))) w' := fun w h => by
            have e0 : ((B.drop i).take (i1 - i)).length = i1 - i := by rw [List.length_take, List.length_drop]; omega
            have hs : Sees st (sep (hash p8 []) (sep (blk g (.cells (bcells B).toArray 5 (0, 0))) R)) 1 (.slice (subA 1 (some ⟨g, 0, none⟩) i B.length) (i1 - i) (B.length - i)) ((B.drop i).take (i1 - i)).length (bcells ((B.drop i).take (i1 - i))) := by
              rw [e0]; exact (HSB.out st _).midB i i1 hii hi1l
            have := write_any st _ p7 (B.take i) ((B.drop i).take (i1 - i)) _ HK.out.up.up HST.out.up.up w h hs (by rw [e0, List.length_take]; omega)
            rw [← List.take_add, show i + (i1 - i) = i1 by omega] at this
            exact this
          have hsu : ∀ w, Has st (sep (hash p7 (B.take i1)) (sep (hash p8 []) (sep (blk g (.cells (bcells B).toArray 5 (0, 0))) R))) w → Calls Tryd.prog 17 #[.pointer (some ⟨p7, 0, none⟩)] w fun e w' => e = .returned (.agg (bcells (sha (B.take i1))).toArray) ∧ Has st (sep (hash p7 (B.take i1)) (sep (hash p8 []) (sep (blk g (.cells (bcells B).toArray 5 (0, 0))) R))) w' := fun w h => sum_any st _ p7 (B.take i1) HK.out.up.up HST.out.up.up w h (by rw [List.length_take]; omega)
          have HW := Lib.hid hw
          obtain ⟨SS, hSS⟩ : ∃ SS, SS = sha (B.take i1) := ⟨_, rfl⟩
          rw [← hSS] at hsu
          have HSU := Lib.hid hsu
          have D1 := Lib.hid d1
          have D2 := Lib.hid d2
          have H6 := Lib.hid h6
          have HI1 := Lib.hid hi1
          clear hi1 d1 d2 hw hsu h6 hSS
          by_cases h8 : r = 0
          ·
            have D3 : Hid (cmpZ .eql (r : Int) 0 = some true) := Lib.hid (by simp only [cmpZ]; simp; omega)
            clear h8 hr
            go_wp2_with (first
              | (go_at_call 16; refine (HW.out _ H6.out).mono ?_; rintro e w7 ⟨rfl, h7⟩; have H7 := Lib.hid h7; clear h7)
              | (go_at_call 17; refine (HSU.out _ H7.out).mono ?_; rintro e w8 ⟨rfl, h8⟩; have H8 := Lib.hid h8; clear h8)
              | ((first | (with_reducible refine wpList_plain rfl ?_) | ((with_reducible refine wpList_yes _ _ rfl ?_ ?_); (focus rfl))); intro _ hk; (first
                | (refine opw_bin .add _ _ _ _ .i64 (i : Int) 1 (i1 : Int) rfl rfl rfl D1.out (hk _ _ ?_))
                | (refine opw_slLH 22 5 _ _ _ rfl Tryd.underlying22 infosz (some ⟨g, 0, none⟩) B.length B.length rfl (Nat.le_refl _) .i64 .i64 i i1 rfl rfl hii hi1l (hk _ _ ?_))
                | (refine opw_bits .and _ _ _ _ .i64 (i : Int) 7 (r : Int) (.inl rfl) rfl rfl rfl D2.out (hk _ _ ?_))
                | (refine opw_cmp .eql _ _ _ _ .i64 (r : Int) 0 true rfl rfl rfl D3.out (hk _ _ ?_))); simp only [Act.put, List.setIfInBounds_toArray, List.set_cons_zero, List.set_cons_succ]))
            go_wp2
            go_roundw
            case rel =>
              have hrel2 : OneI st R p7 p8 g B (.int .i64 (i1 : Int)) w8 := ⟨i1, hi1l, rfl, H8.out⟩
              first | exact hrel2 | ((repeat apply Exists.intro); exact ⟨hrel2, rfl⟩) | (rw [HI1.out] at hrel2; first | exact hrel2 | ((repeat apply Exists.intro); exact ⟨hrel2, rfl⟩))
            case measure => have := HI1.out; simp [intOf]; omega
          ·
            have D3 : Hid (cmpZ .eql (r : Int) 0 = some false) := Lib.hid (by simp only [cmpZ]; simp; omega)
            clear h8 hr
            go_wp2_with (first
              | (go_at_call 16; refine (HW.out _ H6.out).mono ?_; rintro e w7 ⟨rfl, h7⟩; have H7 := Lib.hid h7; clear h7)
              | (go_at_call 17; refine (HSU.out _ H7.out).mono ?_; rintro e w8 ⟨rfl, h8⟩; have H8 := Lib.hid h8; clear h8)
              | ((first | (with_reducible refine wpList_plain rfl ?_) | ((with_reducible refine wpList_yes _ _ rfl ?_ ?_); (focus rfl))); intro _ hk; (first
                | (refine opw_bin .add _ _ _ _ .i64 (i : Int) 1 (i1 : Int) rfl rfl rfl D1.out (hk _ _ ?_))
                | (refine opw_slLH 22 5 _ _ _ rfl Tryd.underlying22 infosz (some ⟨g, 0, none⟩) B.length B.length rfl (Nat.le_refl _) .i64 .i64 i i1 rfl rfl hii hi1l (hk _ _ ?_))
                | (refine opw_bits .and _ _ _ _ .i64 (i : Int) 7 (r : Int) (.inl rfl) rfl rfl rfl D2.out (hk _ _ ?_))
                | (refine opw_cmp .eql _ _ _ _ .i64 (r : Int) 0 false rfl rfl rfl D3.out (hk _ _ ?_))); simp only [Act.put, List.setIfInBounds_toArray, List.set_cons_zero, List.set_cons_succ]))
            go_wp2
            go_roundw
            case rel =>
              have hrel2 : OneI st R p7 p8 g B (.int .i64 (i1 : Int)) w7 := ⟨i1, hi1l, rfl, H7.out⟩
              first | exact hrel2 | ((repeat apply Exists.intro); exact ⟨hrel2, rfl⟩) | (rw [HI1.out] at hrel2; first | exact hrel2 | ((repeat apply Exists.intro); exact ⟨hrel2, rfl⟩))
            case measure => have := HI1.out; simp [intOf]; omega
        · obtain rfl : i = B.length := by omega
          obtain ⟨SB, hSB⟩ : ∃ SB, SB = sha B := ⟨_, rfl⟩
          have hSBl : SB.length = 32 := by rw [hSB]; exact sha_length _
          obtain ⟨H, hH⟩ : ∃ H, H = B.length / 2 := ⟨_, rfl⟩
          have hHl : H ≤ B.length := by omega
          have d1 : binZ .quo .i64 (B.length : Int) 2 = some (H : Int) := by rw [hH]; exact bin_quo B.length 2 (by decide) (by omega)
          have hsT : ((B.take H)).length = H := by rw [List.length_take]; omega
          rw [List.take_of_length_le (Nat.le_refl _)] at h6
          have CW1 : Hid (∀ w, Has st (sep (hash p7 B) (sep (hash p8 []) (sep (blk g (.cells (bcells B).toArray 5 (0, 0))) R))) w → Calls Tryd.prog 16 #[.pointer (some ⟨p8, 0, none⟩), .slice (subA 1 (some ⟨g, 0, none⟩) 0 B.length) H B.length] w fun e w' => e = .returned (.tuple #[]) ∧ Has st (sep (hash p7 B) (sep (hash p8 (B.take H)) (sep (blk g (.cells (bcells B).toArray 5 (0, 0))) R))) w') := Lib.hid fun w h => by
            have := write_any st (sep (hash p7 B) (sep (blk g (.cells (bcells B).toArray 5 (0, 0))) R)) p8 [] (B.take H) _ HK.out.up.up HST.out.up.up w h.second (by rw [hsT]; exact (HSB.out st _).takeB H hHl) (by rw [hsT]; simp; omega)
            rw [List.nil_append] at this
            exact this.mono fun e w' h' => ⟨h'.1, h'.2.second⟩
          have CW2 : Hid (∀ w, Has st (sep (hash p7 B) (sep (hash p8 (B.take H)) (sep (blk g (.cells (bcells B).toArray 5 (0, 0))) R))) w → Calls Tryd.prog 16 #[.pointer (some ⟨p8, 0, none⟩), .slice none 0 0] w fun e w' => e = .returned (.tuple #[]) ∧ Has st (sep (hash p7 B) (sep (hash p8 (B.take H)) (sep (blk g (.cells (bcells B).toArray 5 (0, 0))) R))) w') := Lib.hid fun w h => by
            have := write_any st (sep (hash p7 B) (sep (blk g (.cells (bcells B).toArray 5 (0, 0))) R)) p8 (B.take H) [] (.slice none 0 0) HK.out.up.up HST.out.up.up w h.second (sees_nil st _) (by rw [hsT]; simp; omega)
            rw [List.append_nil] at this
            exact this.mono fun e w' h' => ⟨h'.1, h'.2.second⟩
          have CW3 : Hid (∀ w, Has st (sep (hash p7 B) (sep (hash p8 (B.take H)) (sep (blk g (.cells (bcells B).toArray 5 (0, 0))) R))) w → Calls Tryd.prog 16 #[.pointer (some ⟨p8, 0, none⟩), .slice (subA 1 (some ⟨g, 0, none⟩) H B.length) (B.length - H) (B.length - H)] w fun e w' => e = .returned (.tuple #[]) ∧ Has st (sep (hash p7 B) (sep (hash p8 B) (sep (blk g (.cells (bcells B).toArray 5 (0, 0))) R))) w') := Lib.hid fun w h => by
            have e0 : (B.drop H).length = B.length - H := List.length_drop
            have := write_any st (sep (hash p7 B) (sep (blk g (.cells (bcells B).toArray 5 (0, 0))) R)) p8 (B.take H) (B.drop H) _ HK.out.up.up HST.out.up.up w h.second (by rw [e0]; exact (HSB.out st _).dropB rfl H hHl) (by rw [hsT, e0]; omega)
            rw [List.take_append_drop] at this
            exact this.mono fun e w' h' => ⟨h'.1, h'.2.second⟩
          have CS7 : Hid (∀ w, Has st (sep (hash p7 B) (sep (hash p8 B) (sep (blk g (.cells (bcells B).toArray 5 (0, 0))) R))) w → Calls Tryd.prog 17 #[.pointer (some ⟨p7, 0, none⟩)] w fun e w' => e = .returned (.agg (bcells SB).toArray) ∧ Has st (sep (hash p7 B) (sep (hash p8 B) (sep (blk g (.cells (bcells B).toArray 5 (0, 0))) R))) w') := Lib.hid fun w h => by rw [hSB]; exact sum_any st _ p7 B HK.out.up.up HST.out.up.up w h (by omega)
          have CS8 : Hid (∀ w, Has st (sep (hash p7 B) (sep (hash p8 B) (sep (blk g (.cells (bcells B).toArray 5 (0, 0))) R))) w → Calls Tryd.prog 17 #[.pointer (some ⟨p8, 0, none⟩)] w fun e w' => e = .returned (.agg (bcells SB).toArray) ∧ Has st (sep (hash p7 B) (sep (hash p8 B) (sep (blk g (.cells (bcells B).toArray 5 (0, 0))) R))) w') := Lib.hid fun w h => by rw [hSB]; exact (sum_any st _ p8 B HK.out.up.up HST.out.up.up w h.second (by omega)).mono fun e w' h' => ⟨h'.1, h'.2.second⟩
          have CO : Hid (∀ w, Has st (sep (hash p7 B) (sep (hash p8 B) (sep (blk g (.cells (bcells B).toArray 5 (0, 0))) R))) w → Calls Tryd.prog 10 #[.slice (some ⟨g, 0, none⟩) B.length B.length] w fun e w' => e = .returned (.agg (bcells SB).toArray) ∧ Has st (sep (hash p7 B) (sep (hash p8 B) (sep (blk g (.cells (bcells B).toArray 5 (0, 0))) R))) w') := Lib.hid fun w h => by rw [hSB]; exact shaOf_any st _ B _ HK.out.up.up.up HST.out.up.up.up w h ((HSB.out st (hash p8 B)).right) (by omega)
          have CL7 : Hid (∀ w, Has st (sep (hash p7 B) (sep (hash p8 B) (sep (blk g (.cells (bcells B).toArray 5 (0, 0))) R))) w → Calls Tryd.prog 18 #[.pointer (some ⟨p7, 0, none⟩)] w fun e w' => e = .returned (.int .i64 (B.length : Int)) ∧ Has st (sep (hash p7 B) (sep (hash p8 B) (sep (blk g (.cells (bcells B).toArray 5 (0, 0))) R))) w') := Lib.hid fun w h => (hlen_any st _ p7 B w h).mono fun e w' h' => ⟨h'.1, h'.2 ▸ h⟩
          have CL8 : Hid (∀ w, Has st (sep (hash p7 B) (sep (hash p8 B) (sep (blk g (.cells (bcells B).toArray 5 (0, 0))) R))) w → Calls Tryd.prog 18 #[.pointer (some ⟨p8, 0, none⟩)] w fun e w' => e = .returned (.int .i64 (B.length : Int)) ∧ Has st (sep (hash p7 B) (sep (hash p8 B) (sep (blk g (.cells (bcells B).toArray 5 (0, 0))) R))) w') := Lib.hid fun w h => (hlen_any st _ p8 B w h.second).mono fun e w' h' => ⟨h'.1, h'.2 ▸ h⟩
          have D1 := Lib.hid d1
          have HC := Lib.hid h6
          have HSBL := Lib.hid hSBl
          have HQ : Hid ((SB == SB) = true) := Lib.hid (beq_self_eq_true _)
          have HQ2 : Hid (cmpZ .eql (B.length : Int) (B.length : Int) = some true) := Lib.hid (by simp [cmpZ])
          clear hSB hSBl hH d1 hsT h6 hi hlt
          go_wp2_with (first
            | (go_at_call 16; (first | (with_reducible refine (CW1.out _ HC.out).mono ?_) | (with_reducible refine (CW2.out _ HC.out).mono ?_) | (with_reducible refine (CW3.out _ HC.out).mono ?_)); rintro e w9 ⟨rfl, h9⟩; have HC := Lib.hid h9; clear h9)
            | (go_at_call 17; (first | (with_reducible refine (CS7.out _ HC.out).mono ?_) | (with_reducible refine (CS8.out _ HC.out).mono ?_)); rintro e w9 ⟨rfl, h9⟩; have HC := Lib.hid h9; clear h9)
            | (go_at_call 18; (first | (with_reducible refine (CL7.out _ HC.out).mono ?_) | (with_reducible refine (CL8.out _ HC.out).mono ?_)); rintro e w9 ⟨rfl, h9⟩; have HC := Lib.hid h9; clear h9)
            | (go_at_call 10; (first | (with_reducible refine (CO.out _ HC.out).mono ?_)); rintro e w9 ⟨rfl, h9⟩; have HC := Lib.hid h9; clear h9)
            | ((first | (with_reducible refine wpList_plain rfl ?_) | ((with_reducible refine wpList_yes _ _ rfl ?_ ?_); (focus rfl))); intro _ hk; (first
              | (refine opw_bin .quo _ _ _ _ .i64 (B.length : Int) 2 (H : Int) rfl rfl rfl D1.out (hk _ _ ?_))
              | (refine opw_slH 22 5 _ _ rfl Tryd.underlying22 infosz (some ⟨g, 0, none⟩) B.length B.length rfl (Nat.le_refl _) .i64 H rfl hHl (hk _ _ ?_))
              | (refine opw_slL 22 5 _ _ rfl Tryd.underlying22 infosz (some ⟨g, 0, none⟩) B.length B.length rfl (Nat.le_refl _) .i64 H rfl hHl (hk _ _ ?_))
              | (refine opw_eqRow 24 _ 5 32 _ _ SB SB Tryd.underlying24 Tryd.underlying5 infosz (by kernel_rfl) HSBL.out HSBL.out rfl rfl rfl true HQ.out (hk _ _ ?_))
              | (refine opw_cmp .eql _ _ _ _ .i64 (B.length : Int) (B.length : Int) true rfl rfl rfl HQ2.out (hk _ _ ?_))); simp only [Act.put, List.setIfInBounds_toArray, List.set_cons_zero, List.set_cons_succ]))
          go_ret
          exact ⟨rfl, HC.out.right.right.right⟩
end Go.Proofs.YtijcjjinafpomaaDoor
