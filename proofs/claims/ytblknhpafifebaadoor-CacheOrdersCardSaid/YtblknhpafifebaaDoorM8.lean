/-
  Several texts of this proof in one: RefMix.
-/
import Derived.Test.YtblknhpafifebaaDoorM7
/-
  coldstoreref03.mix.
-/
namespace Go.Sl
open Go Go.RowKit
theorem Rd.cells_at {size : Nat} {w : World} {g off n c : Nat} {xs : List Value} (h : Rd size w (.slice (some ⟨g, off, none⟩) n c) n xs) (j : Nat) (u : Value) (hj : xs[j]? = some u) : w.cell? ⟨g, off + j, none⟩ = some u := h.cell hj
end Go.Sl
namespace Go.Proofs.YtblknhpafifebaaDoor
open Go.RowKit Go.Sl Go.Sha
set_option linter.unusedVariables false
set_option linter.unusedSimpArgs false

theorem infoW : (Tryd.prog.info? 70).map (fun i => (i.zero, i.size, i.bytes)) = some (some (.int .u32 0), 1, 4) := by kernel_rfl
theorem bget {l : List UInt8} {j : Nat} (hj : j < l.length) : (bcells l)[j]? = some (.int .u8 ((l.getD j 0).toNat : Int)) := by
  rw [bcells_get hj, List.getD_eq_getElem?_getD, List.getElem?_eq_getElem hj]; rfl
theorem wget {l : List UInt32} {j : Nat} (hj : j < l.length) : (wcells l)[j]? = some (.int .u32 ((l.getD j 0).toNat : Int)) := by
  rw [wcells_get hj, List.getD_eq_getElem?_getD, List.getElem?_eq_getElem hj]; rfl
theorem plus_take (s T : S8) (i : Nat) (h : i < 8) : wcells ((plus s T).list.take i) ++ [Value.int .u32 (((s.list.getD i 0) + (T.list.getD i 0)).toNat : Int)] = wcells ((plus s T).list.take (i + 1)) := by
  have : i = 0 ∨ i = 1 ∨ i = 2 ∨ i = 3 ∨ i = 4 ∨ i = 5 ∨ i = 6 ∨ i = 7 := by omega
  rcases this with rfl | rfl | rfl | rfl | rfl | rfl | rfl | rfl <;> rfl
def RefA (st : World) (R : HProp) (l : List UInt8) (v7 v8 : Value) (wr : World) : Prop :=
  ∃ i A c, i ≤ 64 ∧ v8 = .int .i64 ((i : Nat) : Int) ∧ v7 = .slice A i c ∧ Has st (sep (row 70 1 (.slice A i c) i (wcells (words l i))) R) wr
def RefB (st : World) (R : HProp) (l : List UInt8) (s : S8) (v11 v12 : Value) (wr : World) : Prop :=
  ∃ i A c, i ≤ 64 ∧ v12 = .int .i64 ((i : Nat) : Int) ∧ v11 = .slice A 8 c ∧ Has st (sep (seenP 1 (.slice A 8 c) 8 (wcells (turns l s i).list)) R) wr
def RefC (st : World) (R : HProp) (T : List UInt32) (v17 v18 : Value) (wr : World) : Prop :=
  ∃ i A c, i ≤ 8 ∧ v18 = .int .i64 ((i : Nat) : Int) ∧ v17 = .slice A i c ∧ Has st (sep (row 70 1 (.slice A i c) i (wcells (T.take i))) R) wr

set_option maxRecDepth 100000 in
set_option maxHeartbeats 8000000 in
theorem refmix_any (st : World) (R : HProp) (s : S8) (l : List UInt8) (v0 v1 vb : Value) (h0 : Sees st R 1 v0 8 (wcells s.list)) (hk : Sees st R 1 v1 64 (wcells keyList)) (hs : Sees st R 1 vb l.length (bcells l)) (h64 : 64 ≤ l.length) (hlb : l.length ≤ 1000000) (w : World) (h : Has st R w) :
    Calls Tryd.prog 26 #[v0, v1, vb] w fun e w' => ∃ A c, e = .returned (.slice A 8 c) ∧ Has st (sep (row 70 1 (.slice A 8 c) 8 (wcells (mix s l).list)) R) w' := by
  obtain ⟨A0, c0, rfl⟩ := h0.form h
  obtain ⟨A1, c1, rfl⟩ := hk.form h
  obtain ⟨Ab, cb, rfl⟩ := hs.form h
  obtain ⟨g0, o0, rfl, _⟩ := (h0 w h).at (by decide)
  obtain ⟨g1, o1, rfl, _⟩ := (hk w h).at (by decide)
  obtain ⟨gb, ob, rfl, _⟩ := (hs w h).at (by omega)
  have H0 := Lib.hid h0
  have HK := Lib.hid hk
  have HB := Lib.hid hs
  have HH := Lib.hid h
  clear h0 hk hs h
  go_enter Tryd.func26, Tryd.ntmps26
  go_wp2_with (fail)
  go_loopw [7, 8] (RefA st R l) (fun _ v8 _ => 64 - (intOf v8).toNat)
  case atStart => exact ⟨0, _, _, Nat.zero_le _, rfl, rfl, HH.out.row_empty 70 1⟩
  case round =>
    obtain ⟨i, A, c, hi, rfl, rfl, h2⟩ := hrel
    clear HH
    by_cases hlt : i < 64
    · by_cases h16 : i < 16
      · obtain ⟨x0, hx0⟩ : ∃ x, x = l.getD (4 * i) 0 := ⟨_, rfl⟩
        obtain ⟨x1, hx1⟩ : ∃ x, x = l.getD (4 * i + 1) 0 := ⟨_, rfl⟩
        obtain ⟨x2, hx2⟩ : ∃ x, x = l.getD (4 * i + 2) 0 := ⟨_, rfl⟩
        obtain ⟨x3, hx3⟩ : ∃ x, x = l.getD (4 * i + 3) 0 := ⟨_, rfl⟩
        have HC : Hid (∀ w', Has st (sep (row 70 1 (.slice A i c) i (wcells (words l i))) R) w' → w'.cell? ⟨gb, ob + (4 * i), none⟩ = some (.int .u8 (x0.toNat : Int)) ∧ w'.cell? ⟨gb, ob + ((4 * i) + 1), none⟩ = some (.int .u8 (x1.toNat : Int)) ∧
            w'.cell? ⟨gb, ob + ((4 * i) + 2), none⟩ = some (.int .u8 (x2.toNat : Int)) ∧ w'.cell? ⟨gb, ob + ((4 * i) + 3), none⟩ = some (.int .u8 (x3.toNat : Int))) := Lib.hid fun w' h' => by
          have hr := HB.out w' h'.right
          rw [hx0, hx1, hx2, hx3]
          exact ⟨hr.cells_at _ _ (bget (by omega)), hr.cells_at _ _ (bget (by omega)), hr.cells_at _ _ (bget (by omega)), hr.cells_at _ _ (bget (by omega))⟩
        have HW : Hid (((16777216 : UInt32) * (x0).toUInt32) + ((65536 : UInt32) * (x1).toUInt32) + ((256 : UInt32) * (x2).toUInt32) + (x3).toUInt32 = word l i) := Lib.hid (by rw [word_plus, hx0, hx1, hx2, hx3]; rfl)
        have H2 := Lib.hid h2
        clear hx0 hx1 hx2 hx3 h2
        go_wp2_with (fail)
        refine wp_region_inv2 (fun L u w' => Slots (fun kk => ([some (.slice A i c), some (.slice (some ⟨gb, ob, none⟩) l.length cb), some (.int .i64 ((i : Nat) : Int)), some (.int .i64 (((4 * i) : Nat) : Int)), some (.pointer (some ⟨gb, ob + (4 * i), none⟩)), some (.int .u8 ((x0).toNat : Int)), some (.int .u32 (((x0).toUInt32).toNat : Int)), some (.int .u32 ((((16777216 : UInt32) * (x0).toUInt32)).toNat : Int)), some (.slice (some ⟨gb, ob, none⟩) l.length cb), some (.int .i64 ((i : Nat) : Int)), some (.int .i64 (((4 * i) : Nat) : Int)), some (.int .i64 ((((4 * i) + 1) : Nat) : Int)), some (.pointer (some ⟨gb, ob + ((4 * i) + 1), none⟩)), some (.int .u8 ((x1).toNat : Int)), some (.int .u32 (((x1).toUInt32).toNat : Int)), some (.int .u32 ((((65536 : UInt32) * (x1).toUInt32)).toNat : Int)), some (.int .u32 (((((16777216 : UInt32) * (x0).toUInt32) + ((65536 : UInt32) * (x1).toUInt32))).toNat : Int)), some (.slice (some ⟨gb, ob, none⟩) l.length cb), some (.int .i64 ((i : Nat) : Int)), some (.int .i64 (((4 * i) : Nat) : Int)), some (.int .i64 ((((4 * i) + 2) : Nat) : Int)), some (.pointer (some ⟨gb, ob + ((4 * i) + 2), none⟩)), some (.int .u8 ((x2).toNat : Int)), some (.int .u32 (((x2).toUInt32).toNat : Int)), some (.int .u32 ((((256 : UInt32) * (x2).toUInt32)).toNat : Int)), some (.int .u32 ((((((16777216 : UInt32) * (x0).toUInt32) + ((65536 : UInt32) * (x1).toUInt32)) + ((256 : UInt32) * (x2).toUInt32))).toNat : Int)), some (.slice (some ⟨gb, ob, none⟩) l.length cb), some (.int .i64 ((i : Nat) : Int)), some (.int .i64 (((4 * i) : Nat) : Int)), some (.int .i64 ((((4 * i) + 3) : Nat) : Int)), some (.pointer (some ⟨gb, ob + ((4 * i) + 3), none⟩)), some (.int .u8 ((x3).toNat : Int)), some (.int .u32 (((x3).toUInt32).toNat : Int)), some (.int .u32 (((((((16777216 : UInt32) * (x0).toUInt32) + ((65536 : UInt32) * (x1).toUInt32)) + ((256 : UInt32) * (x2).toUInt32)) + (x3).toUInt32)).toNat : Int)), none, none, none] : List (Option Value)).getD kk none) L u ∧ TailI st 70 (.slice A i c) i (wcells (words l i)) (.int .u32 (((((((16777216 : UInt32) * (x0).toUInt32) + ((65536 : UInt32) * (x1).toUInt32)) + ((256 : UInt32) * (x2).toUInt32)) + (x3).toUInt32)).toNat : Int)) R 34 35 36 L u w') (by kernel_rfl) (by decide +kernel) (by decide +kernel) (by kernel_rfl) (fun u => ⟨Slots.start _ u, TailI.start H2.out.drew u⟩) ?_ ?_
        · refine ⟨?_, ?_, ?_, ?_, ?_, ?_, ?_, ?_, ?_, ?_, ?_, ?_, ?_, ?_, ?_, ?_, ?_, ?_, ?_, ?_, ?_, ?_, ?_, ?_, ?_, ?_, ?_, ?_, ?_, ?_, ?_, ?_, ?_, ?_, ?_, ?_, ?_, trivial⟩
          all_goals (refine RegStep2.plain rfl ?_; rintro L u w1 b hL hW hD hU ⟨hS, hH⟩ hin hout)
          · exact opw_move _ _ (.inl rfl) ((hin 36 7 rfl).trans ((hU 36 _ _ rfl rfl (hD.nots 37 36 0 hL (by decide +kernel))).trans (by kernel_rfl))) ⟨_, rfl, hS.step 0 _ (.inr rfl), hH.pure 0 _ (by decide)⟩
          · exact opw_move _ _ (.inl rfl) ((hout 2 (by kernel_rfl)).trans (by kernel_rfl)) ⟨_, rfl, hS.step 1 _ (.inr rfl), hH.pure 1 _ (by decide)⟩
          · exact opw_move _ _ (.inl rfl) ((hout 8 (by kernel_rfl)).trans (by kernel_rfl)) ⟨_, rfl, hS.step 2 _ (.inr rfl), hH.pure 2 _ (by decide)⟩
          · exact opw_bin .mul _ _ _ _ .i64 _ _ _ rfl rfl ((hin 2 28 rfl).trans (hS 2 _ rfl (hW.of 2 (by decide)))) (bin_mul (4) (i) (by omega)) ⟨_, rfl, hS.step 3 _ (.inr rfl), hH.pure 3 _ (by decide)⟩
          · exact opw_indexSl _ _ _ _ rfl Tryd.underlying30 infosz (gb) (ob) (l.length) (cb) ((4 * i)) ((hin 1 27 rfl).trans (hS 1 _ rfl (hW.of 1 (by decide)))) _ ((hin 3 29 rfl).trans (hS 3 _ rfl (hW.of 3 (by decide)))) (by omega) ⟨_, rfl, hS.step 4 _ (.inr rfl), hH.pure 4 _ (by decide)⟩
          · exact opw_load1 _ _ rfl _ Tryd.underlying5 rfl _ _ ((hin 4 30 rfl).trans (hS 4 _ rfl (hW.of 4 (by decide)))) ((HC.out _ (hH.at hD 37 5 hL (by decide +kernel) (by decide +kernel) (by decide +kernel))).1) ⟨_, rfl, hS.step 5 _ (.inr rfl), hH.pure 5 _ (by decide)⟩
          · exact opw_conv _ _ _ .u8 .u32 _ _ rfl Tryd.underlying5 Tryd.underlying70 ((hin 5 31 rfl).trans (hS 5 _ rfl (hW.of 5 (by decide)))) (byte_w32 _) ⟨_, rfl, hS.step 6 _ (.inr rfl), hH.pure 6 _ (by decide)⟩
          · exact opw_bin .mul _ _ _ _ .u32 _ _ _ rfl (by kernel_rfl) ((hin 6 32 rfl).trans (hS 6 _ rfl (hW.of 6 (by decide)))) (bin32_mul (16777216 : UInt32) (x0).toUInt32) ⟨_, rfl, hS.step 7 _ (.inr rfl), hH.pure 7 _ (by decide)⟩
          · exact opw_move _ _ (.inl rfl) ((hout 2 (by kernel_rfl)).trans (by kernel_rfl)) ⟨_, rfl, hS.step 8 _ (.inr rfl), hH.pure 8 _ (by decide)⟩
          · exact opw_move _ _ (.inl rfl) ((hout 8 (by kernel_rfl)).trans (by kernel_rfl)) ⟨_, rfl, hS.step 9 _ (.inr rfl), hH.pure 9 _ (by decide)⟩
          · exact opw_bin .mul _ _ _ _ .i64 _ _ _ rfl rfl ((hin 9 35 rfl).trans (hS 9 _ rfl (hW.of 9 (by decide)))) (bin_mul (4) (i) (by omega)) ⟨_, rfl, hS.step 10 _ (.inr rfl), hH.pure 10 _ (by decide)⟩
          · exact opw_bin .add _ _ _ _ .i64 _ _ _ rfl ((hin 10 36 rfl).trans (hS 10 _ rfl (hW.of 10 (by decide)))) rfl (bin_add ((4 * i)) (1) (by omega)) ⟨_, rfl, hS.step 11 _ (.inr rfl), hH.pure 11 _ (by decide)⟩
          · exact opw_indexSl _ _ _ _ rfl Tryd.underlying30 infosz (gb) (ob) (l.length) (cb) (((4 * i) + 1)) ((hin 8 34 rfl).trans (hS 8 _ rfl (hW.of 8 (by decide)))) _ ((hin 11 37 rfl).trans (hS 11 _ rfl (hW.of 11 (by decide)))) (by omega) ⟨_, rfl, hS.step 12 _ (.inr rfl), hH.pure 12 _ (by decide)⟩
          · exact opw_load1 _ _ rfl _ Tryd.underlying5 rfl _ _ ((hin 12 38 rfl).trans (hS 12 _ rfl (hW.of 12 (by decide)))) ((HC.out _ (hH.at hD 37 13 hL (by decide +kernel) (by decide +kernel) (by decide +kernel))).2.1) ⟨_, rfl, hS.step 13 _ (.inr rfl), hH.pure 13 _ (by decide)⟩
          · exact opw_conv _ _ _ .u8 .u32 _ _ rfl Tryd.underlying5 Tryd.underlying70 ((hin 13 39 rfl).trans (hS 13 _ rfl (hW.of 13 (by decide)))) (byte_w32 _) ⟨_, rfl, hS.step 14 _ (.inr rfl), hH.pure 14 _ (by decide)⟩
          · exact opw_bin .mul _ _ _ _ .u32 _ _ _ rfl (by kernel_rfl) ((hin 14 40 rfl).trans (hS 14 _ rfl (hW.of 14 (by decide)))) (bin32_mul (65536 : UInt32) (x1).toUInt32) ⟨_, rfl, hS.step 15 _ (.inr rfl), hH.pure 15 _ (by decide)⟩
          · exact opw_bin32 _ _ _ _ _ _ _ (((16777216 : UInt32) * (x0).toUInt32) + ((65536 : UInt32) * (x1).toUInt32)) rfl ((hin 7 33 rfl).trans (hS 7 _ rfl (hW.of 7 (by decide)))) ((hin 15 41 rfl).trans (hS 15 _ rfl (hW.of 15 (by decide)))) (.inl ⟨rfl, rfl⟩) ⟨_, rfl, hS.step 16 _ (.inr rfl), hH.pure 16 _ (by decide)⟩
          · exact opw_move _ _ (.inl rfl) ((hout 2 (by kernel_rfl)).trans (by kernel_rfl)) ⟨_, rfl, hS.step 17 _ (.inr rfl), hH.pure 17 _ (by decide)⟩
          · exact opw_move _ _ (.inl rfl) ((hout 8 (by kernel_rfl)).trans (by kernel_rfl)) ⟨_, rfl, hS.step 18 _ (.inr rfl), hH.pure 18 _ (by decide)⟩
          · exact opw_bin .mul _ _ _ _ .i64 _ _ _ rfl rfl ((hin 18 44 rfl).trans (hS 18 _ rfl (hW.of 18 (by decide)))) (bin_mul (4) (i) (by omega)) ⟨_, rfl, hS.step 19 _ (.inr rfl), hH.pure 19 _ (by decide)⟩
          · exact opw_bin .add _ _ _ _ .i64 _ _ _ rfl ((hin 19 45 rfl).trans (hS 19 _ rfl (hW.of 19 (by decide)))) rfl (bin_add ((4 * i)) (2) (by omega)) ⟨_, rfl, hS.step 20 _ (.inr rfl), hH.pure 20 _ (by decide)⟩
          · exact opw_indexSl _ _ _ _ rfl Tryd.underlying30 infosz (gb) (ob) (l.length) (cb) (((4 * i) + 2)) ((hin 17 43 rfl).trans (hS 17 _ rfl (hW.of 17 (by decide)))) _ ((hin 20 46 rfl).trans (hS 20 _ rfl (hW.of 20 (by decide)))) (by omega) ⟨_, rfl, hS.step 21 _ (.inr rfl), hH.pure 21 _ (by decide)⟩
          · exact opw_load1 _ _ rfl _ Tryd.underlying5 rfl _ _ ((hin 21 47 rfl).trans (hS 21 _ rfl (hW.of 21 (by decide)))) ((HC.out _ (hH.at hD 37 22 hL (by decide +kernel) (by decide +kernel) (by decide +kernel))).2.2.1) ⟨_, rfl, hS.step 22 _ (.inr rfl), hH.pure 22 _ (by decide)⟩
          · exact opw_conv _ _ _ .u8 .u32 _ _ rfl Tryd.underlying5 Tryd.underlying70 ((hin 22 48 rfl).trans (hS 22 _ rfl (hW.of 22 (by decide)))) (byte_w32 _) ⟨_, rfl, hS.step 23 _ (.inr rfl), hH.pure 23 _ (by decide)⟩
          · exact opw_bin .mul _ _ _ _ .u32 _ _ _ rfl (by kernel_rfl) ((hin 23 49 rfl).trans (hS 23 _ rfl (hW.of 23 (by decide)))) (bin32_mul (256 : UInt32) (x2).toUInt32) ⟨_, rfl, hS.step 24 _ (.inr rfl), hH.pure 24 _ (by decide)⟩
          · exact opw_bin32 _ _ _ _ _ _ _ ((((16777216 : UInt32) * (x0).toUInt32) + ((65536 : UInt32) * (x1).toUInt32)) + ((256 : UInt32) * (x2).toUInt32)) rfl ((hin 16 42 rfl).trans (hS 16 _ rfl (hW.of 16 (by decide)))) ((hin 24 50 rfl).trans (hS 24 _ rfl (hW.of 24 (by decide)))) (.inl ⟨rfl, rfl⟩) ⟨_, rfl, hS.step 25 _ (.inr rfl), hH.pure 25 _ (by decide)⟩
          · exact opw_move _ _ (.inl rfl) ((hout 2 (by kernel_rfl)).trans (by kernel_rfl)) ⟨_, rfl, hS.step 26 _ (.inr rfl), hH.pure 26 _ (by decide)⟩
          · exact opw_move _ _ (.inl rfl) ((hout 8 (by kernel_rfl)).trans (by kernel_rfl)) ⟨_, rfl, hS.step 27 _ (.inr rfl), hH.pure 27 _ (by decide)⟩
          · exact opw_bin .mul _ _ _ _ .i64 _ _ _ rfl rfl ((hin 27 53 rfl).trans (hS 27 _ rfl (hW.of 27 (by decide)))) (bin_mul (4) (i) (by omega)) ⟨_, rfl, hS.step 28 _ (.inr rfl), hH.pure 28 _ (by decide)⟩
          · exact opw_bin .add _ _ _ _ .i64 _ _ _ rfl ((hin 28 54 rfl).trans (hS 28 _ rfl (hW.of 28 (by decide)))) rfl (bin_add ((4 * i)) (3) (by omega)) ⟨_, rfl, hS.step 29 _ (.inr rfl), hH.pure 29 _ (by decide)⟩
          · exact opw_indexSl _ _ _ _ rfl Tryd.underlying30 infosz (gb) (ob) (l.length) (cb) (((4 * i) + 3)) ((hin 26 52 rfl).trans (hS 26 _ rfl (hW.of 26 (by decide)))) _ ((hin 29 55 rfl).trans (hS 29 _ rfl (hW.of 29 (by decide)))) (by omega) ⟨_, rfl, hS.step 30 _ (.inr rfl), hH.pure 30 _ (by decide)⟩
          · exact opw_load1 _ _ rfl _ Tryd.underlying5 rfl _ _ ((hin 30 56 rfl).trans (hS 30 _ rfl (hW.of 30 (by decide)))) ((HC.out _ (hH.at hD 37 31 hL (by decide +kernel) (by decide +kernel) (by decide +kernel))).2.2.2) ⟨_, rfl, hS.step 31 _ (.inr rfl), hH.pure 31 _ (by decide)⟩
          · exact opw_conv _ _ _ .u8 .u32 _ _ rfl Tryd.underlying5 Tryd.underlying70 ((hin 31 57 rfl).trans (hS 31 _ rfl (hW.of 31 (by decide)))) (byte_w32 _) ⟨_, rfl, hS.step 32 _ (.inr rfl), hH.pure 32 _ (by decide)⟩
          · exact opw_bin32 _ _ _ _ _ _ _ (((((16777216 : UInt32) * (x0).toUInt32) + ((65536 : UInt32) * (x1).toUInt32)) + ((256 : UInt32) * (x2).toUInt32)) + (x3).toUInt32) rfl ((hin 25 51 rfl).trans (hS 25 _ rfl (hW.of 25 (by decide)))) ((hin 32 58 rfl).trans (hS 32 _ rfl (hW.of 32 (by decide)))) (.inl ⟨rfl, rfl⟩) ⟨_, rfl, hS.step 33 _ (.inr rfl), hH.pure 33 _ (by decide)⟩
          · exact hH.lit hS rfl hL (hD.nots 1 35 34 hL (by decide +kernel)) (hD.nots 2 36 34 hL (by decide +kernel)) (by decide) _ _ rfl ((hin 33 59 rfl).trans (hS 33 _ rfl (hW.of 33 (by decide)))) (by kernel_rfl)
          · exact hH.app hS rfl (hW.of 34 (by decide)) hL (hD.nots 1 36 35 hL (by decide +kernel)) (by decide) _ _ _ _ _ rfl Tryd.underlying65 infoW rfl ((hin 0 26 rfl).trans (hS 0 _ rfl (hW.of 0 (by decide)))) (hin 34 60 rfl) rfl (by unfold maxLen; omega) (by omega)
          · exact hH.asg hS rfl (hW.of 35 (by decide)) hL _ rfl (hin 35 61 rfl)
        intro L u w3 hL ⟨hS, hH⟩
        obtain ⟨A', c', e1, h3⟩ := hH.done (hL 36 (by decide))
        simp only [frame_cons, frame_nil, e1]
        have H3 := Lib.hid h3
        clear hL hS hH e1 h3 H2
        go_wp2
        go_roundw
        case rel => exact ⟨i + 1, A', c', by omega, by go_num, rfl, H3.out.cast (by rw [show wcells (words l i) ++ [Value.int .u32 ((((16777216 : UInt32) * (x0).toUInt32) + ((65536 : UInt32) * (x1).toUInt32) + ((256 : UInt32) * (x2).toUInt32) + (x3).toUInt32).toNat : Int)] = wcells (words l (i + 1)) by rw [HW.out]; simp [words, h16, wcells, wcell]])⟩
        case measure => simp [intOf]; omega
      · obtain ⟨gw, rfl⟩ := h2.row_at (by omega)
        obtain ⟨x, hx⟩ : ∃ x, x = (words l i).getD (i - 15) 0 := ⟨_, rfl⟩
        obtain ⟨y, hy⟩ : ∃ x, x = (words l i).getD (i - 2) 0 := ⟨_, rfl⟩
        obtain ⟨z, hz⟩ : ∃ x, x = (words l i).getD (i - 16) 0 := ⟨_, rfl⟩
        obtain ⟨q, hq⟩ : ∃ x, x = (words l i).getD (i - 7) 0 := ⟨_, rfl⟩
        have hwl := words_length l i
        have HC : Hid (∀ w', Has st (sep (row 70 1 (.slice (some ⟨gw, 0, none⟩) i c) i (wcells (words l i))) R) w' → w'.cell? ⟨gw, 0 + (i - 15), none⟩ = some (.int .u32 (x.toNat : Int)) ∧ w'.cell? ⟨gw, 0 + (i - 2), none⟩ = some (.int .u32 (y.toNat : Int)) ∧
            w'.cell? ⟨gw, 0 + (i - 16), none⟩ = some (.int .u32 (z.toNat : Int)) ∧ w'.cell? ⟨gw, 0 + (i - 7), none⟩ = some (.int .u32 (q.toNat : Int))) := Lib.hid fun w' h' => by
          have hr := sees_row st _ 1 _ _ _ _ w' h'
          rw [hx, hy, hz, hq]
          exact ⟨hr.cells_at _ _ (wget (by omega)), hr.cells_at _ _ (wget (by omega)), hr.cells_at _ _ (wget (by omega)), hr.cells_at _ _ (wget (by omega))⟩
        have HW : Hid (z + (rr x 7 ^^^ rr x 18 ^^^ sh x 3) + q + (rr y 17 ^^^ rr y 19 ^^^ sh y 10) = next (words l i) i) := Lib.hid (by rw [hx, hy, hz, hq]; rfl)
        have H2 := Lib.hid h2
        clear hx hy hz hq hwl h2
        go_wp2_with (fail)
        refine wp_region_inv2 (fun L u w' => Slots (fun kk => ([some (.slice (some ⟨gw, 0, none⟩) i c), some (.int .i64 ((i : Nat) : Int)), some (.int .i64 (((i - 15) : Nat) : Int)), some (.pointer (some ⟨gw, 0 + (i - 15), none⟩)), some (.int .u32 ((x).toNat : Int)), some (.int .u32 (((rr x 7)).toNat : Int)), some (.slice (some ⟨gw, 0, none⟩) i c), some (.int .i64 ((i : Nat) : Int)), some (.int .i64 (((i - 15) : Nat) : Int)), some (.pointer (some ⟨gw, 0 + (i - 15), none⟩)), some (.int .u32 ((x).toNat : Int)), some (.int .u32 (((rr x 18)).toNat : Int)), some (.int .u32 ((((rr x 7) ^^^ (rr x 18))).toNat : Int)), some (.slice (some ⟨gw, 0, none⟩) i c), some (.int .i64 ((i : Nat) : Int)), some (.int .i64 (((i - 15) : Nat) : Int)), some (.pointer (some ⟨gw, 0 + (i - 15), none⟩)), some (.int .u32 ((x).toNat : Int)), some (.int .u32 (((sh x 3)).toNat : Int)), some (.int .u32 (((((rr x 7) ^^^ (rr x 18)) ^^^ (sh x 3))).toNat : Int)), some (.int .u32 (((((rr x 7) ^^^ (rr x 18)) ^^^ (sh x 3))).toNat : Int))] : List (Option Value)).getD kk none) L u ∧ Has st (sep (row 70 1 (.slice (some ⟨gw, 0, none⟩) i c) i (wcells (words l i))) R) w') (by kernel_rfl) (by decide +kernel) (by decide +kernel) (by kernel_rfl) (fun u => ⟨Slots.start _ u, H2.out.drew⟩) ?_ ?_
        · refine ⟨?_, ?_, ?_, ?_, ?_, ?_, ?_, ?_, ?_, ?_, ?_, ?_, ?_, ?_, ?_, ?_, ?_, ?_, ?_, ?_, ?_, trivial⟩
          all_goals (refine RegStep2.plain rfl ?_; rintro L u w1 b hL hW hD hU ⟨hS, hH⟩ hin hout)
          · exact opw_move _ _ (.inl rfl) ((hout 7 (by kernel_rfl)).trans (by kernel_rfl)) ⟨_, rfl, hS.step 0 _ (.inr rfl), hH⟩
          · exact opw_move _ _ (.inl rfl) ((hout 8 (by kernel_rfl)).trans (by kernel_rfl)) ⟨_, rfl, hS.step 1 _ (.inr rfl), hH⟩
          · exact opw_bin .sub _ _ _ _ .i64 _ _ _ rfl ((hin 1 63 rfl).trans (hS 1 _ rfl (hW.of 1 (by decide)))) rfl (bin_sub (i) (15) (by omega) (by omega)) ⟨_, rfl, hS.step 2 _ (.inr rfl), hH⟩
          · exact opw_indexSl _ _ _ _ rfl Tryd.underlying65 info1 (gw) (0) (i) (c) ((i - 15)) ((hin 0 62 rfl).trans (hS 0 _ rfl (hW.of 0 (by decide)))) _ ((hin 2 64 rfl).trans (hS 2 _ rfl (hW.of 2 (by decide)))) (by omega) ⟨_, rfl, hS.step 3 _ (.inr rfl), hH⟩
          · exact opw_load1 _ _ rfl _ Tryd.underlying70 rfl _ _ ((hin 3 65 rfl).trans (hS 3 _ rfl (hW.of 3 (by decide)))) ((HC.out _ hH).1) ⟨_, rfl, hS.step 4 _ (.inr rfl), hH⟩
          · exact opw_call_ret _ _ _ [(.int .u32 ((x).toNat : Int)), (.int .i64 ((7 : Nat) : Int))] rfl (by kernel_rfl) (list2 ((hin 4 66 rfl).trans (hS 4 _ rfl (hW.of 4 (by decide)))) (list2 rfl rfl)) (right_any st _ x 7 (by decide) w1 hH) (fun e w2 he => by obtain ⟨rfl, h2⟩ := he; exact ⟨_, rfl, _, rfl, hS.step 5 _ (.inr rfl), h2⟩)
          · exact opw_move _ _ (.inl rfl) ((hout 7 (by kernel_rfl)).trans (by kernel_rfl)) ⟨_, rfl, hS.step 6 _ (.inr rfl), hH⟩
          · exact opw_move _ _ (.inl rfl) ((hout 8 (by kernel_rfl)).trans (by kernel_rfl)) ⟨_, rfl, hS.step 7 _ (.inr rfl), hH⟩
          · exact opw_bin .sub _ _ _ _ .i64 _ _ _ rfl ((hin 7 69 rfl).trans (hS 7 _ rfl (hW.of 7 (by decide)))) rfl (bin_sub (i) (15) (by omega) (by omega)) ⟨_, rfl, hS.step 8 _ (.inr rfl), hH⟩
          · exact opw_indexSl _ _ _ _ rfl Tryd.underlying65 info1 (gw) (0) (i) (c) ((i - 15)) ((hin 6 68 rfl).trans (hS 6 _ rfl (hW.of 6 (by decide)))) _ ((hin 8 70 rfl).trans (hS 8 _ rfl (hW.of 8 (by decide)))) (by omega) ⟨_, rfl, hS.step 9 _ (.inr rfl), hH⟩
          · exact opw_load1 _ _ rfl _ Tryd.underlying70 rfl _ _ ((hin 9 71 rfl).trans (hS 9 _ rfl (hW.of 9 (by decide)))) ((HC.out _ hH).1) ⟨_, rfl, hS.step 10 _ (.inr rfl), hH⟩
          · exact opw_call_ret _ _ _ [(.int .u32 ((x).toNat : Int)), (.int .i64 ((18 : Nat) : Int))] rfl (by kernel_rfl) (list2 ((hin 10 72 rfl).trans (hS 10 _ rfl (hW.of 10 (by decide)))) (list2 rfl rfl)) (right_any st _ x 18 (by decide) w1 hH) (fun e w2 he => by obtain ⟨rfl, h2⟩ := he; exact ⟨_, rfl, _, rfl, hS.step 11 _ (.inr rfl), h2⟩)
          · exact opw_bin32 _ _ _ _ _ _ _ ((rr x 7) ^^^ (rr x 18)) rfl ((hin 5 67 rfl).trans (hS 5 _ rfl (hW.of 5 (by decide)))) ((hin 11 73 rfl).trans (hS 11 _ rfl (hW.of 11 (by decide)))) (.inr (.inl ⟨rfl, rfl⟩)) ⟨_, rfl, hS.step 12 _ (.inr rfl), hH⟩
          · exact opw_move _ _ (.inl rfl) ((hout 7 (by kernel_rfl)).trans (by kernel_rfl)) ⟨_, rfl, hS.step 13 _ (.inr rfl), hH⟩
          · exact opw_move _ _ (.inl rfl) ((hout 8 (by kernel_rfl)).trans (by kernel_rfl)) ⟨_, rfl, hS.step 14 _ (.inr rfl), hH⟩
          · exact opw_bin .sub _ _ _ _ .i64 _ _ _ rfl ((hin 14 76 rfl).trans (hS 14 _ rfl (hW.of 14 (by decide)))) rfl (bin_sub (i) (15) (by omega) (by omega)) ⟨_, rfl, hS.step 15 _ (.inr rfl), hH⟩
          · exact opw_indexSl _ _ _ _ rfl Tryd.underlying65 info1 (gw) (0) (i) (c) ((i - 15)) ((hin 13 75 rfl).trans (hS 13 _ rfl (hW.of 13 (by decide)))) _ ((hin 15 77 rfl).trans (hS 15 _ rfl (hW.of 15 (by decide)))) (by omega) ⟨_, rfl, hS.step 16 _ (.inr rfl), hH⟩
          · exact opw_load1 _ _ rfl _ Tryd.underlying70 rfl _ _ ((hin 16 78 rfl).trans (hS 16 _ rfl (hW.of 16 (by decide)))) ((HC.out _ hH).1) ⟨_, rfl, hS.step 17 _ (.inr rfl), hH⟩
          · exact opw_shift .shr _ _ _ _ .u32 _ _ _ _ rfl ((hin 17 79 rfl).trans (hS 17 _ rfl (hW.of 17 (by decide)))) rfl (sh32 x 3 (by decide)) ⟨_, rfl, hS.step 18 _ (.inr rfl), hH⟩
          · exact opw_bin32 _ _ _ _ _ _ _ (((rr x 7) ^^^ (rr x 18)) ^^^ (sh x 3)) rfl ((hin 12 74 rfl).trans (hS 12 _ rfl (hW.of 12 (by decide)))) ((hin 18 80 rfl).trans (hS 18 _ rfl (hW.of 18 (by decide)))) (.inr (.inl ⟨rfl, rfl⟩)) ⟨_, rfl, hS.step 19 _ (.inr rfl), hH⟩
          · exact opw_move _ _ (.inr rfl) ((hin 19 81 rfl).trans (hS 19 _ rfl (hW.of 19 (by decide)))) ⟨_, rfl, hS.step 20 _ (.inr rfl), hH⟩
        intro L u w3 hL ⟨hS, hH⟩
        have E := hS 20 _ rfl (hL 20 (by decide))
        simp only [frame_cons, frame_nil, E]
        generalize hX : rr x 7 ^^^ rr x 18 ^^^ sh x 3 = X at HW
        have H3 := Lib.hid hH
        clear hL hS hH E hX H2
        go_wp2_with (fail)
        refine wp_region_inv2 (fun L u w' => Slots (fun kk => ([some (.slice (some ⟨gw, 0, none⟩) i c), some (.int .i64 ((i : Nat) : Int)), some (.int .i64 (((i - 2) : Nat) : Int)), some (.pointer (some ⟨gw, 0 + (i - 2), none⟩)), some (.int .u32 ((y).toNat : Int)), some (.int .u32 (((rr y 17)).toNat : Int)), some (.slice (some ⟨gw, 0, none⟩) i c), some (.int .i64 ((i : Nat) : Int)), some (.int .i64 (((i - 2) : Nat) : Int)), some (.pointer (some ⟨gw, 0 + (i - 2), none⟩)), some (.int .u32 ((y).toNat : Int)), some (.int .u32 (((rr y 19)).toNat : Int)), some (.int .u32 ((((rr y 17) ^^^ (rr y 19))).toNat : Int)), some (.slice (some ⟨gw, 0, none⟩) i c), some (.int .i64 ((i : Nat) : Int)), some (.int .i64 (((i - 2) : Nat) : Int)), some (.pointer (some ⟨gw, 0 + (i - 2), none⟩)), some (.int .u32 ((y).toNat : Int)), some (.int .u32 (((sh y 10)).toNat : Int)), some (.int .u32 (((((rr y 17) ^^^ (rr y 19)) ^^^ (sh y 10))).toNat : Int)), some (.int .u32 (((((rr y 17) ^^^ (rr y 19)) ^^^ (sh y 10))).toNat : Int))] : List (Option Value)).getD kk none) L u ∧ Has st (sep (row 70 1 (.slice (some ⟨gw, 0, none⟩) i c) i (wcells (words l i))) R) w') (by kernel_rfl) (by decide +kernel) (by decide +kernel) (by kernel_rfl) (fun u => ⟨Slots.start _ u, H3.out.drew⟩) ?_ ?_
        · refine ⟨?_, ?_, ?_, ?_, ?_, ?_, ?_, ?_, ?_, ?_, ?_, ?_, ?_, ?_, ?_, ?_, ?_, ?_, ?_, ?_, ?_, trivial⟩
          all_goals (refine RegStep2.plain rfl ?_; rintro L u w1 b hL hW hD hU ⟨hS, hH⟩ hin hout)
          · exact opw_move _ _ (.inl rfl) ((hout 7 (by kernel_rfl)).trans (by kernel_rfl)) ⟨_, rfl, hS.step 0 _ (.inr rfl), hH⟩
          · exact opw_move _ _ (.inl rfl) ((hout 8 (by kernel_rfl)).trans (by kernel_rfl)) ⟨_, rfl, hS.step 1 _ (.inr rfl), hH⟩
          · exact opw_bin .sub _ _ _ _ .i64 _ _ _ rfl ((hin 1 83 rfl).trans (hS 1 _ rfl (hW.of 1 (by decide)))) rfl (bin_sub (i) (2) (by omega) (by omega)) ⟨_, rfl, hS.step 2 _ (.inr rfl), hH⟩
          · exact opw_indexSl _ _ _ _ rfl Tryd.underlying65 info1 (gw) (0) (i) (c) ((i - 2)) ((hin 0 82 rfl).trans (hS 0 _ rfl (hW.of 0 (by decide)))) _ ((hin 2 84 rfl).trans (hS 2 _ rfl (hW.of 2 (by decide)))) (by omega) ⟨_, rfl, hS.step 3 _ (.inr rfl), hH⟩
          · exact opw_load1 _ _ rfl _ Tryd.underlying70 rfl _ _ ((hin 3 85 rfl).trans (hS 3 _ rfl (hW.of 3 (by decide)))) ((HC.out _ hH).2.1) ⟨_, rfl, hS.step 4 _ (.inr rfl), hH⟩
          · exact opw_call_ret _ _ _ [(.int .u32 ((y).toNat : Int)), (.int .i64 ((17 : Nat) : Int))] rfl (by kernel_rfl) (list2 ((hin 4 86 rfl).trans (hS 4 _ rfl (hW.of 4 (by decide)))) (list2 rfl rfl)) (right_any st _ y 17 (by decide) w1 hH) (fun e w2 he => by obtain ⟨rfl, h2⟩ := he; exact ⟨_, rfl, _, rfl, hS.step 5 _ (.inr rfl), h2⟩)
          · exact opw_move _ _ (.inl rfl) ((hout 7 (by kernel_rfl)).trans (by kernel_rfl)) ⟨_, rfl, hS.step 6 _ (.inr rfl), hH⟩
          · exact opw_move _ _ (.inl rfl) ((hout 8 (by kernel_rfl)).trans (by kernel_rfl)) ⟨_, rfl, hS.step 7 _ (.inr rfl), hH⟩
          · exact opw_bin .sub _ _ _ _ .i64 _ _ _ rfl ((hin 7 89 rfl).trans (hS 7 _ rfl (hW.of 7 (by decide)))) rfl (bin_sub (i) (2) (by omega) (by omega)) ⟨_, rfl, hS.step 8 _ (.inr rfl), hH⟩
          · exact opw_indexSl _ _ _ _ rfl Tryd.underlying65 info1 (gw) (0) (i) (c) ((i - 2)) ((hin 6 88 rfl).trans (hS 6 _ rfl (hW.of 6 (by decide)))) _ ((hin 8 90 rfl).trans (hS 8 _ rfl (hW.of 8 (by decide)))) (by omega) ⟨_, rfl, hS.step 9 _ (.inr rfl), hH⟩
          · exact opw_load1 _ _ rfl _ Tryd.underlying70 rfl _ _ ((hin 9 91 rfl).trans (hS 9 _ rfl (hW.of 9 (by decide)))) ((HC.out _ hH).2.1) ⟨_, rfl, hS.step 10 _ (.inr rfl), hH⟩
          · exact opw_call_ret _ _ _ [(.int .u32 ((y).toNat : Int)), (.int .i64 ((19 : Nat) : Int))] rfl (by kernel_rfl) (list2 ((hin 10 92 rfl).trans (hS 10 _ rfl (hW.of 10 (by decide)))) (list2 rfl rfl)) (right_any st _ y 19 (by decide) w1 hH) (fun e w2 he => by obtain ⟨rfl, h2⟩ := he; exact ⟨_, rfl, _, rfl, hS.step 11 _ (.inr rfl), h2⟩)
          · exact opw_bin32 _ _ _ _ _ _ _ ((rr y 17) ^^^ (rr y 19)) rfl ((hin 5 87 rfl).trans (hS 5 _ rfl (hW.of 5 (by decide)))) ((hin 11 93 rfl).trans (hS 11 _ rfl (hW.of 11 (by decide)))) (.inr (.inl ⟨rfl, rfl⟩)) ⟨_, rfl, hS.step 12 _ (.inr rfl), hH⟩
          · exact opw_move _ _ (.inl rfl) ((hout 7 (by kernel_rfl)).trans (by kernel_rfl)) ⟨_, rfl, hS.step 13 _ (.inr rfl), hH⟩
          · exact opw_move _ _ (.inl rfl) ((hout 8 (by kernel_rfl)).trans (by kernel_rfl)) ⟨_, rfl, hS.step 14 _ (.inr rfl), hH⟩
          · exact opw_bin .sub _ _ _ _ .i64 _ _ _ rfl ((hin 14 96 rfl).trans (hS 14 _ rfl (hW.of 14 (by decide)))) rfl (bin_sub (i) (2) (by omega) (by omega)) ⟨_, rfl, hS.step 15 _ (.inr rfl), hH⟩
          · exact opw_indexSl _ _ _ _ rfl Tryd.underlying65 info1 (gw) (0) (i) (c) ((i - 2)) ((hin 13 95 rfl).trans (hS 13 _ rfl (hW.of 13 (by decide)))) _ ((hin 15 97 rfl).trans (hS 15 _ rfl (hW.of 15 (by decide)))) (by omega) ⟨_, rfl, hS.step 16 _ (.inr rfl), hH⟩
          · exact opw_load1 _ _ rfl _ Tryd.underlying70 rfl _ _ ((hin 16 98 rfl).trans (hS 16 _ rfl (hW.of 16 (by decide)))) ((HC.out _ hH).2.1) ⟨_, rfl, hS.step 17 _ (.inr rfl), hH⟩
          · exact opw_shift .shr _ _ _ _ .u32 _ _ _ _ rfl ((hin 17 99 rfl).trans (hS 17 _ rfl (hW.of 17 (by decide)))) rfl (sh32 y 10 (by decide)) ⟨_, rfl, hS.step 18 _ (.inr rfl), hH⟩
          · exact opw_bin32 _ _ _ _ _ _ _ (((rr y 17) ^^^ (rr y 19)) ^^^ (sh y 10)) rfl ((hin 12 94 rfl).trans (hS 12 _ rfl (hW.of 12 (by decide)))) ((hin 18 100 rfl).trans (hS 18 _ rfl (hW.of 18 (by decide)))) (.inr (.inl ⟨rfl, rfl⟩)) ⟨_, rfl, hS.step 19 _ (.inr rfl), hH⟩
          · exact opw_move _ _ (.inr rfl) ((hin 19 101 rfl).trans (hS 19 _ rfl (hW.of 19 (by decide)))) ⟨_, rfl, hS.step 20 _ (.inr rfl), hH⟩
        intro L2 u2 w4 hL ⟨hS, hH⟩
        have E := hS 20 _ rfl (hL 20 (by decide))
        simp only [frame_cons, frame_nil, E]
        generalize hY : rr y 17 ^^^ rr y 19 ^^^ sh y 10 = Y at HW
        have H4 := Lib.hid hH
        clear hL hS hH E hY H3
        go_wp2_with (fail)
        refine wp_region_inv2 (fun L u w' => Slots (fun kk => ([some (.slice (some ⟨gw, 0, none⟩) i c), some (.slice (some ⟨gw, 0, none⟩) i c), some (.int .i64 ((i : Nat) : Int)), some (.int .i64 (((i - 16) : Nat) : Int)), some (.pointer (some ⟨gw, 0 + (i - 16), none⟩)), some (.int .u32 ((z).toNat : Int)), some (.int .u32 ((X).toNat : Int)), some (.int .u32 (((z + X)).toNat : Int)), some (.slice (some ⟨gw, 0, none⟩) i c), some (.int .i64 ((i : Nat) : Int)), some (.int .i64 (((i - 7) : Nat) : Int)), some (.pointer (some ⟨gw, 0 + (i - 7), none⟩)), some (.int .u32 ((q).toNat : Int)), some (.int .u32 ((((z + X) + q)).toNat : Int)), some (.int .u32 ((Y).toNat : Int)), some (.int .u32 (((((z + X) + q) + Y)).toNat : Int)), none, none, none] : List (Option Value)).getD kk none) L u ∧ TailI st 70 (.slice (some ⟨gw, 0, none⟩) i c) i (wcells (words l i)) (.int .u32 (((((z + X) + q) + Y)).toNat : Int)) R 16 17 18 L u w') (by kernel_rfl) (by decide +kernel) (by decide +kernel) (by kernel_rfl) (fun u => ⟨Slots.start _ u, TailI.start H4.out.drew u⟩) ?_ ?_
        · refine ⟨?_, ?_, ?_, ?_, ?_, ?_, ?_, ?_, ?_, ?_, ?_, ?_, ?_, ?_, ?_, ?_, ?_, ?_, ?_, trivial⟩
          all_goals (refine RegStep2.plain rfl ?_; rintro L u w1 b hL hW hD hU ⟨hS, hH⟩ hin hout)
          · exact opw_move _ _ (.inl rfl) ((hin 18 7 rfl).trans ((hU 18 _ _ rfl rfl (hD.nots 19 18 0 hL (by decide +kernel))).trans (by kernel_rfl))) ⟨_, rfl, hS.step 0 _ (.inr rfl), hH.pure 0 _ (by decide)⟩
          · exact opw_move _ _ (.inl rfl) ((hin 18 7 rfl).trans ((hU 18 _ _ rfl rfl (hD.nots 19 18 1 hL (by decide +kernel))).trans (by kernel_rfl))) ⟨_, rfl, hS.step 1 _ (.inr rfl), hH.pure 1 _ (by decide)⟩
          · exact opw_move _ _ (.inl rfl) ((hout 8 (by kernel_rfl)).trans (by kernel_rfl)) ⟨_, rfl, hS.step 2 _ (.inr rfl), hH.pure 2 _ (by decide)⟩
          · exact opw_bin .sub _ _ _ _ .i64 _ _ _ rfl ((hin 2 104 rfl).trans (hS 2 _ rfl (hW.of 2 (by decide)))) rfl (bin_sub (i) (16) (by omega) (by omega)) ⟨_, rfl, hS.step 3 _ (.inr rfl), hH.pure 3 _ (by decide)⟩
          · exact opw_indexSl _ _ _ _ rfl Tryd.underlying65 info1 (gw) (0) (i) (c) ((i - 16)) ((hin 1 103 rfl).trans (hS 1 _ rfl (hW.of 1 (by decide)))) _ ((hin 3 105 rfl).trans (hS 3 _ rfl (hW.of 3 (by decide)))) (by omega) ⟨_, rfl, hS.step 4 _ (.inr rfl), hH.pure 4 _ (by decide)⟩
          · exact opw_load1 _ _ rfl _ Tryd.underlying70 rfl _ _ ((hin 4 106 rfl).trans (hS 4 _ rfl (hW.of 4 (by decide)))) ((HC.out _ (hH.at hD 19 5 hL (by decide +kernel) (by decide +kernel) (by decide +kernel))).2.2.1) ⟨_, rfl, hS.step 5 _ (.inr rfl), hH.pure 5 _ (by decide)⟩
          · exact opw_move _ _ (.inl rfl) ((hout 9 (by kernel_rfl)).trans (by kernel_rfl)) ⟨_, rfl, hS.step 6 _ (.inr rfl), hH.pure 6 _ (by decide)⟩
          · exact opw_bin32 _ _ _ _ _ _ _ (z + X) rfl ((hin 5 107 rfl).trans (hS 5 _ rfl (hW.of 5 (by decide)))) ((hin 6 108 rfl).trans (hS 6 _ rfl (hW.of 6 (by decide)))) (.inl ⟨rfl, rfl⟩) ⟨_, rfl, hS.step 7 _ (.inr rfl), hH.pure 7 _ (by decide)⟩
          · exact opw_move _ _ (.inl rfl) ((hin 18 7 rfl).trans ((hU 18 _ _ rfl rfl (hD.nots 19 18 8 hL (by decide +kernel))).trans (by kernel_rfl))) ⟨_, rfl, hS.step 8 _ (.inr rfl), hH.pure 8 _ (by decide)⟩
          · exact opw_move _ _ (.inl rfl) ((hout 8 (by kernel_rfl)).trans (by kernel_rfl)) ⟨_, rfl, hS.step 9 _ (.inr rfl), hH.pure 9 _ (by decide)⟩
          · exact opw_bin .sub _ _ _ _ .i64 _ _ _ rfl ((hin 9 111 rfl).trans (hS 9 _ rfl (hW.of 9 (by decide)))) rfl (bin_sub (i) (7) (by omega) (by omega)) ⟨_, rfl, hS.step 10 _ (.inr rfl), hH.pure 10 _ (by decide)⟩
          · exact opw_indexSl _ _ _ _ rfl Tryd.underlying65 info1 (gw) (0) (i) (c) ((i - 7)) ((hin 8 110 rfl).trans (hS 8 _ rfl (hW.of 8 (by decide)))) _ ((hin 10 112 rfl).trans (hS 10 _ rfl (hW.of 10 (by decide)))) (by omega) ⟨_, rfl, hS.step 11 _ (.inr rfl), hH.pure 11 _ (by decide)⟩
          · exact opw_load1 _ _ rfl _ Tryd.underlying70 rfl _ _ ((hin 11 113 rfl).trans (hS 11 _ rfl (hW.of 11 (by decide)))) ((HC.out _ (hH.at hD 19 12 hL (by decide +kernel) (by decide +kernel) (by decide +kernel))).2.2.2) ⟨_, rfl, hS.step 12 _ (.inr rfl), hH.pure 12 _ (by decide)⟩
          · exact opw_bin32 _ _ _ _ _ _ _ ((z + X) + q) rfl ((hin 7 109 rfl).trans (hS 7 _ rfl (hW.of 7 (by decide)))) ((hin 12 114 rfl).trans (hS 12 _ rfl (hW.of 12 (by decide)))) (.inl ⟨rfl, rfl⟩) ⟨_, rfl, hS.step 13 _ (.inr rfl), hH.pure 13 _ (by decide)⟩
          · exact opw_move _ _ (.inl rfl) ((hout 10 (by kernel_rfl)).trans (by kernel_rfl)) ⟨_, rfl, hS.step 14 _ (.inr rfl), hH.pure 14 _ (by decide)⟩
          · exact opw_bin32 _ _ _ _ _ _ _ (((z + X) + q) + Y) rfl ((hin 13 115 rfl).trans (hS 13 _ rfl (hW.of 13 (by decide)))) ((hin 14 116 rfl).trans (hS 14 _ rfl (hW.of 14 (by decide)))) (.inl ⟨rfl, rfl⟩) ⟨_, rfl, hS.step 15 _ (.inr rfl), hH.pure 15 _ (by decide)⟩
          · exact hH.lit hS rfl hL (hD.nots 1 17 16 hL (by decide +kernel)) (hD.nots 2 18 16 hL (by decide +kernel)) (by decide) _ _ rfl ((hin 15 117 rfl).trans (hS 15 _ rfl (hW.of 15 (by decide)))) (by kernel_rfl)
          · exact hH.app hS rfl (hW.of 16 (by decide)) hL (hD.nots 1 18 17 hL (by decide +kernel)) (by decide) _ _ _ _ _ rfl Tryd.underlying65 infoW rfl ((hin 0 102 rfl).trans (hS 0 _ rfl (hW.of 0 (by decide)))) (hin 16 118 rfl) rfl (by unfold maxLen; omega) (by omega)
          · exact hH.asg hS rfl (hW.of 17 (by decide)) hL _ rfl (hin 17 119 rfl)
        intro L3 u3 w5 hL ⟨hS, hH⟩
        obtain ⟨A', c', e1, h3⟩ := hH.done (hL 18 (by decide))
        simp only [frame_cons, frame_nil, e1]
        have H5 := Lib.hid h3
        clear hL hS hH e1 h3 H4
        go_wp2
        go_roundw
        case rel => exact ⟨i + 1, A', c', by omega, by go_num, rfl, H5.out.cast (by rw [show wcells (words l i) ++ [Value.int .u32 ((z + X + q + Y).toNat : Int)] = wcells (words l (i + 1)) by rw [HW.out]; simp [words, h16, wcells, wcell]])⟩
        case measure => simp [intOf]; omega
    · obtain rfl : i = 64 := by omega
      obtain ⟨gw, rfl⟩ := h2.row_at (by decide)
      have H2 := Lib.hid h2
      clear h2
      go_wp2_with (refine wp_append rfl _ _ 65 70 1 4 (.int .u32 0) rfl Tryd.underlying65 infoW rfl (by decide) rfl rfl (H2.out.row_empty 70 1) (H0.out _ (H2.out.alloc' _).right) (wcells_one _) (by decide) (by decide) ?_; intro A7 c7 w6 h6 hnil; clear hnil; have H6 := Lib.hid h6; clear h6)
      have H7 : Hid (Has st (sep (seenP 1 (.slice A7 8 c7) 8 (wcells s.list)) (sep (row 70 1 (.slice (some ⟨gw, 0, none⟩) 64 c) 64 (wcells (words l 64))) R)) w6) := Lib.hid (show Has st (sep (row 70 1 (.slice A7 8 c7) 8 (wcells s.list)) _) w6 from H6.out).row_seen
      clear H6 H2
      go_loopw [11, 12] (RefB st (sep (row 70 1 (.slice (some ⟨gw, 0, none⟩) 64 c) 64 (wcells (words l 64))) R) l s) (fun _ v12 _ => 64 - (intOf v12).toNat)
      case atStart => exact ⟨0, A7, c7, Nat.zero_le _, rfl, rfl, H7.out⟩
      case round =>
        clear H7
        obtain ⟨i, A2, c2, hi, rfl, rfl, h2⟩ := hrel
        obtain ⟨ga, oa, rfl, _⟩ := (sees_seen st 1 _ 8 _ _ wr h2).at (by decide)
        by_cases hlt : i < 64
        · generalize hT : turns l s i = T at h2
          obtain ⟨ta, tb, tc, td, te, tf, tg, th⟩ := T
          obtain ⟨wi, hwi⟩ : ∃ wi, wi = (words l 64).getD i 0 := ⟨_, rfl⟩
          obtain ⟨ki, hki⟩ : ∃ ki, ki = keyList.getD i 0 := ⟨_, rfl⟩
          have HC : Hid (∀ w', Has st (sep (seenP 1 (.slice (some ⟨ga, oa, none⟩) 8 c2) 8 (wcells [ta, tb, tc, td, te, tf, tg, th])) (sep (row 70 1 (.slice (some ⟨gw, 0, none⟩) 64 c) 64 (wcells (words l 64))) R)) w' → w'.cell? ⟨ga, oa + 0, none⟩ = some (.int .u32 (ta.toNat : Int)) ∧ w'.cell? ⟨ga, oa + 1, none⟩ = some (.int .u32 (tb.toNat : Int)) ∧ w'.cell? ⟨ga, oa + 2, none⟩ = some (.int .u32 (tc.toNat : Int)) ∧ w'.cell? ⟨ga, oa + 3, none⟩ = some (.int .u32 (td.toNat : Int)) ∧ w'.cell? ⟨ga, oa + 4, none⟩ = some (.int .u32 (te.toNat : Int)) ∧ w'.cell? ⟨ga, oa + 5, none⟩ = some (.int .u32 (tf.toNat : Int)) ∧ w'.cell? ⟨ga, oa + 6, none⟩ = some (.int .u32 (tg.toNat : Int)) ∧ w'.cell? ⟨ga, oa + 7, none⟩ = some (.int .u32 (th.toNat : Int)) ∧ w'.cell? ⟨g1, o1 + i, none⟩ = some (.int .u32 (ki.toNat : Int)) ∧ w'.cell? ⟨gw, 0 + i, none⟩ = some (.int .u32 (wi.toNat : Int))) := Lib.hid fun w' h' => by
            have hr := sees_seen st 1 _ 8 _ _ w' h'
            have hw := sees_row st _ 1 _ _ _ _ w' h'.right
            have hk := HK.out w' h'.right.right
            rw [hwi, hki]
            exact ⟨hr.cells_at 0 _ rfl, hr.cells_at 1 _ rfl, hr.cells_at 2 _ rfl, hr.cells_at 3 _ rfl, hr.cells_at 4 _ rfl, hr.cells_at 5 _ rfl, hr.cells_at 6 _ rfl, hr.cells_at 7 _ rfl, hk.cells_at _ _ (wget hlt), hw.cells_at _ _ (wget (by rw [words_length]; exact hlt))⟩
          have HT := Lib.hid hT
          have HW := Lib.hid hwi
          have HKI := Lib.hid hki
          have H2 : Hid (Has st (sep (seenP 1 (.slice (some ⟨ga, oa, none⟩) 8 c2) 8 (wcells [ta, tb, tc, td, te, tf, tg, th])) (sep (row 70 1 (.slice (some ⟨gw, 0, none⟩) 64 c) 64 (wcells (words l 64))) R)) wr) := Lib.hid h2
          clear hT hwi hki h2
          go_wp2_with (fail)
          refine wp_region_inv2 (fun L u w' => Slots (fun kk => ([some (.slice (some ⟨ga, oa, none⟩) 8 c2), some (.pointer (some ⟨ga, oa + 4, none⟩)), some (.int .u32 ((te).toNat : Int)), some (.slice (some ⟨ga, oa, none⟩) 8 c2), some (.pointer (some ⟨ga, oa + 5, none⟩)), some (.int .u32 ((tf).toNat : Int)), some (.int .u32 (((te &&& tf)).toNat : Int)), some (.slice (some ⟨ga, oa, none⟩) 8 c2), some (.pointer (some ⟨ga, oa + 4, none⟩)), some (.int .u32 ((te).toNat : Int)), some (.int .u32 (((~~~ te)).toNat : Int)), some (.slice (some ⟨ga, oa, none⟩) 8 c2), some (.pointer (some ⟨ga, oa + 6, none⟩)), some (.int .u32 ((tg).toNat : Int)), some (.int .u32 ((((~~~ te) &&& tg)).toNat : Int)), some (.int .u32 ((((te &&& tf) ||| ((~~~ te) &&& tg))).toNat : Int)), some (.int .u32 ((((te &&& tf) ||| ((~~~ te) &&& tg))).toNat : Int))] : List (Option Value)).getD kk none) L u ∧ Has st (sep (seenP 1 (.slice (some ⟨ga, oa, none⟩) 8 c2) 8 (wcells [ta, tb, tc, td, te, tf, tg, th])) (sep (row 70 1 (.slice (some ⟨gw, 0, none⟩) 64 c) 64 (wcells (words l 64))) R)) w') (by kernel_rfl) (by decide +kernel) (by decide +kernel) (by kernel_rfl) (fun u => ⟨Slots.start _ u, H2.out.drew⟩) ?_ ?_
          · refine ⟨?_, ?_, ?_, ?_, ?_, ?_, ?_, ?_, ?_, ?_, ?_, ?_, ?_, ?_, ?_, ?_, ?_, trivial⟩
            all_goals (refine RegStep2.plain rfl ?_; rintro L u w1 b hL hW hD hU ⟨hS, hH⟩ hin hout)
            · exact opw_move _ _ (.inl rfl) ((hout 11 (by kernel_rfl)).trans (by kernel_rfl)) ⟨_, rfl, hS.step 0 _ (.inr rfl), hH⟩
            · exact opw_indexSl _ _ _ _ rfl Tryd.underlying65 info1 (ga) (oa) (8) (c2) (4) ((hin 0 127 rfl).trans (hS 0 _ rfl (hW.of 0 (by decide)))) _ rfl (by decide) ⟨_, rfl, hS.step 1 _ (.inr rfl), hH⟩
            · exact opw_load1 _ _ rfl _ Tryd.underlying70 rfl _ _ ((hin 1 128 rfl).trans (hS 1 _ rfl (hW.of 1 (by decide)))) ((HC.out _ hH).2.2.2.2.1) ⟨_, rfl, hS.step 2 _ (.inr rfl), hH⟩
            · exact opw_move _ _ (.inl rfl) ((hout 11 (by kernel_rfl)).trans (by kernel_rfl)) ⟨_, rfl, hS.step 3 _ (.inr rfl), hH⟩
            · exact opw_indexSl _ _ _ _ rfl Tryd.underlying65 info1 (ga) (oa) (8) (c2) (5) ((hin 3 130 rfl).trans (hS 3 _ rfl (hW.of 3 (by decide)))) _ rfl (by decide) ⟨_, rfl, hS.step 4 _ (.inr rfl), hH⟩
            · exact opw_load1 _ _ rfl _ Tryd.underlying70 rfl _ _ ((hin 4 131 rfl).trans (hS 4 _ rfl (hW.of 4 (by decide)))) ((HC.out _ hH).2.2.2.2.2.1) ⟨_, rfl, hS.step 5 _ (.inr rfl), hH⟩
            · exact opw_bin32 _ _ _ _ _ _ _ (te &&& tf) rfl ((hin 2 129 rfl).trans (hS 2 _ rfl (hW.of 2 (by decide)))) ((hin 5 132 rfl).trans (hS 5 _ rfl (hW.of 5 (by decide)))) (.inr (.inr (.inl ⟨rfl, rfl⟩))) ⟨_, rfl, hS.step 6 _ (.inr rfl), hH⟩
            · exact opw_move _ _ (.inl rfl) ((hout 11 (by kernel_rfl)).trans (by kernel_rfl)) ⟨_, rfl, hS.step 7 _ (.inr rfl), hH⟩
            · exact opw_indexSl _ _ _ _ rfl Tryd.underlying65 info1 (ga) (oa) (8) (c2) (4) ((hin 7 134 rfl).trans (hS 7 _ rfl (hW.of 7 (by decide)))) _ rfl (by decide) ⟨_, rfl, hS.step 8 _ (.inr rfl), hH⟩
            · exact opw_load1 _ _ rfl _ Tryd.underlying70 rfl _ _ ((hin 8 135 rfl).trans (hS 8 _ rfl (hW.of 8 (by decide)))) ((HC.out _ hH).2.2.2.2.1) ⟨_, rfl, hS.step 9 _ (.inr rfl), hH⟩
            · exact opw_not32 _ _ _ rfl ((hin 9 136 rfl).trans (hS 9 _ rfl (hW.of 9 (by decide)))) ⟨_, rfl, hS.step 10 _ (.inr rfl), hH⟩
            · exact opw_move _ _ (.inl rfl) ((hout 11 (by kernel_rfl)).trans (by kernel_rfl)) ⟨_, rfl, hS.step 11 _ (.inr rfl), hH⟩
            · exact opw_indexSl _ _ _ _ rfl Tryd.underlying65 info1 (ga) (oa) (8) (c2) (6) ((hin 11 138 rfl).trans (hS 11 _ rfl (hW.of 11 (by decide)))) _ rfl (by decide) ⟨_, rfl, hS.step 12 _ (.inr rfl), hH⟩
            · exact opw_load1 _ _ rfl _ Tryd.underlying70 rfl _ _ ((hin 12 139 rfl).trans (hS 12 _ rfl (hW.of 12 (by decide)))) ((HC.out _ hH).2.2.2.2.2.2.1) ⟨_, rfl, hS.step 13 _ (.inr rfl), hH⟩
            · exact opw_bin32 _ _ _ _ _ _ _ ((~~~ te) &&& tg) rfl ((hin 10 137 rfl).trans (hS 10 _ rfl (hW.of 10 (by decide)))) ((hin 13 140 rfl).trans (hS 13 _ rfl (hW.of 13 (by decide)))) (.inr (.inr (.inl ⟨rfl, rfl⟩))) ⟨_, rfl, hS.step 14 _ (.inr rfl), hH⟩
            · exact opw_bin32 _ _ _ _ _ _ _ ((te &&& tf) ||| ((~~~ te) &&& tg)) rfl ((hin 6 133 rfl).trans (hS 6 _ rfl (hW.of 6 (by decide)))) ((hin 14 141 rfl).trans (hS 14 _ rfl (hW.of 14 (by decide)))) (.inr (.inr (.inr ⟨rfl, rfl⟩))) ⟨_, rfl, hS.step 15 _ (.inr rfl), hH⟩
            · exact opw_move _ _ (.inr rfl) ((hin 15 142 rfl).trans (hS 15 _ rfl (hW.of 15 (by decide)))) ⟨_, rfl, hS.step 16 _ (.inr rfl), hH⟩
          intro L14 u14 w14 hL ⟨hS, hH⟩
          have E := hS 16 _ rfl (hL 16 (by decide))
          simp only [frame_cons, frame_nil, E]
          obtain ⟨CH, hCH⟩ : ∃ z, z = (te &&& tf) ||| ((~~~ te) &&& tg) := ⟨_, rfl⟩
          rw [← hCH]
          have HCH := Lib.hid hCH
          have H14 := Lib.hid hH
          clear hL hS hH E hCH H2
          go_wp2_with (fail)
          refine wp_region_inv2 (fun L u w' => Slots (fun kk => ([some (.slice (some ⟨ga, oa, none⟩) 8 c2), some (.pointer (some ⟨ga, oa + 0, none⟩)), some (.int .u32 ((ta).toNat : Int)), some (.slice (some ⟨ga, oa, none⟩) 8 c2), some (.pointer (some ⟨ga, oa + 1, none⟩)), some (.int .u32 ((tb).toNat : Int)), some (.int .u32 (((ta &&& tb)).toNat : Int)), some (.slice (some ⟨ga, oa, none⟩) 8 c2), some (.pointer (some ⟨ga, oa + 0, none⟩)), some (.int .u32 ((ta).toNat : Int)), some (.slice (some ⟨ga, oa, none⟩) 8 c2), some (.pointer (some ⟨ga, oa + 2, none⟩)), some (.int .u32 ((tc).toNat : Int)), some (.int .u32 (((ta &&& tc)).toNat : Int)), some (.int .u32 ((((ta &&& tb) ||| (ta &&& tc))).toNat : Int)), some (.slice (some ⟨ga, oa, none⟩) 8 c2), some (.pointer (some ⟨ga, oa + 1, none⟩)), some (.int .u32 ((tb).toNat : Int)), some (.slice (some ⟨ga, oa, none⟩) 8 c2), some (.pointer (some ⟨ga, oa + 2, none⟩)), some (.int .u32 ((tc).toNat : Int)), some (.int .u32 (((tb &&& tc)).toNat : Int)), some (.int .u32 (((((ta &&& tb) ||| (ta &&& tc)) ||| (tb &&& tc))).toNat : Int)), some (.int .u32 (((((ta &&& tb) ||| (ta &&& tc)) ||| (tb &&& tc))).toNat : Int))] : List (Option Value)).getD kk none) L u ∧ Has st (sep (seenP 1 (.slice (some ⟨ga, oa, none⟩) 8 c2) 8 (wcells [ta, tb, tc, td, te, tf, tg, th])) (sep (row 70 1 (.slice (some ⟨gw, 0, none⟩) 64 c) 64 (wcells (words l 64))) R)) w') (by kernel_rfl) (by decide +kernel) (by decide +kernel) (by kernel_rfl) (fun u => ⟨Slots.start _ u, H14.out.drew⟩) ?_ ?_
          · refine ⟨?_, ?_, ?_, ?_, ?_, ?_, ?_, ?_, ?_, ?_, ?_, ?_, ?_, ?_, ?_, ?_, ?_, ?_, ?_, ?_, ?_, ?_, ?_, ?_, trivial⟩
            all_goals (refine RegStep2.plain rfl ?_; rintro L u w1 b hL hW hD hU ⟨hS, hH⟩ hin hout)
            · exact opw_move _ _ (.inl rfl) ((hout 11 (by kernel_rfl)).trans (by kernel_rfl)) ⟨_, rfl, hS.step 0 _ (.inr rfl), hH⟩
            · exact opw_indexSl _ _ _ _ rfl Tryd.underlying65 info1 (ga) (oa) (8) (c2) (0) ((hin 0 143 rfl).trans (hS 0 _ rfl (hW.of 0 (by decide)))) _ rfl (by decide) ⟨_, rfl, hS.step 1 _ (.inr rfl), hH⟩
            · exact opw_load1 _ _ rfl _ Tryd.underlying70 rfl _ _ ((hin 1 144 rfl).trans (hS 1 _ rfl (hW.of 1 (by decide)))) ((HC.out _ hH).1) ⟨_, rfl, hS.step 2 _ (.inr rfl), hH⟩
            · exact opw_move _ _ (.inl rfl) ((hout 11 (by kernel_rfl)).trans (by kernel_rfl)) ⟨_, rfl, hS.step 3 _ (.inr rfl), hH⟩
            · exact opw_indexSl _ _ _ _ rfl Tryd.underlying65 info1 (ga) (oa) (8) (c2) (1) ((hin 3 146 rfl).trans (hS 3 _ rfl (hW.of 3 (by decide)))) _ rfl (by decide) ⟨_, rfl, hS.step 4 _ (.inr rfl), hH⟩
            · exact opw_load1 _ _ rfl _ Tryd.underlying70 rfl _ _ ((hin 4 147 rfl).trans (hS 4 _ rfl (hW.of 4 (by decide)))) ((HC.out _ hH).2.1) ⟨_, rfl, hS.step 5 _ (.inr rfl), hH⟩
            · exact opw_bin32 _ _ _ _ _ _ _ (ta &&& tb) rfl ((hin 2 145 rfl).trans (hS 2 _ rfl (hW.of 2 (by decide)))) ((hin 5 148 rfl).trans (hS 5 _ rfl (hW.of 5 (by decide)))) (.inr (.inr (.inl ⟨rfl, rfl⟩))) ⟨_, rfl, hS.step 6 _ (.inr rfl), hH⟩
            · exact opw_move _ _ (.inl rfl) ((hout 11 (by kernel_rfl)).trans (by kernel_rfl)) ⟨_, rfl, hS.step 7 _ (.inr rfl), hH⟩
            · exact opw_indexSl _ _ _ _ rfl Tryd.underlying65 info1 (ga) (oa) (8) (c2) (0) ((hin 7 150 rfl).trans (hS 7 _ rfl (hW.of 7 (by decide)))) _ rfl (by decide) ⟨_, rfl, hS.step 8 _ (.inr rfl), hH⟩
            · exact opw_load1 _ _ rfl _ Tryd.underlying70 rfl _ _ ((hin 8 151 rfl).trans (hS 8 _ rfl (hW.of 8 (by decide)))) ((HC.out _ hH).1) ⟨_, rfl, hS.step 9 _ (.inr rfl), hH⟩
            · exact opw_move _ _ (.inl rfl) ((hout 11 (by kernel_rfl)).trans (by kernel_rfl)) ⟨_, rfl, hS.step 10 _ (.inr rfl), hH⟩
            · exact opw_indexSl _ _ _ _ rfl Tryd.underlying65 info1 (ga) (oa) (8) (c2) (2) ((hin 10 153 rfl).trans (hS 10 _ rfl (hW.of 10 (by decide)))) _ rfl (by decide) ⟨_, rfl, hS.step 11 _ (.inr rfl), hH⟩
            · exact opw_load1 _ _ rfl _ Tryd.underlying70 rfl _ _ ((hin 11 154 rfl).trans (hS 11 _ rfl (hW.of 11 (by decide)))) ((HC.out _ hH).2.2.1) ⟨_, rfl, hS.step 12 _ (.inr rfl), hH⟩
            · exact opw_bin32 _ _ _ _ _ _ _ (ta &&& tc) rfl ((hin 9 152 rfl).trans (hS 9 _ rfl (hW.of 9 (by decide)))) ((hin 12 155 rfl).trans (hS 12 _ rfl (hW.of 12 (by decide)))) (.inr (.inr (.inl ⟨rfl, rfl⟩))) ⟨_, rfl, hS.step 13 _ (.inr rfl), hH⟩
            · exact opw_bin32 _ _ _ _ _ _ _ ((ta &&& tb) ||| (ta &&& tc)) rfl ((hin 6 149 rfl).trans (hS 6 _ rfl (hW.of 6 (by decide)))) ((hin 13 156 rfl).trans (hS 13 _ rfl (hW.of 13 (by decide)))) (.inr (.inr (.inr ⟨rfl, rfl⟩))) ⟨_, rfl, hS.step 14 _ (.inr rfl), hH⟩
            · exact opw_move _ _ (.inl rfl) ((hout 11 (by kernel_rfl)).trans (by kernel_rfl)) ⟨_, rfl, hS.step 15 _ (.inr rfl), hH⟩
            · exact opw_indexSl _ _ _ _ rfl Tryd.underlying65 info1 (ga) (oa) (8) (c2) (1) ((hin 15 158 rfl).trans (hS 15 _ rfl (hW.of 15 (by decide)))) _ rfl (by decide) ⟨_, rfl, hS.step 16 _ (.inr rfl), hH⟩
            · exact opw_load1 _ _ rfl _ Tryd.underlying70 rfl _ _ ((hin 16 159 rfl).trans (hS 16 _ rfl (hW.of 16 (by decide)))) ((HC.out _ hH).2.1) ⟨_, rfl, hS.step 17 _ (.inr rfl), hH⟩
            · exact opw_move _ _ (.inl rfl) ((hout 11 (by kernel_rfl)).trans (by kernel_rfl)) ⟨_, rfl, hS.step 18 _ (.inr rfl), hH⟩
            · exact opw_indexSl _ _ _ _ rfl Tryd.underlying65 info1 (ga) (oa) (8) (c2) (2) ((hin 18 161 rfl).trans (hS 18 _ rfl (hW.of 18 (by decide)))) _ rfl (by decide) ⟨_, rfl, hS.step 19 _ (.inr rfl), hH⟩
            · exact opw_load1 _ _ rfl _ Tryd.underlying70 rfl _ _ ((hin 19 162 rfl).trans (hS 19 _ rfl (hW.of 19 (by decide)))) ((HC.out _ hH).2.2.1) ⟨_, rfl, hS.step 20 _ (.inr rfl), hH⟩
            · exact opw_bin32 _ _ _ _ _ _ _ (tb &&& tc) rfl ((hin 17 160 rfl).trans (hS 17 _ rfl (hW.of 17 (by decide)))) ((hin 20 163 rfl).trans (hS 20 _ rfl (hW.of 20 (by decide)))) (.inr (.inr (.inl ⟨rfl, rfl⟩))) ⟨_, rfl, hS.step 21 _ (.inr rfl), hH⟩
            · exact opw_bin32 _ _ _ _ _ _ _ (((ta &&& tb) ||| (ta &&& tc)) ||| (tb &&& tc)) rfl ((hin 14 157 rfl).trans (hS 14 _ rfl (hW.of 14 (by decide)))) ((hin 21 164 rfl).trans (hS 21 _ rfl (hW.of 21 (by decide)))) (.inr (.inr (.inr ⟨rfl, rfl⟩))) ⟨_, rfl, hS.step 22 _ (.inr rfl), hH⟩
            · exact opw_move _ _ (.inr rfl) ((hin 22 165 rfl).trans (hS 22 _ rfl (hW.of 22 (by decide)))) ⟨_, rfl, hS.step 23 _ (.inr rfl), hH⟩
          intro L15 u15 w15 hL ⟨hS, hH⟩
          have E := hS 23 _ rfl (hL 23 (by decide))
          simp only [frame_cons, frame_nil, E]
          obtain ⟨MA, hMA⟩ : ∃ z, z = (ta &&& tb) ||| (ta &&& tc) ||| (tb &&& tc) := ⟨_, rfl⟩
          rw [← hMA]
          have HMA := Lib.hid hMA
          have H15 := Lib.hid hH
          clear hL hS hH E hMA H14
          go_wp2_with (fail)
          refine wp_region_inv2 (fun L u w' => Slots (fun kk => ([some (.slice (some ⟨ga, oa, none⟩) 8 c2), some (.pointer (some ⟨ga, oa + 7, none⟩)), some (.int .u32 ((th).toNat : Int)), some (.slice (some ⟨ga, oa, none⟩) 8 c2), some (.pointer (some ⟨ga, oa + 4, none⟩)), some (.int .u32 ((te).toNat : Int)), some (.int .u32 (((rr te 6)).toNat : Int)), some (.slice (some ⟨ga, oa, none⟩) 8 c2), some (.pointer (some ⟨ga, oa + 4, none⟩)), some (.int .u32 ((te).toNat : Int)), some (.int .u32 (((rr te 11)).toNat : Int)), some (.int .u32 ((((rr te 6) ^^^ (rr te 11))).toNat : Int)), some (.slice (some ⟨ga, oa, none⟩) 8 c2), some (.pointer (some ⟨ga, oa + 4, none⟩)), some (.int .u32 ((te).toNat : Int)), some (.int .u32 (((rr te 25)).toNat : Int)), some (.int .u32 (((((rr te 6) ^^^ (rr te 11)) ^^^ (rr te 25))).toNat : Int)), some (.int .u32 (((th + (((rr te 6) ^^^ (rr te 11)) ^^^ (rr te 25)))).toNat : Int)), some (.int .u32 ((CH).toNat : Int)), some (.int .u32 ((((th + (((rr te 6) ^^^ (rr te 11)) ^^^ (rr te 25))) + CH)).toNat : Int)), some (.slice (some ⟨g1, o1, none⟩) 64 c1), some (.int .i64 ((i : Nat) : Int)), some (.pointer (some ⟨g1, o1 + i, none⟩)), some (.int .u32 ((ki).toNat : Int)), some (.int .u32 (((((th + (((rr te 6) ^^^ (rr te 11)) ^^^ (rr te 25))) + CH) + ki)).toNat : Int)), some (.slice (some ⟨gw, 0, none⟩) 64 c), some (.int .i64 ((i : Nat) : Int)), some (.pointer (some ⟨gw, 0 + i, none⟩)), some (.int .u32 ((wi).toNat : Int)), some (.int .u32 ((((((th + (((rr te 6) ^^^ (rr te 11)) ^^^ (rr te 25))) + CH) + ki) + wi)).toNat : Int)), some (.int .u32 ((((((th + (((rr te 6) ^^^ (rr te 11)) ^^^ (rr te 25))) + CH) + ki) + wi)).toNat : Int))] : List (Option Value)).getD kk none) L u ∧ Has st (sep (seenP 1 (.slice (some ⟨ga, oa, none⟩) 8 c2) 8 (wcells [ta, tb, tc, td, te, tf, tg, th])) (sep (row 70 1 (.slice (some ⟨gw, 0, none⟩) 64 c) 64 (wcells (words l 64))) R)) w') (by kernel_rfl) (by decide +kernel) (by decide +kernel) (by kernel_rfl) (fun u => ⟨Slots.start _ u, H15.out.drew⟩) ?_ ?_
          · refine ⟨?_, ?_, ?_, ?_, ?_, ?_, ?_, ?_, ?_, ?_, ?_, ?_, ?_, ?_, ?_, ?_, ?_, ?_, ?_, ?_, ?_, ?_, ?_, ?_, ?_, ?_, ?_, ?_, ?_, ?_, ?_, trivial⟩
            all_goals (refine RegStep2.plain rfl ?_; rintro L u w1 b hL hW hD hU ⟨hS, hH⟩ hin hout)
            · exact opw_move _ _ (.inl rfl) ((hout 11 (by kernel_rfl)).trans (by kernel_rfl)) ⟨_, rfl, hS.step 0 _ (.inr rfl), hH⟩
            · exact opw_indexSl _ _ _ _ rfl Tryd.underlying65 info1 (ga) (oa) (8) (c2) (7) ((hin 0 166 rfl).trans (hS 0 _ rfl (hW.of 0 (by decide)))) _ rfl (by decide) ⟨_, rfl, hS.step 1 _ (.inr rfl), hH⟩
            · exact opw_load1 _ _ rfl _ Tryd.underlying70 rfl _ _ ((hin 1 167 rfl).trans (hS 1 _ rfl (hW.of 1 (by decide)))) ((HC.out _ hH).2.2.2.2.2.2.2.1) ⟨_, rfl, hS.step 2 _ (.inr rfl), hH⟩
            · exact opw_move _ _ (.inl rfl) ((hout 11 (by kernel_rfl)).trans (by kernel_rfl)) ⟨_, rfl, hS.step 3 _ (.inr rfl), hH⟩
            · exact opw_indexSl _ _ _ _ rfl Tryd.underlying65 info1 (ga) (oa) (8) (c2) (4) ((hin 3 169 rfl).trans (hS 3 _ rfl (hW.of 3 (by decide)))) _ rfl (by decide) ⟨_, rfl, hS.step 4 _ (.inr rfl), hH⟩
            · exact opw_load1 _ _ rfl _ Tryd.underlying70 rfl _ _ ((hin 4 170 rfl).trans (hS 4 _ rfl (hW.of 4 (by decide)))) ((HC.out _ hH).2.2.2.2.1) ⟨_, rfl, hS.step 5 _ (.inr rfl), hH⟩
            · exact opw_call_ret _ _ _ [(.int .u32 ((te).toNat : Int)), (.int .i64 ((6 : Nat) : Int))] rfl (by kernel_rfl) (list2 ((hin 5 171 rfl).trans (hS 5 _ rfl (hW.of 5 (by decide)))) (list2 rfl rfl)) (right_any st _ te 6 (by decide) w1 hH) (fun e w2 he => by obtain ⟨rfl, h2⟩ := he; exact ⟨_, rfl, _, rfl, hS.step 6 _ (.inr rfl), h2⟩)
            · exact opw_move _ _ (.inl rfl) ((hout 11 (by kernel_rfl)).trans (by kernel_rfl)) ⟨_, rfl, hS.step 7 _ (.inr rfl), hH⟩
            · exact opw_indexSl _ _ _ _ rfl Tryd.underlying65 info1 (ga) (oa) (8) (c2) (4) ((hin 7 173 rfl).trans (hS 7 _ rfl (hW.of 7 (by decide)))) _ rfl (by decide) ⟨_, rfl, hS.step 8 _ (.inr rfl), hH⟩
            · exact opw_load1 _ _ rfl _ Tryd.underlying70 rfl _ _ ((hin 8 174 rfl).trans (hS 8 _ rfl (hW.of 8 (by decide)))) ((HC.out _ hH).2.2.2.2.1) ⟨_, rfl, hS.step 9 _ (.inr rfl), hH⟩
            · exact opw_call_ret _ _ _ [(.int .u32 ((te).toNat : Int)), (.int .i64 ((11 : Nat) : Int))] rfl (by kernel_rfl) (list2 ((hin 9 175 rfl).trans (hS 9 _ rfl (hW.of 9 (by decide)))) (list2 rfl rfl)) (right_any st _ te 11 (by decide) w1 hH) (fun e w2 he => by obtain ⟨rfl, h2⟩ := he; exact ⟨_, rfl, _, rfl, hS.step 10 _ (.inr rfl), h2⟩)
            · exact opw_bin32 _ _ _ _ _ _ _ ((rr te 6) ^^^ (rr te 11)) rfl ((hin 6 172 rfl).trans (hS 6 _ rfl (hW.of 6 (by decide)))) ((hin 10 176 rfl).trans (hS 10 _ rfl (hW.of 10 (by decide)))) (.inr (.inl ⟨rfl, rfl⟩)) ⟨_, rfl, hS.step 11 _ (.inr rfl), hH⟩
            · exact opw_move _ _ (.inl rfl) ((hout 11 (by kernel_rfl)).trans (by kernel_rfl)) ⟨_, rfl, hS.step 12 _ (.inr rfl), hH⟩
            · exact opw_indexSl _ _ _ _ rfl Tryd.underlying65 info1 (ga) (oa) (8) (c2) (4) ((hin 12 178 rfl).trans (hS 12 _ rfl (hW.of 12 (by decide)))) _ rfl (by decide) ⟨_, rfl, hS.step 13 _ (.inr rfl), hH⟩
            · exact opw_load1 _ _ rfl _ Tryd.underlying70 rfl _ _ ((hin 13 179 rfl).trans (hS 13 _ rfl (hW.of 13 (by decide)))) ((HC.out _ hH).2.2.2.2.1) ⟨_, rfl, hS.step 14 _ (.inr rfl), hH⟩
            · exact opw_call_ret _ _ _ [(.int .u32 ((te).toNat : Int)), (.int .i64 ((25 : Nat) : Int))] rfl (by kernel_rfl) (list2 ((hin 14 180 rfl).trans (hS 14 _ rfl (hW.of 14 (by decide)))) (list2 rfl rfl)) (right_any st _ te 25 (by decide) w1 hH) (fun e w2 he => by obtain ⟨rfl, h2⟩ := he; exact ⟨_, rfl, _, rfl, hS.step 15 _ (.inr rfl), h2⟩)
            · exact opw_bin32 _ _ _ _ _ _ _ (((rr te 6) ^^^ (rr te 11)) ^^^ (rr te 25)) rfl ((hin 11 177 rfl).trans (hS 11 _ rfl (hW.of 11 (by decide)))) ((hin 15 181 rfl).trans (hS 15 _ rfl (hW.of 15 (by decide)))) (.inr (.inl ⟨rfl, rfl⟩)) ⟨_, rfl, hS.step 16 _ (.inr rfl), hH⟩
            · exact opw_bin32 _ _ _ _ _ _ _ (th + (((rr te 6) ^^^ (rr te 11)) ^^^ (rr te 25))) rfl ((hin 2 168 rfl).trans (hS 2 _ rfl (hW.of 2 (by decide)))) ((hin 16 182 rfl).trans (hS 16 _ rfl (hW.of 16 (by decide)))) (.inl ⟨rfl, rfl⟩) ⟨_, rfl, hS.step 17 _ (.inr rfl), hH⟩
            · exact opw_move _ _ (.inl rfl) ((hout 13 (by kernel_rfl)).trans (by kernel_rfl)) ⟨_, rfl, hS.step 18 _ (.inr rfl), hH⟩
            · exact opw_bin32 _ _ _ _ _ _ _ ((th + (((rr te 6) ^^^ (rr te 11)) ^^^ (rr te 25))) + CH) rfl ((hin 17 183 rfl).trans (hS 17 _ rfl (hW.of 17 (by decide)))) ((hin 18 184 rfl).trans (hS 18 _ rfl (hW.of 18 (by decide)))) (.inl ⟨rfl, rfl⟩) ⟨_, rfl, hS.step 19 _ (.inr rfl), hH⟩
            · exact opw_move _ _ (.inl rfl) ((hout 1 (by kernel_rfl)).trans (by kernel_rfl)) ⟨_, rfl, hS.step 20 _ (.inr rfl), hH⟩
            · exact opw_move _ _ (.inl rfl) ((hout 12 (by kernel_rfl)).trans (by kernel_rfl)) ⟨_, rfl, hS.step 21 _ (.inr rfl), hH⟩
            · exact opw_indexSl _ _ _ _ rfl Tryd.underlying65 info1 (g1) (o1) (64) (c1) (i) ((hin 20 186 rfl).trans (hS 20 _ rfl (hW.of 20 (by decide)))) _ ((hin 21 187 rfl).trans (hS 21 _ rfl (hW.of 21 (by decide)))) hlt ⟨_, rfl, hS.step 22 _ (.inr rfl), hH⟩
            · exact opw_load1 _ _ rfl _ Tryd.underlying70 rfl _ _ ((hin 22 188 rfl).trans (hS 22 _ rfl (hW.of 22 (by decide)))) ((HC.out _ hH).2.2.2.2.2.2.2.2.1) ⟨_, rfl, hS.step 23 _ (.inr rfl), hH⟩
            · exact opw_bin32 _ _ _ _ _ _ _ (((th + (((rr te 6) ^^^ (rr te 11)) ^^^ (rr te 25))) + CH) + ki) rfl ((hin 19 185 rfl).trans (hS 19 _ rfl (hW.of 19 (by decide)))) ((hin 23 189 rfl).trans (hS 23 _ rfl (hW.of 23 (by decide)))) (.inl ⟨rfl, rfl⟩) ⟨_, rfl, hS.step 24 _ (.inr rfl), hH⟩
            · exact opw_move _ _ (.inl rfl) ((hout 7 (by kernel_rfl)).trans (by kernel_rfl)) ⟨_, rfl, hS.step 25 _ (.inr rfl), hH⟩
            · exact opw_move _ _ (.inl rfl) ((hout 12 (by kernel_rfl)).trans (by kernel_rfl)) ⟨_, rfl, hS.step 26 _ (.inr rfl), hH⟩
            · exact opw_indexSl _ _ _ _ rfl Tryd.underlying65 info1 (gw) (0) (64) (c) (i) ((hin 25 191 rfl).trans (hS 25 _ rfl (hW.of 25 (by decide)))) _ ((hin 26 192 rfl).trans (hS 26 _ rfl (hW.of 26 (by decide)))) hlt ⟨_, rfl, hS.step 27 _ (.inr rfl), hH⟩
            · exact opw_load1 _ _ rfl _ Tryd.underlying70 rfl _ _ ((hin 27 193 rfl).trans (hS 27 _ rfl (hW.of 27 (by decide)))) ((HC.out _ hH).2.2.2.2.2.2.2.2.2) ⟨_, rfl, hS.step 28 _ (.inr rfl), hH⟩
            · exact opw_bin32 _ _ _ _ _ _ _ ((((th + (((rr te 6) ^^^ (rr te 11)) ^^^ (rr te 25))) + CH) + ki) + wi) rfl ((hin 24 190 rfl).trans (hS 24 _ rfl (hW.of 24 (by decide)))) ((hin 28 194 rfl).trans (hS 28 _ rfl (hW.of 28 (by decide)))) (.inl ⟨rfl, rfl⟩) ⟨_, rfl, hS.step 29 _ (.inr rfl), hH⟩
            · exact opw_move _ _ (.inr rfl) ((hin 29 195 rfl).trans (hS 29 _ rfl (hW.of 29 (by decide)))) ⟨_, rfl, hS.step 30 _ (.inr rfl), hH⟩
          intro L16 u16 w16 hL ⟨hS, hH⟩
          have E := hS 30 _ rfl (hL 30 (by decide))
          simp only [frame_cons, frame_nil, E]
          obtain ⟨X, hX⟩ : ∃ z, z = th + (rr te 6 ^^^ rr te 11 ^^^ rr te 25) + CH + ki + wi := ⟨_, rfl⟩
          rw [← hX]
          have HX := Lib.hid hX
          have H16 := Lib.hid hH
          clear hL hS hH E hX H15
          go_wp2_with (fail)
          refine wp_region_inv2 (fun L u w' => Slots (fun kk => ([some (.slice (some ⟨ga, oa, none⟩) 8 c2), some (.pointer (some ⟨ga, oa + 0, none⟩)), some (.int .u32 ((ta).toNat : Int)), some (.int .u32 (((rr ta 2)).toNat : Int)), some (.slice (some ⟨ga, oa, none⟩) 8 c2), some (.pointer (some ⟨ga, oa + 0, none⟩)), some (.int .u32 ((ta).toNat : Int)), some (.int .u32 (((rr ta 13)).toNat : Int)), some (.int .u32 ((((rr ta 2) ^^^ (rr ta 13))).toNat : Int)), some (.slice (some ⟨ga, oa, none⟩) 8 c2), some (.pointer (some ⟨ga, oa + 0, none⟩)), some (.int .u32 ((ta).toNat : Int)), some (.int .u32 (((rr ta 22)).toNat : Int)), some (.int .u32 (((((rr ta 2) ^^^ (rr ta 13)) ^^^ (rr ta 22))).toNat : Int)), some (.int .u32 ((MA).toNat : Int)), some (.int .u32 ((((((rr ta 2) ^^^ (rr ta 13)) ^^^ (rr ta 22)) + MA)).toNat : Int)), some (.int .u32 ((((((rr ta 2) ^^^ (rr ta 13)) ^^^ (rr ta 22)) + MA)).toNat : Int))] : List (Option Value)).getD kk none) L u ∧ Has st (sep (seenP 1 (.slice (some ⟨ga, oa, none⟩) 8 c2) 8 (wcells [ta, tb, tc, td, te, tf, tg, th])) (sep (row 70 1 (.slice (some ⟨gw, 0, none⟩) 64 c) 64 (wcells (words l 64))) R)) w') (by kernel_rfl) (by decide +kernel) (by decide +kernel) (by kernel_rfl) (fun u => ⟨Slots.start _ u, H16.out.drew⟩) ?_ ?_
          · refine ⟨?_, ?_, ?_, ?_, ?_, ?_, ?_, ?_, ?_, ?_, ?_, ?_, ?_, ?_, ?_, ?_, ?_, trivial⟩
            all_goals (refine RegStep2.plain rfl ?_; rintro L u w1 b hL hW hD hU ⟨hS, hH⟩ hin hout)
            · exact opw_move _ _ (.inl rfl) ((hout 11 (by kernel_rfl)).trans (by kernel_rfl)) ⟨_, rfl, hS.step 0 _ (.inr rfl), hH⟩
            · exact opw_indexSl _ _ _ _ rfl Tryd.underlying65 info1 (ga) (oa) (8) (c2) (0) ((hin 0 196 rfl).trans (hS 0 _ rfl (hW.of 0 (by decide)))) _ rfl (by decide) ⟨_, rfl, hS.step 1 _ (.inr rfl), hH⟩
            · exact opw_load1 _ _ rfl _ Tryd.underlying70 rfl _ _ ((hin 1 197 rfl).trans (hS 1 _ rfl (hW.of 1 (by decide)))) ((HC.out _ hH).1) ⟨_, rfl, hS.step 2 _ (.inr rfl), hH⟩
            · exact opw_call_ret _ _ _ [(.int .u32 ((ta).toNat : Int)), (.int .i64 ((2 : Nat) : Int))] rfl (by kernel_rfl) (list2 ((hin 2 198 rfl).trans (hS 2 _ rfl (hW.of 2 (by decide)))) (list2 rfl rfl)) (right_any st _ ta 2 (by decide) w1 hH) (fun e w2 he => by obtain ⟨rfl, h2⟩ := he; exact ⟨_, rfl, _, rfl, hS.step 3 _ (.inr rfl), h2⟩)
            · exact opw_move _ _ (.inl rfl) ((hout 11 (by kernel_rfl)).trans (by kernel_rfl)) ⟨_, rfl, hS.step 4 _ (.inr rfl), hH⟩
            · exact opw_indexSl _ _ _ _ rfl Tryd.underlying65 info1 (ga) (oa) (8) (c2) (0) ((hin 4 200 rfl).trans (hS 4 _ rfl (hW.of 4 (by decide)))) _ rfl (by decide) ⟨_, rfl, hS.step 5 _ (.inr rfl), hH⟩
            · exact opw_load1 _ _ rfl _ Tryd.underlying70 rfl _ _ ((hin 5 201 rfl).trans (hS 5 _ rfl (hW.of 5 (by decide)))) ((HC.out _ hH).1) ⟨_, rfl, hS.step 6 _ (.inr rfl), hH⟩
            · exact opw_call_ret _ _ _ [(.int .u32 ((ta).toNat : Int)), (.int .i64 ((13 : Nat) : Int))] rfl (by kernel_rfl) (list2 ((hin 6 202 rfl).trans (hS 6 _ rfl (hW.of 6 (by decide)))) (list2 rfl rfl)) (right_any st _ ta 13 (by decide) w1 hH) (fun e w2 he => by obtain ⟨rfl, h2⟩ := he; exact ⟨_, rfl, _, rfl, hS.step 7 _ (.inr rfl), h2⟩)
            · exact opw_bin32 _ _ _ _ _ _ _ ((rr ta 2) ^^^ (rr ta 13)) rfl ((hin 3 199 rfl).trans (hS 3 _ rfl (hW.of 3 (by decide)))) ((hin 7 203 rfl).trans (hS 7 _ rfl (hW.of 7 (by decide)))) (.inr (.inl ⟨rfl, rfl⟩)) ⟨_, rfl, hS.step 8 _ (.inr rfl), hH⟩
            · exact opw_move _ _ (.inl rfl) ((hout 11 (by kernel_rfl)).trans (by kernel_rfl)) ⟨_, rfl, hS.step 9 _ (.inr rfl), hH⟩
            · exact opw_indexSl _ _ _ _ rfl Tryd.underlying65 info1 (ga) (oa) (8) (c2) (0) ((hin 9 205 rfl).trans (hS 9 _ rfl (hW.of 9 (by decide)))) _ rfl (by decide) ⟨_, rfl, hS.step 10 _ (.inr rfl), hH⟩
            · exact opw_load1 _ _ rfl _ Tryd.underlying70 rfl _ _ ((hin 10 206 rfl).trans (hS 10 _ rfl (hW.of 10 (by decide)))) ((HC.out _ hH).1) ⟨_, rfl, hS.step 11 _ (.inr rfl), hH⟩
            · exact opw_call_ret _ _ _ [(.int .u32 ((ta).toNat : Int)), (.int .i64 ((22 : Nat) : Int))] rfl (by kernel_rfl) (list2 ((hin 11 207 rfl).trans (hS 11 _ rfl (hW.of 11 (by decide)))) (list2 rfl rfl)) (right_any st _ ta 22 (by decide) w1 hH) (fun e w2 he => by obtain ⟨rfl, h2⟩ := he; exact ⟨_, rfl, _, rfl, hS.step 12 _ (.inr rfl), h2⟩)
            · exact opw_bin32 _ _ _ _ _ _ _ (((rr ta 2) ^^^ (rr ta 13)) ^^^ (rr ta 22)) rfl ((hin 8 204 rfl).trans (hS 8 _ rfl (hW.of 8 (by decide)))) ((hin 12 208 rfl).trans (hS 12 _ rfl (hW.of 12 (by decide)))) (.inr (.inl ⟨rfl, rfl⟩)) ⟨_, rfl, hS.step 13 _ (.inr rfl), hH⟩
            · exact opw_move _ _ (.inl rfl) ((hout 14 (by kernel_rfl)).trans (by kernel_rfl)) ⟨_, rfl, hS.step 14 _ (.inr rfl), hH⟩
            · exact opw_bin32 _ _ _ _ _ _ _ ((((rr ta 2) ^^^ (rr ta 13)) ^^^ (rr ta 22)) + MA) rfl ((hin 13 209 rfl).trans (hS 13 _ rfl (hW.of 13 (by decide)))) ((hin 14 210 rfl).trans (hS 14 _ rfl (hW.of 14 (by decide)))) (.inl ⟨rfl, rfl⟩) ⟨_, rfl, hS.step 15 _ (.inr rfl), hH⟩
            · exact opw_move _ _ (.inr rfl) ((hin 15 211 rfl).trans (hS 15 _ rfl (hW.of 15 (by decide)))) ⟨_, rfl, hS.step 16 _ (.inr rfl), hH⟩
          intro L17 u17 w17 hL ⟨hS, hH⟩
          have E := hS 16 _ rfl (hL 16 (by decide))
          simp only [frame_cons, frame_nil, E]
          obtain ⟨Y, hY⟩ : ∃ z, z = (rr ta 2 ^^^ rr ta 13 ^^^ rr ta 22) + MA := ⟨_, rfl⟩
          rw [← hY]
          have HY := Lib.hid hY
          have H17 := Lib.hid hH
          clear hL hS hH E hY H16
          go_wp2_with (fail)
          refine wp_region_inv2 (fun L u w' => Slots (fun kk => ([some (.int .u32 ((X).toNat : Int)), some (.int .u32 ((Y).toNat : Int)), some (.int .u32 (((X + Y)).toNat : Int)), some (.slice (some ⟨ga, oa, none⟩) 8 c2), some (.pointer (some ⟨ga, oa + 0, none⟩)), some (.int .u32 ((ta).toNat : Int)), some (.slice (some ⟨ga, oa, none⟩) 8 c2), some (.pointer (some ⟨ga, oa + 1, none⟩)), some (.int .u32 ((tb).toNat : Int)), some (.slice (some ⟨ga, oa, none⟩) 8 c2), some (.pointer (some ⟨ga, oa + 2, none⟩)), some (.int .u32 ((tc).toNat : Int)), some (.slice (some ⟨ga, oa, none⟩) 8 c2), some (.pointer (some ⟨ga, oa + 3, none⟩)), some (.int .u32 ((td).toNat : Int)), some (.int .u32 ((X).toNat : Int)), some (.int .u32 (((td + X)).toNat : Int)), some (.slice (some ⟨ga, oa, none⟩) 8 c2), some (.pointer (some ⟨ga, oa + 4, none⟩)), some (.int .u32 ((te).toNat : Int)), some (.slice (some ⟨ga, oa, none⟩) 8 c2), some (.pointer (some ⟨ga, oa + 5, none⟩)), some (.int .u32 ((tf).toNat : Int)), some (.slice (some ⟨ga, oa, none⟩) 8 c2), some (.pointer (some ⟨ga, oa + 6, none⟩)), some (.int .u32 ((tg).toNat : Int)), none, none] : List (Option Value)).getD kk none) L u ∧ LitI st 70 8 (wcells [X + Y, ta, tb, tc, td + X, te, tf, tg]).toArray (sep (seenP 1 (.slice (some ⟨ga, oa, none⟩) 8 c2) 8 (wcells [ta, tb, tc, td, te, tf, tg, th])) (sep (row 70 1 (.slice (some ⟨gw, 0, none⟩) 64 c) 64 (wcells (words l 64))) R)) 26 27 L u w') (by kernel_rfl) (by decide +kernel) (by decide +kernel) (by kernel_rfl) (fun u => ⟨Slots.start _ u, LitI.start H17.out.drew u⟩) ?_ ?_
          · refine ⟨?_, ?_, ?_, ?_, ?_, ?_, ?_, ?_, ?_, ?_, ?_, ?_, ?_, ?_, ?_, ?_, ?_, ?_, ?_, ?_, ?_, ?_, ?_, ?_, ?_, ?_, ?_, ?_, trivial⟩
            all_goals (refine RegStep2.plain rfl ?_; rintro L u w1 b hL hW hD hU ⟨hS, hH⟩ hin hout)
            · exact opw_move _ _ (.inl rfl) ((hout 15 (by kernel_rfl)).trans (by kernel_rfl)) ⟨_, rfl, hS.step 0 _ (.inr rfl), hH.pure 0 _ (by decide)⟩
            · exact opw_move _ _ (.inl rfl) ((hout 16 (by kernel_rfl)).trans (by kernel_rfl)) ⟨_, rfl, hS.step 1 _ (.inr rfl), hH.pure 1 _ (by decide)⟩
            · exact opw_bin32 _ _ _ _ _ _ _ (X + Y) rfl ((hin 0 212 rfl).trans (hS 0 _ rfl (hW.of 0 (by decide)))) ((hin 1 213 rfl).trans (hS 1 _ rfl (hW.of 1 (by decide)))) (.inl ⟨rfl, rfl⟩) ⟨_, rfl, hS.step 2 _ (.inr rfl), hH.pure 2 _ (by decide)⟩
            · exact opw_move _ _ (.inl rfl) ((hin 27 11 rfl).trans ((hU 27 _ _ rfl rfl (hD.nots 28 27 3 hL (by decide +kernel))).trans (by kernel_rfl))) ⟨_, rfl, hS.step 3 _ (.inr rfl), hH.pure 3 _ (by decide)⟩
            · exact opw_indexSl _ _ _ _ rfl Tryd.underlying65 info1 (ga) (oa) (8) (c2) (0) ((hin 3 215 rfl).trans (hS 3 _ rfl (hW.of 3 (by decide)))) _ rfl (by decide) ⟨_, rfl, hS.step 4 _ (.inr rfl), hH.pure 4 _ (by decide)⟩
            · exact opw_load1 _ _ rfl _ Tryd.underlying70 rfl _ _ ((hin 4 216 rfl).trans (hS 4 _ rfl (hW.of 4 (by decide)))) ((HC.out _ (hH.at hD 28 5 hL (by decide +kernel) (by decide +kernel))).1) ⟨_, rfl, hS.step 5 _ (.inr rfl), hH.pure 5 _ (by decide)⟩
            · exact opw_move _ _ (.inl rfl) ((hin 27 11 rfl).trans ((hU 27 _ _ rfl rfl (hD.nots 28 27 6 hL (by decide +kernel))).trans (by kernel_rfl))) ⟨_, rfl, hS.step 6 _ (.inr rfl), hH.pure 6 _ (by decide)⟩
            · exact opw_indexSl _ _ _ _ rfl Tryd.underlying65 info1 (ga) (oa) (8) (c2) (1) ((hin 6 218 rfl).trans (hS 6 _ rfl (hW.of 6 (by decide)))) _ rfl (by decide) ⟨_, rfl, hS.step 7 _ (.inr rfl), hH.pure 7 _ (by decide)⟩
            · exact opw_load1 _ _ rfl _ Tryd.underlying70 rfl _ _ ((hin 7 219 rfl).trans (hS 7 _ rfl (hW.of 7 (by decide)))) ((HC.out _ (hH.at hD 28 8 hL (by decide +kernel) (by decide +kernel))).2.1) ⟨_, rfl, hS.step 8 _ (.inr rfl), hH.pure 8 _ (by decide)⟩
            · exact opw_move _ _ (.inl rfl) ((hin 27 11 rfl).trans ((hU 27 _ _ rfl rfl (hD.nots 28 27 9 hL (by decide +kernel))).trans (by kernel_rfl))) ⟨_, rfl, hS.step 9 _ (.inr rfl), hH.pure 9 _ (by decide)⟩
            · exact opw_indexSl _ _ _ _ rfl Tryd.underlying65 info1 (ga) (oa) (8) (c2) (2) ((hin 9 221 rfl).trans (hS 9 _ rfl (hW.of 9 (by decide)))) _ rfl (by decide) ⟨_, rfl, hS.step 10 _ (.inr rfl), hH.pure 10 _ (by decide)⟩
            · exact opw_load1 _ _ rfl _ Tryd.underlying70 rfl _ _ ((hin 10 222 rfl).trans (hS 10 _ rfl (hW.of 10 (by decide)))) ((HC.out _ (hH.at hD 28 11 hL (by decide +kernel) (by decide +kernel))).2.2.1) ⟨_, rfl, hS.step 11 _ (.inr rfl), hH.pure 11 _ (by decide)⟩
            · exact opw_move _ _ (.inl rfl) ((hin 27 11 rfl).trans ((hU 27 _ _ rfl rfl (hD.nots 28 27 12 hL (by decide +kernel))).trans (by kernel_rfl))) ⟨_, rfl, hS.step 12 _ (.inr rfl), hH.pure 12 _ (by decide)⟩
            · exact opw_indexSl _ _ _ _ rfl Tryd.underlying65 info1 (ga) (oa) (8) (c2) (3) ((hin 12 224 rfl).trans (hS 12 _ rfl (hW.of 12 (by decide)))) _ rfl (by decide) ⟨_, rfl, hS.step 13 _ (.inr rfl), hH.pure 13 _ (by decide)⟩
            · exact opw_load1 _ _ rfl _ Tryd.underlying70 rfl _ _ ((hin 13 225 rfl).trans (hS 13 _ rfl (hW.of 13 (by decide)))) ((HC.out _ (hH.at hD 28 14 hL (by decide +kernel) (by decide +kernel))).2.2.2.1) ⟨_, rfl, hS.step 14 _ (.inr rfl), hH.pure 14 _ (by decide)⟩
            · exact opw_move _ _ (.inl rfl) ((hout 15 (by kernel_rfl)).trans (by kernel_rfl)) ⟨_, rfl, hS.step 15 _ (.inr rfl), hH.pure 15 _ (by decide)⟩
            · exact opw_bin32 _ _ _ _ _ _ _ (td + X) rfl ((hin 14 226 rfl).trans (hS 14 _ rfl (hW.of 14 (by decide)))) ((hin 15 227 rfl).trans (hS 15 _ rfl (hW.of 15 (by decide)))) (.inl ⟨rfl, rfl⟩) ⟨_, rfl, hS.step 16 _ (.inr rfl), hH.pure 16 _ (by decide)⟩
            · exact opw_move _ _ (.inl rfl) ((hin 27 11 rfl).trans ((hU 27 _ _ rfl rfl (hD.nots 28 27 17 hL (by decide +kernel))).trans (by kernel_rfl))) ⟨_, rfl, hS.step 17 _ (.inr rfl), hH.pure 17 _ (by decide)⟩
            · exact opw_indexSl _ _ _ _ rfl Tryd.underlying65 info1 (ga) (oa) (8) (c2) (4) ((hin 17 229 rfl).trans (hS 17 _ rfl (hW.of 17 (by decide)))) _ rfl (by decide) ⟨_, rfl, hS.step 18 _ (.inr rfl), hH.pure 18 _ (by decide)⟩
            · exact opw_load1 _ _ rfl _ Tryd.underlying70 rfl _ _ ((hin 18 230 rfl).trans (hS 18 _ rfl (hW.of 18 (by decide)))) ((HC.out _ (hH.at hD 28 19 hL (by decide +kernel) (by decide +kernel))).2.2.2.2.1) ⟨_, rfl, hS.step 19 _ (.inr rfl), hH.pure 19 _ (by decide)⟩
            · exact opw_move _ _ (.inl rfl) ((hin 27 11 rfl).trans ((hU 27 _ _ rfl rfl (hD.nots 28 27 20 hL (by decide +kernel))).trans (by kernel_rfl))) ⟨_, rfl, hS.step 20 _ (.inr rfl), hH.pure 20 _ (by decide)⟩
            · exact opw_indexSl _ _ _ _ rfl Tryd.underlying65 info1 (ga) (oa) (8) (c2) (5) ((hin 20 232 rfl).trans (hS 20 _ rfl (hW.of 20 (by decide)))) _ rfl (by decide) ⟨_, rfl, hS.step 21 _ (.inr rfl), hH.pure 21 _ (by decide)⟩
            · exact opw_load1 _ _ rfl _ Tryd.underlying70 rfl _ _ ((hin 21 233 rfl).trans (hS 21 _ rfl (hW.of 21 (by decide)))) ((HC.out _ (hH.at hD 28 22 hL (by decide +kernel) (by decide +kernel))).2.2.2.2.2.1) ⟨_, rfl, hS.step 22 _ (.inr rfl), hH.pure 22 _ (by decide)⟩
            · exact opw_move _ _ (.inl rfl) ((hin 27 11 rfl).trans ((hU 27 _ _ rfl rfl (hD.nots 28 27 23 hL (by decide +kernel))).trans (by kernel_rfl))) ⟨_, rfl, hS.step 23 _ (.inr rfl), hH.pure 23 _ (by decide)⟩
            · exact opw_indexSl _ _ _ _ rfl Tryd.underlying65 info1 (ga) (oa) (8) (c2) (6) ((hin 23 235 rfl).trans (hS 23 _ rfl (hW.of 23 (by decide)))) _ rfl (by decide) ⟨_, rfl, hS.step 24 _ (.inr rfl), hH.pure 24 _ (by decide)⟩
            · exact opw_load1 _ _ rfl _ Tryd.underlying70 rfl _ _ ((hin 24 236 rfl).trans (hS 24 _ rfl (hW.of 24 (by decide)))) ((HC.out _ (hH.at hD 28 25 hL (by decide +kernel) (by decide +kernel))).2.2.2.2.2.2.1) ⟨_, rfl, hS.step 25 _ (.inr rfl), hH.pure 25 _ (by decide)⟩
            · exact hH.lit hS rfl hL (hD.nots 1 27 26 hL (by decide +kernel)) (by decide) _ _ [(0, (.int .u32 (((X + Y)).toNat : Int))), (1, (.int .u32 ((ta).toNat : Int))), (2, (.int .u32 ((tb).toNat : Int))), (3, (.int .u32 ((tc).toNat : Int))), (4, (.int .u32 (((td + X)).toNat : Int))), (5, (.int .u32 ((te).toNat : Int))), (6, (.int .u32 ((tf).toNat : Int))), (7, (.int .u32 ((tg).toNat : Int)))] rfl (pair2 ((hin 2 214 rfl).trans (hS 2 _ rfl (hW.of 2 (by decide)))) (pair2 ((hin 5 217 rfl).trans (hS 5 _ rfl (hW.of 5 (by decide)))) (pair2 ((hin 8 220 rfl).trans (hS 8 _ rfl (hW.of 8 (by decide)))) (pair2 ((hin 11 223 rfl).trans (hS 11 _ rfl (hW.of 11 (by decide)))) (pair2 ((hin 16 228 rfl).trans (hS 16 _ rfl (hW.of 16 (by decide)))) (pair2 ((hin 19 231 rfl).trans (hS 19 _ rfl (hW.of 19 (by decide)))) (pair2 ((hin 22 234 rfl).trans (hS 22 _ rfl (hW.of 22 (by decide)))) (pair2 ((hin 25 237 rfl).trans (hS 25 _ rfl (hW.of 25 (by decide)))) rfl)))))))) (by kernel_rfl)
            · exact hH.asg hS rfl (hW.of 26 (by decide)) hL _ rfl (hin 26 238 rfl)
          intro L18 u18 w18 hL ⟨hS, hH⟩
          obtain ⟨q, e1, h3⟩ := hH.done (hL 27 (by decide))
          simp only [frame_cons, frame_nil, e1]
          have H18 := Lib.hid h3
          clear hL hS hH e1 h3 H17
          go_wp2
          go_roundw
          case rel =>
            have hn : turns l s (i + 1) = ⟨X + Y, ta, tb, tc, td + X, te, tf, tg⟩ := by
              rw [HX.out, HY.out, HCH.out, HMA.out, HW.out, HKI.out, ch_or, maj_or]
              show turn (turns l s i) _ _ = _
              rw [HT.out]
              rfl
            refine ⟨i + 1, some ⟨q, 0, none⟩, 8, by omega, by go_num, rfl, ?_⟩
            rw [hn]
            have h4 : Has st (sep (blk q (.cells (wcells [X + Y, ta, tb, tc, td + X, te, tf, tg]).toArray 70 (0, 0))) (sep (seenP 1 (.slice (some ⟨ga, oa, none⟩) 8 c2) 8 (wcells [ta, tb, tc, td, te, tf, tg, th])) (sep (row 70 1 (.slice (some ⟨gw, 0, none⟩) 64 c) 64 (wcells (words l 64))) R))) w18 := H18.out
            exact (h4.drop2.row_of_blk 1 8 8 (by decide) (by decide) rfl (xs := wcells [X + Y, ta, tb, tc, td + X, te, tf, tg]) rfl).row_seen
          case measure => simp [intOf]; omega
        · obtain rfl : i = 64 := by omega
          obtain ⟨T, hT⟩ : ∃ T, T = turns l s 64 := ⟨_, rfl⟩
          rw [← hT] at h2
          have HT := Lib.hid hT
          have H2 := Lib.hid h2
          clear hT h2
          go_wp2_with (fail)
          go_loopw [17, 18] (RefC st (sep (seenP 1 (.slice (some ⟨ga, oa, none⟩) 8 c2) 8 (wcells T.list)) (sep (row 70 1 (.slice (some ⟨gw, 0, none⟩) 64 c) 64 (wcells (words l 64))) R)) (plus s T).list) (fun _ v18 _ => 8 - (intOf v18).toNat)
          case atStart => exact ⟨0, _, _, Nat.zero_le _, rfl, rfl, H2.out.row_empty 70 1⟩
          case round =>
            obtain ⟨i, A, c9, hi, rfl, rfl, h2⟩ := hrel
            clear H2
            by_cases hlt : i < 8
            · obtain ⟨x, hx⟩ : ∃ x, x = s.list.getD i 0 := ⟨_, rfl⟩
              obtain ⟨y, hy⟩ : ∃ x, x = T.list.getD i 0 := ⟨_, rfl⟩
              have HC : Hid (∀ w', Has st (sep (row 70 1 (.slice A i c9) i (wcells ((plus s T).list.take i))) (sep (seenP 1 (.slice (some ⟨ga, oa, none⟩) 8 c2) 8 (wcells T.list)) (sep (row 70 1 (.slice (some ⟨gw, 0, none⟩) 64 c) 64 (wcells (words l 64))) R))) w' → w'.cell? ⟨g0, o0 + i, none⟩ = some (.int .u32 (x.toNat : Int)) ∧ w'.cell? ⟨ga, oa + i, none⟩ = some (.int .u32 (y.toNat : Int))) := Lib.hid fun w' h' => by
                have hr := sees_seen st 1 _ 8 _ _ w' h'.right
                have h0 := H0.out w' h'.right.right.right
                rw [hx, hy]
                exact ⟨h0.cells_at _ _ (wget (show i < s.list.length from hlt)), hr.cells_at _ _ (wget (show i < T.list.length from hlt))⟩
              have HW : Hid (wcells ((plus s T).list.take i) ++ [Value.int .u32 ((x + y).toNat : Int)] = wcells ((plus s T).list.take (i + 1))) := Lib.hid (by rw [hx, hy]; exact plus_take s T i hlt)
              have H2 := Lib.hid h2
              clear hx hy h2
              go_wp2_with (fail)
              refine wp_region_inv2 (fun L u w' => Slots (fun kk => ([some (.slice A i c9), some (.slice (some ⟨g0, o0, none⟩) 8 c0), some (.int .i64 ((i : Nat) : Int)), some (.pointer (some ⟨g0, o0 + i, none⟩)), some (.int .u32 ((x).toNat : Int)), some (.slice (some ⟨ga, oa, none⟩) 8 c2), some (.int .i64 ((i : Nat) : Int)), some (.pointer (some ⟨ga, oa + i, none⟩)), some (.int .u32 ((y).toNat : Int)), some (.int .u32 (((x + y)).toNat : Int)), none, none, none] : List (Option Value)).getD kk none) L u ∧ TailI st 70 (.slice A i c9) i (wcells ((plus s T).list.take i)) (.int .u32 (((x + y)).toNat : Int)) (sep (seenP 1 (.slice (some ⟨ga, oa, none⟩) 8 c2) 8 (wcells T.list)) (sep (row 70 1 (.slice (some ⟨gw, 0, none⟩) 64 c) 64 (wcells (words l 64))) R)) 10 11 12 L u w') (by kernel_rfl) (by decide +kernel) (by decide +kernel) (by kernel_rfl) (fun u => ⟨Slots.start _ u, TailI.start H2.out.drew u⟩) ?_ ?_
              · refine ⟨?_, ?_, ?_, ?_, ?_, ?_, ?_, ?_, ?_, ?_, ?_, ?_, ?_, trivial⟩
                all_goals (refine RegStep2.plain rfl ?_; rintro L u w1 b hL hW hD hU ⟨hS, hH⟩ hin hout)
                · exact opw_move _ _ (.inl rfl) ((hin 12 17 rfl).trans ((hU 12 _ _ rfl rfl (hD.nots 13 12 0 hL (by decide +kernel))).trans (by kernel_rfl))) ⟨_, rfl, hS.step 0 _ (.inr rfl), hH.pure 0 _ (by decide)⟩
                · exact opw_move _ _ (.inl rfl) ((hout 0 (by kernel_rfl)).trans (by kernel_rfl)) ⟨_, rfl, hS.step 1 _ (.inr rfl), hH.pure 1 _ (by decide)⟩
                · exact opw_move _ _ (.inl rfl) ((hout 18 (by kernel_rfl)).trans (by kernel_rfl)) ⟨_, rfl, hS.step 2 _ (.inr rfl), hH.pure 2 _ (by decide)⟩
                · exact opw_indexSl _ _ _ _ rfl Tryd.underlying65 info1 (g0) (o0) (8) (c0) (i) ((hin 1 245 rfl).trans (hS 1 _ rfl (hW.of 1 (by decide)))) _ ((hin 2 246 rfl).trans (hS 2 _ rfl (hW.of 2 (by decide)))) hlt ⟨_, rfl, hS.step 3 _ (.inr rfl), hH.pure 3 _ (by decide)⟩
                · exact opw_load1 _ _ rfl _ Tryd.underlying70 rfl _ _ ((hin 3 247 rfl).trans (hS 3 _ rfl (hW.of 3 (by decide)))) ((HC.out _ (hH.at hD 13 4 hL (by decide +kernel) (by decide +kernel) (by decide +kernel))).1) ⟨_, rfl, hS.step 4 _ (.inr rfl), hH.pure 4 _ (by decide)⟩
                · exact opw_move _ _ (.inl rfl) ((hout 11 (by kernel_rfl)).trans (by kernel_rfl)) ⟨_, rfl, hS.step 5 _ (.inr rfl), hH.pure 5 _ (by decide)⟩
                · exact opw_move _ _ (.inl rfl) ((hout 18 (by kernel_rfl)).trans (by kernel_rfl)) ⟨_, rfl, hS.step 6 _ (.inr rfl), hH.pure 6 _ (by decide)⟩
                · exact opw_indexSl _ _ _ _ rfl Tryd.underlying65 info1 (ga) (oa) (8) (c2) (i) ((hin 5 249 rfl).trans (hS 5 _ rfl (hW.of 5 (by decide)))) _ ((hin 6 250 rfl).trans (hS 6 _ rfl (hW.of 6 (by decide)))) hlt ⟨_, rfl, hS.step 7 _ (.inr rfl), hH.pure 7 _ (by decide)⟩
                · exact opw_load1 _ _ rfl _ Tryd.underlying70 rfl _ _ ((hin 7 251 rfl).trans (hS 7 _ rfl (hW.of 7 (by decide)))) ((HC.out _ (hH.at hD 13 8 hL (by decide +kernel) (by decide +kernel) (by decide +kernel))).2) ⟨_, rfl, hS.step 8 _ (.inr rfl), hH.pure 8 _ (by decide)⟩
                · exact opw_bin32 _ _ _ _ _ _ _ (x + y) rfl ((hin 4 248 rfl).trans (hS 4 _ rfl (hW.of 4 (by decide)))) ((hin 8 252 rfl).trans (hS 8 _ rfl (hW.of 8 (by decide)))) (.inl ⟨rfl, rfl⟩) ⟨_, rfl, hS.step 9 _ (.inr rfl), hH.pure 9 _ (by decide)⟩
                · exact hH.lit hS rfl hL (hD.nots 1 11 10 hL (by decide +kernel)) (hD.nots 2 12 10 hL (by decide +kernel)) (by decide) _ _ rfl ((hin 9 253 rfl).trans (hS 9 _ rfl (hW.of 9 (by decide)))) (by kernel_rfl)
                · exact hH.app hS rfl (hW.of 10 (by decide)) hL (hD.nots 1 12 11 hL (by decide +kernel)) (by decide) _ _ _ _ _ rfl Tryd.underlying65 infoW rfl ((hin 0 244 rfl).trans (hS 0 _ rfl (hW.of 0 (by decide)))) (hin 10 254 rfl) rfl (by unfold maxLen; omega) (by omega)
                · exact hH.asg hS rfl (hW.of 11 (by decide)) hL _ rfl (hin 11 255 rfl)
              intro L23 u23 w23 hL ⟨hS, hH⟩
              obtain ⟨A', c', e1, h3⟩ := hH.done (hL 12 (by decide))
              simp only [frame_cons, frame_nil, e1]
              have H5 := Lib.hid h3
              clear hL hS hH e1 h3 H2
              go_wp2
              go_roundw
              case rel => first | exact ⟨i + 1, A', c', by omega, by go_num, rfl, H5.out.cast (by rw [HW.out])⟩ | ((repeat apply Exists.intro); exact ⟨⟨i + 1, A', c', by omega, by go_num, rfl, H5.out.cast (by rw [HW.out])⟩, rfl⟩)
              case measure => simp [intOf]; omega
            · obtain rfl : i = 8 := by omega
              have h3 := h2
              rw [show (plus s T).list.take 8 = (plus s T).list from rfl, HT.out] at h3
              have H3 := Lib.hid h3
              clear h2 h3
              go_wp2_with (fail)
              go_ret
              exact ⟨A, c9, rfl, H3.out.drop2.drop2⟩
end Go.Proofs.YtblknhpafifebaaDoor
