/-
  sha.Text.
-/
import Derived.Test.YtijcjjinafpomaaDoorRefLess
import Derived.Test.YtijcjjinafpomaaDoorTailN
namespace Go.Proofs.YtijcjjinafpomaaDoor
open Go.RowKit Go.Sl Go.Sha
set_option linter.unusedVariables false
set_option linter.unusedSimpArgs false
def hexd (n : Nat) : UInt8 := if n < 10 then UInt8.ofNat (48 + n) else UInt8.ofNat (87 + n)
def hex (l : List UInt8) : List UInt8 := l.flatMap fun c => [hexd (c.toNat / 16), hexd (c.toNat % 16)]
def digs : ByteArray := ⟨#[48, 49, 50, 51, 52, 53, 54, 55, 56, 57, 97, 98, 99, 100, 101, 102]⟩
theorem digs_get (d : Nat) (h : d < 16) : digs.data.toList[d]? = some (hexd d) := by
  have : ∀ d : Fin 16, digs.data.toList[d.val]? = some (hexd d.val) := by decide
  exact this ⟨d, h⟩
theorem hex_snoc (l : List UInt8) (c : UInt8) : hex (l ++ [c]) = hex l ++ [hexd (c.toNat / 16), hexd (c.toNat % 16)] := by simp [hex]
theorem hex_length (l : List UInt8) : (hex l).length = 2 * l.length := by
  induction l with
  | nil => rfl
  | cons c l ih => simp [hex] at ih ⊢; omega
theorem take_getD (x : List UInt8) (i : Nat) (h : i < x.length) : x.take (i + 1) = x.take i ++ [x.getD i 0] := by
  rw [List.take_succ_eq_append_getElem h, List.getD_eq_getElem?_getD, List.getElem?_eq_getElem h]; rfl
def TextI (st : World) (R : HProp) (x : List UInt8) (v7 v3 : Value) (w : World) : Prop := ∃ i A c, i ≤ 32 ∧ v7 = .int .i64 ((i : Nat) : Int) ∧ v3 = .slice A (2 * i) c ∧ Has st (sep (row 5 1 (.slice A (2 * i) c) (2 * i) (bcells (hex (x.take i)))) R) w
theorem and15 (X : UInt8) : bits .and .u8 (X.toNat : Int) 15 = ((X.toNat % 16 : Nat) : Int) := by
  have : ∀ X : Fin 256, bits .and .u8 (X.val : Int) 15 = ((X.val % 16 : Nat) : Int) := by decide +kernel
  exact this ⟨X.toNat, X.toNat_lt⟩
set_option maxRecDepth 100000 in
set_option maxHeartbeats 2000000 in
theorem text_any (st : World) (R : HProp) (x : List UInt8) (hx : x.length = 32) (w : World) (h : Has st R w) :
    Calls Tryd.prog 14 #[.agg (bcells x).toArray] w fun e w' => e = .returned (.string ⟨(hex x).toArray⟩) ∧ Has st R w' := by
  have HA := Lib.hid hx
  have HH := Lib.hid h
  have hsz : (bcells x).toArray.size = 32 := by simp [bcells_length, hx]
  have hi32 : (Tryd.prog.info? 24).map (·.size) = some (bcells x).toArray.size := by rw [hsz]; exact infoID
  have HI := Lib.hid hi32
  clear hx h hsz hi32
  go_enter Tryd.func14, Tryd.ntmps14
  go_wp2_with ((with_reducible refine wpList_plain rfl ?_); intro _ hk; (first
    | (refine opw_box 24 (.agg (bcells x).toArray) (bcells x).toArray rfl rfl rfl HH.out (fun p w1 hp h1 => hk _ _ ?_); clear hp; have H1 := Lib.hid h1; clear h1)
    | (refine opw_loadRow 24 _ rfl p rfl 24 (bcells x).toArray _ _ Tryd.underlying24 rfl HI.out H1.out (hk _ _ ?_))); simp only [Act.put, List.setIfInBounds_toArray, List.set_cons_zero, List.set_cons_succ])
  go_loopw [7, 3] (TextI st (sep (blk p (.cells (bcells x).toArray 24 (0, 0))) R) x) (fun v _ _ => 32 - (intOf v).toNat)
  case atStart => exact ⟨0, none, 0, Nat.zero_le _, rfl, rfl, H1.out.row_nil 5 1⟩
  case round =>
    obtain ⟨i, A, c, hi, rfl, rfl, h3⟩ := hrel
    clear H1
    by_cases hlt : i < 32
    · obtain ⟨n, hn⟩ : ∃ n, n = 2 * i := ⟨_, rfl⟩
      rw [← hn] at h3 ⊢
      have hnb : n ≤ 64 := by omega
      obtain ⟨X, hX⟩ : ∃ X, X = x.getD i 0 := ⟨_, rfl⟩
      have gX : (bcells x).toArray[i]? = some (.int .u8 (X.toNat : Int)) := by rw [List.getElem?_toArray, hX]; exact bget (by rw [HA.out]; exact hlt)
      have hXb := X.toNat_lt
      obtain ⟨d1, hd1⟩ : ∃ d, d = X.toNat / 16 := ⟨_, rfl⟩
      obtain ⟨d2, hd2⟩ : ∃ d, d = X.toNat % 16 := ⟨_, rfl⟩
      have g1 := digs_get d1 (by omega)
      have g2 := digs_get d2 (by omega)
      have b1 : shZ .shr .u8 (X.toNat : Int) 4 = some (d1 : Int) := by rw [hd1]; exact sh_r .u8 X.toNat 4 (by decide)
      have b2 : bits .and .u8 (X.toNat : Int) 15 = (d2 : Int) := by rw [hd2]; exact and15 X
      have hnext : bcells (hex (x.take i)) ++ [Value.int .u8 ((hexd d1).toNat : Int), Value.int .u8 ((hexd d2).toNat : Int)] = bcells (hex (x.take (i + 1))) := by
        rw [take_getD x i (by rw [HA.out]; exact hlt), hex_snoc, hd1, hd2, hX]
        exact bcells_append _ [_, _]
      have HN := Lib.hid hn
      have HGX := Lib.hid gX
      have HG1 := Lib.hid g1
      have HG2 := Lib.hid g2
      have HB1 := Lib.hid b1
      have HB2 := Lib.hid b2
      have HNX := Lib.hid hnext
      have H3 := Lib.hid h3
      clear hn hX gX hd1 hd2 g1 g2 b1 b2 hnext h3
      go_wp2_with ((with_reducible refine wpList_plain rfl ?_); intro _ hk; (first
        | (refine opw_indexAgg 24 _ 32 _ _ rfl Tryd.underlying24 Tryd.underlying5 rfl infosz (bcells x).toArray rfl .i64 i rfl hlt (.int .u8 (X.toNat : Int)) HGX.out (hk _ _ ?_))); simp only [Act.put, List.setIfInBounds_toArray, List.set_cons_zero, List.set_cons_succ])
      refine wp_region_inv2 (fun L u w' => Slots (fun kk => ([some (.slice A n c), some (.int .u8 ((X).toNat : Int)), some (.int .u8 (d1 : Int)), some (.int .u8 ((hexd d1).toNat : Int)), some (.int .u8 ((X).toNat : Int)), some (.int .u8 (d2 : Int)), some (.int .u8 ((hexd d2).toNat : Int)), none, none, none] : List (Option Value)).getD kk none) L u ∧ TailN st 5 (.slice A n c) n (bcells (hex (x.take i))) [.int .u8 ((hexd d1).toNat : Int), .int .u8 ((hexd d2).toNat : Int)] (sep (blk p (.cells (bcells x).toArray 24 (0, 0))) R) 7 8 9 L u w') (by kernel_rfl) (by decide +kernel) (by decide +kernel) (by kernel_rfl) (fun u => ⟨Slots.start _ u, TailN.start H3.out.drew u⟩) ?_ ?_
      · refine ⟨?_, ?_, ?_, ?_, ?_, ?_, ?_, ?_, ?_, ?_, trivial⟩
        all_goals (refine RegStep2.plain rfl ?_; rintro L u w1 b hL hW hD hU ⟨hS, hH⟩ hin hout)
        · exact opw_move _ _ (.inl rfl) ((hin 9 3 rfl).trans ((hU 9 _ _ rfl rfl (hD.nots 10 9 0 hL (by decide +kernel))).trans (by kernel_rfl))) ⟨_, rfl, hS.step 0 _ (.inr rfl), hH.pure 0 _ (by decide)⟩
        · exact opw_move _ _ (.inl rfl) ((hout 5 (by kernel_rfl)).trans (by kernel_rfl)) ⟨_, rfl, hS.step 1 _ (.inr rfl), hH.pure 1 _ (by decide)⟩
        · exact opw_shift .shr _ _ _ _ .u8 .u64 _ _ _ rfl ((hin 1 11 rfl).trans (hS 1 _ rfl (hW.of 1 (by decide)))) rfl HB1.out ⟨_, rfl, hS.step 2 _ (.inr rfl), hH.pure 2 _ (by decide)⟩
        · exact opw_indexStr _ _ _ rfl Tryd.underlying9 digs rfl .u8 d1 ((hin 2 12 rfl).trans (hS 2 _ rfl (hW.of 2 (by decide)))) _ HG1.out ⟨_, rfl, hS.step 3 _ (.inr rfl), hH.pure 3 _ (by decide)⟩
        · exact opw_move _ _ (.inl rfl) ((hout 5 (by kernel_rfl)).trans (by kernel_rfl)) ⟨_, rfl, hS.step 4 _ (.inr rfl), hH.pure 4 _ (by decide)⟩
        · exact opw_and8 _ _ _ _ _ _ _ rfl ((hin 4 14 rfl).trans (hS 4 _ rfl (hW.of 4 (by decide)))) rfl HB2.out ⟨_, rfl, hS.step 5 _ (.inr rfl), hH.pure 5 _ (by decide)⟩
        · exact opw_indexStr _ _ _ rfl Tryd.underlying9 digs rfl .u8 d2 ((hin 5 15 rfl).trans (hS 5 _ rfl (hW.of 5 (by decide)))) _ HG2.out ⟨_, rfl, hS.step 6 _ (.inr rfl), hH.pure 6 _ (by decide)⟩
        · exact hH.lit hS rfl hL (hD.nots 1 8 7 hL (by decide +kernel)) (hD.nots 2 9 7 hL (by decide +kernel)) (by decide) _ 2 _ [(0, .int .u8 ((hexd d1).toNat : Int)), (1, .int .u8 ((hexd d2).toNat : Int))] rfl (pair2 ((hin 3 13 rfl).trans (hS 3 _ rfl (hW.of 3 (by decide)))) (pair2 ((hin 6 16 rfl).trans (hS 6 _ rfl (hW.of 6 (by decide)))) rfl)) rfl (by kernel_rfl)
        · exact hH.app hS rfl (hW.of 7 (by decide)) hL (hD.nots 1 9 8 hL (by decide +kernel)) (by decide) _ _ _ _ _ rfl Tryd.underlying22 infoB rfl ((hin 0 10 rfl).trans (hS 0 _ rfl (hW.of 0 (by decide)))) (hin 7 17 rfl) (by intro y hy; simp at hy; rcases hy with rfl | rfl <;> rfl) (by show n + 2 ≤ _; unfold maxLen; omega) (by show (n + 2) * 1 ≤ _; omega)
        · exact hH.asg hS rfl (hW.of 8 (by decide)) hL _ rfl (hin 8 18 rfl)
      intro L u w3 hL ⟨hS, hH⟩
      obtain ⟨A', c', e1, h4⟩ := hH.done (hL 9 (by decide))
      simp only [frame_cons, frame_nil, e1, Act.put, List.setIfInBounds_toArray, List.set_cons_zero, List.set_cons_succ]
      have H4 := Lib.hid h4
      clear hL hS hH e1 h4 H3
      go_wp2
      have hn := HN.out
      go_roundw
      case rel =>
        have hrel2 : TextI st (sep (blk p (.cells (bcells x).toArray 24 (0, 0))) R) x (.int .i64 ((i : Int) + 1)) (.slice A' (n + 2) c') w3 := by
          refine ⟨i + 1, A', c', by omega, by go_num, by rw [show 2 * (i + 1) = n + 2 by omega], ?_⟩
          rw [show 2 * (i + 1) = n + 2 by omega]
          exact H4.out.cast (by rw [HNX.out]; rfl)
        first | exact hrel2 | ((repeat apply Exists.intro); exact ⟨hrel2, rfl⟩)
      case measure => simp [intOf]; omega
    · obtain rfl : i = 32 := by omega
      have hl : (hex x).length = 64 := by rw [hex_length, HA.out]
      have hr : Rd 1 wr (.slice A 64 c) 64 (bcells (hex x)) := by
        have := sees_row st _ 1 _ _ _ _ wr h3
        rw [List.take_of_length_le (by rw [HA.out]; exact Nat.le_refl _)] at this
        exact this
      have HR := Lib.hid hr
      have H3 := Lib.hid h3
      clear hr h3 hl
      go_wp2_with (refine wp_string rfl 22 9 5 _ rfl Tryd.underlying22 Tryd.underlying5 Tryd.underlying9 (v := .slice A 64 c) (n := 64) (l := hex x) rfl HR.out ?_)
      go_ret
      exact ⟨rfl, H3.out.right.right⟩
end Go.Proofs.YtijcjjinafpomaaDoor
