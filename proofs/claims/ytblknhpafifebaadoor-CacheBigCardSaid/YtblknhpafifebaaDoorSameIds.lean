/-
  coldstoreref10.SameIDs of the same sums.
-/
import Derived.Test.YtblknhpafifebaaDoorLists14
namespace Go.Proofs.YtblknhpafifebaaDoor
open Go Go.RowKit Go.Sl
set_option linter.unusedVariables false
set_option linter.unusedSimpArgs false
set_option maxRecDepth 100000
def SameRel (st : World) (R : HProp) (n : Nat) (v5 : Value) (wr : World) : Prop := ∃ i : Nat, i ≤ n ∧ v5 = .int .i64 (i : Int) ∧ Has st R wr
set_option maxHeartbeats 2000000 in
theorem sameIDs_any (st : World) (R : HProp) (T : List (List UInt8)) (hT : ∀ x ∈ T, x.length = 32) (hTl : T.length ≤ 1000000) (A : Option Addr) (c : Nat) (B : Option Addr) (d : Nat) (h1 : Sees st R 32 (.slice A T.length c) T.length (idsC T)) (h2 : Sees st R 32 (.slice B T.length d) T.length (idsC T)) (w : World) (h : Has st R w) :
    Calls Tryd.prog 20 #[.slice A T.length c, .slice B T.length d] w fun e w' => e = .returned (.bool true) ∧ Has st R w' := by
  have H1 := Lib.hid h1
  have H2 := Lib.hid h2
  have HT := Lib.hid hT
  obtain ⟨N, hN⟩ : ∃ N, N = T.length := ⟨_, rfl⟩
  rw [← hN] at H1 H2 ⊢
  have HN := Lib.hid hN
  rw [← hN] at hTl
  have HH := Lib.hid h
  have ZN : Hid (cmpZ .neq (N : Int) (N : Int) = some false) := Lib.hid (by simp [cmpZ])
  clear h1 h2 hT hN h
  go_enter Tryd.func20, Tryd.ntmps20
  go_wp2_with (first
    | (fail)
    | ((first | (with_reducible refine wpList_plain rfl ?_) | ((with_reducible refine wpList_yes _ _ rfl ?_ ?_); (focus rfl))); intro _ hk; (first
      | (refine opw_cmp .neq _ _ _ _ .i64 (N : Int) (N : Int) false rfl rfl rfl ZN.out (hk _ _ ?_))); simp only [Act.put, List.setIfInBounds_toArray, List.set_cons_zero, List.set_cons_succ]))
  go_loopw [5] (fun v5 wr => SameRel st R N v5 wr) (fun v5 _ => N - (intOf v5).toNat)
  case atStart => exact ⟨0, Nat.zero_le _, rfl, HH.out⟩
  case round =>
    obtain ⟨i, hi, rfl, h⟩ := hrel
    by_cases hlt : i < N
    · have hlt' : i < T.length := by rw [← HN.out]; exact hlt
      obtain ⟨g1, o1, rfl, _⟩ := (H1.out wr h).at (by omega)
      obtain ⟨g2, o2, rfl, _⟩ := (H2.out wr h).at (by omega)
      obtain ⟨X, hX⟩ : ∃ X, X = T[i] := ⟨_, rfl⟩
      have hXl : X.length = 32 := by rw [hX]; exact HT.out _ (List.getElem_mem hlt')
      have HC1 : Hid (∀ w, Has st R w → ∀ j u, (bcells X)[j]? = some u → w.cell? ⟨g1, o1 + i * 32 + j, none⟩ = some u) := Lib.hid fun w hw j u hj => by
        obtain ⟨g, o, e, hc⟩ := (H1.out w hw).at (by omega)
        injection e with e; injection e with e1 e2; subst e1 e2
        rw [Nat.add_assoc]; exact hc _ u (idsC_cell HT.out hlt' (by rw [← hX]; exact hj))
      have HC2 : Hid (∀ w, Has st R w → ∀ j u, (bcells X)[j]? = some u → w.cell? ⟨g2, o2 + i * 32 + j, none⟩ = some u) := Lib.hid fun w hw j u hj => by
        obtain ⟨g, o, e, hc⟩ := (H2.out w hw).at (by omega)
        injection e with e; injection e with e1 e2; subst e1 e2
        rw [Nat.add_assoc]; exact hc _ u (idsC_cell HT.out hlt' (by rw [← hX]; exact hj))
      have HJ : Hid ((Tryd.prog.info? 34).map (·.size) = some (bcells X).length) := Lib.hid (by rw [bcells_length, hXl]; exact infoID)
      have HL := Lib.hid hXl
      have HH3 := Lib.hid h
      have ZX : Hid ((!(X == X)) = false) := Lib.hid (by simp)
      clear hX hXl h hlt'
      go_wp2_with fail
      refine wp_region_inv3 (fun L u w' => Slots (fun kk => ([some (.slice (some ⟨g1, o1, none⟩) N c), some (.int .i64 ((i : Nat) : Int)), some (.pointer (some ⟨g1, o1 + i * 32, none⟩)), some (.agg (bcells X).toArray), some (.slice (some ⟨g2, o2, none⟩) N d), some (.int .i64 ((i : Nat) : Int)), some (.pointer (some ⟨g2, o2 + i * 32, none⟩)), some (.agg (bcells X).toArray), some (.bool false)] : List (Option Value)).getD kk none) L u ∧ Has st R w') (by kernel_rfl) (by decide +kernel) (by decide +kernel) (by kernel_rfl) (by kernel_rfl) (fun u => ⟨Slots.start _ u, HH3.out.drew⟩) ?_ ?_
      · refine ⟨?_, ?_, ?_, ?_, ?_, ?_, ?_, ?_, ?_, trivial⟩
        · refine RegStep3.plain rfl ?_; rintro L u w1 bA hL hW hD hU ⟨hS, hH⟩ hin hout; exact opw_move _ _ (.inl rfl) ((hout 0 (by kernel_rfl)).trans (by kernel_rfl)) ⟨_, rfl, hS.step 0 _ (.inr rfl), hH⟩
        · refine RegStep3.plain rfl ?_; rintro L u w1 bA hL hW hD hU ⟨hS, hH⟩ hin hout; exact opw_move _ _ (.inl rfl) ((hout 5 (by kernel_rfl)).trans (by kernel_rfl)) ⟨_, rfl, hS.step 1 _ (.inr rfl), hH⟩
        · refine RegStep3.plain rfl ?_; rintro L u w1 bA hL hW hD hU ⟨hS, hH⟩ hin hout; exact opw_indexN _ _ 32 _ _ rfl Tryd.underlying46 infoID g1 o1 N c i ((hin 0 17 rfl).trans (hS 0 _ rfl (hW.of 0 (by decide)))) .i64 ((hin 1 18 rfl).trans (hS 1 _ rfl (hW.of 1 (by decide)))) hlt ⟨_, rfl, hS.step 2 _ (.inr rfl), hH⟩
        · refine RegStep3.plain rfl ?_; rintro L u w1 bA hL hW hD hU ⟨hS, hH⟩ hin hout; exact wp_load_mid _ _ rfl g1 (o1 + i * 32) ((hin 2 19 rfl).trans (hS 2 _ rfl (hW.of 2 (by decide)))) (bcells X) _ (HC1.out _ hH) Tryd.underlying34 rfl HJ.out ⟨_, rfl, hS.step 3 _ (.inr rfl), hH⟩
        · refine RegStep3.plain rfl ?_; rintro L u w1 bA hL hW hD hU ⟨hS, hH⟩ hin hout; exact opw_move _ _ (.inl rfl) ((hout 1 (by kernel_rfl)).trans (by kernel_rfl)) ⟨_, rfl, hS.step 4 _ (.inr rfl), hH⟩
        · refine RegStep3.plain rfl ?_; rintro L u w1 bA hL hW hD hU ⟨hS, hH⟩ hin hout; exact opw_move _ _ (.inl rfl) ((hout 5 (by kernel_rfl)).trans (by kernel_rfl)) ⟨_, rfl, hS.step 5 _ (.inr rfl), hH⟩
        · refine RegStep3.plain rfl ?_; rintro L u w1 bA hL hW hD hU ⟨hS, hH⟩ hin hout; exact opw_indexN _ _ 32 _ _ rfl Tryd.underlying46 infoID g2 o2 N d i ((hin 4 21 rfl).trans (hS 4 _ rfl (hW.of 4 (by decide)))) .i64 ((hin 5 22 rfl).trans (hS 5 _ rfl (hW.of 5 (by decide)))) hlt ⟨_, rfl, hS.step 6 _ (.inr rfl), hH⟩
        · refine RegStep3.plain rfl ?_; rintro L u w1 bA hL hW hD hU ⟨hS, hH⟩ hin hout; exact wp_load_mid _ _ rfl g2 (o2 + i * 32) ((hin 6 23 rfl).trans (hS 6 _ rfl (hW.of 6 (by decide)))) (bcells X) _ (HC2.out _ hH) Tryd.underlying34 rfl HJ.out ⟨_, rfl, hS.step 7 _ (.inr rfl), hH⟩
        · refine RegStep3.plain rfl ?_; rintro L u w1 bA hL hW hD hU ⟨hS, hH⟩ hin hout; exact opw_neRow _ _ 5 32 _ _ X X Tryd.underlying34 Tryd.underlying5 infosz (by kernel_rfl) HL.out HL.out rfl ((hin 3 20 rfl).trans (hS 3 _ rfl (hW.of 3 (by decide)))) ((hin 7 24 rfl).trans (hS 7 _ rfl (hW.of 7 (by decide)))) false ZX.out ⟨_, rfl, hS.step 8 _ (.inr rfl), hH⟩
      intro L u w5 hL ⟨hS, hH⟩
      have E0 := hS 0 _ rfl (hL 0 (by decide))
      have E1 := hS 1 _ rfl (hL 1 (by decide))
      have E2 := hS 2 _ rfl (hL 2 (by decide))
      have E3 := hS 3 _ rfl (hL 3 (by decide))
      have E4 := hS 4 _ rfl (hL 4 (by decide))
      have E5 := hS 5 _ rfl (hL 5 (by decide))
      have E6 := hS 6 _ rfl (hL 6 (by decide))
      have E7 := hS 7 _ rfl (hL 7 (by decide))
      have E8 := hS 8 _ rfl (hL 8 (by decide))
      simp only [frame_cons, frame_nil, E0, E1, E2, E3, E4, E5, E6, E7, E8, Act.put, List.setIfInBounds_toArray, List.set_cons_zero, List.set_cons_succ]
      clear hL hS E0 E1 E2 E3 E4 E5 E6 E7 E8
      have H5 := Lib.hid hH
      clear hH
      go_wp2
      go_roundw
      case rel => exact ⟨i + 1, by omega, by go_num, H5.out⟩
      case measure => simp [intOf]; omega
    · go_wp2
      go_ret
      exact ⟨rfl, h⟩
end Go.Proofs.YtblknhpafifebaaDoor
