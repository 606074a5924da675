/-
  coldstorelaw04.SealJoins.
-/
import Derived.Test.YtbiacehmfbopfaaJoinLaw
namespace Go.Proofs.Ytbiacehmfbopfaa
open Go.RowKit Go.Sl Go.Crc
set_option linter.unusedVariables false
set_option linter.unusedSimpArgs false
def SizI (st : World) (R : HProp) (ls : List (List UInt8)) (v11 v49 : Value) (wr : World) : Prop := ∃ i e : Nat, i ≤ ls.length ∧ v49 = .int .i64 ((i : Nat) : Int) ∧ v11 = .int .i64 ((e : Nat) : Int) ∧ Hid (e = (chainB (ls.take i)).length) ∧ Has st R wr
set_option maxRecDepth 100000 in
set_option maxHeartbeats 4000000 in
theorem joins_law (st : World) (R : HProp) (la : List (List UInt8)) (A : Option Addr) (ca : Nat) (hsa : SeesL st R (.slice A la.length ca) la) (lb : List (List UInt8)) (B : Option Addr) (cb : Nat) (hsb : SeesL st R (.slice B lb.length cb) lb) (z : Int) (w : World) (h : Has st R w) :
    Calls Try.prog 7 #[.slice A la.length ca, .slice B lb.length cb, .int .i64 z] w fun e w' => e = .returned (.bool true) ∧ Has st R w' := by
  obtain ⟨Φ0, e0⟩ : ∃ X, X = R := ⟨_, rfl⟩
  rw [← e0] at h hsa hsb ⊢
  clear e0
  have C0 := Lib.hid h
  have SLA := Lib.hid hsa
  have SLB := Lib.hid hsb
  clear h hsa hsb
  cases hfA : fewB la with
  | false =>
    have HFWA : Hid (∀ Φ w, Has st Φ w → SeesL st Φ (.slice A la.length ca) la → Calls Try.prog 17 #[(.slice A la.length ca)] w fun e w' => e = .returned (.bool false) ∧ w = w') := Lib.hid fun Φ w h hs => by
      have := few_any st Φ la _ w h hs
      rw [hfA] at this; exact this
    clear hfA
    go_enter Try.func7, Try.ntmps7
    go_wp2_with (first
      | (have _k := C1; go_at_call 17; have hq := HFWA.out _ _ C1.out (SLA.out.widen (fun w h => (U1.out _ h))); with_reducible refine hq.mono ?_; clear hq; rintro e w9 ⟨rfl, rfl⟩)
      | (have _k := C0; go_at_call 9; refine (alive_any st Φ0 _ C0.out).mono ?_; rintro e w9 ⟨rfl, h9⟩; obtain ⟨Φ1, e1⟩ : ∃ X : HProp, X = Φ0 := ⟨_, rfl⟩; rw [← e1] at h9; have U1 : Hid (∀ w, Has st Φ1 w → Has st Φ0 w) := Lib.hid (by rw [e1]; exact fun w h => h); have C1 := Lib.hid h9; clear h9 e1)
      | ((first | (with_reducible refine wpList_plain rfl ?_) | ((with_reducible refine wpList_yes _ _ rfl ?_ ?_); (focus rfl))); intro _ hk; (first
        | (fail)); simp only [Act.put, List.setIfInBounds_toArray, List.set_cons_zero, List.set_cons_succ]))
    go_ret
    exact ⟨rfl, (U1.out _ C1.out)⟩
  | true =>
    have HFWA : Hid (∀ Φ w, Has st Φ w → SeesL st Φ (.slice A la.length ca) la → Calls Try.prog 17 #[(.slice A la.length ca)] w fun e w' => e = .returned (.bool true) ∧ w = w') := Lib.hid fun Φ w h hs => by
      have := few_any st Φ la _ w h hs
      rw [hfA] at this; exact this
    cases hfB : fewB lb with
    | false =>
      have HFWB : Hid (∀ Φ w, Has st Φ w → SeesL st Φ (.slice B lb.length cb) lb → Calls Try.prog 17 #[(.slice B lb.length cb)] w fun e w' => e = .returned (.bool false) ∧ w = w') := Lib.hid fun Φ w h hs => by
        have := few_any st Φ lb _ w h hs
        rw [hfB] at this; exact this
      clear hfA hfB
      go_enter Try.func7, Try.ntmps7
      go_wp2_with (first
        | (have _k := C1; go_at_call 17; have hq := HFWB.out _ _ C1.out (SLB.out.widen (fun w h => (U1.out _ h))); with_reducible refine hq.mono ?_; clear hq; rintro e w9 ⟨rfl, rfl⟩)
        | (have _k := C1; go_at_call 17; have hq := HFWA.out _ _ C1.out (SLA.out.widen (fun w h => (U1.out _ h))); with_reducible refine hq.mono ?_; clear hq; rintro e w9 ⟨rfl, rfl⟩)
        | (have _k := C0; go_at_call 9; refine (alive_any st Φ0 _ C0.out).mono ?_; rintro e w9 ⟨rfl, h9⟩; obtain ⟨Φ1, e1⟩ : ∃ X : HProp, X = Φ0 := ⟨_, rfl⟩; rw [← e1] at h9; have U1 : Hid (∀ w, Has st Φ1 w → Has st Φ0 w) := Lib.hid (by rw [e1]; exact fun w h => h); have C1 := Lib.hid h9; clear h9 e1)
        | ((first | (with_reducible refine wpList_plain rfl ?_) | ((with_reducible refine wpList_yes _ _ rfl ?_ ?_); (focus rfl))); intro _ hk; (first
          | (fail)); simp only [Act.put, List.setIfInBounds_toArray, List.set_cons_zero, List.set_cons_succ]))
      go_ret
      exact ⟨rfl, (U1.out _ C1.out)⟩
    | true =>
      have HFWB : Hid (∀ Φ w, Has st Φ w → SeesL st Φ (.slice B lb.length cb) lb → Calls Try.prog 17 #[(.slice B lb.length cb)] w fun e w' => e = .returned (.bool true) ∧ w = w') := Lib.hid fun Φ w h hs => by
        have := few_any st Φ lb _ w h hs
        rw [hfB] at this; exact this
      obtain ⟨ha1, ha2⟩ := few_len la hfA
      obtain ⟨hb1, hb2⟩ := few_len lb hfB
      obtain ⟨va, hva, hva1, hva2, hva3⟩ := seesl_parts SLA.out _ C0.out
      obtain ⟨vb, hvb, hvb1, hvb2, hvb3⟩ := seesl_parts SLB.out _ C0.out
      have hxl := chain_len la ha1
      have hyl := chain_len lb hb1
      obtain ⟨XA, hX⟩ : ∃ XA, XA = chainB la := ⟨_, rfl⟩
      obtain ⟨YB, hY⟩ : ∃ YB, YB = chainB lb := ⟨_, rfl⟩
      obtain ⟨LS, hLS⟩ : ∃ LS, LS = la ++ lb := ⟨_, rfl⟩
      obtain ⟨VS, hVS⟩ : ∃ VS, VS = va ++ vb := ⟨_, rfl⟩
      obtain ⟨C, hC⟩ : ∃ C, C = chainB LS := ⟨_, rfl⟩
      rw [← hX] at hxl
      rw [← hY] at hyl
      have hXY : XA ++ YB = C := by rw [hC, hLS, hX, hY, chainB_append]
      have hCl : C.length = XA.length + YB.length := by rw [← hXY, List.length_append]
      have hLl : LS.length = la.length + lb.length := by rw [hLS, List.length_append]
      have hL100 : ∀ r ∈ LS, r.length ≤ 100 := fun r hr => by
        rw [hLS, List.mem_append] at hr
        rcases hr with h | h
        · exact ha1 r h
        · exact hb1 r h
      have hXc : XA.length ≤ 4000 := by omega
      have hYc : YB.length ≤ 4000 := by omega
      have hCc : C.length ≤ 8000 := by omega
      have hLc : LS.length ≤ 60 := by omega
      have HCHA : Hid (∀ Φ w, Has st Φ w → SeesL st Φ (.slice A la.length ca) la → Calls Try.prog 18 #[.slice A la.length ca] w fun e w' => ∃ A c, e = .returned (.slice A XA.length c) ∧ Has st (sep (row 5 1 (.slice A XA.length c) XA.length (bcells XA)) Φ) w') := Lib.hid fun Φ w h hs => by rw [hX]; exact chain_any st Φ la _ w h hs (by rw [← hX]; omega)
      have HCHB : Hid (∀ Φ w, Has st Φ w → SeesL st Φ (.slice B lb.length cb) lb → Calls Try.prog 18 #[.slice B lb.length cb] w fun e w' => ∃ A c, e = .returned (.slice A YB.length c) ∧ Has st (sep (row 5 1 (.slice A YB.length c) YB.length (bcells YB)) Φ) w') := Lib.hid fun Φ w h hs => by rw [hY]; exact chain_any st Φ lb _ w h hs (by rw [← hY]; omega)
      have HCHL : Hid (∀ Φ v w, Has st Φ w → SeesL st Φ v LS → Calls Try.prog 18 #[v] w fun e w' => ∃ A c, e = .returned (.slice A C.length c) ∧ Has st (sep (row 5 1 (.slice A C.length c) C.length (bcells C)) Φ) w') := Lib.hid fun Φ v w h hs => by rw [hC]; exact chain_any st Φ LS _ w h hs (by rw [← hC]; omega)
      have HJ : Hid (∀ F v, (∀ w, Has st F w → Has st Φ0 w) → Sees st F 1 v LS.length VS → SeesL st F v LS) := Lib.hid fun F v hU hs => by
        rw [hLS, hVS] at *
        exact seesl_join hva hva3 hvb3 hU hs
      have HAPC : Hid (bcells XA ++ bcells YB = bcells C) := Lib.hid (by rw [← hXY]; exact bcells_append _ _)
      have HAPV : Hid (va ++ vb = VS) := Lib.hid hVS.symm
      have HCL := Lib.hid hCl
      have HLL := Lib.hid hLl
      have HCE := Lib.hid hC
      have HL100 := Lib.hid hL100
      have HVA := Lib.hid hva2
      have HVB := Lib.hid hvb2
      have HVA1 := Lib.hid hva1
      have HVB1 := Lib.hid hvb1
      clear hfA hfB ha1 hb1 hva hva1 hva2 hva3 hvb hvb1 hvb2 hvb3 hX hY hLS hVS hC hXY hCl hLl hL100 hxl hyl
      go_enter Try.func7, Try.ntmps7
      go_wp2_with (first
        | (have _k := C5; go_at_call 15; refine (same_self C _ _ _ _ _ (Sz.out _ C5.out.right) (sees_row st _ 1 _ _ _ _ _ C5.out)).mono ?_; rintro e w9 ⟨rfl, rfl⟩)
        | (have _k := C4; go_at_call 18; refine (HCHL.out _ _ _ C4.out (SLL.out.widen (fun w h => h.right))).mono ?_; rintro e w9 ⟨Az, cz, rfl, h9⟩; replace h9 := h9.second; obtain ⟨Φ5, e5⟩ : ∃ X : HProp, X = sep (row 5 1 (.slice Az C.length cz) C.length (bcells C)) Φ4 := ⟨_, rfl⟩; rw [← e5] at h9; have U5 : Hid (∀ w, Has st Φ5 w → Has st Φ4 w) := Lib.hid (by rw [e5]; exact fun w h => h.right); have Sz : Hid (Sees st Φ5 1 (.slice Az C.length cz) C.length (bcells C)) := Lib.hid (by rw [e5]; exact sees_row st _ 1 _ _ _ _); have C5 := Lib.hid h9; clear h9 e5)
        | (have _k := H10; refine wp_append (v := .slice Av la.length cv) rfl _ _ 35 22 1 24 (.slice none 0 0) rfl Try.underlying35 infoS3 rfl (by decide) rfl rfl H10.out (HVB.out _ (U1.out _ (U2.out _ (U3.out _ H10.out.right.right)))) HVB1.out (by unfold maxLen; omega) (by omega) ?_; intro Ab cL w11 h11 _; rw [HAPV.out, ← HLL.out] at h11; rw [← HLL.out]; replace h11 := h11.second; obtain ⟨Φ4, e4⟩ : ∃ Y, Y = sep (row 22 1 (.slice Ab LS.length cL) LS.length VS) Φ3 := ⟨_, rfl⟩; rw [← e4] at h11; have U4 : Hid (∀ w, Has st Φ4 w → Has st Φ3 w) := Lib.hid (by rw [e4]; exact fun w h => h.right); have SLL : Hid (SeesL st Φ4 (.slice Ab LS.length cL) LS) := Lib.hid (HJ.out _ _ (fun w h => (U1.out _ (U2.out _ (U3.out _ (U4.out _ h))))) (by rw [e4]; exact sees_row st _ 1 _ _ _ _)); have C4 := Lib.hid h11; clear h11 e4)
        | (have _k := H9; refine wp_append (v := .slice (some ⟨q9, 0, none⟩) 0 0) rfl _ _ 35 22 1 24 (.slice none 0 0) rfl Try.underlying35 infoS3 rfl (by decide) rfl rfl H9.out (HVA.out _ (U1.out _ (U2.out _ (U3.out _ H9.out.right.right)))) HVA1.out (by rw [Nat.zero_add]; unfold maxLen; omega) (by omega) ?_; intro Av cv w10 h10 _; rw [Nat.zero_add, List.nil_append] at h10; rw [Nat.zero_add]; have H10 := Lib.hid h10; clear h10)
        | (have _k := H6; refine wp_append (v := .slice Aw XA.length cw) rfl _ _ 22 5 1 1 (.int .u8 0) rfl Try.underlying22 infoB rfl (by decide) rfl rfl H6.out (Sy.out _ H6.out.right) (bcells_one YB) (by unfold maxLen; omega) (by omega) ?_; intro Ac cc w8 h8 _; rw [HAPC.out, ← HCL.out] at h8; rw [← HCL.out]; have H8 := Lib.hid h8; clear h8)
        | (have _k := H5; refine wp_append (v := .slice (some ⟨q5, 0, none⟩) 0 0) rfl _ _ 22 5 1 1 (.int .u8 0) rfl Try.underlying22 infoB rfl (by decide) rfl rfl H5.out (Sx.out _ (U3.out _ H5.out.right)) (bcells_one XA) (by rw [Nat.zero_add]; unfold maxLen; omega) (by omega) ?_; intro Aw cw w6 h6 _; rw [Nat.zero_add, List.nil_append] at h6; rw [Nat.zero_add]; have H6 := Lib.hid h6; clear h6)
        | (have _k := C2; go_at_call 18; refine (HCHB.out _ _ C2.out (SLB.out.widen (fun w h => (U1.out _ (U2.out _ h))))).mono ?_; rintro e w9 ⟨Ay, cy, rfl, h9⟩; obtain ⟨Φ3, e3⟩ : ∃ X : HProp, X = sep (row 5 1 (.slice Ay YB.length cy) YB.length (bcells YB)) Φ2 := ⟨_, rfl⟩; rw [← e3] at h9; have U3 : Hid (∀ w, Has st Φ3 w → Has st Φ2 w) := Lib.hid (by rw [e3]; exact fun w h => h.right); have Sy : Hid (Sees st Φ3 1 (.slice Ay YB.length cy) YB.length (bcells YB)) := Lib.hid (by rw [e3]; exact sees_row st _ 1 _ _ _ _); have C3 := Lib.hid h9; clear h9 e3)
        | (have _k := C1; go_at_call 18; refine (HCHA.out _ _ C1.out (SLA.out.widen (fun w h => (U1.out _ h)))).mono ?_; rintro e w9 ⟨Ax, cx, rfl, h9⟩; obtain ⟨Φ2, e2⟩ : ∃ X : HProp, X = sep (row 5 1 (.slice Ax XA.length cx) XA.length (bcells XA)) Φ1 := ⟨_, rfl⟩; rw [← e2] at h9; have U2 : Hid (∀ w, Has st Φ2 w → Has st Φ1 w) := Lib.hid (by rw [e2]; exact fun w h => h.right); have Sx : Hid (Sees st Φ2 1 (.slice Ax XA.length cx) XA.length (bcells XA)) := Lib.hid (by rw [e2]; exact sees_row st _ 1 _ _ _ _); have C2 := Lib.hid h9; clear h9 e2)
        | (have _k := C1; go_at_call 17; have hq := HFWB.out _ _ C1.out (SLB.out.widen (fun w h => (U1.out _ h))); with_reducible refine hq.mono ?_; clear hq; rintro e w9 ⟨rfl, rfl⟩)
        | (have _k := C1; go_at_call 17; have hq := HFWA.out _ _ C1.out (SLA.out.widen (fun w h => (U1.out _ h))); with_reducible refine hq.mono ?_; clear hq; rintro e w9 ⟨rfl, rfl⟩)
        | (have _k := C0; go_at_call 9; refine (alive_any st Φ0 _ C0.out).mono ?_; rintro e w9 ⟨rfl, h9⟩; obtain ⟨Φ1, e1⟩ : ∃ X : HProp, X = Φ0 := ⟨_, rfl⟩; rw [← e1] at h9; have U1 : Hid (∀ w, Has st Φ1 w → Has st Φ0 w) := Lib.hid (by rw [e1]; exact fun w h => h); have C1 := Lib.hid h9; clear h9 e1)
        | ((first | (with_reducible refine wpList_plain rfl ?_) | ((with_reducible refine wpList_yes _ _ rfl ?_ ?_); (focus rfl))); intro _ hk; (first
          | (have _k := H8; refine opw_lit0 35 22 rfl Try.underlying35 infoS H8.out (fun q9 w9 h9 => hk _ _ ?_); have H9 := Lib.hid h9; clear h9)
          | (have _k := C3; refine opw_lit0 22 5 rfl Try.underlying22 sizeB C3.out (fun q5 w5 h5 => hk _ _ ?_); have H5 := Lib.hid h5; clear h5)
          | (refine opw_len _ _ _ Try.underlying35 Ab LS.length cL rfl rfl (hk _ _ ?_))); simp only [Act.put, List.setIfInBounds_toArray, List.set_cons_zero, List.set_cons_succ]))
      have SLk : Hid (SeesL st (sep (row 5 1 (.slice Ac C.length cc) C.length (bcells C)) Φ5) (.slice Ab LS.length cL) LS) := Lib.hid (SLL.out.widen (fun w h => U5.out _ h.right))
      go_loopw [11, 49] (SizI st (sep (row 5 1 (.slice Ac C.length cc) C.length (bcells C)) Φ5) LS) (fun _ v49 _ => LS.length - (intOf v49).toNat)
      case atStart => exact ⟨0, 0, Nat.zero_le _, rfl, rfl, Lib.hid (by simp [chainB]), C5.out⟩
      case round =>
        obtain ⟨i, e1, hi, rfl, rfl, HE1, h3⟩ := hrel
        have HC := Lib.hid h3
        clear h3
        by_cases hlt : i < LS.length
        · have HLT : Hid (cmpZ .lss (i : Int) (LS.length : Int) = some true) := Lib.hid (by simp only [cmpZ]; simp; omega)
          obtain ⟨vs, hv1, hv2⟩ := SLk.out
          obtain ⟨Br, dr, hb, _⟩ := hv2 i hlt
          obtain ⟨r, hr⟩ : ∃ r, r = LS[i] := ⟨_, rfl⟩
          rw [← hr] at hb
          obtain ⟨b1, o1, hA, _⟩ := (hv1 _ HC.out).at (by omega)
          subst hA
          have hcell : wr.cell? ⟨b1, o1 + i, none⟩ = some (.slice Br r.length dr) := (hv1 _ HC.out).cell hb
          have hps := chain_take_succ LS i hlt
          rw [← hr, ← HE1.out] at hps
          have hrl : r.length ≤ 100 := by rw [hr]; exact HL100.out _ (List.getElem_mem hlt)
          have he1 : e1 ≤ 8000 := by
            have h2 := chainB_take_le LS i
            rw [← HE1.out, ← HCE.out] at h2
            omega
          obtain ⟨g1, hg1⟩ : ∃ f, f = 8 + r.length := ⟨_, rfl⟩
          obtain ⟨f2, hf2'⟩ : ∃ f, f = e1 + g1 := ⟨_, rfl⟩
          have c3 : binZ .add .i64 8 (r.length : Int) = some (g1 : Int) := by rw [hg1]; exact bin_add 8 r.length (by omega)
          have c4 : binZ .add .i64 (e1 : Int) (g1 : Int) = some (f2 : Int) := by rw [hf2']; exact bin_add e1 g1 (by omega)
          rw [show e1 + 8 + r.length = f2 by omega] at hps
          have K3 := Lib.hid c3
          have K4 := Lib.hid c4
          have HCELL := Lib.hid hcell
          have HPS := Lib.hid hps
          clear hv1 hv2 hb hcell hps c3 c4 hr hf2' hg1
          go_wp2_with (first
            | (fail)
            | ((first | (with_reducible refine wpList_plain rfl ?_) | ((with_reducible refine wpList_yes _ _ rfl ?_ ?_); (focus rfl))); intro _ hk; (first
              | (refine opw_cmp .lss _ _ _ _ .i64 (i : Int) (LS.length : Int) true rfl rfl rfl HLT.out (hk _ _ ?_))
              | (refine opw_indexSl 35 22 _ _ rfl Try.underlying35 infoS b1 o1 LS.length cL i rfl .i64 rfl hlt (hk _ _ ?_))
              | (refine opw_load1 22 _ rfl _ Try.underlying22 rfl ⟨b1, o1 + i, none⟩ (.slice Br r.length dr) rfl HCELL.out (hk _ _ ?_))
              | (refine opw_len _ _ _ Try.underlying22 Br r.length dr rfl rfl (hk _ _ ?_))
              | (refine opw_bin .add _ _ _ _ .i64 8 (r.length : Int) (g1 : Int) rfl rfl rfl K3.out (hk _ _ ?_))
              | (refine opw_bin .add _ _ _ _ .i64 (e1 : Int) (g1 : Int) (f2 : Int) rfl rfl rfl K4.out (hk _ _ ?_))); simp only [Act.put, List.setIfInBounds_toArray, List.set_cons_zero, List.set_cons_succ]))
          go_wp2
          go_roundw
          case rel =>
            have hrel2 : SizI st (sep (row 5 1 (.slice Ac C.length cc) C.length (bcells C)) Φ5) LS (.int .i64 (f2 : Int)) (.int .i64 ((i : Int) + 1)) wr := ⟨i + 1, f2, hlt, by go_num, rfl, Lib.hid HPS.out.symm, HC.out⟩
            first | exact hrel2 | ((repeat apply Exists.intro); exact ⟨hrel2, rfl⟩)
          case measure => simp [intOf]; omega
        · have HLT : Hid (cmpZ .lss (i : Int) (LS.length : Int) = some false) := Lib.hid (by simp only [cmpZ]; simp; omega)
          obtain rfl : e1 = C.length := by rw [HE1.out, HCE.out, List.take_of_length_le (by omega)]
          clear HE1 hlt
          have HN : Hid (cmpZ .neq (C.length : Int) (C.length : Int) = some false) := Lib.hid (by simp [cmpZ])
          have HQ : Hid (cmpZ .eql (C.length : Int) (C.length : Int) = some true) := Lib.hid (by simp [cmpZ])
          by_cases hC0 : C.length = 0
          · have HZ : Hid (cmpZ .eql (C.length : Int) 0 = some true) := Lib.hid (by obtain ⟨n, hn⟩ : ∃ n, n = C.length := ⟨_, rfl⟩; rw [← hn] at hC0 ⊢; simp only [cmpZ]; simp; omega)
            clear hC0
            go_wp2_with (first
              | (fail)
              | ((first | (with_reducible refine wpList_plain rfl ?_) | ((with_reducible refine wpList_yes _ _ rfl ?_ ?_); (focus rfl))); intro _ hk; (first
                | (refine opw_cmp .lss _ _ _ _ .i64 (i : Int) (LS.length : Int) false rfl rfl rfl HLT.out (hk _ _ ?_))
                | (refine opw_len _ _ _ Try.underlying22 Ac C.length cc rfl rfl (hk _ _ ?_))
                | (refine opw_cmp .neq _ _ _ _ .i64 (C.length : Int) (C.length : Int) false rfl rfl rfl HN.out (hk _ _ ?_))
                | (refine opw_cmp .eql _ _ _ _ .i64 (C.length : Int) (C.length : Int) true rfl rfl rfl HQ.out (hk _ _ ?_))
                | (refine opw_cmp .eql _ _ _ _ .i64 (C.length : Int) 0 true rfl rfl rfl HZ.out (hk _ _ ?_))); simp only [Act.put, List.setIfInBounds_toArray, List.set_cons_zero, List.set_cons_succ]))
            go_ret
            exact ⟨rfl, (U1.out _ (U2.out _ (U3.out _ (U4.out _ (U5.out _ HC.out.right)))))⟩
          · have HZ : Hid (cmpZ .eql (C.length : Int) 0 = some false) := Lib.hid (by obtain ⟨n, hn⟩ : ∃ n, n = C.length := ⟨_, rfl⟩; rw [← hn] at hC0 ⊢; simp only [cmpZ]; simp; omega)
            obtain ⟨gs, rfl⟩ := HC.out.row_at (by omega)
            obtain ⟨z1, hz1⟩ : ∃ z1 : Nat, (z1 : Int) = z % 16777216 := ⟨(z % 16777216).toNat, by omega⟩
            obtain ⟨M, hM⟩ : ∃ M, M = 8 * C.length := ⟨_, rfl⟩
            obtain ⟨a, ha⟩ : ∃ a, a = z1 % M := ⟨_, rfl⟩
            have haM : a < 8 * C.length := by have := Nat.mod_lt z1 (show M > 0 by omega); omega
            have k1 : bits .and .i64 z 16777215 = (z1 : Int) := by rw [hz1]; exact i64_and24 z
            have k2 : binZ .mul .i64 8 (C.length : Int) = some (M : Int) := by rw [hM]; exact bin_mul 8 C.length (by omega)
            have k3 : binZ .rem .i64 (z1 : Int) (M : Int) = some (a : Int) := by rw [ha]; exact bin_rem z1 M (by omega)
            have hL32 : ∀ r ∈ LS, r.length < 4294967296 := fun r hr => by have := HL100.out r hr; omega
            obtain ⟨hFl, RR, L, hpre, hnon, hFR, hRQ, hEnd⟩ := join_law LS a hL32 (by rw [← HCE.out]; exact haM)
            obtain ⟨F, hF⟩ : ∃ F, F = fit LS (a / 8) := ⟨_, rfl⟩
            rw [← HCE.out] at hpre hEnd
            rw [← hF] at hFl hFR hRQ hEnd
            obtain ⟨T, hT⟩ : ∃ T, T = flip C a := ⟨_, rfl⟩
            rw [← hT] at hpre
            have hTl : T.length = C.length := by rw [hT, flip_length]
            have HUC : Hid (∀ Φ v w, Has st Φ w → Sees st Φ 1 v C.length (bcells T) → Calls Try.prog 19 #[v] w fun e w' => ∃ G A c B d, e = .returned (.tuple #[.slice A RR.length c, .slice B L.length d]) ∧ SeesL st (sep G Φ) (.slice A RR.length c) RR ∧ Sees st (sep G Φ) 1 (.slice B L.length d) L.length (bcells L) ∧ Has st (sep G Φ) w') := Lib.hid fun Φ v w h hs => unchain_any st Φ T v RR L hpre hnon w h (by rw [hTl]; exact hs) (by omega)
            have K1 := Lib.hid k1
            have K2 := Lib.hid k2
            have K3 := Lib.hid k3
            have HF := Lib.hid hF
            have HT := Lib.hid hT
            have HRQ := Lib.hid hRQ
            have HEND := Lib.hid hEnd
            have hjn : a / 8 < C.length := by omega
            have ha8 : a ≤ 8 * 8000 := by omega
            have h3 := HC.out
            clear k1 k2 k3 hF hT hRQ hEnd hpre hnon hTl hL32 hz1 hM ha hC0
            obtain ⟨cur, r1, r2, r3, r4, h4⟩ := h3.row_open
            rw [Nat.mul_one] at r4 r3
            obtain ⟨q, hq⟩ : ∃ q, q = C.getD (a / 8) 0 := ⟨_, rfl⟩
            have hcv : cur[0 + a / 8]? = some (.int .u8 (q.toNat : Int)) := by
              have e1 : (bcells C)[a / 8]? = some (.int .u8 (q.toNat : Int)) := by
                rw [hq]; exact bgetD hjn
              rw [← r4, List.getElem?_take_of_lt hjn] at e1
              rw [Nat.zero_add]
              simpa using e1
            have hsz : 0 + a / 8 < cur.size := by omega
            have HCV : Hid (∀ w, Has st (sep (blk gs (.cells cur 5 (0, 0))) Φ5) w → w.cell? ⟨gs, 0 + a / 8, none⟩ = some (.int .u8 (q.toNat : Int))) := Lib.hid fun w h => by rw [h.cell]; exact hcv
            have HQQ := Lib.hid hq
            have R3 := Lib.hid r3
            have R4 := Lib.hid r4
            have H4 := Lib.hid h4
            clear h3 hq hcv r3 r4 h4
            go_wp2_with (first
              | (fail)
              | ((first | (with_reducible refine wpList_plain rfl ?_) | ((with_reducible refine wpList_yes _ _ rfl ?_ ?_); (focus rfl))); intro _ hk; (first
                | (refine opw_cmp .lss _ _ _ _ .i64 (i : Int) (LS.length : Int) false rfl rfl rfl HLT.out (hk _ _ ?_))
                | (refine opw_len _ _ _ Try.underlying22 (some ⟨gs, 0, none⟩) C.length cc rfl rfl (hk _ _ ?_))
                | (refine opw_cmp .neq _ _ _ _ .i64 (C.length : Int) (C.length : Int) false rfl rfl rfl HN.out (hk _ _ ?_))
                | (refine opw_cmp .eql _ _ _ _ .i64 (C.length : Int) 0 false rfl rfl rfl HZ.out (hk _ _ ?_))
                | (refine opw_bits .and _ _ _ _ .i64 z 16777215 (z1 : Int) (.inl rfl) rfl rfl rfl K1.out (hk _ _ ?_))
                | (refine opw_bin .mul _ _ _ _ .i64 8 (C.length : Int) (M : Int) rfl rfl rfl K2.out (hk _ _ ?_))
                | (refine opw_bin .rem _ _ _ _ .i64 (z1 : Int) (M : Int) (a : Int) rfl rfl rfl K3.out (hk _ _ ?_))); simp only [Act.put, List.setIfInBounds_toArray, List.set_cons_zero, List.set_cons_succ]))
            refine wp_region_inv3 (fun L u w' => Slots (fun kk => ([some (.slice (some ⟨gs, 0, none⟩) C.length cc), some (.int .i64 ((a : Nat) : Int)), some (.int .i64 (((a / 8) : Nat) : Int)), some (.pointer (some ⟨gs, 0 + (a / 8), none⟩)), some (.int .u8 ((q).toNat : Int)), some (.int .i64 ((a : Nat) : Int)), some (.int .i64 (((a % 8) : Nat) : Int)), some (.int .u8 ((((1 : UInt8) <<< UInt8.ofNat (a % 8))).toNat : Int)), some (.int .u8 (((q ^^^ ((1 : UInt8) <<< UInt8.ofNat (a % 8)))).toNat : Int)), some (.pointer (some ⟨gs, 0 + (a / 8), none⟩)), none] : List (Option Value)).getD kk none) L u ∧ Has st (sep (vsto (L 10) gs cur (cur.setIfInBounds (0 + a / 8) (.int .u8 ((q ^^^ ((1 : UInt8) <<< UInt8.ofNat (a % 8))).toNat : Int))) 5) Φ5) w') (by kernel_rfl) (by decide +kernel) (by decide +kernel) (by kernel_rfl) (by kernel_rfl) (fun u => ⟨Slots.start _ u, H4.out.drew.vsto_start⟩) ?_ ?_
            · refine ⟨?_, ?_, ?_, ?_, ?_, ?_, ?_, ?_, ?_, ?_, ?_, trivial⟩
              · refine RegStep3.plain rfl ?_; rintro L u w1 bA hL hW hD hU ⟨hS, hH⟩ hin hout; exact opw_move _ _ (.inl rfl) ((hout 9 (by kernel_rfl)).trans (by kernel_rfl)) ⟨_, rfl, hS.step 0 _ (.inr rfl), hH⟩
              · refine RegStep3.plain rfl ?_; rintro L u w1 bA hL hW hD hU ⟨hS, hH⟩ hin hout; exact opw_move _ _ (.inl rfl) ((hout 2 (by kernel_rfl)).trans (by kernel_rfl)) ⟨_, rfl, hS.step 1 _ (.inr rfl), hH⟩
              · refine RegStep3.plain rfl ?_; rintro L u w1 bA hL hW hD hU ⟨hS, hH⟩ hin hout; exact opw_bin .quo _ _ _ _ .i64 _ _ _ rfl ((hin 1 79 rfl).trans (hS 1 _ rfl (hW.of 1 (by decide)))) rfl (bin_quo (a) (8) (by decide) (by omega)) ⟨_, rfl, hS.step 2 _ (.inr rfl), hH⟩
              · refine RegStep3.plain rfl ?_; rintro L u w1 bA hL hW hD hU ⟨hS, hH⟩ hin hout; exact opw_indexSl _ _ _ _ rfl Try.underlying22 sizeB (gs) (0) (C.length) (cc) ((a / 8)) ((hin 0 78 rfl).trans (hS 0 _ rfl (hW.of 0 (by decide)))) _ ((hin 2 80 rfl).trans (hS 2 _ rfl (hW.of 2 (by decide)))) hjn ⟨_, rfl, hS.step 3 _ (.inr rfl), hH⟩
              · refine RegStep3.plain rfl ?_; rintro L u w1 bA hL hW hD hU ⟨hS, hH⟩ hin hout; exact opw_load1 _ _ rfl _ Try.underlying5 rfl _ _ ((hin 3 81 rfl).trans (hS 3 _ rfl (hW.of 3 (by decide)))) (HCV.out _ (hH.vsto_old (hD.nots 4 10 4 hL (by decide +kernel)))) ⟨_, rfl, hS.step 4 _ (.inr rfl), hH⟩
              · refine RegStep3.plain rfl ?_; rintro L u w1 bA hL hW hD hU ⟨hS, hH⟩ hin hout; exact opw_move _ _ (.inl rfl) ((hout 2 (by kernel_rfl)).trans (by kernel_rfl)) ⟨_, rfl, hS.step 5 _ (.inr rfl), hH⟩
              · refine RegStep3.plain rfl ?_; rintro L u w1 bA hL hW hD hU ⟨hS, hH⟩ hin hout; exact opw_bin .rem _ _ _ _ .i64 _ _ _ rfl ((hin 5 83 rfl).trans (hS 5 _ rfl (hW.of 5 (by decide)))) rfl (bin_rem (a) (8) (by decide)) ⟨_, rfl, hS.step 6 _ (.inr rfl), hH⟩
              · refine RegStep3.plain rfl ?_; rintro L u w1 bA hL hW hD hU ⟨hS, hH⟩ hin hout; exact opw_shift .shl _ _ _ _ .u8 .i64 _ _ _ rfl rfl ((hin 6 84 rfl).trans (hS 6 _ rfl (hW.of 6 (by decide)))) (shl8 (a % 8) (by omega)) ⟨_, rfl, hS.step 7 _ (.inr rfl), hH⟩
              · refine RegStep3.plain rfl ?_; rintro L u w1 bA hL hW hD hU ⟨hS, hH⟩ hin hout; exact opw_bits .xor _ _ _ _ .u8 _ _ _ (.inr (.inr rfl)) rfl ((hin 4 82 rfl).trans (hS 4 _ rfl (hW.of 4 (by decide)))) ((hin 7 85 rfl).trans (hS 7 _ rfl (hW.of 7 (by decide)))) (xor8 _ _) ⟨_, rfl, hS.step 8 _ (.inr rfl), hH⟩
              · refine RegStep3.plain rfl ?_; rintro L u w1 bA hL hW hD hU ⟨hS, hH⟩ hin hout; exact opw_indexSl _ _ _ _ rfl Try.underlying22 sizeB (gs) (0) (C.length) (cc) ((a / 8)) ((hin 0 78 rfl).trans (hS 0 _ rfl (hW.of 0 (by decide)))) _ ((hin 2 80 rfl).trans (hS 2 _ rfl (hW.of 2 (by decide)))) hjn ⟨_, rfl, hS.step 9 _ (.inr rfl), hH⟩
              · refine RegStep3.plain rfl ?_; rintro L u w1 bA hL hW hD hU ⟨hS, hH⟩ hin hout; exact opw_store1 5 _ _ rfl sizeB gs (0 + a / 8) (.int .u8 (((q ^^^ ((1 : UInt8) <<< UInt8.ofNat (a % 8)))).toNat : Int)) ((hin 9 87 rfl).trans (hS 9 _ rfl (hW.of 9 (by decide)))) ((hin 8 86 rfl).trans (hS 8 _ rfl (hW.of 8 (by decide)))) rfl (hH.vsto_old hL) hsz (fun w9 h9 => ⟨_, rfl, hS.step 10 _ (.inl rfl), (show Has st (sep (vsto true gs cur (cur.setIfInBounds (0 + a / 8) (.int .u8 ((q ^^^ ((1 : UInt8) <<< UInt8.ofNat (a % 8))).toNat : Int))) 5) Φ5) w9 from (Has.vsto_mk (old := cur) h9).cast (by ac_rfl))⟩)
            intro L1 u w8 hL ⟨hS, hH⟩
            have h5 := Has.vsto_new hH (hL 10 (by decide))
            simp only [frame_cons, frame_nil, Act.put, List.setIfInBounds_toArray, List.set_cons_zero, List.set_cons_succ]
            have h6 : Has st (sep (row 5 1 (.slice (some ⟨gs, 0, none⟩) C.length cc) C.length (bcells T)) Φ5) w8 := by
              refine h5.row_of_blk 1 C.length cc r1 r2 (by rw [Array.size_setIfInBounds, R3.out, Nat.mul_one]) ?_
              rw [Array.toList_setIfInBounds, List.take_set, Nat.mul_one, R4.out, Nat.zero_add, HT.out]
              unfold flip
              rw [← HQQ.out]
              simp [bcells, bcell, List.map_set]
            have H6 := Lib.hid h6
            clear hL hS hH h5 h6
            go_wp2_with (go_at_call 19; refine (HUC.out _ _ _ H6.out (sees_row st _ 1 _ _ _ _)).mono ?_; rintro e w9 ⟨G, Ar, cr, Bl, dl, rfl, hsr, hsl, h9⟩; obtain ⟨Φ6, e6⟩ : ∃ Y, Y = sep G (sep (row 5 1 (.slice (some ⟨gs, 0, none⟩) C.length cc) C.length (bcells T)) Φ5) := ⟨_, rfl⟩; rw [← e6] at hsr hsl h9; have U6 : Hid (∀ w, Has st Φ6 w → Has st Φ5 w) := Lib.hid (by rw [e6]; exact fun w h => h.right.right); have SR := Lib.hid hsr; have C6 := Lib.hid h9; have hrc := (hsr.choose_spec.1 _ h9).le; clear hsr hsl h9 e6)
            have SL6 : Hid (SeesL st Φ6 (.slice Ab LS.length cL) LS) := Lib.hid (SLL.out.widen (fun w h => U5.out _ (U6.out _ h)))
            have hlc := (SL6.out.choose_spec.1 _ C6.out).le
            go_loopw [16, 17] (CutI st Φ6 LS F) (fun v16 _ _ => LS.length - (intOf v16).toNat)
            case atStart => exact ⟨0, 0, Nat.zero_le _, rfl, rfl, Lib.hid (by simp [chainB]), C6.out⟩
            case round =>
              obtain ⟨j, e1, hj, rfl, rfl, HE1, h3⟩ := hrel
              have HC := Lib.hid h3
              clear h3
              have hlt : j < LS.length := by omega
              obtain ⟨vs, hv1, hv2⟩ := SL6.out
              obtain ⟨Br, dr, hb, _⟩ := hv2 j hlt
              obtain ⟨r, hr⟩ : ∃ r, r = LS[j] := ⟨_, rfl⟩
              rw [← hr] at hb
              obtain ⟨b1, o1, hA, _⟩ := (hv1 _ HC.out).at (by omega)
              subst hA
              have hcell : wr.cell? ⟨b1, o1 + j, none⟩ = some (.slice Br r.length dr) := (hv1 _ HC.out).cell hb
              have hps := chain_take_succ LS j hlt
              rw [← hr, ← HE1.out] at hps
              have hrl : r.length ≤ 100 := by rw [hr]; exact HL100.out _ (List.getElem_mem hlt)
              have he1 : e1 ≤ 8000 := by
                have h2 := chainB_take_le LS j
                rw [← HE1.out, ← HCE.out] at h2
                omega
              obtain ⟨f1, hf1'⟩ : ∃ f, f = e1 + 8 := ⟨_, rfl⟩
              obtain ⟨f2, hf2'⟩ : ∃ f, f = f1 + r.length := ⟨_, rfl⟩
              obtain ⟨g1, hg1⟩ : ∃ f, f = 8 + r.length := ⟨_, rfl⟩
              obtain ⟨k, hk8⟩ : ∃ k, k = a / 8 := ⟨_, rfl⟩
              have c0 : binZ .quo .i64 (a : Int) 8 = some (k : Int) := by rw [hk8]; exact bin_quo a 8 (by omega) (by omega)
              have c1 : binZ .add .i64 (e1 : Int) 8 = some (f1 : Int) := by rw [hf1']; exact bin_add e1 8 (by omega)
              have c2 : binZ .add .i64 (f1 : Int) (r.length : Int) = some (f2 : Int) := by rw [hf2']; exact bin_add f1 r.length (by omega)
              have c3 : binZ .add .i64 8 (r.length : Int) = some (g1 : Int) := by rw [hg1]; exact bin_add 8 r.length (by omega)
              have c4 : binZ .add .i64 (e1 : Int) (g1 : Int) = some (f2 : Int) := by rw [show f2 = e1 + g1 by omega]; exact bin_add e1 g1 (by omega)
              rw [show e1 + 8 + r.length = f2 by omega] at hps
              have K0 := Lib.hid c0
              have K5 := Lib.hid c1
              have K6 := Lib.hid c2
              have K7 := Lib.hid c3
              have K8 := Lib.hid c4
              have HCELL := Lib.hid hcell
              have HPS := Lib.hid hps
              have HK8 := Lib.hid hk8
              clear hv1 hv2 hb hcell hps c0 c1 c2 c3 c4 hr hf1' hf2' hg1 hk8
              by_cases hfit : f2 ≤ k
              · have HLE : Hid (cmpZ .leq (f2 : Int) (k : Int) = some true) := Lib.hid (by simp only [cmpZ]; simp; omega)
                have hj1 : j + 1 ≤ F := by rw [HF.out]; exact fit_max LS (a / 8) (j + 1) hlt (by rw [HPS.out, ← HK8.out]; exact hfit)
                clear hfit
                go_wp2_with (first
                  | (fail)
                  | ((first | (with_reducible refine wpList_plain rfl ?_) | ((with_reducible refine wpList_yes _ _ rfl ?_ ?_); (focus rfl))); intro _ hk; (first
                    | (refine opw_bin .add _ _ _ _ .i64 (e1 : Int) 8 (f1 : Int) rfl rfl rfl K5.out (hk _ _ ?_))
                    | (refine opw_bin .add _ _ _ _ .i64 (f1 : Int) (r.length : Int) (f2 : Int) rfl rfl rfl K6.out (hk _ _ ?_))
                    | (refine opw_bin .quo _ _ _ _ .i64 (a : Int) 8 (k : Int) rfl rfl rfl K0.out (hk _ _ ?_))
                    | (refine opw_indexSl 35 22 _ _ rfl Try.underlying35 infoS b1 o1 LS.length cL j rfl .i64 rfl hlt (hk _ _ ?_))
                    | (refine opw_load1 22 _ rfl _ Try.underlying22 rfl ⟨b1, o1 + j, none⟩ (.slice Br r.length dr) rfl HCELL.out (hk _ _ ?_))
                    | (refine opw_len _ _ _ Try.underlying22 Br r.length dr rfl rfl (hk _ _ ?_))
                    | (refine opw_cmp .leq _ _ _ _ .i64 (f2 : Int) (k : Int) true rfl rfl rfl HLE.out (hk _ _ ?_))
                    | (refine opw_bin .add _ _ _ _ .i64 8 (r.length : Int) (g1 : Int) rfl rfl rfl K7.out (hk _ _ ?_))
                    | (refine opw_bin .add _ _ _ _ .i64 (e1 : Int) (g1 : Int) (f2 : Int) rfl rfl rfl K8.out (hk _ _ ?_))); simp only [Act.put, List.setIfInBounds_toArray, List.set_cons_zero, List.set_cons_succ]))
                go_wp2
                go_roundw
                case rel =>
                  have hrel2 : CutI st Φ6 LS F (.int .i64 ((j : Int) + 1)) (.int .i64 (f2 : Int)) wr := ⟨j + 1, f2, hj1, by go_num, rfl, Lib.hid HPS.out.symm, HC.out⟩
                  first | exact hrel2 | ((repeat apply Exists.intro); exact ⟨hrel2, rfl⟩)
                case measure => simp [intOf]; omega
              · have HLE : Hid (cmpZ .leq (f2 : Int) (k : Int) = some false) := Lib.hid (by simp only [cmpZ]; simp; omega)
                have hjF : j = F := by
                  rcases Nat.lt_or_ge j F with h | h
                  · exfalso
                    have h1 := fit_pre LS (a / 8)
                    rw [← HF.out, ← HK8.out] at h1
                    have h2 := chainB_take_le (LS.take F) (j + 1)
                    rw [List.take_take, Nat.min_eq_left h, HPS.out] at h2
                    omega
                  · omega
                have hFk : j ≤ LS.length := by omega
                have hRj : j ≤ RR.length := by omega
                obtain ⟨Q, hQ⟩ : ∃ Q, Q = LS.take j := ⟨_, rfl⟩
                have SQ : Hid (SeesL st Φ6 (.slice (subA 1 (some ⟨b1, o1, none⟩) 0 cL) j cL) Q) := Lib.hid (by have h1 := SL6.out.take j hFk; rw [hQ]; exact h1)
                have hRR : RR.take j = Q := by rw [hQ, hjF]; exact HRQ.out
                have hEE : e1 + 4 ≤ k → RR = Q ∧ L.length = C.length - e1 := fun h => by
                  have h1 := HEND.out
                  rw [← hjF, ← HE1.out, ← HK8.out, ← hQ] at h1
                  exact h1 h
                have hec : e1 ≤ C.length := by
                  have h2 := chainB_take_le LS j
                  rw [← HE1.out, ← HCE.out] at h2
                  exact h2
                obtain ⟨e4, he4⟩ : ∃ f, f = e1 + 4 := ⟨_, rfl⟩
                have c5 : binZ .add .i64 (e1 : Int) 4 = some (e4 : Int) := by rw [he4]; exact bin_add e1 4 (by omega)
                have K9 := Lib.hid c5
                have HRR := Lib.hid hRR
                clear hQ hRR hfit c5 hjF
                by_cases h4 : k < e4
                · have H44 : Hid (cmpZ .lss (k : Int) (e4 : Int) = some true) := Lib.hid (by simp only [cmpZ]; simp; omega)
                  have SRj : Hid (SeesL st Φ6 (.slice (subA 1 Ar 0 cr) j cr) Q) := Lib.hid (by have h1 := SR.out.take j hRj; rw [HRR.out] at h1; exact h1)
                  have hG : cmpZ .geq (RR.length : Int) (j : Int) = some true := by simp only [cmpZ]; simp; omega
                  clear h4 hEE he4
                  go_wp2_with (first
                    | (fail)
                    | ((first | (with_reducible refine wpList_plain rfl ?_) | ((with_reducible refine wpList_yes _ _ rfl ?_ ?_); (focus rfl))); intro _ hk; (first
                      | (refine opw_bin .add _ _ _ _ .i64 (e1 : Int) 8 (f1 : Int) rfl rfl rfl K5.out (hk _ _ ?_))
                      | (refine opw_bin .add _ _ _ _ .i64 (f1 : Int) (r.length : Int) (f2 : Int) rfl rfl rfl K6.out (hk _ _ ?_))
                      | (refine opw_bin .quo _ _ _ _ .i64 (a : Int) 8 (k : Int) rfl rfl rfl K0.out (hk _ _ ?_))
                      | (refine opw_indexSl 35 22 _ _ rfl Try.underlying35 infoS b1 o1 LS.length cL j rfl .i64 rfl hlt (hk _ _ ?_))
                      | (refine opw_load1 22 _ rfl _ Try.underlying22 rfl ⟨b1, o1 + j, none⟩ (.slice Br r.length dr) rfl HCELL.out (hk _ _ ?_))
                      | (refine opw_len _ _ _ Try.underlying22 Br r.length dr rfl rfl (hk _ _ ?_))
                      | (refine opw_cmp .leq _ _ _ _ .i64 (f2 : Int) (k : Int) false rfl rfl rfl HLE.out (hk _ _ ?_))
                      | (refine opw_bin .add _ _ _ _ .i64 (e1 : Int) 4 (e4 : Int) rfl rfl rfl K9.out (hk _ _ ?_))
                      | (refine opw_cmp .lss _ _ _ _ .i64 (k : Int) (e4 : Int) true rfl rfl rfl H44.out (hk _ _ ?_))); simp only [Act.put, List.setIfInBounds_toArray, List.set_cons_zero, List.set_cons_succ]))
                  refine wp_region_inv3 (fun L u w' => Slots (fun kk => ([some (.slice Ar RR.length cr), some (.int .i64 ((RR.length : Nat) : Int)), some (.int .i64 ((j : Nat) : Int)), some (.bool true), some (.bool true), some (.slice Ar RR.length cr), some (.int .i64 ((j : Nat) : Int)), some (.slice (subA 1 Ar 0 cr) j cr), some (.slice (some ⟨b1, o1, none⟩) LS.length cL), some (.int .i64 ((j : Nat) : Int)), some (.slice (subA 1 (some ⟨b1, o1, none⟩) 0 cL) j cL), some (.bool true), some (.bool true), some (.bool true)] : List (Option Value)).getD kk none) L u ∧ Has st Φ6 w') (by kernel_rfl) (by decide +kernel) (by decide +kernel) (by kernel_rfl) (by kernel_rfl) (fun u => ⟨Slots.start _ u, HC.out.drew⟩) ?_ ?_
                  · refine ⟨?_, ?_, ?_, ?_, ?_, ?_, ?_, ?_, ?_, ?_, ?_, ?_, ?_, ?_, trivial⟩
                    · refine RegStep3.plain rfl ?_; rintro L u w1 bA hL hW hD hU ⟨hS, hH⟩ hin hout; exact opw_move _ _ (.inl rfl) ((hout 14 (by kernel_rfl)).trans (by kernel_rfl)) ⟨_, rfl, hS.step 0 _ (.inr rfl), hH⟩
                    · refine RegStep3.plain rfl ?_; rintro L u w1 bA hL hW hD hU ⟨hS, hH⟩ hin hout; exact opw_len _ _ _ Try.underlying35 Ar RR.length cr rfl ((hin 0 119 rfl).trans (hS 0 _ rfl (hW.of 0 (by decide)))) ⟨_, rfl, hS.step 1 _ (.inr rfl), hH⟩
                    · refine RegStep3.plain rfl ?_; rintro L u w1 bA hL hW hD hU ⟨hS, hH⟩ hin hout; exact opw_move _ _ (.inl rfl) ((hout 16 (by kernel_rfl)).trans (by kernel_rfl)) ⟨_, rfl, hS.step 2 _ (.inr rfl), hH⟩
                    · refine RegStep3.plain rfl ?_; rintro L u w1 bA hL hW hD hU ⟨hS, hH⟩ hin hout; exact opw_cmp .geq _ _ _ _ .i64 _ _ true rfl ((hin 1 120 rfl).trans (hS 1 _ rfl (hW.of 1 (by decide)))) ((hin 2 121 rfl).trans (hS 2 _ rfl (hW.of 2 (by decide)))) hG ⟨_, rfl, hS.step 3 _ (.inr rfl), hH⟩
                    · refine RegStep3.plain rfl ?_; rintro L u w1 bA hL hW hD hU ⟨hS, hH⟩ hin hout; exact opw_move _ _ (.inl rfl) ((hin 3 122 rfl).trans (hS 3 _ rfl (hW.of 3 (by decide)))) ⟨_, rfl, hS.step 4 _ (.inr rfl), hH⟩
                    · refine RegStep3.yes 4 true rfl (fun L u w1 hW hI => hI.1 4 _ rfl (hW.of 4 (by decide))) ?_; rintro L u w1 bA hL hW hD hU ⟨hS, hH⟩ hin hout; exact opw_move _ _ (.inl rfl) ((hout 14 (by kernel_rfl)).trans (by kernel_rfl)) ⟨_, rfl, hS.step 5 _ (.inr rfl), hH⟩
                    · refine RegStep3.yes 4 true rfl (fun L u w1 hW hI => hI.1 4 _ rfl (hW.of 4 (by decide))) ?_; rintro L u w1 bA hL hW hD hU ⟨hS, hH⟩ hin hout; exact opw_move _ _ (.inl rfl) ((hout 16 (by kernel_rfl)).trans (by kernel_rfl)) ⟨_, rfl, hS.step 6 _ (.inr rfl), hH⟩
                    · refine RegStep3.yes 4 true rfl (fun L u w1 hW hI => hI.1 4 _ rfl (hW.of 4 (by decide))) ?_; rintro L u w1 bA hL hW hD hU ⟨hS, hH⟩ hin hout; exact opw_slH 35 22 _ _ rfl Try.underlying35 infoS Ar RR.length cr ((hin 5 124 rfl).trans (hS 5 _ rfl (hW.of 5 (by decide)))) hrc .i64 j ((hin 6 125 rfl).trans (hS 6 _ rfl (hW.of 6 (by decide)))) hRj ⟨_, rfl, hS.step 7 _ (.inr rfl), hH⟩
                    · refine RegStep3.yes 4 true rfl (fun L u w1 hW hI => hI.1 4 _ rfl (hW.of 4 (by decide))) ?_; rintro L u w1 bA hL hW hD hU ⟨hS, hH⟩ hin hout; exact opw_move _ _ (.inl rfl) ((hout 10 (by kernel_rfl)).trans (by kernel_rfl)) ⟨_, rfl, hS.step 8 _ (.inr rfl), hH⟩
                    · refine RegStep3.yes 4 true rfl (fun L u w1 hW hI => hI.1 4 _ rfl (hW.of 4 (by decide))) ?_; rintro L u w1 bA hL hW hD hU ⟨hS, hH⟩ hin hout; exact opw_move _ _ (.inl rfl) ((hout 16 (by kernel_rfl)).trans (by kernel_rfl)) ⟨_, rfl, hS.step 9 _ (.inr rfl), hH⟩
                    · refine RegStep3.yes 4 true rfl (fun L u w1 hW hI => hI.1 4 _ rfl (hW.of 4 (by decide))) ?_; rintro L u w1 bA hL hW hD hU ⟨hS, hH⟩ hin hout; exact opw_slH 35 22 _ _ rfl Try.underlying35 infoS (some ⟨b1, o1, none⟩) LS.length cL ((hin 8 127 rfl).trans (hS 8 _ rfl (hW.of 8 (by decide)))) hlc .i64 j ((hin 9 128 rfl).trans (hS 9 _ rfl (hW.of 9 (by decide)))) hFk ⟨_, rfl, hS.step 10 _ (.inr rfl), hH⟩
                    · refine RegStep3.yes 4 true rfl (fun L u w1 hW hI => hI.1 4 _ rfl (hW.of 4 (by decide))) ?_; rintro L u w1 bA hL hW hD hU ⟨hS, hH⟩ hin hout; exact opw_call_ret _ _ _ [(.slice (subA 1 Ar 0 cr) j cr), (.slice (subA 1 (some ⟨b1, o1, none⟩) 0 cL) j cL)] rfl (by kernel_rfl) (list2 ((hin 7 126 rfl).trans (hS 7 _ rfl (hW.of 7 (by decide)))) (list2 ((hin 10 129 rfl).trans (hS 10 _ rfl (hW.of 10 (by decide)))) rfl)) (samel_self st Φ6 Q _ _ _ hH SRj.out SQ.out) (fun e w2 he => by obtain ⟨rfl, h2⟩ := he; exact ⟨_, rfl, _, rfl, hS.step 11 _ (.inr rfl), h2⟩)
                    · refine RegStep3.plain rfl ?_; rintro L u w1 bA hL hW hD hU ⟨hS, hH⟩ hin hout; exact opw_pickT _ _ _ _ rfl ((hin 4 123 rfl).trans (hS 4 _ rfl (hW.of 4 (by decide)))) ((hin 11 130 rfl).trans (hS 11 _ rfl (hW.of 11 (by decide)))) ⟨_, rfl, hS.step 12 _ (.inr rfl), hH⟩
                    · refine RegStep3.plain rfl ?_; rintro L u w1 bA hL hW hD hU ⟨hS, hH⟩ hin hout; exact opw_move _ _ (.inr rfl) ((hin 12 131 rfl).trans (hS 12 _ rfl (hW.of 12 (by decide)))) ⟨_, rfl, hS.step 13 _ (.inr rfl), hH⟩
                  intro L u wE hL ⟨hS, hH⟩
                  have E := hS 13 _ rfl (hL 13 (by decide))
                  simp only [frame_cons, frame_nil, E, Act.put, List.setIfInBounds_toArray, List.set_cons_zero, List.set_cons_succ]
                  have HE := Lib.hid hH
                  clear hL hS hH E
                  go_wp2
                  go_ret
                  exact ⟨rfl, (U1.out _ (U2.out _ (U3.out _ (U4.out _ (U5.out _ (U6.out _ HE.out))))))⟩
                · have H44 : Hid (cmpZ .lss (k : Int) (e4 : Int) = some false) := Lib.hid (by simp only [cmpZ]; simp; omega)
                  obtain ⟨rfl, hLe⟩ := hEE (by omega)
                  obtain ⟨m, hm⟩ : ∃ m, m = C.length - e1 := ⟨_, rfl⟩
                  have c6 : binZ .sub .i64 (C.length : Int) (e1 : Int) = some (m : Int) := by rw [hm]; exact bin_sub C.length e1 hec (by omega)
                  have c7 : cmpZ .eql (L.length : Int) (m : Int) = some true := by simp only [cmpZ]; simp; omega
                  have K10 := Lib.hid c6
                  have K11 := Lib.hid c7
                  clear h4 hEE he4 hLe hm c6 c7
                  go_wp2_with (first
                    | (go_at_call 20; refine (samel_self st Φ6 RR _ _ _ HC.out SR.out SQ.out).mono ?_; rintro e w8 ⟨rfl, h8⟩; have HE := Lib.hid h8; clear h8)
                    | ((first | (with_reducible refine wpList_plain rfl ?_) | ((with_reducible refine wpList_yes _ _ rfl ?_ ?_); (focus rfl))); intro _ hk; (first
                      | (refine opw_bin .add _ _ _ _ .i64 (e1 : Int) 8 (f1 : Int) rfl rfl rfl K5.out (hk _ _ ?_))
                      | (refine opw_bin .add _ _ _ _ .i64 (f1 : Int) (r.length : Int) (f2 : Int) rfl rfl rfl K6.out (hk _ _ ?_))
                      | (refine opw_bin .quo _ _ _ _ .i64 (a : Int) 8 (k : Int) rfl rfl rfl K0.out (hk _ _ ?_))
                      | (refine opw_indexSl 35 22 _ _ rfl Try.underlying35 infoS b1 o1 LS.length cL j rfl .i64 rfl hlt (hk _ _ ?_))
                      | (refine opw_load1 22 _ rfl _ Try.underlying22 rfl ⟨b1, o1 + j, none⟩ (.slice Br r.length dr) rfl HCELL.out (hk _ _ ?_))
                      | (refine opw_len _ _ _ Try.underlying22 Br r.length dr rfl rfl (hk _ _ ?_))
                      | (refine opw_cmp .leq _ _ _ _ .i64 (f2 : Int) (k : Int) false rfl rfl rfl HLE.out (hk _ _ ?_))
                      | (refine opw_bin .add _ _ _ _ .i64 (e1 : Int) 4 (e4 : Int) rfl rfl rfl K9.out (hk _ _ ?_))
                      | (refine opw_cmp .lss _ _ _ _ .i64 (k : Int) (e4 : Int) false rfl rfl rfl H44.out (hk _ _ ?_))
                      | (refine opw_slH 35 22 _ _ rfl Try.underlying35 infoS (some ⟨b1, o1, none⟩) LS.length cL rfl hlc .i64 j rfl hFk (hk _ _ ?_))
                      | (refine opw_len _ _ _ Try.underlying22 Bl L.length dl rfl rfl (hk _ _ ?_))
                      | (refine opw_len _ _ _ Try.underlying22 (some ⟨gs, 0, none⟩) C.length cc rfl rfl (hk _ _ ?_))
                      | (refine opw_bin .sub _ _ _ _ .i64 (C.length : Int) (e1 : Int) (m : Int) rfl rfl rfl K10.out (hk _ _ ?_))
                      | (refine opw_cmp .eql _ _ _ _ .i64 (L.length : Int) (m : Int) true rfl rfl rfl K11.out (hk _ _ ?_))); simp only [Act.put, List.setIfInBounds_toArray, List.set_cons_zero, List.set_cons_succ]))
                  go_ret
                  exact ⟨rfl, (U1.out _ (U2.out _ (U3.out _ (U4.out _ (U5.out _ (U6.out _ HE.out))))))⟩
end Go.Proofs.Ytbiacehmfbopfaa
