/-
  coldstorelaw04.SealCuts.
-/
import Derived.Test.YtbiacehmfbopfaaCutLaw
namespace Go.Proofs.Ytbiacehmfbopfaa
open Go.RowKit Go.Sl Go.Crc
set_option linter.unusedVariables false
set_option linter.unusedSimpArgs false
def CutI (st : World) (R : HProp) (ls : List (List UInt8)) (F : Nat) (v8 v9 : Value) (wr : World) : Prop := ∃ j e : Nat, j ≤ F ∧ v8 = .int .i64 ((j : Nat) : Int) ∧ v9 = .int .i64 ((e : Nat) : Int) ∧ Hid (e = (chainB (ls.take j)).length) ∧ Has st R wr
theorem samel_self (st : World) (R : HProp) (ls : List (List UInt8)) (u v : Value) (w : World) (h : Has st R w) (hu : SeesL st R u ls) (hv : SeesL st R v ls) : Calls Try.prog 20 #[u, v] w fun e w' => e = .returned (.bool true) ∧ Has st R w' := by
  have := samel_any st R ls ls u v w h hu hv
  rw [beq_self_eq_true] at this; exact this
set_option maxRecDepth 100000 in
set_option maxHeartbeats 4000000 in
theorem cuts_law (st : World) (R : HProp) (ls : List (List UInt8)) (V : Option Addr) (k : Nat) (hs : SeesL st R (.slice V ls.length k) ls) (z : Int) (w : World) (h : Has st R w) :
    Calls Try.prog 5 #[.slice V ls.length k, .int .i64 z] w fun e w' => e = .returned (.bool true) ∧ Has st R w' := by
  obtain ⟨Φ0, e0⟩ : ∃ X, X = R := ⟨_, rfl⟩
  rw [← e0] at h hs ⊢
  clear e0
  have hVk := (hs.choose_spec.1 w h).le
  have C0 := Lib.hid h
  have SL := Lib.hid hs
  clear h hs
  cases hfw : fewB ls with
  | false =>
    have HFW : Hid (∀ Φ w, Has st Φ w → SeesL st Φ (.slice V ls.length k) ls → Calls Try.prog 17 #[.slice V ls.length k] w fun e w' => e = .returned (.bool false) ∧ w = w') := Lib.hid fun Φ w h hs => by
      have := few_any st Φ ls _ w h hs
      rw [hfw] at this; exact this
    clear hfw
    go_enter Try.func5, Try.ntmps5
    go_wp2_with (first
      | (have _k := C1; go_at_call 17; refine (HFW.out _ _ C1.out (SL.out.widen (fun w h => (U1.out _ h)))).mono ?_; rintro e w9 ⟨rfl, rfl⟩)
      | (have _k := C0; go_at_call 9; refine (alive_any st Φ0 _ C0.out).mono ?_; rintro e w9 ⟨rfl, h9⟩; obtain ⟨Φ1, e1⟩ : ∃ X : HProp, X = Φ0 := ⟨_, rfl⟩; rw [← e1] at h9; have U1 : Hid (∀ w, Has st Φ1 w → Has st Φ0 w) := Lib.hid (by rw [e1]; exact fun w h => h); have C1 := Lib.hid h9; clear h9 e1)
      | ((first | (with_reducible refine wpList_plain rfl ?_) | ((with_reducible refine wpList_yes _ _ rfl ?_ ?_); (focus rfl))); intro _ hk; (first
        | (fail)); simp only [Act.put, List.setIfInBounds_toArray, List.set_cons_zero, List.set_cons_succ]))
    go_ret
    exact ⟨rfl, (U1.out _ C1.out)⟩
  | true =>
    have HFW : Hid (∀ Φ w, Has st Φ w → SeesL st Φ (.slice V ls.length k) ls → Calls Try.prog 17 #[.slice V ls.length k] w fun e w' => e = .returned (.bool true) ∧ w = w') := Lib.hid fun Φ w h hs => by
      have := few_any st Φ ls _ w h hs
      rw [hfw] at this; exact this
    obtain ⟨hf1, hf2⟩ := few_len ls hfw
    have hcl := chain_len ls hf1
    obtain ⟨C, hC⟩ : ∃ C, C = chainB ls := ⟨_, rfl⟩
    rw [← hC] at hcl
    obtain ⟨z1, hz1⟩ : ∃ z1 : Nat, (z1 : Int) = z % 65536 := ⟨(z % 65536).toNat, by omega⟩
    obtain ⟨M, hM⟩ : ∃ M, M = C.length + 1 := ⟨_, rfl⟩
    obtain ⟨cut, hcut⟩ : ∃ cut, cut = z1 % M := ⟨_, rfl⟩
    have hcC : cut ≤ C.length := by have := Nat.mod_lt z1 (show M > 0 by omega); omega
    have b1 : bits .and .i64 z 65535 = (z1 : Int) := by rw [hz1]; exact i64_and16 z
    have b2 : binZ .add .i64 (C.length : Int) 1 = some (M : Int) := by rw [hM]; exact bin_add C.length 1 (by omega)
    have b3 : binZ .rem .i64 (z1 : Int) (M : Int) = some (cut : Int) := by rw [hcut]; exact bin_rem z1 M (by omega)
    obtain ⟨F, hF⟩ : ∃ F, F = fit ls cut := ⟨_, rfl⟩
    have hFl : F ≤ ls.length := by rw [hF]; exact fit_le ls cut
    have hFp : (chainB (ls.take F)).length ≤ cut := by rw [hF]; exact fit_pre ls cut
    obtain ⟨e, he⟩ : ∃ e, e = (chainB (ls.take F)).length := ⟨_, rfl⟩
    rw [← he] at hFp
    obtain ⟨T, hT⟩ : ∃ T, T = C.take cut := ⟨_, rfl⟩
    obtain ⟨Q, hQ⟩ : ∃ Q, Q = ls.take F := ⟨_, rfl⟩
    obtain ⟨L, hL⟩ : ∃ L, L = T.drop e := ⟨_, rfl⟩
    have hTl : T.length = cut := by rw [hT, List.length_take]; omega
    have hQl : Q.length = F := by rw [hQ, List.length_take]; omega
    have hr32 : ∀ r ∈ ls, r.length < 4294967296 := fun r hr => by have := hf1 r hr; omega
    have hpre : Pre T Q L := by rw [hL, hT, hQ, hC, he]; exact pre_cut ls cut F hr32 hFl (by rw [← he]; exact hFp)
    have hnon : parse1 L = none := by rw [hL, hT, hC, he, hF]; exact cut_none ls cut hr32 (by rw [← hC]; exact hcC)
    have HCH : Hid (∀ Φ w, Has st Φ w → SeesL st Φ (.slice V ls.length k) ls → Calls Try.prog 18 #[.slice V ls.length k] w fun e w' => ∃ A c, e = .returned (.slice A C.length c) ∧ Has st (sep (row 5 1 (.slice A C.length c) C.length (bcells C)) Φ) w') := Lib.hid fun Φ w h hs => by rw [hC]; exact chain_any st Φ ls _ w h hs (by rw [← hC]; omega)
    have HUC : Hid (∀ Φ A c w, Has st Φ w → Sees st Φ 1 (.slice A cut c) cut (bcells T) → Calls Try.prog 19 #[.slice A cut c] w fun e w' => ∃ G A c B d, e = .returned (.tuple #[.slice A Q.length c, .slice B L.length d]) ∧ SeesL st (sep G Φ) (.slice A Q.length c) Q ∧ Sees st (sep G Φ) 1 (.slice B L.length d) L.length (bcells L) ∧ Has st (sep G Φ) w') := Lib.hid fun Φ A c w h hs => unchain_any st Φ T _ Q L hpre hnon w h (by rw [hTl]; exact hs) (by omega)
    have hLd : L = (C.drop e).take (cut - e) := by rw [hL, hT, List.drop_take]
    have HQ := Lib.hid hQ
    have HLD := Lib.hid hLd
    have HT := Lib.hid hT
    have HE := Lib.hid he
    have HF := Lib.hid hF
    have B1 := Lib.hid b1
    have B2 := Lib.hid b2
    have B3 := Lib.hid b3
    have hLl : L.length = cut - e := by rw [hL, List.length_drop, hTl]
    have HLL := Lib.hid hLl
    have hC4 : C.length ≤ 4000 := by omega
    have HF1 := Lib.hid hf1
    clear hfw hC hz1 hM hcut b1 b2 b3 hF he hT hQ hL hTl hQl hr32 hpre hnon hLd hLl hf1 hcl
    go_enter Try.func5, Try.ntmps5
    go_wp2_with (first
      | (have _k := C2; go_at_call 19; refine (HUC.out _ _ _ _ C2.out (by rw [HT.out]; exact Sc.out.takeB cut hcC)).mono ?_; rintro e w9 ⟨G, Ar, cr, Bl, dl, rfl, hsr, hsl, h9⟩; obtain ⟨Φ3, e3⟩ : ∃ X : HProp, X = sep G Φ2 := ⟨_, rfl⟩; rw [← e3] at h9; have U3 : Hid (∀ w, Has st Φ3 w → Has st Φ2 w) := Lib.hid (by rw [e3]; exact fun w h => h.right); have Sr : Hid (SeesL st Φ3 (.slice Ar Q.length cr) Q) := Lib.hid (by rw [e3]; exact hsr); have Sl : Hid (Sees st Φ3 1 (.slice Bl L.length dl) L.length (bcells L)) := Lib.hid (by rw [e3]; exact hsl); have C3 := Lib.hid h9; clear h9 e3)
      | (have _k := C1; go_at_call 18; refine (HCH.out _ _ C1.out (SL.out.widen (fun w h => (U1.out _ h)))).mono ?_; rintro e w9 ⟨Ac, cc, rfl, h9⟩; obtain ⟨Φ2, e2⟩ : ∃ X : HProp, X = sep (row 5 1 (.slice Ac C.length cc) C.length (bcells C)) Φ1 := ⟨_, rfl⟩; rw [← e2] at h9; have U2 : Hid (∀ w, Has st Φ2 w → Has st Φ1 w) := Lib.hid (by rw [e2]; exact fun w h => h.right); have Sc : Hid (Sees st Φ2 1 (.slice Ac C.length cc) C.length (bcells C)) := Lib.hid (by rw [e2]; exact sees_row st _ 1 _ _ _ _); have C2 := Lib.hid h9; clear h9 e2)
      | (have _k := C1; go_at_call 17; refine (HFW.out _ _ C1.out (SL.out.widen (fun w h => (U1.out _ h)))).mono ?_; rintro e w9 ⟨rfl, rfl⟩)
      | (have _k := C0; go_at_call 9; refine (alive_any st Φ0 _ C0.out).mono ?_; rintro e w9 ⟨rfl, h9⟩; obtain ⟨Φ1, e1⟩ : ∃ X : HProp, X = Φ0 := ⟨_, rfl⟩; rw [← e1] at h9; have U1 : Hid (∀ w, Has st Φ1 w → Has st Φ0 w) := Lib.hid (by rw [e1]; exact fun w h => h); have C1 := Lib.hid h9; clear h9 e1)
      | ((first | (with_reducible refine wpList_plain rfl ?_) | ((with_reducible refine wpList_yes _ _ rfl ?_ ?_); (focus rfl))); intro _ hk; (first
        | (refine opw_len _ _ _ Try.underlying22 Ac C.length cc rfl rfl (hk _ _ ?_))
        | (refine opw_bits .and _ _ _ _ .i64 z 65535 (z1 : Int) (.inl rfl) rfl rfl rfl B1.out (hk _ _ ?_))
        | (refine opw_bin .add _ _ _ _ .i64 (C.length : Int) 1 (M : Int) rfl rfl rfl B2.out (hk _ _ ?_))
        | (refine opw_bin .rem _ _ _ _ .i64 (z1 : Int) (M : Int) (cut : Int) rfl rfl rfl B3.out (hk _ _ ?_))
        | (refine opw_slH 22 5 _ _ rfl Try.underlying22 sizeB Ac C.length cc rfl ((Sc.out _ C2.out).le) .i64 cut rfl hcC (hk _ _ ?_))); simp only [Act.put, List.setIfInBounds_toArray, List.set_cons_zero, List.set_cons_succ]))
    have SLk : Hid (SeesL st Φ3 (.slice V ls.length k) ls) := Lib.hid (SL.out.widen (fun w h => (U1.out _ (U2.out _ (U3.out _ h)))))
    have hcc := (Sc.out _ (U3.out _ C3.out)).le
    go_loopw [8, 9] (CutI st Φ3 ls F) (fun v8 _ _ => ls.length - (intOf v8).toNat)
    case atStart => exact ⟨0, 0, Nat.zero_le _, rfl, rfl, Lib.hid (by simp [chainB]), C3.out⟩
    case round =>
      obtain ⟨j, e1, hj, rfl, rfl, HE1, h3⟩ := hrel
      have HC := Lib.hid h3
      clear h3
      by_cases hlt : j < ls.length
      · have HLT : Hid (cmpZ .lss (j : Int) (ls.length : Int) = some true) := Lib.hid (by simp only [cmpZ]; simp; omega)
        obtain ⟨vs, hv1, hv2⟩ := SLk.out
        obtain ⟨B, d, hb, _⟩ := hv2 j hlt
        obtain ⟨r, hr⟩ : ∃ r, r = ls[j] := ⟨_, rfl⟩
        rw [← hr] at hb
        obtain ⟨b1, o1, hA, _⟩ := (hv1 _ HC.out).at (by omega)
        subst hA
        have hcell : wr.cell? ⟨b1, o1 + j, none⟩ = some (.slice B r.length d) := (hv1 _ HC.out).cell hb
        have hps := chain_take_succ ls j hlt
        rw [← hr, ← HE1.out] at hps
        have hrl : r.length ≤ 100 := by rw [hr]; exact HF1.out _ (List.getElem_mem hlt)
        have he1 : e1 ≤ 4000 := by
          have h1 := fit_pre ls cut
          rw [← HF.out, ← HE.out] at h1
          have h2 := chainB_take_le (ls.take F) j
          rw [List.take_take, Nat.min_eq_left hj, ← HE1.out, ← HE.out] at h2
          omega
        obtain ⟨f1, hf1'⟩ : ∃ f, f = e1 + 8 := ⟨_, rfl⟩
        obtain ⟨f2, hf2'⟩ : ∃ f, f = f1 + r.length := ⟨_, rfl⟩
        obtain ⟨g1, hg1⟩ : ∃ f, f = 8 + r.length := ⟨_, rfl⟩
        have c1 : binZ .add .i64 (e1 : Int) 8 = some (f1 : Int) := by rw [hf1']; exact bin_add e1 8 (by omega)
        have c2 : binZ .add .i64 (f1 : Int) (r.length : Int) = some (f2 : Int) := by rw [hf2']; exact bin_add f1 r.length (by omega)
        have c3 : binZ .add .i64 8 (r.length : Int) = some (g1 : Int) := by rw [hg1]; exact bin_add 8 r.length (by omega)
        have c4 : binZ .add .i64 (e1 : Int) (g1 : Int) = some (f2 : Int) := by rw [show f2 = e1 + g1 by omega]; exact bin_add e1 g1 (by omega)
        rw [show e1 + 8 + r.length = f2 by omega] at hps
        have K1 := Lib.hid c1
        have K2 := Lib.hid c2
        have K3 := Lib.hid c3
        have K4 := Lib.hid c4
        have HCELL := Lib.hid hcell
        have HPS := Lib.hid hps
        clear hv1 hv2 hb hcell hps c1 c2 c3 c4 hr hf1' hf2' hg1
        by_cases hfit : f2 ≤ cut
        ·
          have HLE : Hid (cmpZ .leq (f2 : Int) (cut : Int) = some true) := Lib.hid (by simp only [cmpZ]; simp; omega)
          have hj1 : j + 1 ≤ F := by rw [HF.out]; exact fit_max ls cut (j + 1) hlt (by rw [HPS.out]; exact hfit)
          clear hfit
          go_wp2_with (first
            | (fail)
            | ((first | (with_reducible refine wpList_plain rfl ?_) | ((with_reducible refine wpList_yes _ _ rfl ?_ ?_); (focus rfl))); intro _ hk; (first
              | (refine opw_len _ _ _ Try.underlying35 (some ⟨b1, o1, none⟩) ls.length k rfl rfl (hk _ _ ?_))
              | (refine opw_cmp .lss _ _ _ _ .i64 (j : Int) (ls.length : Int) true rfl rfl rfl HLT.out (hk _ _ ?_))
              | (refine opw_bin .add _ _ _ _ .i64 (e1 : Int) 8 (f1 : Int) rfl rfl rfl K1.out (hk _ _ ?_))
              | (refine opw_bin .add _ _ _ _ .i64 (f1 : Int) (r.length : Int) (f2 : Int) rfl rfl rfl K2.out (hk _ _ ?_))
              | (refine opw_bin .add _ _ _ _ .i64 8 (r.length : Int) (g1 : Int) rfl rfl rfl K3.out (hk _ _ ?_))
              | (refine opw_bin .add _ _ _ _ .i64 (e1 : Int) (g1 : Int) (f2 : Int) rfl rfl rfl K4.out (hk _ _ ?_))
              | (refine opw_indexSl 35 22 _ _ rfl Try.underlying35 infoS b1 o1 ls.length k j rfl .i64 rfl hlt (hk _ _ ?_))
              | (refine opw_load1 22 _ rfl _ Try.underlying22 rfl ⟨b1, o1 + j, none⟩ (.slice B r.length d) rfl HCELL.out (hk _ _ ?_))
              | (refine opw_len _ _ _ Try.underlying22 B r.length d rfl rfl (hk _ _ ?_))
              | (refine opw_cmp .leq _ _ _ _ .i64 (f2 : Int) (cut : Int) true rfl rfl rfl HLE.out (hk _ _ ?_))); simp only [Act.put, List.setIfInBounds_toArray, List.set_cons_zero, List.set_cons_succ]))
          go_wp2
          go_roundw
          case rel =>
            have hrel2 : CutI st Φ3 ls F (.int .i64 ((j : Int) + 1)) (.int .i64 (f2 : Int)) wr := ⟨j + 1, f2, hj1, by go_num, rfl, Lib.hid HPS.out.symm, HC.out⟩
            first | exact hrel2 | ((repeat apply Exists.intro); exact ⟨hrel2, rfl⟩)
          case measure => simp [intOf]; omega
        ·
          have HLE : Hid (cmpZ .leq (f2 : Int) (cut : Int) = some false) := Lib.hid (by simp only [cmpZ]; simp; omega)
          have hjF : j = F := by
            rcases Nat.lt_or_ge j F with h | h
            · exfalso
              have h1 := fit_pre ls cut
              rw [← HF.out] at h1
              have h2 := chainB_take_le (ls.take F) (j + 1)
              rw [List.take_take, Nat.min_eq_left h, HPS.out] at h2
              omega
            · omega
          have HJF := Lib.hid hjF
          clear hfit hjF
          have hFk : j ≤ ls.length := by have := HJF.out; omega
          have heE : e1 = e := by rw [HE1.out, HE.out, HJF.out]
          have hec : e1 ≤ cut := by
            have h1 := fit_pre ls cut
            rw [← HF.out, ← HE.out] at h1; omega
          have SQ : Hid (SeesL st Φ3 (.slice (subA 1 (some ⟨b1, o1, none⟩) 0 k) j k) Q) := Lib.hid (by have h1 := SLk.out.take j hFk; have e2 := HQ.out; rw [← HJF.out] at e2; rw [e2]; exact h1)
          have SD : Hid (Sees st Φ3 1 (.slice (subA 1 Ac e1 cc) (cut - e1) (cc - e1)) (cut - e1) (bcells L)) := Lib.hid (by
            have h1 := (Sc.out.widen (fun w h => (U3.out w h))).midB e1 cut hec hcC
            rw [HLD.out, ← heE]; exact h1)
          clear heE
          go_wp2_with (first
            | (go_at_call 20; refine (samel_self st Φ3 Q _ _ _ HC.out Sr.out SQ.out).mono ?_; rintro e w8 ⟨rfl, h8⟩; have HG := Lib.hid h8; clear h8)
            | (go_at_call 15; refine (same_self L _ _ _ _ _ (Sl.out _ HG.out) (SD.out _ HG.out)).mono ?_; rintro e w8 ⟨rfl, rfl⟩)
            | ((first | (with_reducible refine wpList_plain rfl ?_) | ((with_reducible refine wpList_yes _ _ rfl ?_ ?_); (focus rfl))); intro _ hk; (first
              | (refine opw_len _ _ _ Try.underlying35 (some ⟨b1, o1, none⟩) ls.length k rfl rfl (hk _ _ ?_))
              | (refine opw_cmp .lss _ _ _ _ .i64 (j : Int) (ls.length : Int) true rfl rfl rfl HLT.out (hk _ _ ?_))
              | (refine opw_bin .add _ _ _ _ .i64 (e1 : Int) 8 (f1 : Int) rfl rfl rfl K1.out (hk _ _ ?_))
              | (refine opw_bin .add _ _ _ _ .i64 (f1 : Int) (r.length : Int) (f2 : Int) rfl rfl rfl K2.out (hk _ _ ?_))
              | (refine opw_indexSl 35 22 _ _ rfl Try.underlying35 infoS b1 o1 ls.length k j rfl .i64 rfl hlt (hk _ _ ?_))
              | (refine opw_load1 22 _ rfl _ Try.underlying22 rfl ⟨b1, o1 + j, none⟩ (.slice B r.length d) rfl HCELL.out (hk _ _ ?_))
              | (refine opw_len _ _ _ Try.underlying22 B r.length d rfl rfl (hk _ _ ?_))
              | (refine opw_cmp .leq _ _ _ _ .i64 (f2 : Int) (cut : Int) false rfl rfl rfl HLE.out (hk _ _ ?_))
              | (refine opw_slH 35 22 _ _ rfl Try.underlying35 infoS (some ⟨b1, o1, none⟩) ls.length k rfl hVk .i64 j rfl hFk (hk _ _ ?_))
              | (refine opw_slLH 22 5 _ _ _ rfl Try.underlying22 sizeB Ac C.length cc rfl hcc .i64 .i64 e1 cut rfl rfl hec hcC (hk _ _ ?_))); simp only [Act.put, List.setIfInBounds_toArray, List.set_cons_zero, List.set_cons_succ]))
          go_ret
          exact ⟨rfl, (U1.out _ (U2.out _ (U3.out _ HG.out)))⟩
      · have HLT : Hid (cmpZ .lss (j : Int) (ls.length : Int) = some false) := Lib.hid (by simp only [cmpZ]; simp; omega)
        have hjF : j = F := by have := fit_le ls cut; rw [← HF.out] at this; omega
        have HJF := Lib.hid hjF
        clear hjF hlt
        have hFk : j ≤ ls.length := by have := HJF.out; omega
        have heE : e1 = e := by rw [HE1.out, HE.out, HJF.out]
        have hec : e1 ≤ cut := by
          have h1 := fit_pre ls cut
          rw [← HF.out, ← HE.out] at h1; omega
        have SQ : Hid (SeesL st Φ3 (.slice (subA 1 V 0 k) j k) Q) := Lib.hid (by have h1 := SLk.out.take j hFk; have e2 := HQ.out; rw [← HJF.out] at e2; rw [e2]; exact h1)
        have SD : Hid (Sees st Φ3 1 (.slice (subA 1 Ac e1 cc) (cut - e1) (cc - e1)) (cut - e1) (bcells L)) := Lib.hid (by
          have h1 := (Sc.out.widen (fun w h => (U3.out w h))).midB e1 cut hec hcC
          rw [HLD.out, ← heE]; exact h1)
        clear heE
        go_wp2_with (first
          | (go_at_call 20; refine (samel_self st Φ3 Q _ _ _ HC.out Sr.out SQ.out).mono ?_; rintro e w8 ⟨rfl, h8⟩; have HG := Lib.hid h8; clear h8)
          | (go_at_call 15; refine (same_self L _ _ _ _ _ (Sl.out _ HG.out) (SD.out _ HG.out)).mono ?_; rintro e w8 ⟨rfl, rfl⟩)
          | ((first | (with_reducible refine wpList_plain rfl ?_) | ((with_reducible refine wpList_yes _ _ rfl ?_ ?_); (focus rfl))); intro _ hk; (first
            | (refine opw_len _ _ _ Try.underlying35 V ls.length k rfl rfl (hk _ _ ?_))
            | (refine opw_cmp .lss _ _ _ _ .i64 (j : Int) (ls.length : Int) false rfl rfl rfl HLT.out (hk _ _ ?_))
            | (refine opw_slH 35 22 _ _ rfl Try.underlying35 infoS V ls.length k rfl hVk .i64 j rfl hFk (hk _ _ ?_))
            | (refine opw_slLH 22 5 _ _ _ rfl Try.underlying22 sizeB Ac C.length cc rfl hcc .i64 .i64 e1 cut rfl rfl hec hcC (hk _ _ ?_))); simp only [Act.put, List.setIfInBounds_toArray, List.set_cons_zero, List.set_cons_succ]))
        go_ret
        exact ⟨rfl, (U1.out _ (U2.out _ (U3.out _ HG.out)))⟩
end Go.Proofs.Ytbiacehmfbopfaa
