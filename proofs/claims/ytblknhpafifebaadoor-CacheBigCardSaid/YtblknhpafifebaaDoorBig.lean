/-
  coldstorelaw14.CacheBig: the walk.
-/
import Derived.Test.YtblknhpafifebaaDoorAlive14
import Derived.Test.YtblknhpafifebaaDoorSame14
import Derived.Test.YtblknhpafifebaaDoorSameIds
import Derived.Test.YtblknhpafifebaaDoorBigLaw
import Derived.Test.YtblknhpafifebaaDoorRefShaOf
namespace Go.Proofs.YtblknhpafifebaaDoor
open Go Go.RowKit Go.Sl Go.Sha
set_option linter.unusedVariables false
set_option linter.unusedSimpArgs false
set_option maxRecDepth 100000

theorem opw_max {P : Program} {o : Oper} {a : Act} {w : World} {K : Act → World → Prop} {Q : Exit → Act → World → Prop} (x y : Operand) (t : TypeId) (X Y Z : Int) (ho : o.op = .call { callee := .builtin .max, args := #[x, y], argTypes := #[t, t] }) (hx : a.eval x = .int .i64 X) (hy : a.eval y = .int .i64 Y) (hz : max X Y = Z) (hK : K (a.put o.dst (.int .i64 Z)) w) : o.wp P a w K Q := by
  refine opw_run (.int .i64 Z) ?_ hK
  subst hz
  unfold execOp
  simp only [ho, resolve, invoke, builtin, Sem.run_bind, Sem.run_pure, Result.andThen_ok, List.map_toArray, List.map_cons, List.map_nil, hx, hy]
  by_cases h : X < Y <;> simp [Builtin.max_, Builtin.max2, go_sem, h] <;> omega
theorem topL_all (L : CL) (h : L.length ≤ 1000) : topL L 1000 = L.map (·.1) := by
  unfold topL; exact List.take_of_length_le (by simp; omega)
def BigRel (st : World) (R : HProp) (p ix : Nat) (lm : Int) (X BG : List UInt8) (N : Nat) (v : Value) (wr : World) : Prop :=
  ∃ (i : Nat) (LK : CL), i ≤ N ∧ v = .int .i64 (i : Int) ∧ LK.length ≤ i ∧ totL LK ≤ 100 * i ∧ BigInv lm X BG LK ∧ Has st (sep (cacheA p LK lm) (sep (blk ix (.cells (bcells X).toArray 34 (0, 0))) R)) wr

set_option maxHeartbeats 8000000 in
theorem big_any (st : World) (R : HProp) (hk : Keys st R) (hst : Start st R) (limit : Int) (hlim : -9223372036854775808 ≤ limit ∧ limit ≤ 9223372036854775807) (LS : List (List UInt8)) (Al : Option Addr) (cl : Nat) (hsl : SeesL st R (.slice Al LS.length cl) LS) (BG : List UInt8) (Ab : Option Addr) (cb : Nat) (hsb : Sees st R 1 (.slice Ab BG.length cb) BG.length (bcells BG)) (w : World) (h : Has st R w) :
    Calls Tryd.prog 6 #[.int .i64 limit, .slice Al LS.length cl, .slice Ab BG.length cb] w fun e w' => e = .returned (.bool true) ∧ Has st R w' := by
  have HAV : Hid (∀ w, Has st R w → Calls Tryd.prog 8 #[] w fun e w' => e = .returned (.bool true) ∧ Has st R w') := Lib.hid fun w h => alive_any st R hk hst w h
  have HH := Lib.hid h
  have HSL := Lib.hid hsl
  have HSB := Lib.hid hsb
  obtain ⟨N, hN⟩ : ∃ N, N = LS.length := ⟨_, rfl⟩
  obtain ⟨nb, hnb⟩ : ∃ n, n = BG.length := ⟨_, rfl⟩
  rw [← hN]
  rw [← hnb] at HSB ⊢
  have HN := Lib.hid hN
  have HNB := Lib.hid hnb
  clear hN hnb h hsl hsb
  by_cases h0 : 20 < N
  · have Z1 : Hid (cmpZ .gtr (N : Int) 20 = some true) := Lib.hid (by show some (decide ((N : Int) > 20)) = some true; rw [decide_eq_true (by omega)])
    clear h0 HN HNB HSL HSB
    go_enter Tryd.func6, Tryd.ntmps6
    go_wp2_with (first
      | (go_at_call 8; refine (HAV.out _ HH.out).mono ?_; rintro e w9 ⟨rfl, h9⟩; have H0 := Lib.hid h9; clear h9)
      | ((first | (with_reducible refine wpList_plain rfl ?_) | ((with_reducible refine wpList_yes _ _ rfl ?_ ?_); (focus rfl))); intro _ hk; (first
        | (refine opw_cmp .gtr _ _ _ _ .i64 (N : Int) 20 true rfl rfl rfl Z1.out (hk _ _ ?_))); simp only [Act.put, List.setIfInBounds_toArray, List.set_cons_zero, List.set_cons_succ]))
    go_ret
    exact ⟨rfl, H0.out⟩
  have Z1 : Hid (cmpZ .gtr (N : Int) 20 = some false) := Lib.hid (by show some (decide ((N : Int) > 20)) = some false; rw [decide_eq_false (by omega)])
  by_cases h1 : 100 < nb
  · have Z2 : Hid (cmpZ .gtr (nb : Int) 100 = some true) := Lib.hid (by show some (decide ((nb : Int) > 100)) = some true; rw [decide_eq_true (by omega)])
    clear h0 h1 HN HNB HSL HSB
    go_enter Tryd.func6, Tryd.ntmps6
    go_wp2_with (first
      | (go_at_call 8; refine (HAV.out _ HH.out).mono ?_; rintro e w9 ⟨rfl, h9⟩; have H0 := Lib.hid h9; clear h9)
      | ((first | (with_reducible refine wpList_plain rfl ?_) | ((with_reducible refine wpList_yes _ _ rfl ?_ ?_); (focus rfl))); intro _ hk; (first
        | (refine opw_cmp .gtr _ _ _ _ .i64 (N : Int) 20 false rfl rfl rfl Z1.out (hk _ _ ?_))
        | (refine opw_cmp .gtr _ _ _ _ .i64 (nb : Int) 100 true rfl rfl rfl Z2.out (hk _ _ ?_))); simp only [Act.put, List.setIfInBounds_toArray, List.set_cons_zero, List.set_cons_succ]))
    go_ret
    exact ⟨rfl, H0.out⟩
  have Z2 : Hid (cmpZ .gtr (nb : Int) 100 = some false) := Lib.hid (by show some (decide ((nb : Int) > 100)) = some false; rw [decide_eq_false (by omega)])
  have hN20 : N ≤ 20 := by omega
  have hnb100 : nb ≤ 100 := by omega
  have hBG : BG.length ≤ 100 := by rw [← HNB.out]; exact hnb100
  obtain ⟨lm, hlm⟩ : ∃ lm, lm = max limit 0 := ⟨_, rfl⟩
  have hlm0 : 0 ≤ lm := by omega
  obtain ⟨X, hX⟩ : ∃ X, X = sha BG := ⟨_, rfl⟩
  have lX : X.length = 32 := by rw [hX]; exact sha_length _
  have HLX := Lib.hid lX
  have HNW := Lib.hid (newC (st := st) (R := R) (lim := limit) (l2 := lm) hlm hlim)
  have HOF : Hid (∀ F w, (∀ w, Has st F w → Has st R w) → Has st F w → Calls Tryd.prog 11 #[.slice Ab nb cb] w fun e w' => e = .returned (.agg (bcells X).toArray) ∧ Has st F w') := Lib.hid fun F w hF hw => by
    rw [hX, HNB.out]; exact refOf_any st F BG _ w hw (fun w h => by rw [← HNB.out]; exact HSB.out w (hF w h)) (by omega)
  have HIX : Hid ((Tryd.prog.info? 34).map (·.size) = some (bcells X).toArray.size) := Lib.hid (by rw [List.size_toArray, bcells_length, lX]; exact infoID)
  have HJX : Hid ((Tryd.prog.info? 34).map (·.size) = some (bcells X).length) := Lib.hid (by rw [bcells_length, lX]; exact infoID)
  have HTX : Hid (((bcells X).toArray.toList.drop 0).take (bcells X).length = bcells X) := Lib.hid (by simp)
  obtain ⟨Z, hZ⟩ : ∃ Z, Z = (bcells (List.replicate 32 (0 : UInt8))).toArray := ⟨_, rfl⟩
  have HZI : Hid ((Tryd.prog.info? 34).map (·.zero) = some (some (.agg Z))) := Lib.hid (by rw [hZ]; exact zeroID)
  have HOX : Hid (Z.size = (bcells X).toArray.size) := Lib.hid (by rw [hZ]; simp [bcells_length, lX])
  have HX := Lib.hid hX
  have HLM := Lib.hid hlm.symm
  have HKY := Lib.hid hk
  have HST := Lib.hid hst
  clear h0 h1 hlm hX lX hZ hk hst hBG hlim
  go_enter Tryd.func6, Tryd.ntmps6
  go_wp2_with (first
    | (have _k := C0; go_at_call 11; refine (HOF.out _ _ (fun w h => h.right) C0.out).mono ?_; rintro e w9 ⟨rfl, h9⟩; have C1 := Lib.hid h9; clear h9)
    | (have _k := H0; go_at_call 10; refine (HNW.out _ H0.out).mono ?_; rintro e w9 ⟨p, rfl, h9⟩; have C0 := Lib.hid h9; clear h9)
    | (go_at_call 8; refine (HAV.out _ HH.out).mono ?_; rintro e w9 ⟨rfl, h9⟩; have H0 := Lib.hid h9; clear h9)
    | ((first | (with_reducible refine wpList_plain rfl ?_) | ((with_reducible refine wpList_yes _ _ rfl ?_ ?_); (focus rfl))); intro _ hk; (first
      | (refine opw_cmp .gtr _ _ _ _ .i64 (N : Int) 20 false rfl rfl rfl Z1.out (hk _ _ ?_))
      | (refine opw_cmp .gtr _ _ _ _ .i64 (nb : Int) 100 false rfl rfl rfl Z2.out (hk _ _ ?_))
      | (have _k := C1; refine opw_alloc 34 (.agg Z) Z rfl HZI.out rfl C1.out (fun ix w9 hp h9 => hk _ _ ?_); clear hp; have A0 := Lib.hid h9; clear h9)
      | (have _k := A0; refine opw_storeRow 34 _ _ rfl ix (bcells X).toArray rfl rfl 34 Z HIX.out HOX.out (bcells_all _) A0.out (fun w9 h9 => hk _ _ ?_); have T0 := Lib.hid h9.second; clear h9)); simp only [Act.put, List.setIfInBounds_toArray, List.set_cons_zero, List.set_cons_succ]))
  clear HH H0 C0 C1 A0
  go_loopw [10, 32] (fun _ v wr => BigRel st R p ix lm X BG N v wr) (fun _ v _ => N - (intOf v).toNat)
  case atStart => exact ⟨0, [], Nat.zero_le _, rfl, Nat.zero_le _, Nat.zero_le _, fun e he => by simp at he, T0.out⟩
  case round =>
    obtain ⟨i, LK, hi, rfl, hLl, hLt, hinv, h⟩ := hrel
    clear T0
    have HINV := Lib.hid hinv
    have HC := Lib.hid h
    clear hinv h
    by_cases hlt : i < N
    · have hlt' : i < LS.length := by rw [← HN.out]; exact hlt
      obtain ⟨vs, hvs, hel⟩ := HSL.out
      obtain ⟨B, d, hbv, hbs⟩ := hel i hlt'
      obtain ⟨g, off, rfl, hcell⟩ := (hvs wr HC.out.right.right).at (by omega)
      have c0 : wr.cell? ⟨g, off + i, none⟩ = some (.slice B LS[i].length d) := hcell i _ hbv
      obtain ⟨bl, hbl⟩ : ∃ b, b = LS[i] := ⟨_, rfl⟩
      rw [← hbl] at c0 hbs
      obtain ⟨n, hn⟩ : ∃ n, n = bl.length := ⟨_, rfl⟩
      rw [← hn] at c0 hbs
      have HBS := Lib.hid hbs
      have HNN := Lib.hid hn
      clear hvs hel hbv hcell hbl hbs hlt' hn HSL
      by_cases hc : 100 < n
      · have Z3 : Hid (cmpZ .gtr (n : Int) 100 = some true) := Lib.hid (by show some (decide ((n : Int) > 100)) = some true; rw [decide_eq_true (by omega)])
        clear hc HN HNB
        go_wp2_with fail
        refine wp_region_inv3 (fun L u w' => Slots (fun kk => ([some (.slice B n d), some (.int .i64 ((n : Nat) : Int)), some (.bool true), some (.bool true), some undef, some undef, some undef, some undef, some undef, some undef, some undef, some undef, some undef, some undef, some (.bool true)] : List (Option Value)).getD kk none) L u ∧ Has st (sep (cacheA p LK lm) (sep (blk ix (.cells (bcells X).toArray 34 (0, 0))) R)) w') (by kernel_rfl) (by decide +kernel) (by decide +kernel) (by kernel_rfl) (by kernel_rfl) (fun u => ⟨Slots.start _ u, HC.out.drew⟩) ?_ ?_
        · refine ⟨?_, ?_, ?_, ?_, ?_, ?_, ?_, ?_, ?_, ?_, ?_, ?_, ?_, ?_, ?_, trivial⟩
          · refine RegStep3.plain rfl ?_; rintro L u w1 bA hL hW hD hU ⟨hS, hH⟩ hin hout; exact opw_move _ _ (.inl rfl) ((hout 10 (by kernel_rfl)).trans (by kernel_rfl)) ⟨_, rfl, hS.step 0 _ (.inr rfl), hH⟩
          · refine RegStep3.plain rfl ?_; rintro L u w1 bA hL hW hD hU ⟨hS, hH⟩ hin hout; exact opw_len _ _ _ Tryd.underlying30 B (n) d rfl ((hin 0 36 rfl).trans (hS 0 _ rfl (hW.of 0 (by decide)))) ⟨_, rfl, hS.step 1 _ (.inr rfl), hH⟩
          · refine RegStep3.plain rfl ?_; rintro L u w1 bA hL hW hD hU ⟨hS, hH⟩ hin hout; exact opw_cmp .gtr _ _ _ _ .i64 _ _ true rfl ((hin 1 37 rfl).trans (hS 1 _ rfl (hW.of 1 (by decide)))) rfl Z3.out ⟨_, rfl, hS.step 2 _ (.inr rfl), hH⟩
          · refine RegStep3.plain rfl ?_; rintro L u w1 bA hL hW hD hU ⟨hS, hH⟩ hin hout; exact opw_move _ _ (.inl rfl) ((hin 2 38 rfl).trans (hS 2 _ rfl (hW.of 2 (by decide)))) ⟨_, rfl, hS.step 3 _ (.inr rfl), hH⟩
          · refine RegStep3.no 3 false rfl ?_; rintro L u w1 hL hW hD ⟨hS, hH⟩; exact ⟨hS 3 _ rfl (hW.of 3 (by decide)), hS.step 4 _ (.inr rfl), hH⟩
          · refine RegStep3.no 3 false rfl ?_; rintro L u w1 hL hW hD ⟨hS, hH⟩; exact ⟨hS 3 _ rfl (hW.of 3 (by decide)), hS.step 5 _ (.inr rfl), hH⟩
          · refine RegStep3.no 3 false rfl ?_; rintro L u w1 hL hW hD ⟨hS, hH⟩; exact ⟨hS 3 _ rfl (hW.of 3 (by decide)), hS.step 6 _ (.inr rfl), hH⟩
          · refine RegStep3.no 3 false rfl ?_; rintro L u w1 hL hW hD ⟨hS, hH⟩; exact ⟨hS 3 _ rfl (hW.of 3 (by decide)), hS.step 7 _ (.inr rfl), hH⟩
          · refine RegStep3.no 3 false rfl ?_; rintro L u w1 hL hW hD ⟨hS, hH⟩; exact ⟨hS 3 _ rfl (hW.of 3 (by decide)), hS.step 8 _ (.inr rfl), hH⟩
          · refine RegStep3.noU 8 true rfl ?_; rintro L u w1 hL hW hD ⟨hS, hH⟩; exact ⟨hS 8 _ rfl (hW.of 8 (by decide)), hS.step 9 _ (.inr rfl), hH⟩
          · refine RegStep3.noU 8 true rfl ?_; rintro L u w1 hL hW hD ⟨hS, hH⟩; exact ⟨hS 8 _ rfl (hW.of 8 (by decide)), hS.step 10 _ (.inr rfl), hH⟩
          · refine RegStep3.noU 8 true rfl ?_; rintro L u w1 hL hW hD ⟨hS, hH⟩; exact ⟨hS 8 _ rfl (hW.of 8 (by decide)), hS.step 11 _ (.inr rfl), hH⟩
          · refine RegStep3.noU 8 true rfl ?_; rintro L u w1 hL hW hD ⟨hS, hH⟩; exact ⟨hS 8 _ rfl (hW.of 8 (by decide)), hS.step 12 _ (.inr rfl), hH⟩
          · refine RegStep3.no 3 false rfl ?_; rintro L u w1 hL hW hD ⟨hS, hH⟩; exact ⟨hS 3 _ rfl (hW.of 3 (by decide)), hS.step 13 _ (.inr rfl), hH⟩
          · refine RegStep3.plain rfl ?_; rintro L u w1 bA hL hW hD hU ⟨hS, hH⟩ hin hout; exact opw_pickT _ _ _ _ rfl ((hin 3 39 rfl).trans (hS 3 _ rfl (hW.of 3 (by decide)))) rfl ⟨_, rfl, hS.step 14 _ (.inr rfl), hH⟩
        intro L u wv hL ⟨hS, hH⟩
        have E0 := hS 0 _ rfl (hL 0 (by decide))
        have E1 := hS 1 _ rfl (hL 1 (by decide))
        have E2 := hS 2 _ rfl (hL 2 (by decide))
        have E3 := hS 3 _ rfl (hL 3 (by decide))
        have E4 := hS 4 _ rfl (hL 4 (by decide))
        have E5 := hS 5 _ rfl (hL 5 (by decide))
        have E6 := hS 6 _ rfl (hL 6 (by decide))
        have E7 := hS 7 _ rfl (hL 7 (by decide))
        have E8 := hS 8 _ rfl (hL 8 (by decide))
        have E9 := hS 9 _ rfl (hL 9 (by decide))
        have E10 := hS 10 _ rfl (hL 10 (by decide))
        have E11 := hS 11 _ rfl (hL 11 (by decide))
        have E12 := hS 12 _ rfl (hL 12 (by decide))
        have E13 := hS 13 _ rfl (hL 13 (by decide))
        have E14 := hS 14 _ rfl (hL 14 (by decide))
        simp only [frame_cons, frame_nil, E0, E1, E2, E3, E4, E5, E6, E7, E8, E9, E10, E11, E12, E13, E14, Act.put, List.setIfInBounds_toArray, List.set_cons_zero, List.set_cons_succ]
        clear hL hS E0 E1 E2 E3 E4 E5 E6 E7 E8 E9 E10 E11 E12 E13 E14
        have Hv := Lib.hid hH
        clear hH HC
        go_wp2
        go_ret
        exact ⟨rfl, Hv.out.right.right⟩
      · have Z3 : Hid (cmpZ .gtr (n : Int) 100 = some false) := Lib.hid (by show some (decide ((n : Int) > 100)) = some false; rw [decide_eq_false (by omega)])
        have hn100 : n ≤ 100 := by omega
        have hbl100 : bl.length ≤ 100 := by rw [← HNN.out]; exact hn100
        obtain ⟨S, hS⟩ : ∃ S, S = sha bl := ⟨_, rfl⟩
        have HLS : Hid (S.length = 32) := Lib.hid (by rw [hS]; exact sha_length _)
        have HS := Lib.hid hS
        have HOB : Hid (∀ F w, Has st (sep F (sep (blk ix (.cells (bcells X).toArray 34 (0, 0))) R)) w → Calls Tryd.prog 11 #[.slice B n d] w fun e w' => e = .returned (.agg (bcells S).toArray) ∧ Has st (sep F (sep (blk ix (.cells (bcells X).toArray 34 (0, 0))) R)) w') := Lib.hid fun F w hw => by
          rw [HS.out, HNN.out]; exact refOf_any st _ bl _ w hw (fun w h => by rw [← HNN.out]; exact HBS.out w h.right.right) (by omega)
        have HSM : Hid (∀ w, Has st (sep (cacheA p LK lm) (sep (blk ix (.cells (bcells X).toArray 34 (0, 0))) R)) w → Calls Tryd.prog 16 #[.slice B n d, .slice Ab nb cb] w fun e w' => e = .returned (.bool (bl == BG)) ∧ Has st (sep (cacheA p LK lm) (sep (blk ix (.cells (bcells X).toArray 34 (0, 0))) R)) w') := Lib.hid fun w hw => (sameB_any bl BG n nb _ _ w (HBS.out w hw.right.right) (HSB.out w hw.right.right)).mono fun e w' h' => ⟨h'.1, h'.2 ▸ hw⟩
        clear hS hc
        by_cases he : (S == X) = true
        · have Z4 : Hid ((S == X) = true) := Lib.hid he
          by_cases hs : (bl == BG) = true
          · rw [hs] at HSM
            obtain ⟨L2, hL2⟩ : ∃ L2 : CL, L2 = putL lm LK S bl := ⟨_, rfl⟩
            have hl2 : L2.length ≤ i + 1 := by rw [hL2]; have := len_putL lm LK S bl; omega
            have ht2 : totL L2 ≤ 100 * (i + 1) := by rw [hL2]; have := tot_putL lm LK S bl; omega
            have hinv2 : BigInv lm X BG L2 := by rw [hL2, HS.out]; exact big_put HINV.out (fun _ => by simpa using hs)
            have HP := Lib.hid (putC (st := st) (R := R) (lim := lm) (L := LK) (L' := L2) (b := bl) (S := S) HKY.out HST.out HS.out hL2 (by omega) (by omega) (by omega) hlm0)
            have HI2 := Lib.hid hinv2
            clear hL2 hinv2 hbl100
            clear he hs HN HNB
            go_wp2_with fail
            refine wp_region_inv3 (fun L u w' => Slots (fun kk => ([some (.slice B n d), some (.int .i64 ((n : Nat) : Int)), some (.bool false), some (.bool false), some (.slice B n d), some (.agg (bcells S).toArray), some (.agg (bcells X).toArray), some (.bool true), some (.bool true), some (.slice B n d), some (.slice Ab nb cb), some (.bool true), some (.bool false), some (.bool false), some (.bool false)] : List (Option Value)).getD kk none) L u ∧ Has st (sep (cacheA p LK lm) (sep (blk ix (.cells (bcells X).toArray 34 (0, 0))) R)) w') (by kernel_rfl) (by decide +kernel) (by decide +kernel) (by kernel_rfl) (by kernel_rfl) (fun u => ⟨Slots.start _ u, HC.out.drew⟩) ?_ ?_
            · refine ⟨?_, ?_, ?_, ?_, ?_, ?_, ?_, ?_, ?_, ?_, ?_, ?_, ?_, ?_, ?_, trivial⟩
              · refine RegStep3.plain rfl ?_; rintro L u w1 bA hL hW hD hU ⟨hS, hH⟩ hin hout; exact opw_move _ _ (.inl rfl) ((hout 10 (by kernel_rfl)).trans (by kernel_rfl)) ⟨_, rfl, hS.step 0 _ (.inr rfl), hH⟩
              · refine RegStep3.plain rfl ?_; rintro L u w1 bA hL hW hD hU ⟨hS, hH⟩ hin hout; exact opw_len _ _ _ Tryd.underlying30 B (n) d rfl ((hin 0 36 rfl).trans (hS 0 _ rfl (hW.of 0 (by decide)))) ⟨_, rfl, hS.step 1 _ (.inr rfl), hH⟩
              · refine RegStep3.plain rfl ?_; rintro L u w1 bA hL hW hD hU ⟨hS, hH⟩ hin hout; exact opw_cmp .gtr _ _ _ _ .i64 _ _ false rfl ((hin 1 37 rfl).trans (hS 1 _ rfl (hW.of 1 (by decide)))) rfl Z3.out ⟨_, rfl, hS.step 2 _ (.inr rfl), hH⟩
              · refine RegStep3.plain rfl ?_; rintro L u w1 bA hL hW hD hU ⟨hS, hH⟩ hin hout; exact opw_move _ _ (.inl rfl) ((hin 2 38 rfl).trans (hS 2 _ rfl (hW.of 2 (by decide)))) ⟨_, rfl, hS.step 3 _ (.inr rfl), hH⟩
              · refine RegStep3.yes 3 false rfl (fun L u w1 hW hI => hI.1 3 _ rfl (hW.of 3 (by decide))) ?_; rintro L u w1 bA hL hW hD hU ⟨hS, hH⟩ hin hout; exact opw_move _ _ (.inl rfl) ((hout 10 (by kernel_rfl)).trans (by kernel_rfl)) ⟨_, rfl, hS.step 4 _ (.inr rfl), hH⟩
              · refine RegStep3.yes 3 false rfl (fun L u w1 hW hI => hI.1 3 _ rfl (hW.of 3 (by decide))) ?_; rintro L u w1 bA hL hW hD hU ⟨hS, hH⟩ hin hout; exact opw_call_ret _ _ _ [(.slice B n d)] rfl (by kernel_rfl) (list2 ((hin 4 40 rfl).trans (hS 4 _ rfl (hW.of 4 (by decide)))) rfl) (HOB.out _ w1 hH) (fun e w2 he => by obtain ⟨rfl, h2⟩ := he; exact ⟨_, rfl, _, rfl, hS.step 5 _ (.inr rfl), h2⟩)
              · refine RegStep3.yes 3 false rfl (fun L u w1 hW hI => hI.1 3 _ rfl (hW.of 3 (by decide))) ?_; rintro L u w1 bA hL hW hD hU ⟨hS, hH⟩ hin hout; exact opw_loadMid _ _ rfl ix (0) ((hout 8 (by kernel_rfl)).trans (by kernel_rfl)) (bcells X) _ Tryd.underlying34 rfl HJX.out hH.second HTX.out ⟨_, rfl, hS.step 6 _ (.inr rfl), hH⟩
              · refine RegStep3.yes 3 false rfl (fun L u w1 hW hI => hI.1 3 _ rfl (hW.of 3 (by decide))) ?_; rintro L u w1 bA hL hW hD hU ⟨hS, hH⟩ hin hout; exact opw_eqRow _ _ 5 32 _ _ S X Tryd.underlying34 Tryd.underlying5 infosz (by kernel_rfl) HLS.out HLX.out rfl ((hin 5 41 rfl).trans (hS 5 _ rfl (hW.of 5 (by decide)))) ((hin 6 42 rfl).trans (hS 6 _ rfl (hW.of 6 (by decide)))) true Z4.out ⟨_, rfl, hS.step 7 _ (.inr rfl), hH⟩
              · refine RegStep3.yes 3 false rfl (fun L u w1 hW hI => hI.1 3 _ rfl (hW.of 3 (by decide))) ?_; rintro L u w1 bA hL hW hD hU ⟨hS, hH⟩ hin hout; exact opw_move _ _ (.inl rfl) ((hin 7 43 rfl).trans (hS 7 _ rfl (hW.of 7 (by decide)))) ⟨_, rfl, hS.step 8 _ (.inr rfl), hH⟩
              · refine RegStep3.yes 8 true rfl (fun L u w1 hW hI => hI.1 8 _ rfl (hW.of 8 (by decide))) ?_; rintro L u w1 bA hL hW hD hU ⟨hS, hH⟩ hin hout; exact opw_move _ _ (.inl rfl) ((hout 10 (by kernel_rfl)).trans (by kernel_rfl)) ⟨_, rfl, hS.step 9 _ (.inr rfl), hH⟩
              · refine RegStep3.yes 8 true rfl (fun L u w1 hW hI => hI.1 8 _ rfl (hW.of 8 (by decide))) ?_; rintro L u w1 bA hL hW hD hU ⟨hS, hH⟩ hin hout; exact opw_move _ _ (.inl rfl) ((hout 2 (by kernel_rfl)).trans (by kernel_rfl)) ⟨_, rfl, hS.step 10 _ (.inr rfl), hH⟩
              · refine RegStep3.yes 8 true rfl (fun L u w1 hW hI => hI.1 8 _ rfl (hW.of 8 (by decide))) ?_; rintro L u w1 bA hL hW hD hU ⟨hS, hH⟩ hin hout; exact opw_call_ret _ _ _ [(.slice B n d), (.slice Ab nb cb)] rfl (by kernel_rfl) (list2 ((hin 9 45 rfl).trans (hS 9 _ rfl (hW.of 9 (by decide)))) (list2 ((hin 10 46 rfl).trans (hS 10 _ rfl (hW.of 10 (by decide)))) rfl)) (HSM.out _ hH) (fun e w2 he => by obtain ⟨rfl, h2⟩ := he; exact ⟨_, rfl, _, rfl, hS.step 11 _ (.inr rfl), h2⟩)
              · refine RegStep3.yes 8 true rfl (fun L u w1 hW hI => hI.1 8 _ rfl (hW.of 8 (by decide))) ?_; rintro L u w1 bA hL hW hD hU ⟨hS, hH⟩ hin hout; exact opw_not _ _ _ rfl ((hin 11 47 rfl).trans (hS 11 _ rfl (hW.of 11 (by decide)))) false rfl ⟨_, rfl, hS.step 12 _ (.inr rfl), hH⟩
              · refine RegStep3.yes 3 false rfl (fun L u w1 hW hI => hI.1 3 _ rfl (hW.of 3 (by decide))) ?_; rintro L u w1 bA hL hW hD hU ⟨hS, hH⟩ hin hout; exact opw_pickT _ _ _ _ rfl ((hin 8 44 rfl).trans (hS 8 _ rfl (hW.of 8 (by decide)))) ((hin 12 48 rfl).trans (hS 12 _ rfl (hW.of 12 (by decide)))) ⟨_, rfl, hS.step 13 _ (.inr rfl), hH⟩
              · refine RegStep3.plain rfl ?_; rintro L u w1 bA hL hW hD hU ⟨hS, hH⟩ hin hout; exact opw_pickF _ _ _ _ rfl ((hin 3 39 rfl).trans (hS 3 _ rfl (hW.of 3 (by decide)))) ((hin 13 49 rfl).trans (hS 13 _ rfl (hW.of 13 (by decide)))) ⟨_, rfl, hS.step 14 _ (.inr rfl), hH⟩
            intro L u wv hL ⟨hS, hH⟩
            have E0 := hS 0 _ rfl (hL 0 (by decide))
            have E1 := hS 1 _ rfl (hL 1 (by decide))
            have E2 := hS 2 _ rfl (hL 2 (by decide))
            have E3 := hS 3 _ rfl (hL 3 (by decide))
            have E4 := hS 4 _ rfl (hL 4 (by decide))
            have E5 := hS 5 _ rfl (hL 5 (by decide))
            have E6 := hS 6 _ rfl (hL 6 (by decide))
            have E7 := hS 7 _ rfl (hL 7 (by decide))
            have E8 := hS 8 _ rfl (hL 8 (by decide))
            have E9 := hS 9 _ rfl (hL 9 (by decide))
            have E10 := hS 10 _ rfl (hL 10 (by decide))
            have E11 := hS 11 _ rfl (hL 11 (by decide))
            have E12 := hS 12 _ rfl (hL 12 (by decide))
            have E13 := hS 13 _ rfl (hL 13 (by decide))
            have E14 := hS 14 _ rfl (hL 14 (by decide))
            simp only [frame_cons, frame_nil, E0, E1, E2, E3, E4, E5, E6, E7, E8, E9, E10, E11, E12, E13, E14, Act.put, List.setIfInBounds_toArray, List.set_cons_zero, List.set_cons_succ]
            clear hL hS E0 E1 E2 E3 E4 E5 E6 E7 E8 E9 E10 E11 E12 E13 E14
            have Hv := Lib.hid hH
            clear hH HC
            go_wp2_with (go_at_call 13; have hq := HP.out p (sep (blk ix (.cells (bcells X).toArray 34 (0, 0))) R) (.slice B n d) _ (fun w h => h.right) (by rw [← HNN.out]; exact HBS.out.right) Hv.out; (with_reducible refine hq.mono ?_); clear hq; rintro e w9 ⟨rfl, h9⟩; have H9 := Lib.hid h9; clear h9)
            go_roundw
            case rel => exact ⟨i + 1, L2, by omega, by go_num, hl2, ht2, HI2.out, H9.out⟩
            case measure => simp [intOf]; omega
          · have hs' : (bl == BG) = false := by simpa using hs
            rw [hs'] at HSM
            clear he hs hs' HN HNB hbl100
            go_wp2_with fail
            refine wp_region_inv3 (fun L u w' => Slots (fun kk => ([some (.slice B n d), some (.int .i64 ((n : Nat) : Int)), some (.bool false), some (.bool false), some (.slice B n d), some (.agg (bcells S).toArray), some (.agg (bcells X).toArray), some (.bool true), some (.bool true), some (.slice B n d), some (.slice Ab nb cb), some (.bool false), some (.bool true), some (.bool true), some (.bool true)] : List (Option Value)).getD kk none) L u ∧ Has st (sep (cacheA p LK lm) (sep (blk ix (.cells (bcells X).toArray 34 (0, 0))) R)) w') (by kernel_rfl) (by decide +kernel) (by decide +kernel) (by kernel_rfl) (by kernel_rfl) (fun u => ⟨Slots.start _ u, HC.out.drew⟩) ?_ ?_
            · refine ⟨?_, ?_, ?_, ?_, ?_, ?_, ?_, ?_, ?_, ?_, ?_, ?_, ?_, ?_, ?_, trivial⟩
              · refine RegStep3.plain rfl ?_; rintro L u w1 bA hL hW hD hU ⟨hS, hH⟩ hin hout; exact opw_move _ _ (.inl rfl) ((hout 10 (by kernel_rfl)).trans (by kernel_rfl)) ⟨_, rfl, hS.step 0 _ (.inr rfl), hH⟩
              · refine RegStep3.plain rfl ?_; rintro L u w1 bA hL hW hD hU ⟨hS, hH⟩ hin hout; exact opw_len _ _ _ Tryd.underlying30 B (n) d rfl ((hin 0 36 rfl).trans (hS 0 _ rfl (hW.of 0 (by decide)))) ⟨_, rfl, hS.step 1 _ (.inr rfl), hH⟩
              · refine RegStep3.plain rfl ?_; rintro L u w1 bA hL hW hD hU ⟨hS, hH⟩ hin hout; exact opw_cmp .gtr _ _ _ _ .i64 _ _ false rfl ((hin 1 37 rfl).trans (hS 1 _ rfl (hW.of 1 (by decide)))) rfl Z3.out ⟨_, rfl, hS.step 2 _ (.inr rfl), hH⟩
              · refine RegStep3.plain rfl ?_; rintro L u w1 bA hL hW hD hU ⟨hS, hH⟩ hin hout; exact opw_move _ _ (.inl rfl) ((hin 2 38 rfl).trans (hS 2 _ rfl (hW.of 2 (by decide)))) ⟨_, rfl, hS.step 3 _ (.inr rfl), hH⟩
              · refine RegStep3.yes 3 false rfl (fun L u w1 hW hI => hI.1 3 _ rfl (hW.of 3 (by decide))) ?_; rintro L u w1 bA hL hW hD hU ⟨hS, hH⟩ hin hout; exact opw_move _ _ (.inl rfl) ((hout 10 (by kernel_rfl)).trans (by kernel_rfl)) ⟨_, rfl, hS.step 4 _ (.inr rfl), hH⟩
              · refine RegStep3.yes 3 false rfl (fun L u w1 hW hI => hI.1 3 _ rfl (hW.of 3 (by decide))) ?_; rintro L u w1 bA hL hW hD hU ⟨hS, hH⟩ hin hout; exact opw_call_ret _ _ _ [(.slice B n d)] rfl (by kernel_rfl) (list2 ((hin 4 40 rfl).trans (hS 4 _ rfl (hW.of 4 (by decide)))) rfl) (HOB.out _ w1 hH) (fun e w2 he => by obtain ⟨rfl, h2⟩ := he; exact ⟨_, rfl, _, rfl, hS.step 5 _ (.inr rfl), h2⟩)
              · refine RegStep3.yes 3 false rfl (fun L u w1 hW hI => hI.1 3 _ rfl (hW.of 3 (by decide))) ?_; rintro L u w1 bA hL hW hD hU ⟨hS, hH⟩ hin hout; exact opw_loadMid _ _ rfl ix (0) ((hout 8 (by kernel_rfl)).trans (by kernel_rfl)) (bcells X) _ Tryd.underlying34 rfl HJX.out hH.second HTX.out ⟨_, rfl, hS.step 6 _ (.inr rfl), hH⟩
              · refine RegStep3.yes 3 false rfl (fun L u w1 hW hI => hI.1 3 _ rfl (hW.of 3 (by decide))) ?_; rintro L u w1 bA hL hW hD hU ⟨hS, hH⟩ hin hout; exact opw_eqRow _ _ 5 32 _ _ S X Tryd.underlying34 Tryd.underlying5 infosz (by kernel_rfl) HLS.out HLX.out rfl ((hin 5 41 rfl).trans (hS 5 _ rfl (hW.of 5 (by decide)))) ((hin 6 42 rfl).trans (hS 6 _ rfl (hW.of 6 (by decide)))) true Z4.out ⟨_, rfl, hS.step 7 _ (.inr rfl), hH⟩
              · refine RegStep3.yes 3 false rfl (fun L u w1 hW hI => hI.1 3 _ rfl (hW.of 3 (by decide))) ?_; rintro L u w1 bA hL hW hD hU ⟨hS, hH⟩ hin hout; exact opw_move _ _ (.inl rfl) ((hin 7 43 rfl).trans (hS 7 _ rfl (hW.of 7 (by decide)))) ⟨_, rfl, hS.step 8 _ (.inr rfl), hH⟩
              · refine RegStep3.yes 8 true rfl (fun L u w1 hW hI => hI.1 8 _ rfl (hW.of 8 (by decide))) ?_; rintro L u w1 bA hL hW hD hU ⟨hS, hH⟩ hin hout; exact opw_move _ _ (.inl rfl) ((hout 10 (by kernel_rfl)).trans (by kernel_rfl)) ⟨_, rfl, hS.step 9 _ (.inr rfl), hH⟩
              · refine RegStep3.yes 8 true rfl (fun L u w1 hW hI => hI.1 8 _ rfl (hW.of 8 (by decide))) ?_; rintro L u w1 bA hL hW hD hU ⟨hS, hH⟩ hin hout; exact opw_move _ _ (.inl rfl) ((hout 2 (by kernel_rfl)).trans (by kernel_rfl)) ⟨_, rfl, hS.step 10 _ (.inr rfl), hH⟩
              · refine RegStep3.yes 8 true rfl (fun L u w1 hW hI => hI.1 8 _ rfl (hW.of 8 (by decide))) ?_; rintro L u w1 bA hL hW hD hU ⟨hS, hH⟩ hin hout; exact opw_call_ret _ _ _ [(.slice B n d), (.slice Ab nb cb)] rfl (by kernel_rfl) (list2 ((hin 9 45 rfl).trans (hS 9 _ rfl (hW.of 9 (by decide)))) (list2 ((hin 10 46 rfl).trans (hS 10 _ rfl (hW.of 10 (by decide)))) rfl)) (HSM.out _ hH) (fun e w2 he => by obtain ⟨rfl, h2⟩ := he; exact ⟨_, rfl, _, rfl, hS.step 11 _ (.inr rfl), h2⟩)
              · refine RegStep3.yes 8 true rfl (fun L u w1 hW hI => hI.1 8 _ rfl (hW.of 8 (by decide))) ?_; rintro L u w1 bA hL hW hD hU ⟨hS, hH⟩ hin hout; exact opw_not _ _ _ rfl ((hin 11 47 rfl).trans (hS 11 _ rfl (hW.of 11 (by decide)))) true rfl ⟨_, rfl, hS.step 12 _ (.inr rfl), hH⟩
              · refine RegStep3.yes 3 false rfl (fun L u w1 hW hI => hI.1 3 _ rfl (hW.of 3 (by decide))) ?_; rintro L u w1 bA hL hW hD hU ⟨hS, hH⟩ hin hout; exact opw_pickT _ _ _ _ rfl ((hin 8 44 rfl).trans (hS 8 _ rfl (hW.of 8 (by decide)))) ((hin 12 48 rfl).trans (hS 12 _ rfl (hW.of 12 (by decide)))) ⟨_, rfl, hS.step 13 _ (.inr rfl), hH⟩
              · refine RegStep3.plain rfl ?_; rintro L u w1 bA hL hW hD hU ⟨hS, hH⟩ hin hout; exact opw_pickF _ _ _ _ rfl ((hin 3 39 rfl).trans (hS 3 _ rfl (hW.of 3 (by decide)))) ((hin 13 49 rfl).trans (hS 13 _ rfl (hW.of 13 (by decide)))) ⟨_, rfl, hS.step 14 _ (.inr rfl), hH⟩
            intro L u wv hL ⟨hS, hH⟩
            have E0 := hS 0 _ rfl (hL 0 (by decide))
            have E1 := hS 1 _ rfl (hL 1 (by decide))
            have E2 := hS 2 _ rfl (hL 2 (by decide))
            have E3 := hS 3 _ rfl (hL 3 (by decide))
            have E4 := hS 4 _ rfl (hL 4 (by decide))
            have E5 := hS 5 _ rfl (hL 5 (by decide))
            have E6 := hS 6 _ rfl (hL 6 (by decide))
            have E7 := hS 7 _ rfl (hL 7 (by decide))
            have E8 := hS 8 _ rfl (hL 8 (by decide))
            have E9 := hS 9 _ rfl (hL 9 (by decide))
            have E10 := hS 10 _ rfl (hL 10 (by decide))
            have E11 := hS 11 _ rfl (hL 11 (by decide))
            have E12 := hS 12 _ rfl (hL 12 (by decide))
            have E13 := hS 13 _ rfl (hL 13 (by decide))
            have E14 := hS 14 _ rfl (hL 14 (by decide))
            simp only [frame_cons, frame_nil, E0, E1, E2, E3, E4, E5, E6, E7, E8, E9, E10, E11, E12, E13, E14, Act.put, List.setIfInBounds_toArray, List.set_cons_zero, List.set_cons_succ]
            clear hL hS E0 E1 E2 E3 E4 E5 E6 E7 E8 E9 E10 E11 E12 E13 E14
            have Hv := Lib.hid hH
            clear hH HC
            go_wp2
            go_ret
            exact ⟨rfl, Hv.out.right.right⟩
        · have he' : (S == X) = false := by simpa using he
          have Z4 : Hid ((S == X) = false) := Lib.hid he'
          obtain ⟨L2, hL2⟩ : ∃ L2 : CL, L2 = putL lm LK S bl := ⟨_, rfl⟩
          have hl2 : L2.length ≤ i + 1 := by rw [hL2]; have := len_putL lm LK S bl; omega
          have ht2 : totL L2 ≤ 100 * (i + 1) := by rw [hL2]; have := tot_putL lm LK S bl; omega
          have hinv2 : BigInv lm X BG L2 := by rw [hL2, HS.out]; exact big_put HINV.out (fun h => by rw [← HS.out, he'] at h; cases h)
          have HP := Lib.hid (putC (st := st) (R := R) (lim := lm) (L := LK) (L' := L2) (b := bl) (S := S) HKY.out HST.out HS.out hL2 (by omega) (by omega) (by omega) hlm0)
          have HI2 := Lib.hid hinv2
          clear hL2 hinv2 hbl100
          clear he he' HN HNB
          go_wp2_with fail
          refine wp_region_inv3 (fun L u w' => Slots (fun kk => ([some (.slice B n d), some (.int .i64 ((n : Nat) : Int)), some (.bool false), some (.bool false), some (.slice B n d), some (.agg (bcells S).toArray), some (.agg (bcells X).toArray), some (.bool false), some (.bool false), some undef, some undef, some undef, some undef, some (.bool false), some (.bool false)] : List (Option Value)).getD kk none) L u ∧ Has st (sep (cacheA p LK lm) (sep (blk ix (.cells (bcells X).toArray 34 (0, 0))) R)) w') (by kernel_rfl) (by decide +kernel) (by decide +kernel) (by kernel_rfl) (by kernel_rfl) (fun u => ⟨Slots.start _ u, HC.out.drew⟩) ?_ ?_
          · refine ⟨?_, ?_, ?_, ?_, ?_, ?_, ?_, ?_, ?_, ?_, ?_, ?_, ?_, ?_, ?_, trivial⟩
            · refine RegStep3.plain rfl ?_; rintro L u w1 bA hL hW hD hU ⟨hS, hH⟩ hin hout; exact opw_move _ _ (.inl rfl) ((hout 10 (by kernel_rfl)).trans (by kernel_rfl)) ⟨_, rfl, hS.step 0 _ (.inr rfl), hH⟩
            · refine RegStep3.plain rfl ?_; rintro L u w1 bA hL hW hD hU ⟨hS, hH⟩ hin hout; exact opw_len _ _ _ Tryd.underlying30 B (n) d rfl ((hin 0 36 rfl).trans (hS 0 _ rfl (hW.of 0 (by decide)))) ⟨_, rfl, hS.step 1 _ (.inr rfl), hH⟩
            · refine RegStep3.plain rfl ?_; rintro L u w1 bA hL hW hD hU ⟨hS, hH⟩ hin hout; exact opw_cmp .gtr _ _ _ _ .i64 _ _ false rfl ((hin 1 37 rfl).trans (hS 1 _ rfl (hW.of 1 (by decide)))) rfl Z3.out ⟨_, rfl, hS.step 2 _ (.inr rfl), hH⟩
            · refine RegStep3.plain rfl ?_; rintro L u w1 bA hL hW hD hU ⟨hS, hH⟩ hin hout; exact opw_move _ _ (.inl rfl) ((hin 2 38 rfl).trans (hS 2 _ rfl (hW.of 2 (by decide)))) ⟨_, rfl, hS.step 3 _ (.inr rfl), hH⟩
            · refine RegStep3.yes 3 false rfl (fun L u w1 hW hI => hI.1 3 _ rfl (hW.of 3 (by decide))) ?_; rintro L u w1 bA hL hW hD hU ⟨hS, hH⟩ hin hout; exact opw_move _ _ (.inl rfl) ((hout 10 (by kernel_rfl)).trans (by kernel_rfl)) ⟨_, rfl, hS.step 4 _ (.inr rfl), hH⟩
            · refine RegStep3.yes 3 false rfl (fun L u w1 hW hI => hI.1 3 _ rfl (hW.of 3 (by decide))) ?_; rintro L u w1 bA hL hW hD hU ⟨hS, hH⟩ hin hout; exact opw_call_ret _ _ _ [(.slice B n d)] rfl (by kernel_rfl) (list2 ((hin 4 40 rfl).trans (hS 4 _ rfl (hW.of 4 (by decide)))) rfl) (HOB.out _ w1 hH) (fun e w2 he => by obtain ⟨rfl, h2⟩ := he; exact ⟨_, rfl, _, rfl, hS.step 5 _ (.inr rfl), h2⟩)
            · refine RegStep3.yes 3 false rfl (fun L u w1 hW hI => hI.1 3 _ rfl (hW.of 3 (by decide))) ?_; rintro L u w1 bA hL hW hD hU ⟨hS, hH⟩ hin hout; exact opw_loadMid _ _ rfl ix (0) ((hout 8 (by kernel_rfl)).trans (by kernel_rfl)) (bcells X) _ Tryd.underlying34 rfl HJX.out hH.second HTX.out ⟨_, rfl, hS.step 6 _ (.inr rfl), hH⟩
            · refine RegStep3.yes 3 false rfl (fun L u w1 hW hI => hI.1 3 _ rfl (hW.of 3 (by decide))) ?_; rintro L u w1 bA hL hW hD hU ⟨hS, hH⟩ hin hout; exact opw_eqRow _ _ 5 32 _ _ S X Tryd.underlying34 Tryd.underlying5 infosz (by kernel_rfl) HLS.out HLX.out rfl ((hin 5 41 rfl).trans (hS 5 _ rfl (hW.of 5 (by decide)))) ((hin 6 42 rfl).trans (hS 6 _ rfl (hW.of 6 (by decide)))) false Z4.out ⟨_, rfl, hS.step 7 _ (.inr rfl), hH⟩
            · refine RegStep3.yes 3 false rfl (fun L u w1 hW hI => hI.1 3 _ rfl (hW.of 3 (by decide))) ?_; rintro L u w1 bA hL hW hD hU ⟨hS, hH⟩ hin hout; exact opw_move _ _ (.inl rfl) ((hin 7 43 rfl).trans (hS 7 _ rfl (hW.of 7 (by decide)))) ⟨_, rfl, hS.step 8 _ (.inr rfl), hH⟩
            · refine RegStep3.no 8 true rfl ?_; rintro L u w1 hL hW hD ⟨hS, hH⟩; exact ⟨hS 8 _ rfl (hW.of 8 (by decide)), hS.step 9 _ (.inr rfl), hH⟩
            · refine RegStep3.no 8 true rfl ?_; rintro L u w1 hL hW hD ⟨hS, hH⟩; exact ⟨hS 8 _ rfl (hW.of 8 (by decide)), hS.step 10 _ (.inr rfl), hH⟩
            · refine RegStep3.no 8 true rfl ?_; rintro L u w1 hL hW hD ⟨hS, hH⟩; exact ⟨hS 8 _ rfl (hW.of 8 (by decide)), hS.step 11 _ (.inr rfl), hH⟩
            · refine RegStep3.no 8 true rfl ?_; rintro L u w1 hL hW hD ⟨hS, hH⟩; exact ⟨hS 8 _ rfl (hW.of 8 (by decide)), hS.step 12 _ (.inr rfl), hH⟩
            · refine RegStep3.yes 3 false rfl (fun L u w1 hW hI => hI.1 3 _ rfl (hW.of 3 (by decide))) ?_; rintro L u w1 bA hL hW hD hU ⟨hS, hH⟩ hin hout; exact opw_pickF _ _ _ _ rfl ((hin 8 44 rfl).trans (hS 8 _ rfl (hW.of 8 (by decide)))) rfl ⟨_, rfl, hS.step 13 _ (.inr rfl), hH⟩
            · refine RegStep3.plain rfl ?_; rintro L u w1 bA hL hW hD hU ⟨hS, hH⟩ hin hout; exact opw_pickF _ _ _ _ rfl ((hin 3 39 rfl).trans (hS 3 _ rfl (hW.of 3 (by decide)))) ((hin 13 49 rfl).trans (hS 13 _ rfl (hW.of 13 (by decide)))) ⟨_, rfl, hS.step 14 _ (.inr rfl), hH⟩
          intro L u wv hL ⟨hS, hH⟩
          have E0 := hS 0 _ rfl (hL 0 (by decide))
          have E1 := hS 1 _ rfl (hL 1 (by decide))
          have E2 := hS 2 _ rfl (hL 2 (by decide))
          have E3 := hS 3 _ rfl (hL 3 (by decide))
          have E4 := hS 4 _ rfl (hL 4 (by decide))
          have E5 := hS 5 _ rfl (hL 5 (by decide))
          have E6 := hS 6 _ rfl (hL 6 (by decide))
          have E7 := hS 7 _ rfl (hL 7 (by decide))
          have E8 := hS 8 _ rfl (hL 8 (by decide))
          have E9 := hS 9 _ rfl (hL 9 (by decide))
          have E10 := hS 10 _ rfl (hL 10 (by decide))
          have E11 := hS 11 _ rfl (hL 11 (by decide))
          have E12 := hS 12 _ rfl (hL 12 (by decide))
          have E13 := hS 13 _ rfl (hL 13 (by decide))
          have E14 := hS 14 _ rfl (hL 14 (by decide))
          simp only [frame_cons, frame_nil, E0, E1, E2, E3, E4, E5, E6, E7, E8, E9, E10, E11, E12, E13, E14, Act.put, List.setIfInBounds_toArray, List.set_cons_zero, List.set_cons_succ]
          clear hL hS E0 E1 E2 E3 E4 E5 E6 E7 E8 E9 E10 E11 E12 E13 E14
          have Hv := Lib.hid hH
          clear hH HC
          go_wp2_with (go_at_call 13; have hq := HP.out p (sep (blk ix (.cells (bcells X).toArray 34 (0, 0))) R) (.slice B n d) _ (fun w h => h.right) (by rw [← HNN.out]; exact HBS.out.right) Hv.out; (with_reducible refine hq.mono ?_); clear hq; rintro e w9 ⟨rfl, h9⟩; have H9 := Lib.hid h9; clear h9)
          go_roundw
          case rel => exact ⟨i + 1, L2, by omega, by go_num, hl2, ht2, HI2.out, H9.out⟩
          case measure => simp [intOf]; omega
    · obtain rfl : i = N := by omega
      have hLK : LK.length ≤ 1000 := by omega
      obtain ⟨L5, hL5⟩ : ∃ L : CL, L = (getL X LK).1 := ⟨_, rfl⟩
      obtain ⟨g5, hg5⟩ : ∃ g, g = (getL X LK).2.1 := ⟨_, rfl⟩
      obtain ⟨ok5, hok5⟩ : ∃ k, k = (getL X LK).2.2 := ⟨_, rfl⟩
      have hl5 : L5.length ≤ 1000 := by rw [hL5]; have := len_getL X LK; omega
      have ht5 : totL L5 ≤ 100000 := by rw [hL5]; have := tot_getL X LK; omega
      have hi5 : BigInv lm X BG L5 := by rw [hL5]; exact big_get HINV.out
      have HG := Lib.hid (getC (st := st) (R := R) (lim := lm) (L := LK) (L' := L5) (id := X) (g := g5) (ok := ok5) HKY.out HST.out HLX.out (by rw [hL5, hg5, hok5]) (by omega) (by omega))
      obtain ⟨T, hT⟩ : ∃ T, T = topL L5 1000 := ⟨_, rfl⟩
      have hT32 : ∀ x ∈ T, x.length = 32 := by
        rw [hT, topL_all L5 hl5]
        intro x hx
        obtain ⟨e, he, rfl⟩ := List.mem_map.1 hx
        exact (hi5 e he).1
      have hTl : T.length ≤ 1000000 := by rw [hT, topL_all L5 hl5, List.length_map]; omega
      have HAL := Lib.hid (allC (st := st) (lim := lm) (L := L5) (most := 1000) (T := T) hT (by omega))
      have HT32 := Lib.hid hT32
      have HTL := Lib.hid hTl
      have HWI := Lib.hid (wipeC (st := st) (lim := lm) (L := L5))
      have HG0 := Lib.hid (getC (st := st) (R := R) (lim := lm) (L := []) (L' := []) (id := X) (g := []) (ok := false) HKY.out HST.out HLX.out rfl (by simp) (by simp [totL]))
      have HLE := Lib.hid (lenC (st := st) (lim := lm) (L := []) (n := 0) rfl)
      have HZ0 := Lib.hid (sizeC (st := st) (lim := lm) (L := []) (n := 0) rfl)
      have HA9 := Lib.hid (allC (st := st) (lim := lm) (L := []) (most := 9) (T := []) rfl (by simp))
      have HSP := Lib.hid (spoilC (st := st) (lim := lm) (L := []) (L' := []) (id := X) (bit := 3) (ok := false) HLX.out rfl (by simp) (by simp [totL]))
      have HY := HC
      have HNBB := Lib.hid (show (nb : Int) = (BG.length : Int) by rw [HNB.out])
      clear HC hT hT32 hTl hg5 hok5 hL5 hLl hLt hlt hi HN
      by_cases hbig : lm < (nb : Int)
      · have hbg : lm < (BG.length : Int) := by rw [← HNBB.out]; exact hbig
        have ZB : Hid (cmpZ .gtr (nb : Int) lm = some true) := Lib.hid (by show some (decide ((nb : Int) > lm)) = some true; rw [decide_eq_true (by omega)])
        have HPX := Lib.hid (putC (st := st) (R := R) (lim := lm) (L := L5) (L' := L5) (b := BG) (S := X) HKY.out HST.out HX.out (big_putX hi5 hbg).symm (by omega) (by omega) (by rw [← HNB.out]; omega) hlm0)
        have HPX2 : Hid (∀ F w, (∀ w, Has st F w → Has st R w) → Has st (sep (cacheA p L5 lm) F) w → Calls Tryd.prog 13 #[.pointer (some ⟨p, 0, none⟩), .slice Ab nb cb] w fun e w' => e = .returned (.agg (bcells X).toArray) ∧ Has st (sep (cacheA p L5 lm) F) w') := Lib.hid fun F w hF hw => HPX.out p F _ w hF (fun w h => by rw [← HNB.out]; exact HSB.out w (hF w h)) hw
        have HG2 := Lib.hid (getC (st := st) (R := R) (lim := lm) (L := L5) (L' := L5) (id := X) (g := []) (ok := false) HKY.out HST.out HLX.out (big_getX hi5 hbg) (by omega) (by omega))
        have ZXX : Hid ((!(X == X)) = false) := Lib.hid (by simp)
        clear hi5 hbg hbig hl5 ht5 HINV HX HPX HNBB HNB
        go_wp2_with (first
          | (have _k := Y0; go_at_call 21; refine (HAL.out _ _ _ Y0.out).mono ?_; rintro e w9 ⟨Aw, cw, rfl, h9⟩; have Y1 := Lib.hid h9.second; clear h9)
          | (have _k := HY; go_at_call 15; refine (HG.out _ _ _ (fun w h => h.right) HY.out).mono ?_; rintro e w9 ⟨Ag, cg, rfl, h9⟩; have Y0 := Lib.hid h9.right; clear h9)
          | ((first | (with_reducible refine wpList_plain rfl ?_) | ((with_reducible refine wpList_yes _ _ rfl ?_ ?_); (focus rfl))); intro _ hk; (first
            | (have _k := Y1; refine opw_max _ _ _ limit 0 lm rfl rfl rfl HLM.out (hk _ _ ?_))
            | (have _k := HY; refine opw_loadMid 34 _ rfl ix 0 rfl (bcells X) _ Tryd.underlying34 rfl HJX.out HY.out.second HTX.out (hk _ _ ?_))
            | (refine opw_cmp .gtr _ _ _ _ .i64 (nb : Int) lm true rfl rfl rfl ZB.out (hk _ _ ?_))); simp only [Act.put, List.setIfInBounds_toArray, List.set_cons_zero, List.set_cons_succ]))
        refine wp_region_inv3 (fun L u w' => Slots (fun kk => ([some (.pointer (some ⟨p, 0, none⟩)), some (.slice Ab nb cb), some (.agg (bcells X).toArray), some (.agg (bcells X).toArray), some (.bool false), some (.bool false), some (.pointer (some ⟨p, 0, none⟩)), none, some (.slice Aw T.length cw), some (.bool true), some (.bool false), some (.bool false)] : List (Option Value)).getD kk none) L u ∧ Has st (sep (stg (L 2) (cacheA p L5 lm) (cacheA p L5 lm)) (sep (stg (L 7) (row 34 32 (u 7) T.length (idsC T)) emp) (sep (row 34 32 (.slice Aw T.length cw) T.length (idsC T)) (sep (blk ix (.cells (bcells X).toArray 34 (0, 0))) R)))) w') (by kernel_rfl) (by decide +kernel) (by decide +kernel) (by kernel_rfl) (by kernel_rfl) (fun u => ⟨Slots.start _ u, (show Has st (sep (stg false (cacheA p L5 lm) (cacheA p L5 lm)) (sep (stg false (row 34 32 (u 7) T.length (idsC T)) emp) (sep (row 34 32 (.slice Aw T.length cw) T.length (idsC T)) (sep (blk ix (.cells (bcells X).toArray 34 (0, 0))) R)))) _ from Y1.out.drew.cast (by first | (simp only [stg_no, emp_sep]; done) | (simp only [stg_no, emp_sep]; ac_rfl)))⟩) ?_ ?_
        · refine ⟨?_, ?_, ?_, ?_, ?_, ?_, ?_, ?_, ?_, ?_, ?_, ?_, trivial⟩
          · refine RegStep3.plain rfl ?_; rintro L u w1 bA hL hW hD hU ⟨hS, hH⟩ hin hout; exact opw_move _ _ (.inl rfl) ((hout 7 (by kernel_rfl)).trans (by kernel_rfl)) ⟨_, rfl, hS.step 0 _ (.inr rfl), hH⟩
          · refine RegStep3.plain rfl ?_; rintro L u w1 bA hL hW hD hU ⟨hS, hH⟩ hin hout; exact opw_move _ _ (.inl rfl) ((hout 2 (by kernel_rfl)).trans (by kernel_rfl)) ⟨_, rfl, hS.step 1 _ (.inr rfl), hH⟩
          · refine RegStep3.plain rfl ?_; rintro L u w1 bA hL hW hD hU ⟨hS, hH⟩ hin hout; exact opw_call_ret _ _ _ [(.pointer (some ⟨p, 0, none⟩)), (.slice Ab nb cb)] rfl (by kernel_rfl) (list2 ((hin 0 65 rfl).trans (hS 0 _ rfl (hW.of 0 (by decide)))) (list2 ((hin 1 66 rfl).trans (hS 1 _ rfl (hW.of 1 (by decide)))) rfl)) (HPX2.out _ _ (fun w h => h.right.right.right) (hH.stg_no hL)) (fun e w2 he => by obtain ⟨rfl, h2⟩ := he; exact ⟨_, rfl, _, rfl, hS.step 2 _ (.inr rfl), (show Has st (sep (stg true (cacheA p L5 lm) (cacheA p L5 lm)) (sep (stg (L 7) (row 34 32 (u 7) T.length (idsC T)) emp) (sep (row 34 32 (.slice Aw T.length cw) T.length (idsC T)) (sep (blk ix (.cells (bcells X).toArray 34 (0, 0))) R)))) w2 from ((h2.stg_mk (Q := (cacheA p L5 lm)))).cast (by ac_rfl))⟩)
          · refine RegStep3.plain rfl ?_; rintro L u w1 bA hL hW hD hU ⟨hS, hH⟩ hin hout; exact opw_loadMid _ _ rfl ix (0) ((hout 8 (by kernel_rfl)).trans (by kernel_rfl)) (bcells X) _ Tryd.underlying34 rfl HJX.out ((hH.right.right)).second HTX.out ⟨_, rfl, hS.step 3 _ (.inr rfl), hH⟩
          · refine RegStep3.plain rfl ?_; rintro L u w1 bA hL hW hD hU ⟨hS, hH⟩ hin hout; exact opw_neRow _ _ 5 32 _ _ X X Tryd.underlying34 Tryd.underlying5 infosz (by kernel_rfl) HLX.out HLX.out rfl ((hin 2 67 rfl).trans (hS 2 _ rfl (hW.of 2 (by decide)))) ((hin 3 68 rfl).trans (hS 3 _ rfl (hW.of 3 (by decide)))) false ZXX.out ⟨_, rfl, hS.step 4 _ (.inr rfl), hH⟩
          · refine RegStep3.plain rfl ?_; rintro L u w1 bA hL hW hD hU ⟨hS, hH⟩ hin hout; exact opw_move _ _ (.inl rfl) ((hin 4 69 rfl).trans (hS 4 _ rfl (hW.of 4 (by decide)))) ⟨_, rfl, hS.step 5 _ (.inr rfl), hH⟩
          · refine RegStep3.yes 5 false rfl (fun L u w1 hW hI => hI.1 5 _ rfl (hW.of 5 (by decide))) ?_; rintro L u w1 bA hL hW hD hU ⟨hS, hH⟩ hin hout; exact opw_move _ _ (.inl rfl) ((hout 7 (by kernel_rfl)).trans (by kernel_rfl)) ⟨_, rfl, hS.step 6 _ (.inr rfl), hH⟩
          · refine RegStep3.yes 5 false rfl (fun L u w1 hW hI => hI.1 5 _ rfl (hW.of 5 (by decide))) ?_; rintro L u w1 bA hL hW hD hU ⟨hS, hH⟩ hin hout; exact opw_call_ret _ _ _ [.pointer (some ⟨p, 0, none⟩), .int .i64 1000] rfl (by kernel_rfl) (list2 ((hin 6 71 rfl).trans (hS 6 _ rfl (hW.of 6 (by decide)))) rfl) (HAL.out p _ w1 (hH.stg_yes (hW.far (i := 7) hD rfl 12 2 (by decide +kernel)))) (fun e w2 he => by obtain ⟨A8, c8, rfl, h8⟩ := he; exact ⟨_, rfl, _, rfl, hS.step 7 _ (.inl rfl), (show Has st (sep (stg (L 2) (cacheA p L5 lm) (cacheA p L5 lm)) (sep (stg true (row 34 32 (.slice A8 T.length c8) T.length (idsC T)) emp) (sep (row 34 32 (.slice Aw T.length cw) T.length (idsC T)) (sep (blk ix (.cells (bcells X).toArray 34 (0, 0))) R)))) w2 from h8.cast (by simp only [stg_off hL, stg_on (hW.far (i := 7) hD rfl 12 2 (by decide +kernel)), stg_true, emp_sep]; ac_rfl))⟩)
          · refine RegStep3.yes 5 false rfl (fun L u w1 hW hI => hI.1 5 _ rfl (hW.of 5 (by decide))) ?_; rintro L u w1 bA hL hW hD hU ⟨hS, hH⟩ hin hout; exact opw_move _ _ (.inl rfl) ((hout 11 (by kernel_rfl)).trans (by kernel_rfl)) ⟨_, rfl, hS.step 8 _ (.inr rfl), hH⟩
          · refine RegStep3.yes 5 false rfl (fun L u w1 hW hI => hI.1 5 _ rfl (hW.of 5 (by decide))) ?_; rintro L u w1 bA hL hW hD hU ⟨hS, hH⟩ hin hout; obtain ⟨A8, c8, e8⟩ := (((hH.cast (show _ = sep (stg (L 7) (row 34 32 (u 7) T.length (idsC T)) emp) (sep (stg (L 2) (cacheA p L5 lm) (cacheA p L5 lm)) (sep (row 34 32 (.slice Aw T.length cw) T.length (idsC T)) (sep (blk ix (.cells (bcells X).toArray 34 (0, 0))) R))) by ac_rfl)).stg_yes (hW.far (i := 9) hD rfl 12 7 (by decide +kernel)))).row_slice; exact opw_call_ret _ _ _ [.slice A8 T.length c8, .slice Aw T.length cw] rfl (by kernel_rfl) (list2 ((hin 7 72 rfl).trans e8) (list2 ((hin 8 73 rfl).trans (hS 8 _ rfl (hW.of 8 (by decide)))) rfl)) (sameIDs_any st _ T HT32.out HTL.out A8 c8 Aw cw (fun w h => by have q := Rd.of_row (((h.cast (show _ = sep (stg (L 7) (row 34 32 (u 7) T.length (idsC T)) emp) (sep (stg (L 2) (cacheA p L5 lm) (cacheA p L5 lm)) (sep (row 34 32 (.slice Aw T.length cw) T.length (idsC T)) (sep (blk ix (.cells (bcells X).toArray 34 (0, 0))) R))) by ac_rfl)).stg_yes (hW.far (i := 9) hD rfl 12 7 (by decide +kernel)))).ownsRow; rw [e8] at q; exact q) (fun w h => Rd.of_row h.right.right.ownsRow) w1 hH) (fun e w2 he => by obtain ⟨rfl, h2⟩ := he; exact ⟨_, rfl, _, rfl, hS.step 9 _ (.inr rfl), h2⟩)
          · refine RegStep3.yes 5 false rfl (fun L u w1 hW hI => hI.1 5 _ rfl (hW.of 5 (by decide))) ?_; rintro L u w1 bA hL hW hD hU ⟨hS, hH⟩ hin hout; exact opw_not _ _ _ rfl ((hin 9 74 rfl).trans (hS 9 _ rfl (hW.of 9 (by decide)))) false rfl ⟨_, rfl, hS.step 10 _ (.inr rfl), hH⟩
          · refine RegStep3.plain rfl ?_; rintro L u w1 bA hL hW hD hU ⟨hS, hH⟩ hin hout; exact opw_pickF _ _ _ _ rfl ((hin 5 70 rfl).trans (hS 5 _ rfl (hW.of 5 (by decide)))) ((hin 10 75 rfl).trans (hS 10 _ rfl (hW.of 10 (by decide)))) ⟨_, rfl, hS.step 11 _ (.inr rfl), hH⟩
        intro L u ws hL ⟨hS, hH⟩
        have E0 := hS 0 _ rfl (hL 0 (by decide))
        have E1 := hS 1 _ rfl (hL 1 (by decide))
        have E2 := hS 2 _ rfl (hL 2 (by decide))
        have E3 := hS 3 _ rfl (hL 3 (by decide))
        have E4 := hS 4 _ rfl (hL 4 (by decide))
        have E5 := hS 5 _ rfl (hL 5 (by decide))
        have E6 := hS 6 _ rfl (hL 6 (by decide))
        have E8 := hS 8 _ rfl (hL 8 (by decide))
        have E9 := hS 9 _ rfl (hL 9 (by decide))
        have E10 := hS 10 _ rfl (hL 10 (by decide))
        have E11 := hS 11 _ rfl (hL 11 (by decide))
        simp only [hL 2 (by decide), hL 7 (by decide), stg_true, emp_sep] at hH
        simp only [frame_cons, frame_nil, E0, E1, E2, E3, E4, E5, E6, E8, E9, E10, E11, Act.put, List.setIfInBounds_toArray, List.set_cons_zero, List.set_cons_succ]
        clear hL hS E0 E1 E2 E3 E4 E5 E6 E8 E9 E10 E11
        generalize u 2 = u2 at hH ⊢
        generalize u 7 = u7 at hH ⊢
        have Hs := Lib.hid hH
        clear hH HY Y0 Y1
        have Y4 : Hid (Has st (sep (cacheA p L5 lm) (sep (blk ix (.cells (bcells X).toArray 34 (0, 0))) R)) ws) := Lib.hid ((Hs.out.cast (show _ = sep (row 34 32 u7 T.length (idsC T)) (sep (row 34 32 (.slice Aw T.length cw) T.length (idsC T)) (sep (cacheA p L5 lm) (sep (blk ix (.cells (bcells X).toArray 34 (0, 0))) R))) by ac_rfl)).right.right)
        clear Hs
        go_wp2_with (first
          | (have _k := Ya; go_at_call 18; refine (HSP.out _ _ _ Ya.out).mono ?_; rintro e w9 ⟨rfl, h9⟩; have Yb := Lib.hid h9; clear h9)
          | (have _k := Y9; go_at_call 21; refine (HA9.out _ _ _ Y9.out).mono ?_; rintro e w9 ⟨Aj, cj, rfl, h9⟩; have Ya := Lib.hid h9.right; clear h9)
          | (have _k := Y8; go_at_call 23; refine (HZ0.out _ _ _ Y8.out).mono ?_; rintro e w9 ⟨rfl, h9⟩; have Y9 := Lib.hid h9; clear h9)
          | (have _k := Y7; go_at_call 22; refine (HLE.out _ _ _ Y7.out).mono ?_; rintro e w9 ⟨rfl, h9⟩; have Y8 := Lib.hid h9; clear h9)
          | (have _k := Y6; go_at_call 15; refine (HG0.out _ _ _ (fun w h => h.right) Y6.out).mono ?_; rintro e w9 ⟨Ai, ci, rfl, h9⟩; have Y7 := Lib.hid h9.right; clear h9)
          | (have _k := Y5; go_at_call 19; refine (HWI.out _ _ _ Y5.out).mono ?_; rintro e w9 ⟨rfl, h9⟩; have Y6 := Lib.hid h9; clear h9)
          | (have _k := Y4; go_at_call 15; refine (HG2.out _ _ _ (fun w h => h.right) Y4.out).mono ?_; rintro e w9 ⟨Ah, ch, rfl, h9⟩; have Y5 := Lib.hid h9.right; clear h9)
          | ((first | (with_reducible refine wpList_plain rfl ?_) | ((with_reducible refine wpList_yes _ _ rfl ?_ ?_); (focus rfl))); intro _ hk; (first
            | (have _k := Ya; refine opw_loadMid 34 _ rfl ix 0 rfl (bcells X) _ Tryd.underlying34 rfl HJX.out Ya.out.second HTX.out (hk _ _ ?_))
            | (have _k := Y6; refine opw_loadMid 34 _ rfl ix 0 rfl (bcells X) _ Tryd.underlying34 rfl HJX.out Y6.out.second HTX.out (hk _ _ ?_))
            | (have _k := Y4; refine opw_loadMid 34 _ rfl ix 0 rfl (bcells X) _ Tryd.underlying34 rfl HJX.out Y4.out.second HTX.out (hk _ _ ?_))); simp only [Act.put, List.setIfInBounds_toArray, List.set_cons_zero, List.set_cons_succ]))
        go_ret
        exact ⟨rfl, Yb.out.right.right⟩
      · have ZB : Hid (cmpZ .gtr (nb : Int) lm = some false) := Lib.hid (by show some (decide ((nb : Int) > lm)) = some false; rw [decide_eq_false (by omega)])
        clear hi5 hbig hl5 ht5 HINV HX HNBB HNB
        go_wp2_with (first
          | (have _k := Ya; go_at_call 18; refine (HSP.out _ _ _ Ya.out).mono ?_; rintro e w9 ⟨rfl, h9⟩; have Yb := Lib.hid h9; clear h9)
          | (have _k := Y9; go_at_call 21; refine (HA9.out _ _ _ Y9.out).mono ?_; rintro e w9 ⟨Aj, cj, rfl, h9⟩; have Ya := Lib.hid h9.right; clear h9)
          | (have _k := Y8; go_at_call 23; refine (HZ0.out _ _ _ Y8.out).mono ?_; rintro e w9 ⟨rfl, h9⟩; have Y9 := Lib.hid h9; clear h9)
          | (have _k := Y7; go_at_call 22; refine (HLE.out _ _ _ Y7.out).mono ?_; rintro e w9 ⟨rfl, h9⟩; have Y8 := Lib.hid h9; clear h9)
          | (have _k := Y6; go_at_call 15; refine (HG0.out _ _ _ (fun w h => h.right) Y6.out).mono ?_; rintro e w9 ⟨Ai, ci, rfl, h9⟩; have Y7 := Lib.hid h9.right; clear h9)
          | (have _k := Y5; go_at_call 19; refine (HWI.out _ _ _ Y5.out).mono ?_; rintro e w9 ⟨rfl, h9⟩; have Y6 := Lib.hid h9; clear h9)
          | (have _k := Y0; go_at_call 21; refine (HAL.out _ _ _ Y0.out).mono ?_; rintro e w9 ⟨Aw, cw, rfl, h9⟩; have Y1 := Lib.hid h9.right; have Y5 := Y1; clear h9)
          | (have _k := HY; go_at_call 15; refine (HG.out _ _ _ (fun w h => h.right) HY.out).mono ?_; rintro e w9 ⟨Ag, cg, rfl, h9⟩; have Y0 := Lib.hid h9.right; clear h9)
          | ((first | (with_reducible refine wpList_plain rfl ?_) | ((with_reducible refine wpList_yes _ _ rfl ?_ ?_); (focus rfl))); intro _ hk; (first
            | (have _k := Ya; refine opw_loadMid 34 _ rfl ix 0 rfl (bcells X) _ Tryd.underlying34 rfl HJX.out Ya.out.second HTX.out (hk _ _ ?_))
            | (have _k := Y6; refine opw_loadMid 34 _ rfl ix 0 rfl (bcells X) _ Tryd.underlying34 rfl HJX.out Y6.out.second HTX.out (hk _ _ ?_))
            | (have _k := Y1; refine opw_max _ _ _ limit 0 lm rfl rfl rfl HLM.out (hk _ _ ?_))
            | (have _k := HY; refine opw_loadMid 34 _ rfl ix 0 rfl (bcells X) _ Tryd.underlying34 rfl HJX.out HY.out.second HTX.out (hk _ _ ?_))
            | (refine opw_cmp .gtr _ _ _ _ .i64 (nb : Int) lm false rfl rfl rfl ZB.out (hk _ _ ?_))); simp only [Act.put, List.setIfInBounds_toArray, List.set_cons_zero, List.set_cons_succ]))
        go_ret
        exact ⟨rfl, Yb.out.right.right⟩
end Go.Proofs.YtblknhpafifebaaDoor
