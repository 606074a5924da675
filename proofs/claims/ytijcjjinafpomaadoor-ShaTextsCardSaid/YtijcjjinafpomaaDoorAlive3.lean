/-
  coldstorelaw03.alive.
-/
import Derived.Test.YtijcjjinafpomaaDoorHex
import Derived.Test.YtijcjjinafpomaaDoorRefLess
namespace Go.Sl
open Go Go.RowKit
theorem opw_lenStr {P : Program} {o : Oper} {a : Act} {w : World} {K : Act → World → Prop} {Q : Exit → Act → World → Prop} (x : Operand) (t : TypeId) (hu : P.underlying t = some .string) (l : List UInt8) (ho : o.op = .call { callee := .builtin .len, args := #[x], argTypes := #[t] }) (hx : a.eval x = .string (str l)) (hK : K (a.put o.dst (.int .i64 (l.length : Int))) w) : o.wp P a w K Q := by
  refine opw_run (.int .i64 (l.length : Int)) ?_ hK
  unfold execOp
  simp only [ho, resolve, invoke, builtin, Sem.run_bind, Sem.run_pure, Result.andThen_ok, List.map_toArray, List.map_cons, List.map_nil, hx]
  simp [Builtin.len_, run_underlying hu, go_sem, str_size]
theorem wpList_yes {P : Program} {ops : Array Oper} {Q : Exit → Act → World → Prop} {rest : List Oper} {o : Oper} {a : Act} {w : World} (j : Nat) (c : Bool) (hg : o.guard = some (j, c)) (hj : yielded ops a.tmps j = some c)
    (h : ∀ K : Act → World → Prop, (∀ a w, wpList P ops Q rest a w → K a w) → o.wp P a w K Q) : wpList P ops Q (o :: rest) a w :=
  wpList_step fun K hK => by simp only [Region.wanted, hg, hj, beq_self_eq_true, if_true]; exact h K hK
theorem sees_nil (st : World) (R : HProp) : Sees st R 1 (.slice none 0 0) ([] : List UInt8).length (bcells []) := fun w h => ((h.seen_nil 1).openSeen.elim fun _ hG => hG.2 st R w hG.1)
end Go.Sl
namespace Go.Proofs.YtijcjjinafpomaaDoor
open Go.RowKit Go.Sl Go.Sha
set_option linter.unusedVariables false
set_option linter.unusedSimpArgs false
theorem Keys.up {st : World} {p R : HProp} (h : Keys st R) : Keys st (sep p R) := fun w hw => h w hw.right
theorem Start.up {st : World} {p R : HProp} (h : Start st R) : Start st (sep p R) := fun w hw => h w hw.right
abbrev abc : List UInt8 := [97, 98, 99]
theorem text_e : (hex (sha [])).take 8 = [101, 51, 98, 48, 99, 52, 52, 50] := by decide +kernel
theorem text_abc : (hex (sha abc)).take 8 = [98, 97, 55, 56, 49, 54, 98, 102] := by decide +kernel
theorem less_abc : lessB (sha abc) (sha []) = true := by decide +kernel
set_option maxRecDepth 100000 in
set_option maxHeartbeats 4000000 in
theorem alive_any (st : World) (R : HProp) (hk : Keys st R) (hst : Start st R) (w : World) (h : Has st R w) :
    Calls Tryd.prog 7 #[] w fun e w' => e = .returned (.bool true) ∧ Has st R w' := by
  have HOF : Hid (∀ w, Has st R w → Calls Tryd.prog 10 #[.slice none 0 0] w fun e w' => e = .returned (.agg (bcells (sha [])).toArray) ∧ Has st R w') := Lib.hid fun w h => shaOf_any st R [] (.slice none 0 0) hk hst w h (sees_nil st R) (by simp)
  obtain ⟨N, hN⟩ : ∃ N, N = sha [] := ⟨_, rfl⟩
  obtain ⟨M, hM⟩ : ∃ M, M = sha abc := ⟨_, rfl⟩
  have hNl : N.length = 32 := by rw [hN]; exact sha_length _
  have hMl : M.length = 32 := by rw [hM]; exact sha_length _
  obtain ⟨T, hT⟩ : ∃ T, T = hex N := ⟨_, rfl⟩
  obtain ⟨S, hS⟩ : ∃ S, S = hex M := ⟨_, rfl⟩
  have HTX : Hid (∀ w, Has st R w → Calls Tryd.prog 14 #[.agg (bcells N).toArray] w fun e w' => e = .returned (.string (str T)) ∧ Has st R w') := Lib.hid fun w h => by rw [hT]; exact text_any st R N hNl w h
  have HT8 : Hid (cmpS .neq (T.take 8) [101, 51, 98, 48, 99, 52, 52, 50] = some false) := Lib.hid (by rw [hT, hN, text_e]; rfl)
  have HS8 : Hid (cmpS .eql (S.take 8) [98, 97, 55, 56, 49, 54, 98, 102] = some true) := Lib.hid (by rw [hS, hM, text_abc]; rfl)
  have hTl : T.length = 64 := by rw [hT, hex_length, hNl]
  have hSl : S.length = 64 := by rw [hS, hex_length, hMl]
  have HP1 : Hid (∀ RR w, Has st RR w → Calls Tryd.prog 8 #[.string (str T)] w fun e w' => e = .returned (.tuple #[.agg (bcells N).toArray, .int .i64 0]) ∧ Has st RR w') := Lib.hid fun RR w h => by
    have := parse_any st RR (str T) w h (by rw [str_size, hTl]; decide)
    rw [show (str T).data.toList = T by simp [str], hT, parse_hex N hNl, ← hT] at this
    exact this
  have HP2 : Hid (∀ RR w, Has st RR w → Calls Tryd.prog 8 #[.string (str T.tail)] w fun e w' => e = .returned (.tuple #[.agg (bcells (List.replicate 32 0)).toArray, .int .i64 21]) ∧ Has st RR w') := Lib.hid fun RR w h => by
    rw [← List.drop_one]
    have := parse_any st RR (str (T.drop 1)) w h (by rw [str_size, List.length_drop, hTl]; decide)
    rw [show (str (T.drop 1)).data.toList = T.drop 1 by simp [str], parse_no (by unfold okS; rw [List.length_drop, hTl]; rfl)] at this
    exact this
  have HLS : Hid (∀ RR w, Has st RR w → Calls Tryd.prog 12 #[.agg (bcells M).toArray, .agg (bcells N).toArray] w fun e w' => e = .returned (.bool true) ∧ Has st RR w') := Lib.hid fun RR w h => by
    have := less_any st RR M N hMl hNl w h
    rw [show lessB M N = true by rw [hM, hN]; exact less_abc] at this
    exact this
  have HTX2 : Hid (∀ RR w, Has st RR w → Calls Tryd.prog 14 #[.agg (bcells M).toArray] w fun e w' => e = .returned (.string (str S)) ∧ Has st RR w') := Lib.hid fun RR w h => by rw [hS]; exact text_any st RR M hMl w h
  have HOF2 : Hid (∀ RR w, Keys st RR → Start st RR → Has st RR w → Calls Tryd.prog 10 #[.slice none 0 0] w fun e w' => e = .returned (.agg (bcells N).toArray) ∧ Has st RR w') := Lib.hid fun RR w hk hst h => by rw [hN]; exact shaOf_any st RR [] (.slice none 0 0) hk hst w h (sees_nil st RR) (by simp)
  have HSM : Hid (∀ p RR w, Keys st RR → Start st RR → Has st (sep (hash p abc) RR) w → Calls Tryd.prog 17 #[.pointer (some ⟨p, 0, none⟩)] w fun e w' => e = .returned (.agg (bcells M).toArray) ∧ Has st (sep (hash p abc) RR) w') := Lib.hid fun p RR w hk hst h => by rw [hM]; exact sum_any st RR p abc hk hst w h (by decide)
  have HZ64 : Hid (cmpZ .neq (T.length : Int) 64 = some false) := Lib.hid (by rw [hTl]; rfl)
  rw [← hN] at HOF
  have hi32 : (Tryd.prog.info? 24).map (·.size) = some (bcells N).toArray.size := by simp only [List.size_toArray, bcells_length, hNl]; exact infoID
  have hz2 : (bcells (List.replicate 32 (0 : UInt8))).toArray.size = (bcells N).toArray.size := by simp only [List.size_toArray, bcells_length, hNl]; rfl
  have HI := Lib.hid hi32
  have HI2 := Lib.hid hz2
  have HNL := Lib.hid hNl
  have HK := Lib.hid hk
  have HST := Lib.hid hst
  have h8 : 8 ≤ T.length := by omega
  have h1 : 1 ≤ T.length := by omega
  have h8' : 8 ≤ S.length := by omega
  have HH := Lib.hid h
  clear hN hM hNl hMl hT hS hTl hSl hi32 hz2 hk hst h
  go_enter Tryd.func7, Tryd.ntmps7
  go_wp2_with (first
    | (go_at_call 10; refine (HOF.out _ HH.out).mono ?_; rintro e w1 ⟨rfl, h1⟩; have H1 := Lib.hid h1; clear h1)
    | (go_at_call 14; refine (HTX.out _ H1.out).mono ?_; rintro e w2 ⟨rfl, h2⟩; have H2 := Lib.hid h2; clear h2)
    | (go_at_call 16; refine (write_any st (sep (blk q (.cells (bcells abc).toArray 5 (3, 4))) R) p [] abc _ HK.out.up HST.out.up _ H5.out (fun w2 h2 => rd_blk (l := abc) h2 (by decide)) (by decide)).mono ?_; rintro e w6 ⟨rfl, h6⟩; have H6 := Lib.hid h6; clear h6)
    | (have _k := H8; go_at_call 8; refine (HP2.out _ _ H8.out).mono ?_; rintro e w9 ⟨rfl, h9⟩; have H9 := Lib.hid h9; clear h9)
    | (go_at_call 8; refine (HP1.out _ _ H6.out).mono ?_; rintro e w7 ⟨rfl, h7⟩; have H7 := Lib.hid h7; clear h7)
    | ((first | (with_reducible refine wpList_plain rfl ?_) | ((with_reducible refine wpList_yes _ _ rfl ?_ ?_); (focus rfl))); intro _ hk; (first
      | (refine opw_lenStr _ _ Tryd.underlying9 T rfl rfl (hk _ _ ?_))
      | (refine opw_slTo 9 _ _ Tryd.underlying9 rfl T 8 rfl rfl h8 (hk _ _ ?_))
      | (refine opw_cmpStr .neq _ _ _ _ (T.take 8) [101, 51, 98, 48, 99, 52, 52, 50] false rfl rfl rfl HT8.out (hk _ _ ?_))
      | (refine opw_cmp .neq _ _ _ _ .i64 (T.length : Int) 64 false rfl rfl rfl HZ64.out (hk _ _ ?_))
      | (refine opw_alloc 39 (.agg (hcells false ⟨0, 0, 0, 0, 0, 0, 0, 0⟩ (.slice none 0 0) 0)) (hcells false ⟨0, 0, 0, 0, 0, 0, 0, 0⟩ (.slice none 0 0) 0) rfl zeroHash rfl H2.out (fun p w3 hp h3 => hk _ _ ?_); clear hp; have H3 := Lib.hid (hash_new h3); clear h3)
      | (refine opw_lit 22 3 _ _ 5 (bcells abc).toArray rfl rfl (by kernel_rfl) H3.out (fun q w4 h4 => hk _ _ ?_); have H4 := Lib.hid h4; clear h4)
      | (refine opw_mark 22 5 _ rfl q 3 3 rfl Tryd.underlying22 Tryd.underlying5 H4.out (fun w5 h5 => hk _ _ ?_); have H5 := Lib.hid h5.second; clear h5)
      | (have _k := H9; refine opw_alloc 24 (.agg (bcells (List.replicate 32 0)).toArray) (bcells (List.replicate 32 0)).toArray rfl zeroID rfl H9.out (fun p5 w10 hp h10 => hk _ _ ?_); clear hp; have H10 := Lib.hid h10; clear h10)
      | (refine opw_alloc 24 (.agg (bcells (List.replicate 32 0)).toArray) (bcells (List.replicate 32 0)).toArray rfl zeroID rfl H7.out (fun p3 w7' hp h7' => hk _ _ ?_); clear hp; have H7' := Lib.hid h7'; clear h7')
      | (have _k := H10; refine opw_storeRow 24 _ _ rfl p5 (bcells (List.replicate 32 0)).toArray rfl rfl 24 (bcells (List.replicate 32 0)).toArray infoID rfl (bcells_all _) H10.out (fun w11 h11 => hk _ _ ?_); have H11 := Lib.hid h11; clear h11)
      | (refine opw_storeRow 24 _ _ rfl p3 (bcells N).toArray rfl rfl 24 (bcells (List.replicate 32 0)).toArray HI.out HI2.out (bcells_all _) H7'.out (fun w8 h8 => hk _ _ ?_); have H8 := Lib.hid h8; clear h8)
      | (refine opw_slFrom 9 _ _ Tryd.underlying9 rfl T 1 rfl rfl h1 (hk _ _ ?_))); simp only [Act.put, List.setIfInBounds_toArray, List.set_cons_zero, List.set_cons_succ]))
  have CSM : Hid (∀ w, Has st (sep (blk p5 (.cells (bcells (List.replicate 32 0)).toArray 24 (0, 0))) (sep (blk p3 (.cells (bcells N).toArray 24 (0, 0))) (sep (hash p abc) (sep (blk q (.cells (bcells abc).toArray 5 (3, 4))) R)))) w → Calls Tryd.prog 17 #[.pointer (some ⟨p, 0, none⟩)] w fun e w' => e = .returned (.agg (bcells M).toArray) ∧ Has st (sep (blk p5 (.cells (bcells (List.replicate 32 0)).toArray 24 (0, 0))) (sep (blk p3 (.cells (bcells N).toArray 24 (0, 0))) (sep (hash p abc) (sep (blk q (.cells (bcells abc).toArray 5 (3, 4))) R)))) w') := Lib.hid fun w h => (HSM.out p (sep (blk p5 (.cells (bcells (List.replicate 32 0)).toArray 24 (0, 0))) (sep (blk p3 (.cells (bcells N).toArray 24 (0, 0))) (sep (blk q (.cells (bcells abc).toArray 5 (3, 4))) R))) w HK.out.up.up.up HST.out.up.up.up (h.cast (by ac_rfl))).mono fun e w' h' => ⟨h'.1, h'.2.cast (by ac_rfl)⟩
  have CLN : Hid (∀ w, Has st (sep (blk p5 (.cells (bcells (List.replicate 32 0)).toArray 24 (0, 0))) (sep (blk p3 (.cells (bcells N).toArray 24 (0, 0))) (sep (hash p abc) (sep (blk q (.cells (bcells abc).toArray 5 (3, 4))) R)))) w → Calls Tryd.prog 18 #[.pointer (some ⟨p, 0, none⟩)] w fun e w' => e = .returned (.int .i64 3) ∧ Has st (sep (blk p5 (.cells (bcells (List.replicate 32 0)).toArray 24 (0, 0))) (sep (blk p3 (.cells (bcells N).toArray 24 (0, 0))) (sep (hash p abc) (sep (blk q (.cells (bcells abc).toArray 5 (3, 4))) R)))) w') := Lib.hid fun w h => (hlen_any st (sep (blk p5 (.cells (bcells (List.replicate 32 0)).toArray 24 (0, 0))) (sep (blk p3 (.cells (bcells N).toArray 24 (0, 0))) (sep (blk q (.cells (bcells abc).toArray 5 (3, 4))) R))) p abc w (h.cast (by ac_rfl))).mono fun e w' h' => ⟨h'.1, h'.2 ▸ h⟩
  refine wp_region_inv3 (fun L u w' => Slots (fun kk => ([some (.agg (bcells M).toArray), some (.string (str S)), some (.string (str (S.take 8))), some (.bool true), some (.bool true), some (.int .i64 3), some (.bool true), some (.bool true), some (.bool true), some (.agg (bcells N).toArray), some (.agg (bcells N).toArray), some (.bool true), some (.bool true), some (.bool true), some (.int .i64 0), some (.bool true), some (.bool true), some (.bool true), some (.int .i64 21), some (.bool true), some (.bool true), some (.bool true), some (.agg (bcells M).toArray), some (.agg (bcells N).toArray), some (.bool true), some (.bool true), some (.bool true)] : List (Option Value)).getD kk none) L u ∧ Has st (sep (blk p5 (.cells (bcells (List.replicate 32 0)).toArray 24 (0, 0))) (sep (blk p3 (.cells (bcells N).toArray 24 (0, 0))) (sep (hash p abc) (sep (blk q (.cells (bcells abc).toArray 5 (3, 4))) R)))) w') (by kernel_rfl) (by decide +kernel) (by decide +kernel) (by kernel_rfl) (by kernel_rfl) (fun u => ⟨Slots.start _ u, H11.out.drew⟩) ?_ ?_
  · refine ⟨?_, ?_, ?_, ?_, ?_, ?_, ?_, ?_, ?_, ?_, ?_, ?_, ?_, ?_, ?_, ?_, ?_, ?_, ?_, ?_, ?_, ?_, ?_, ?_, ?_, ?_, ?_, trivial⟩
    · refine RegStep3.plain rfl ?_; rintro L u w1 b hL hW hD hU ⟨hS, hH⟩ hin hout; exact opw_call_ret _ _ _ [(.pointer (some ⟨p, 0, none⟩))] rfl (by kernel_rfl) (list2 ((hout 2 (by kernel_rfl)).trans (by kernel_rfl)) rfl) (CSM.out _ hH) (fun e w2 he => by obtain ⟨rfl, h2⟩ := he; exact ⟨_, rfl, _, rfl, hS.step 0 _ (.inr rfl), h2⟩)
    · refine RegStep3.plain rfl ?_; rintro L u w1 b hL hW hD hU ⟨hS, hH⟩ hin hout; exact opw_call_ret _ _ _ [(.agg (bcells M).toArray)] rfl (by kernel_rfl) (list2 ((hin 0 31 rfl).trans (hS 0 _ rfl (hW.of 0 (by decide)))) rfl) (HTX2.out _ _ hH) (fun e w2 he => by obtain ⟨rfl, h2⟩ := he; exact ⟨_, rfl, _, rfl, hS.step 1 _ (.inr rfl), h2⟩)
    · refine RegStep3.plain rfl ?_; rintro L u w1 b hL hW hD hU ⟨hS, hH⟩ hin hout; exact opw_slTo _ _ _ Tryd.underlying9 rfl S 8 ((hin 1 32 rfl).trans (hS 1 _ rfl (hW.of 1 (by decide)))) rfl h8' ⟨_, rfl, hS.step 2 _ (.inr rfl), hH⟩
    · refine RegStep3.plain rfl ?_; rintro L u w1 b hL hW hD hU ⟨hS, hH⟩ hin hout; exact opw_cmpStr .eql _ _ _ _ (S.take 8) [98, 97, 55, 56, 49, 54, 98, 102] true rfl ((hin 2 33 rfl).trans (hS 2 _ rfl (hW.of 2 (by decide)))) rfl HS8.out ⟨_, rfl, hS.step 3 _ (.inr rfl), hH⟩
    · refine RegStep3.plain rfl ?_; rintro L u w1 b hL hW hD hU ⟨hS, hH⟩ hin hout; exact opw_move _ _ (.inl rfl) ((hin 3 34 rfl).trans (hS 3 _ rfl (hW.of 3 (by decide)))) ⟨_, rfl, hS.step 4 _ (.inr rfl), hH⟩
    · refine RegStep3.yes 4 true rfl (fun L u w1 hW hI => hI.1 4 _ rfl (hW.of 4 (by decide))) ?_; rintro L u w1 b hL hW hD hU ⟨hS, hH⟩ hin hout; exact opw_call_ret _ _ _ [(.pointer (some ⟨p, 0, none⟩))] rfl (by kernel_rfl) (list2 ((hout 2 (by kernel_rfl)).trans (by kernel_rfl)) rfl) (CLN.out _ hH) (fun e w2 he => by obtain ⟨rfl, h2⟩ := he; exact ⟨_, rfl, _, rfl, hS.step 5 _ (.inr rfl), h2⟩)
    · refine RegStep3.yes 4 true rfl (fun L u w1 hW hI => hI.1 4 _ rfl (hW.of 4 (by decide))) ?_; rintro L u w1 b hL hW hD hU ⟨hS, hH⟩ hin hout; exact opw_cmp .eql _ _ _ _ .i64 _ _ true rfl ((hin 5 36 rfl).trans (hS 5 _ rfl (hW.of 5 (by decide)))) rfl (by decide) ⟨_, rfl, hS.step 6 _ (.inr rfl), hH⟩
    · refine RegStep3.plain rfl ?_; rintro L u w1 b hL hW hD hU ⟨hS, hH⟩ hin hout; exact opw_pickT _ _ _ _ rfl ((hin 4 35 rfl).trans (hS 4 _ rfl (hW.of 4 (by decide)))) ((hin 6 37 rfl).trans (hS 6 _ rfl (hW.of 6 (by decide)))) ⟨_, rfl, hS.step 7 _ (.inr rfl), hH⟩
    · refine RegStep3.plain rfl ?_; rintro L u w1 b hL hW hD hU ⟨hS, hH⟩ hin hout; exact opw_move _ _ (.inl rfl) ((hin 7 38 rfl).trans (hS 7 _ rfl (hW.of 7 (by decide)))) ⟨_, rfl, hS.step 8 _ (.inr rfl), hH⟩
    · refine RegStep3.yes 8 true rfl (fun L u w1 hW hI => hI.1 8 _ rfl (hW.of 8 (by decide))) ?_; rintro L u w1 b hL hW hD hU ⟨hS, hH⟩ hin hout; exact opw_loadRow _ _ rfl _ ((hout 3 (by kernel_rfl)).trans (by kernel_rfl)) 24 _ _ _ Tryd.underlying24 rfl HI.out (hH.second) ⟨_, rfl, hS.step 9 _ (.inr rfl), hH⟩
    · refine RegStep3.yes 8 true rfl (fun L u w1 hW hI => hI.1 8 _ rfl (hW.of 8 (by decide))) ?_; rintro L u w1 b hL hW hD hU ⟨hS, hH⟩ hin hout; exact opw_call_ret _ _ _ [(.slice none 0 0)] rfl (by kernel_rfl) (list2 rfl rfl) (HOF2.out _ _ HK.out.up.up.up.up HST.out.up.up.up.up hH) (fun e w2 he => by obtain ⟨rfl, h2⟩ := he; exact ⟨_, rfl, _, rfl, hS.step 10 _ (.inr rfl), h2⟩)
    · refine RegStep3.yes 8 true rfl (fun L u w1 hW hI => hI.1 8 _ rfl (hW.of 8 (by decide))) ?_; rintro L u w1 b hL hW hD hU ⟨hS, hH⟩ hin hout; exact opw_eqRow _ _ 5 32 _ _ N N Tryd.underlying24 Tryd.underlying5 infosz (by kernel_rfl) HNL.out HNL.out rfl ((hin 9 40 rfl).trans (hS 9 _ rfl (hW.of 9 (by decide)))) ((hin 10 41 rfl).trans (hS 10 _ rfl (hW.of 10 (by decide)))) true (beq_self_eq_true _) ⟨_, rfl, hS.step 11 _ (.inr rfl), hH⟩
    · refine RegStep3.plain rfl ?_; rintro L u w1 b hL hW hD hU ⟨hS, hH⟩ hin hout; exact opw_pickT _ _ _ _ rfl ((hin 8 39 rfl).trans (hS 8 _ rfl (hW.of 8 (by decide)))) ((hin 11 42 rfl).trans (hS 11 _ rfl (hW.of 11 (by decide)))) ⟨_, rfl, hS.step 12 _ (.inr rfl), hH⟩
    · refine RegStep3.plain rfl ?_; rintro L u w1 b hL hW hD hU ⟨hS, hH⟩ hin hout; exact opw_move _ _ (.inl rfl) ((hin 12 43 rfl).trans (hS 12 _ rfl (hW.of 12 (by decide)))) ⟨_, rfl, hS.step 13 _ (.inr rfl), hH⟩
    · refine RegStep3.yes 13 true rfl (fun L u w1 hW hI => hI.1 13 _ rfl (hW.of 13 (by decide))) ?_; rintro L u w1 b hL hW hD hU ⟨hS, hH⟩ hin hout; exact opw_move _ _ (.inl rfl) ((hout 4 (by kernel_rfl)).trans (by kernel_rfl)) ⟨_, rfl, hS.step 14 _ (.inr rfl), hH⟩
    · refine RegStep3.yes 13 true rfl (fun L u w1 hW hI => hI.1 13 _ rfl (hW.of 13 (by decide))) ?_; rintro L u w1 b hL hW hD hU ⟨hS, hH⟩ hin hout; exact opw_cmp .eql _ _ _ _ .i64 _ _ true rfl ((hin 14 45 rfl).trans (hS 14 _ rfl (hW.of 14 (by decide)))) rfl (by decide) ⟨_, rfl, hS.step 15 _ (.inr rfl), hH⟩
    · refine RegStep3.plain rfl ?_; rintro L u w1 b hL hW hD hU ⟨hS, hH⟩ hin hout; exact opw_pickT _ _ _ _ rfl ((hin 13 44 rfl).trans (hS 13 _ rfl (hW.of 13 (by decide)))) ((hin 15 46 rfl).trans (hS 15 _ rfl (hW.of 15 (by decide)))) ⟨_, rfl, hS.step 16 _ (.inr rfl), hH⟩
    · refine RegStep3.plain rfl ?_; rintro L u w1 b hL hW hD hU ⟨hS, hH⟩ hin hout; exact opw_move _ _ (.inl rfl) ((hin 16 47 rfl).trans (hS 16 _ rfl (hW.of 16 (by decide)))) ⟨_, rfl, hS.step 17 _ (.inr rfl), hH⟩
    · refine RegStep3.yes 17 true rfl (fun L u w1 hW hI => hI.1 17 _ rfl (hW.of 17 (by decide))) ?_; rintro L u w1 b hL hW hD hU ⟨hS, hH⟩ hin hout; exact opw_move _ _ (.inl rfl) ((hout 6 (by kernel_rfl)).trans (by kernel_rfl)) ⟨_, rfl, hS.step 18 _ (.inr rfl), hH⟩
    · refine RegStep3.yes 17 true rfl (fun L u w1 hW hI => hI.1 17 _ rfl (hW.of 17 (by decide))) ?_; rintro L u w1 b hL hW hD hU ⟨hS, hH⟩ hin hout; exact opw_cmp .eql _ _ _ _ .i64 _ _ true rfl ((hin 18 49 rfl).trans (hS 18 _ rfl (hW.of 18 (by decide)))) rfl (by decide) ⟨_, rfl, hS.step 19 _ (.inr rfl), hH⟩
    · refine RegStep3.plain rfl ?_; rintro L u w1 b hL hW hD hU ⟨hS, hH⟩ hin hout; exact opw_pickT _ _ _ _ rfl ((hin 17 48 rfl).trans (hS 17 _ rfl (hW.of 17 (by decide)))) ((hin 19 50 rfl).trans (hS 19 _ rfl (hW.of 19 (by decide)))) ⟨_, rfl, hS.step 20 _ (.inr rfl), hH⟩
    · refine RegStep3.plain rfl ?_; rintro L u w1 b hL hW hD hU ⟨hS, hH⟩ hin hout; exact opw_move _ _ (.inl rfl) ((hin 20 51 rfl).trans (hS 20 _ rfl (hW.of 20 (by decide)))) ⟨_, rfl, hS.step 21 _ (.inr rfl), hH⟩
    · refine RegStep3.yes 21 true rfl (fun L u w1 hW hI => hI.1 21 _ rfl (hW.of 21 (by decide))) ?_; rintro L u w1 b hL hW hD hU ⟨hS, hH⟩ hin hout; exact opw_call_ret _ _ _ [(.pointer (some ⟨p, 0, none⟩))] rfl (by kernel_rfl) (list2 ((hout 2 (by kernel_rfl)).trans (by kernel_rfl)) rfl) (CSM.out _ hH) (fun e w2 he => by obtain ⟨rfl, h2⟩ := he; exact ⟨_, rfl, _, rfl, hS.step 22 _ (.inr rfl), h2⟩)
    · refine RegStep3.yes 21 true rfl (fun L u w1 hW hI => hI.1 21 _ rfl (hW.of 21 (by decide))) ?_; rintro L u w1 b hL hW hD hU ⟨hS, hH⟩ hin hout; exact opw_loadRow _ _ rfl _ ((hout 3 (by kernel_rfl)).trans (by kernel_rfl)) 24 _ _ _ Tryd.underlying24 rfl HI.out (hH.second) ⟨_, rfl, hS.step 23 _ (.inr rfl), hH⟩
    · refine RegStep3.yes 21 true rfl (fun L u w1 hW hI => hI.1 21 _ rfl (hW.of 21 (by decide))) ?_; rintro L u w1 b hL hW hD hU ⟨hS, hH⟩ hin hout; exact opw_call_ret _ _ _ [(.agg (bcells M).toArray), (.agg (bcells N).toArray)] rfl (by kernel_rfl) (list2 ((hin 22 53 rfl).trans (hS 22 _ rfl (hW.of 22 (by decide)))) (list2 ((hin 23 54 rfl).trans (hS 23 _ rfl (hW.of 23 (by decide)))) rfl)) (HLS.out _ _ hH) (fun e w2 he => by obtain ⟨rfl, h2⟩ := he; exact ⟨_, rfl, _, rfl, hS.step 24 _ (.inr rfl), h2⟩)
    · refine RegStep3.plain rfl ?_; rintro L u w1 b hL hW hD hU ⟨hS, hH⟩ hin hout; exact opw_pickT _ _ _ _ rfl ((hin 21 52 rfl).trans (hS 21 _ rfl (hW.of 21 (by decide)))) ((hin 24 55 rfl).trans (hS 24 _ rfl (hW.of 24 (by decide)))) ⟨_, rfl, hS.step 25 _ (.inr rfl), hH⟩
    · refine RegStep3.plain rfl ?_; rintro L u w1 b hL hW hD hU ⟨hS, hH⟩ hin hout; exact opw_move _ _ (.inr rfl) ((hin 25 56 rfl).trans (hS 25 _ rfl (hW.of 25 (by decide)))) ⟨_, rfl, hS.step 26 _ (.inr rfl), hH⟩
  intro L u w12 hL ⟨hS, hH⟩
  have E := hS 26 _ rfl (hL 26 (by decide))
  simp only [frame_cons, frame_nil, E, Act.put, List.setIfInBounds_toArray, List.set_cons_zero, List.set_cons_succ]
  have H12 := Lib.hid hH
  clear hL hS hH E
  go_wp2
  go_ret
  exact ⟨rfl, H12.out.right.right.right.right⟩
end Go.Proofs.YtijcjjinafpomaaDoor
