/-
  coldstoreref04.Same; few.
-/
import Derived.Test.YtbiacehmfbopfaaUnchain
namespace Go.Proofs.Ytbiacehmfbopfaa
open Go.RowKit Go.Sl Go.Crc
set_option linter.unusedVariables false
set_option linter.unusedSimpArgs false
theorem calls_hold {P : Program} {f : FuncId} {args : Array Value} {w : World} {v : Value} {st : World} {R : HProp} (h : Calls P f args w fun e w' => e = .returned v ∧ w = w') (hH : Has st R w) : Calls P f args w fun e w' => e = .returned v ∧ Has st R w' := h.mono fun e w' he => ⟨he.1, he.2 ▸ hH⟩
def SameI (st : World) (R : HProp) (ls ms : List (List UInt8)) (v5 : Value) (w : World) : Prop := ∃ i : Nat, i ≤ ls.length ∧ v5 = .int .i64 ((i : Nat) : Int) ∧ Hid (ls.take i = ms.take i) ∧ Has st R w
set_option maxRecDepth 100000 in
set_option maxHeartbeats 4000000 in
theorem samel_any (st : World) (R : HProp) (ls ms : List (List UInt8)) (u v : Value) (w : World) (h : Has st R w) (hu : SeesL st R u ls) (hv : SeesL st R v ms) :
    Calls Try.prog 20 #[u, v] w fun e w' => e = .returned (.bool (ls == ms)) ∧ Has st R w' := by
  obtain ⟨us, hu1, hu2⟩ := hu
  obtain ⟨vs, hv1, hv2⟩ := hv
  obtain ⟨A, c, rfl⟩ := hu1.form h
  obtain ⟨B, d, rfl⟩ := hv1.form h
  have hmax := (hu1 w h).le_cap
  unfold maxLen at hmax
  have HU1 := Lib.hid hu1
  have HU2 := Lib.hid hu2
  have HV1 := Lib.hid hv1
  have HV2 := Lib.hid hv2
  have HH := Lib.hid h
  clear hu1 hu2 hv1 hv2 h
  by_cases hl : ls.length = ms.length
  · have HZ : Hid (cmpZ .neq (ls.length : Int) (ms.length : Int) = some false) := Lib.hid (by simp [cmpZ, hl])
    have HL := Lib.hid hl
    clear hl
    go_enter Try.func20, Try.ntmps20
    go_wp2_with (first
      | (fail)
      | ((first | (with_reducible refine wpList_plain rfl ?_) | ((with_reducible refine wpList_yes _ _ rfl ?_ ?_); (focus rfl))); intro _ hk; (first
        | (refine opw_len _ _ _ Try.underlying35 A ls.length c rfl rfl (hk _ _ ?_))
        | (refine opw_len _ _ _ Try.underlying35 B ms.length d rfl rfl (hk _ _ ?_))
        | (refine opw_cmp .neq _ _ _ _ .i64 (ls.length : Int) (ms.length : Int) false rfl rfl rfl HZ.out (hk _ _ ?_))); simp only [Act.put, List.setIfInBounds_toArray, List.set_cons_zero, List.set_cons_succ]))
    go_loopw [5] (SameI st R ls ms) (fun v5 _ => ls.length - (intOf v5).toNat)
    case atStart => exact ⟨0, Nat.zero_le _, rfl, Lib.hid rfl, HH.out⟩
    case round =>
      obtain ⟨i, hi, rfl, he, h3⟩ := hrel
      have H3 := Lib.hid h3
      clear h3 HH
      by_cases hlt : i < ls.length
      · have hlt2 : i < ms.length := by rw [← HL.out]; exact hlt
        obtain ⟨A1, c1, ha, hsa⟩ := HU2.out i hlt
        obtain ⟨B1, d1, hb, hsb⟩ := HV2.out i hlt2
        obtain ⟨x, hx⟩ : ∃ x, x = ls[i] := ⟨_, rfl⟩
        obtain ⟨y, hy⟩ : ∃ y, y = ms[i] := ⟨_, rfl⟩
        rw [← hx] at ha hsa
        rw [← hy] at hb hsb
        obtain ⟨b1, o1, hA, _⟩ := (HU1.out _ H3.out).at (by omega)
        obtain ⟨b2, o2, hB, _⟩ := (HV1.out _ H3.out).at (by omega)
        subst hA hB
        have hca : ∀ w, Has st R w → w.cell? ⟨b1, o1 + i, none⟩ = some (.slice A1 x.length c1) := fun w h => (HU1.out w h).cell ha
        have hcb : ∀ w, Has st R w → w.cell? ⟨b2, o2 + i, none⟩ = some (.slice B1 y.length d1) := fun w h => (HV1.out w h).cell hb
        have hta : ls.take (i + 1) = ls.take i ++ [x] := by rw [List.take_succ_eq_append_getElem hlt, hx]
        have htb : ms.take (i + 1) = ms.take i ++ [y] := by rw [List.take_succ_eq_append_getElem hlt2, hy]
        have HCA := Lib.hid hca
        have HCB := Lib.hid hcb
        have HSA := Lib.hid hsa
        have HSB := Lib.hid hsb
        have HTA := Lib.hid hta
        have HTB := Lib.hid htb
        have HX := Lib.hid hx
        have HY := Lib.hid hy
        clear ha hsa hb hsb hx hy hca hcb hta htb
        by_cases hxy : x = y
        ·
          have HE : Hid ((x == y) = true) := Lib.hid (by simp [hxy])
          have HXY := Lib.hid hxy
          have HSM : Hid (∀ w, Rd 1 w (.slice A1 x.length c1) x.length (bcells x) → Rd 1 w (.slice B1 y.length d1) y.length (bcells y) → Calls Try.prog 15 #[.slice A1 x.length c1, .slice B1 y.length d1] w fun e w' => e = .returned (.bool true) ∧ w = w') := Lib.hid fun w h1 h2 => by
            have := same_any x y _ _ _ _ w h1 h2
            rw [HE.out] at this; exact this
          clear hxy
          go_wp2_with (first
            | (fail)
            | ((first | (with_reducible refine wpList_plain rfl ?_) | ((with_reducible refine wpList_yes _ _ rfl ?_ ?_); (focus rfl))); intro _ hk; (first
              | (refine opw_len _ _ _ Try.underlying35 (some ⟨b1, o1, none⟩) ls.length c rfl rfl (hk _ _ ?_))); simp only [Act.put, List.setIfInBounds_toArray, List.set_cons_zero, List.set_cons_succ]))
          refine wp_region_inv3 (fun L u w' => Slots (fun kk => ([some (.slice (some ⟨b1, o1, none⟩) ls.length c), some (.int .i64 ((i : Nat) : Int)), some (.pointer (some ⟨b1, o1 + i, none⟩)), some (.slice A1 x.length c1), some (.slice (some ⟨b2, o2, none⟩) ms.length d), some (.int .i64 ((i : Nat) : Int)), some (.pointer (some ⟨b2, o2 + i, none⟩)), some (.slice B1 y.length d1), some (.bool true), some (.bool false)] : List (Option Value)).getD kk none) L u ∧ Has st R w') (by kernel_rfl) (by decide +kernel) (by decide +kernel) (by kernel_rfl) (by kernel_rfl) (fun u => ⟨Slots.start _ u, H3.out.drew⟩) ?_ ?_
          · refine ⟨?_, ?_, ?_, ?_, ?_, ?_, ?_, ?_, ?_, ?_, trivial⟩
            · refine RegStep3.plain rfl ?_; rintro L u w1 bA hL hW hD hU ⟨hS, hH⟩ hin hout; exact opw_move _ _ (.inl rfl) ((hout 0 (by kernel_rfl)).trans (by kernel_rfl)) ⟨_, rfl, hS.step 0 _ (.inr rfl), hH⟩
            · refine RegStep3.plain rfl ?_; rintro L u w1 bA hL hW hD hU ⟨hS, hH⟩ hin hout; exact opw_move _ _ (.inl rfl) ((hout 5 (by kernel_rfl)).trans (by kernel_rfl)) ⟨_, rfl, hS.step 1 _ (.inr rfl), hH⟩
            · refine RegStep3.plain rfl ?_; rintro L u w1 bA hL hW hD hU ⟨hS, hH⟩ hin hout; exact opw_indexSl _ _ _ _ rfl Try.underlying35 infoS (b1) (o1) (ls.length) (c) (i) ((hin 0 17 rfl).trans (hS 0 _ rfl (hW.of 0 (by decide)))) _ ((hin 1 18 rfl).trans (hS 1 _ rfl (hW.of 1 (by decide)))) (by first | exact hlt | exact hlt2) ⟨_, rfl, hS.step 2 _ (.inr rfl), hH⟩
            · refine RegStep3.plain rfl ?_; rintro L u w1 bA hL hW hD hU ⟨hS, hH⟩ hin hout; exact opw_load1 _ _ rfl _ Try.underlying22 rfl _ _ ((hin 2 19 rfl).trans (hS 2 _ rfl (hW.of 2 (by decide)))) (HCA.out _ hH) ⟨_, rfl, hS.step 3 _ (.inr rfl), hH⟩
            · refine RegStep3.plain rfl ?_; rintro L u w1 bA hL hW hD hU ⟨hS, hH⟩ hin hout; exact opw_move _ _ (.inl rfl) ((hout 1 (by kernel_rfl)).trans (by kernel_rfl)) ⟨_, rfl, hS.step 4 _ (.inr rfl), hH⟩
            · refine RegStep3.plain rfl ?_; rintro L u w1 bA hL hW hD hU ⟨hS, hH⟩ hin hout; exact opw_move _ _ (.inl rfl) ((hout 5 (by kernel_rfl)).trans (by kernel_rfl)) ⟨_, rfl, hS.step 5 _ (.inr rfl), hH⟩
            · refine RegStep3.plain rfl ?_; rintro L u w1 bA hL hW hD hU ⟨hS, hH⟩ hin hout; exact opw_indexSl _ _ _ _ rfl Try.underlying35 infoS (b2) (o2) (ms.length) (d) (i) ((hin 4 21 rfl).trans (hS 4 _ rfl (hW.of 4 (by decide)))) _ ((hin 5 22 rfl).trans (hS 5 _ rfl (hW.of 5 (by decide)))) (by first | exact hlt | exact hlt2) ⟨_, rfl, hS.step 6 _ (.inr rfl), hH⟩
            · refine RegStep3.plain rfl ?_; rintro L u w1 bA hL hW hD hU ⟨hS, hH⟩ hin hout; exact opw_load1 _ _ rfl _ Try.underlying22 rfl _ _ ((hin 6 23 rfl).trans (hS 6 _ rfl (hW.of 6 (by decide)))) (HCB.out _ hH) ⟨_, rfl, hS.step 7 _ (.inr rfl), hH⟩
            · refine RegStep3.plain rfl ?_; rintro L u w1 bA hL hW hD hU ⟨hS, hH⟩ hin hout; exact opw_call_ret _ _ _ [(.slice A1 x.length c1), (.slice B1 y.length d1)] rfl (by kernel_rfl) (list2 ((hin 3 20 rfl).trans (hS 3 _ rfl (hW.of 3 (by decide)))) (list2 ((hin 7 24 rfl).trans (hS 7 _ rfl (hW.of 7 (by decide)))) rfl)) (calls_hold (HSM.out _ (HSA.out _ hH) (HSB.out _ hH)) hH) (fun e w2 he => by obtain ⟨rfl, h2⟩ := he; exact ⟨_, rfl, _, rfl, hS.step 8 _ (.inr rfl), h2⟩)
            · refine RegStep3.plain rfl ?_; rintro L u w1 bA hL hW hD hU ⟨hS, hH⟩ hin hout; exact opw_not _ _ _ rfl ((hin 8 25 rfl).trans (hS 8 _ rfl (hW.of 8 (by decide)))) false rfl ⟨_, rfl, hS.step 9 _ (.inr rfl), hH⟩
          intro L u w4 hL ⟨hS, hH⟩
          have E := hS 9 _ rfl (hL 9 (by decide))
          simp only [frame_cons, frame_nil, E, Act.put, List.setIfInBounds_toArray, List.set_cons_zero, List.set_cons_succ]
          have H4 := Lib.hid hH
          clear hL hS hH E
          go_wp2
          go_roundw
          case rel =>
            have hrel2 : SameI st R ls ms (.int .i64 ((i : Int) + 1)) w4 := ⟨i + 1, by omega, by go_num, Lib.hid (by rw [HTA.out, HTB.out, he.out, HXY.out]), H4.out⟩
            first | exact hrel2 | ((repeat apply Exists.intro); exact ⟨hrel2, rfl⟩)
          case measure => simp [intOf]; omega
        ·
          have HE : Hid ((x == y) = false) := Lib.hid (by simp [hxy])
          have HXY := Lib.hid hxy
          have HSM : Hid (∀ w, Rd 1 w (.slice A1 x.length c1) x.length (bcells x) → Rd 1 w (.slice B1 y.length d1) y.length (bcells y) → Calls Try.prog 15 #[.slice A1 x.length c1, .slice B1 y.length d1] w fun e w' => e = .returned (.bool false) ∧ w = w') := Lib.hid fun w h1 h2 => by
            have := same_any x y _ _ _ _ w h1 h2
            rw [HE.out] at this; exact this
          clear hxy
          go_wp2_with (first
            | (fail)
            | ((first | (with_reducible refine wpList_plain rfl ?_) | ((with_reducible refine wpList_yes _ _ rfl ?_ ?_); (focus rfl))); intro _ hk; (first
              | (refine opw_len _ _ _ Try.underlying35 (some ⟨b1, o1, none⟩) ls.length c rfl rfl (hk _ _ ?_))); simp only [Act.put, List.setIfInBounds_toArray, List.set_cons_zero, List.set_cons_succ]))
          refine wp_region_inv3 (fun L u w' => Slots (fun kk => ([some (.slice (some ⟨b1, o1, none⟩) ls.length c), some (.int .i64 ((i : Nat) : Int)), some (.pointer (some ⟨b1, o1 + i, none⟩)), some (.slice A1 x.length c1), some (.slice (some ⟨b2, o2, none⟩) ms.length d), some (.int .i64 ((i : Nat) : Int)), some (.pointer (some ⟨b2, o2 + i, none⟩)), some (.slice B1 y.length d1), some (.bool false), some (.bool true)] : List (Option Value)).getD kk none) L u ∧ Has st R w') (by kernel_rfl) (by decide +kernel) (by decide +kernel) (by kernel_rfl) (by kernel_rfl) (fun u => ⟨Slots.start _ u, H3.out.drew⟩) ?_ ?_
          · refine ⟨?_, ?_, ?_, ?_, ?_, ?_, ?_, ?_, ?_, ?_, trivial⟩
            · refine RegStep3.plain rfl ?_; rintro L u w1 bA hL hW hD hU ⟨hS, hH⟩ hin hout; exact opw_move _ _ (.inl rfl) ((hout 0 (by kernel_rfl)).trans (by kernel_rfl)) ⟨_, rfl, hS.step 0 _ (.inr rfl), hH⟩
            · refine RegStep3.plain rfl ?_; rintro L u w1 bA hL hW hD hU ⟨hS, hH⟩ hin hout; exact opw_move _ _ (.inl rfl) ((hout 5 (by kernel_rfl)).trans (by kernel_rfl)) ⟨_, rfl, hS.step 1 _ (.inr rfl), hH⟩
            · refine RegStep3.plain rfl ?_; rintro L u w1 bA hL hW hD hU ⟨hS, hH⟩ hin hout; exact opw_indexSl _ _ _ _ rfl Try.underlying35 infoS (b1) (o1) (ls.length) (c) (i) ((hin 0 17 rfl).trans (hS 0 _ rfl (hW.of 0 (by decide)))) _ ((hin 1 18 rfl).trans (hS 1 _ rfl (hW.of 1 (by decide)))) (by first | exact hlt | exact hlt2) ⟨_, rfl, hS.step 2 _ (.inr rfl), hH⟩
            · refine RegStep3.plain rfl ?_; rintro L u w1 bA hL hW hD hU ⟨hS, hH⟩ hin hout; exact opw_load1 _ _ rfl _ Try.underlying22 rfl _ _ ((hin 2 19 rfl).trans (hS 2 _ rfl (hW.of 2 (by decide)))) (HCA.out _ hH) ⟨_, rfl, hS.step 3 _ (.inr rfl), hH⟩
            · refine RegStep3.plain rfl ?_; rintro L u w1 bA hL hW hD hU ⟨hS, hH⟩ hin hout; exact opw_move _ _ (.inl rfl) ((hout 1 (by kernel_rfl)).trans (by kernel_rfl)) ⟨_, rfl, hS.step 4 _ (.inr rfl), hH⟩
            · refine RegStep3.plain rfl ?_; rintro L u w1 bA hL hW hD hU ⟨hS, hH⟩ hin hout; exact opw_move _ _ (.inl rfl) ((hout 5 (by kernel_rfl)).trans (by kernel_rfl)) ⟨_, rfl, hS.step 5 _ (.inr rfl), hH⟩
            · refine RegStep3.plain rfl ?_; rintro L u w1 bA hL hW hD hU ⟨hS, hH⟩ hin hout; exact opw_indexSl _ _ _ _ rfl Try.underlying35 infoS (b2) (o2) (ms.length) (d) (i) ((hin 4 21 rfl).trans (hS 4 _ rfl (hW.of 4 (by decide)))) _ ((hin 5 22 rfl).trans (hS 5 _ rfl (hW.of 5 (by decide)))) (by first | exact hlt | exact hlt2) ⟨_, rfl, hS.step 6 _ (.inr rfl), hH⟩
            · refine RegStep3.plain rfl ?_; rintro L u w1 bA hL hW hD hU ⟨hS, hH⟩ hin hout; exact opw_load1 _ _ rfl _ Try.underlying22 rfl _ _ ((hin 6 23 rfl).trans (hS 6 _ rfl (hW.of 6 (by decide)))) (HCB.out _ hH) ⟨_, rfl, hS.step 7 _ (.inr rfl), hH⟩
            · refine RegStep3.plain rfl ?_; rintro L u w1 bA hL hW hD hU ⟨hS, hH⟩ hin hout; exact opw_call_ret _ _ _ [(.slice A1 x.length c1), (.slice B1 y.length d1)] rfl (by kernel_rfl) (list2 ((hin 3 20 rfl).trans (hS 3 _ rfl (hW.of 3 (by decide)))) (list2 ((hin 7 24 rfl).trans (hS 7 _ rfl (hW.of 7 (by decide)))) rfl)) (calls_hold (HSM.out _ (HSA.out _ hH) (HSB.out _ hH)) hH) (fun e w2 he => by obtain ⟨rfl, h2⟩ := he; exact ⟨_, rfl, _, rfl, hS.step 8 _ (.inr rfl), h2⟩)
            · refine RegStep3.plain rfl ?_; rintro L u w1 bA hL hW hD hU ⟨hS, hH⟩ hin hout; exact opw_not _ _ _ rfl ((hin 8 25 rfl).trans (hS 8 _ rfl (hW.of 8 (by decide)))) true rfl ⟨_, rfl, hS.step 9 _ (.inr rfl), hH⟩
          intro L u w4 hL ⟨hS, hH⟩
          have E := hS 9 _ rfl (hL 9 (by decide))
          simp only [frame_cons, frame_nil, E, Act.put, List.setIfInBounds_toArray, List.set_cons_zero, List.set_cons_succ]
          have H4 := Lib.hid hH
          clear hL hS hH E
          go_wp2
          go_ret
          refine ⟨?_, H4.out⟩
          have : (ls == ms) = false := beq_eq_false_iff_ne.2 fun e => HXY.out (by rw [HX.out, HY.out]; simp only [e])
          rw [this]; rfl
      · obtain rfl : i = ls.length := by omega
        go_wp2_with (first
          | (fail)
          | ((first | (with_reducible refine wpList_plain rfl ?_) | ((with_reducible refine wpList_yes _ _ rfl ?_ ?_); (focus rfl))); intro _ hk; (first
            | (refine opw_len _ _ _ Try.underlying35 A ls.length c rfl rfl (hk _ _ ?_))); simp only [Act.put, List.setIfInBounds_toArray, List.set_cons_zero, List.set_cons_succ]))
        go_ret
        refine ⟨?_, H3.out⟩
        have : (ls == ms) = true := beq_iff_eq.2 (by have e := he.out; rw [List.take_length, List.take_of_length_le (by rw [HL.out]; exact Nat.le_refl _)] at e; exact e)
        rw [this]; rfl
  · have HZ : Hid (cmpZ .neq (ls.length : Int) (ms.length : Int) = some true) := Lib.hid (by simp only [cmpZ]; simp; omega)
    have HL := Lib.hid hl
    clear hl
    go_enter Try.func20, Try.ntmps20
    go_wp2_with (first
      | (fail)
      | ((first | (with_reducible refine wpList_plain rfl ?_) | ((with_reducible refine wpList_yes _ _ rfl ?_ ?_); (focus rfl))); intro _ hk; (first
        | (refine opw_len _ _ _ Try.underlying35 A ls.length c rfl rfl (hk _ _ ?_))
        | (refine opw_len _ _ _ Try.underlying35 B ms.length d rfl rfl (hk _ _ ?_))
        | (refine opw_cmp .neq _ _ _ _ .i64 (ls.length : Int) (ms.length : Int) true rfl rfl rfl HZ.out (hk _ _ ?_))); simp only [Act.put, List.setIfInBounds_toArray, List.set_cons_zero, List.set_cons_succ]))
    go_ret
    refine ⟨?_, HH.out⟩
    have : (ls == ms) = false := beq_eq_false_iff_ne.2 fun e => HL.out (by rw [e])
    rw [this]; rfl
def fewB (ls : List (List UInt8)) : Bool := ls.all (fun l => decide (l.length ≤ 100)) && decide (ls.length ≤ 30)
def FewI (w : World) (ls : List (List UInt8)) (v7 : Value) (wr : World) : Prop := ∃ i : Nat, i ≤ ls.length ∧ v7 = .int .i64 ((i : Nat) : Int) ∧ Hid ((ls.take i).all (fun l => decide (l.length ≤ 100)) = true) ∧ wr = w
set_option maxRecDepth 100000 in
set_option maxHeartbeats 2000000 in
theorem few_any (st : World) (R : HProp) (ls : List (List UInt8)) (v : Value) (w : World) (h : Has st R w) (hs : SeesL st R v ls) :
    Calls Try.prog 17 #[v] w fun e w' => e = .returned (.bool (fewB ls)) ∧ w = w' := by
  obtain ⟨us, hu1, hu2⟩ := hs
  obtain ⟨A, c, rfl⟩ := hu1.form h
  have hmax := (hu1 w h).le_cap
  unfold maxLen at hmax
  have HU1 := Lib.hid hu1
  have HU2 := Lib.hid hu2
  have HH := Lib.hid h
  clear hu1 hu2 h
  go_enter Try.func17, Try.ntmps17
  go_wp2_with (first
    | (fail)
    | ((first | (with_reducible refine wpList_plain rfl ?_) | ((with_reducible refine wpList_yes _ _ rfl ?_ ?_); (focus rfl))); intro _ hk; (first
      | (refine opw_len _ _ _ Try.underlying35 A ls.length c rfl rfl (hk _ _ ?_))); simp only [Act.put, List.setIfInBounds_toArray, List.set_cons_zero, List.set_cons_succ]))
  go_loopw [7] (FewI w ls) (fun v7 _ => ls.length - (intOf v7).toNat)
  case atStart => exact ⟨0, Nat.zero_le _, rfl, Lib.hid (by simp), rfl⟩
  case round =>
    obtain ⟨i, hi, rfl, he, rfl⟩ := hrel
    by_cases hlt : i < ls.length
    · obtain ⟨A1, c1, ha, _⟩ := HU2.out i hlt
      obtain ⟨x, hx⟩ : ∃ x, x = ls[i] := ⟨_, rfl⟩
      rw [← hx] at ha
      obtain ⟨b1, o1, hA, _⟩ := (HU1.out _ HH.out).at (by omega)
      subst hA
      have hca : wr.cell? ⟨b1, o1 + i, none⟩ = some (.slice A1 x.length c1) := (HU1.out wr HH.out).cell ha
      have HCA := Lib.hid hca
      have HX := Lib.hid hx
      clear ha hx hca
      by_cases h100 : x.length ≤ 100
      · have HZ : Hid (cmpZ .gtr (x.length : Int) 100 = some false) := Lib.hid (by simp only [cmpZ]; simp; omega)
        have H100 := Lib.hid h100
        clear h100
        go_wp2_with (first
          | (fail)
          | ((first | (with_reducible refine wpList_plain rfl ?_) | ((with_reducible refine wpList_yes _ _ rfl ?_ ?_); (focus rfl))); intro _ hk; (first
            | (refine opw_indexSl 35 22 _ _ rfl Try.underlying35 infoS b1 o1 ls.length c i rfl rfl hlt (hk _ _ ?_))
            | (refine opw_load1 22 _ rfl _ Try.underlying22 rfl ⟨b1, o1 + i, none⟩ (.slice A1 x.length c1) rfl HCA.out (hk _ _ ?_))
            | (refine opw_len _ _ _ Try.underlying22 A1 x.length c1 rfl rfl (hk _ _ ?_))
            | (refine opw_cmp .gtr _ _ _ _ .i64 (x.length : Int) 100 false rfl rfl rfl HZ.out (hk _ _ ?_))); simp only [Act.put, List.setIfInBounds_toArray, List.set_cons_zero, List.set_cons_succ]))
        go_wp2
        go_roundw
        case rel =>
          have hrel2 : FewI wr ls (.int .i64 ((i : Int) + 1)) wr := ⟨i + 1, by omega, by go_num, Lib.hid (by rw [List.take_succ_eq_append_getElem hlt, List.all_append, he.out, ← HX.out]; simpa using H100.out), rfl⟩
          first | exact hrel2 | ((repeat apply Exists.intro); exact ⟨hrel2, rfl⟩)
        case measure => simp [intOf]; omega
      · have HZ : Hid (cmpZ .gtr (x.length : Int) 100 = some true) := Lib.hid (by simp only [cmpZ]; simp; omega)
        have H100 := Lib.hid h100
        clear h100
        go_wp2_with (first
          | (fail)
          | ((first | (with_reducible refine wpList_plain rfl ?_) | ((with_reducible refine wpList_yes _ _ rfl ?_ ?_); (focus rfl))); intro _ hk; (first
            | (refine opw_indexSl 35 22 _ _ rfl Try.underlying35 infoS b1 o1 ls.length c i rfl rfl hlt (hk _ _ ?_))
            | (refine opw_load1 22 _ rfl _ Try.underlying22 rfl ⟨b1, o1 + i, none⟩ (.slice A1 x.length c1) rfl HCA.out (hk _ _ ?_))
            | (refine opw_len _ _ _ Try.underlying22 A1 x.length c1 rfl rfl (hk _ _ ?_))
            | (refine opw_cmp .gtr _ _ _ _ .i64 (x.length : Int) 100 true rfl rfl rfl HZ.out (hk _ _ ?_))); simp only [Act.put, List.setIfInBounds_toArray, List.set_cons_zero, List.set_cons_succ]))
        go_ret
        refine ⟨?_, rfl⟩
        have : fewB ls = false := by
          unfold fewB
          rw [Bool.and_eq_false_iff]; left
          rw [List.all_eq_false]
          exact ⟨ls[i], List.getElem_mem _, by rw [← HX.out]; simpa using H100.out⟩
        rw [this]; rfl
    · obtain rfl : i = ls.length := by omega
      have HA : Hid (ls.all (fun l => decide (l.length ≤ 100)) = true) := Lib.hid (by have e := he.out; rw [List.take_length] at e; exact e)
      clear he
      by_cases h30 : ls.length ≤ 30
      · have HZ : Hid (cmpZ .leq (ls.length : Int) 30 = some true) := Lib.hid (by simp only [cmpZ]; simp; omega)
        have H30 := Lib.hid h30
        clear h30
        go_wp2_with (first
          | (fail)
          | ((first | (with_reducible refine wpList_plain rfl ?_) | ((with_reducible refine wpList_yes _ _ rfl ?_ ?_); (focus rfl))); intro _ hk; (first
            | (refine opw_len _ _ _ Try.underlying35 A ls.length c rfl rfl (hk _ _ ?_))
            | (refine opw_cmp .leq _ _ _ _ .i64 (ls.length : Int) 30 true rfl rfl rfl HZ.out (hk _ _ ?_))); simp only [Act.put, List.setIfInBounds_toArray, List.set_cons_zero, List.set_cons_succ]))
        go_ret
        refine ⟨?_, rfl⟩
        have : fewB ls = true := by unfold fewB; rw [HA.out]; simpa using H30.out
        rw [this]; rfl
      · have HZ : Hid (cmpZ .leq (ls.length : Int) 30 = some false) := Lib.hid (by simp only [cmpZ]; simp; omega)
        have H30 := Lib.hid h30
        clear h30
        go_wp2_with (first
          | (fail)
          | ((first | (with_reducible refine wpList_plain rfl ?_) | ((with_reducible refine wpList_yes _ _ rfl ?_ ?_); (focus rfl))); intro _ hk; (first
            | (refine opw_len _ _ _ Try.underlying35 A ls.length c rfl rfl (hk _ _ ?_))
            | (refine opw_cmp .leq _ _ _ _ .i64 (ls.length : Int) 30 false rfl rfl rfl HZ.out (hk _ _ ?_))); simp only [Act.put, List.setIfInBounds_toArray, List.set_cons_zero, List.set_cons_succ]))
        go_ret
        refine ⟨?_, rfl⟩
        have : fewB ls = false := by unfold fewB; rw [HA.out]; simpa using H30.out
        rw [this]; rfl
end Go.Proofs.Ytbiacehmfbopfaa
