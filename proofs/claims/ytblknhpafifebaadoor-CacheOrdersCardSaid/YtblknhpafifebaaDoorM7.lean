/-
  Several texts of this proof in one: RefC, RefD, RefE, RefSha0.
-/
import Derived.Test.YtblknhpafifebaaDoorM6
import Derived.Test.YtblknhpafifebaaDoorM5
import Derived.Test.YtblknhpafifebaaDoorM1
/-
  coldstoreref14: what a Cache value reads; Size.
-/
namespace Go.Proofs.YtblknhpafifebaaDoor
open Go Go.RowKit Go.Sl Go.Sha
set_option linter.unusedVariables false
set_option linter.unusedSimpArgs false
set_option maxRecDepth 100000

theorem infoR : (Tryd.prog.info? 48).map (·.size) = some 33 := by kernel_rfl
theorem infoRC : (Tryd.prog.info? 29).map (·.size) = some 2 := by kernel_rfl
theorem infoR3 : (Tryd.prog.info? 48).map (fun i => (i.zero, i.size, i.bytes)) = some (some (.agg zeroKc.toArray), 33, 56) := by kernel_rfl
theorem zeroRC : (Tryd.prog.info? 29).map (·.zero) = some (some (.agg #[.slice none 0 0, .int .i64 0])) := by kernel_rfl
/-- a row of kept blobs that is read, whatever world holds F -/
structure RS (st : World) (F : HProp) (v : Value) (K : List Kp) : Prop where
  row : Sees st F 33 v K.length (kcs K)
  ok : ∀ k ∈ K, k.ok
  blob : ∀ k ∈ K, Sees st F 1 k.v k.b.length (bcells k.b)
theorem RS.right {st : World} {F G : HProp} {v : Value} {K : List Kp} (h : RS st F v K) : RS st (sep G F) v K := ⟨h.row.right, h.ok, fun k hk => (h.blob k hk).right⟩
/-- the cells of a Cache value -/
def rcells (v : Value) (lim : Int) : Array Value := #[v, .int .i64 lim]

def RSizeRel (st : World) (F : HProp) (K : List Kp) (q : Nat) (v : Value) (lim : Int) (v3 v4 : Value) (wr : World) : Prop :=
  ∃ i : Nat, i ≤ K.length ∧ v3 = .int .i64 (tot (K.take i) : Int) ∧ v4 = .int .i64 (i : Int) ∧ Has st (sep (blk q (.cells (rcells v lim) 29 (0, 0))) F) wr
theorem tot_take_succ {K : List Kp} {i : Nat} (h : i < K.length) : tot (K.take (i + 1)) = tot (K.take i) + K[i].b.length := by
  rw [List.take_succ_eq_append_getElem h, tot_snoc]
theorem tot_app (K M : List Kp) : tot (K ++ M) = tot K + tot M := by simp [tot]
theorem tot_take_le (K : List Kp) (i : Nat) : tot (K.take i) ≤ tot K := by
  have h := tot_app (K.take i) (K.drop i)
  rw [List.take_append_drop] at h
  omega
set_option maxHeartbeats 2000000 in
theorem rsize_any (st : World) (F : HProp) (v : Value) (K : List Kp) (lim : Int) (hRS : RS st F v K) (hlen : K.length ≤ 100000) (htot : tot K ≤ 100000000) (w : World) (h : Has st F w) :
    Calls Tryd.prog 24 #[.agg (rcells v lim)] w fun e w' => e = .returned (.int .i64 (tot K : Int)) ∧ Has st F w' := by
  obtain ⟨A, c, rfl⟩ := hRS.row.form h
  have HRS := Lib.hid hRS
  have HH := Lib.hid h
  clear hRS h
  go_enter Tryd.func24, Tryd.ntmps24
  go_wp2_with ((with_reducible refine wpList_plain rfl ?_); intro _ hk; (first
      | (refine opw_box 29 (.agg (rcells (.slice A K.length c) lim)) (rcells (.slice A K.length c) lim) rfl rfl rfl HH.out (fun q w1 hp h1 => hk _ _ ?_); clear hp; have HX := Lib.hid h1; clear h1)); simp only [Act.put, List.setIfInBounds_toArray, List.set_cons_zero, List.set_cons_succ])
  clear HH
  go_loopw [3, 4] (fun v3 v4 wr => RSizeRel st F K q (.slice A K.length c) lim v3 v4 wr) (fun _ v4 _ => K.length - (intOf v4).toNat)
  case atStart => exact ⟨0, Nat.zero_le _, rfl, rfl, HX.out⟩
  case round =>
    clear HX
    obtain ⟨i, hi, rfl, rfl, h⟩ := hrel
    have c0 : wr.cell? ⟨q, 0, none⟩ = some (.slice A K.length c) := h.cell 0
    by_cases hlt : i < K.length
    · obtain ⟨g, off, rfl, hcell⟩ := (HRS.out.row wr h.right).at (by omega)
      have hk : K[i].ok := HRS.out.ok _ (List.getElem_mem hlt)
      obtain ⟨B, d, hv⟩ := hk.2
      have hb := hcell _ _ (kcs_cell HRS.out.ok hlt (by rw [kc_cell hk, hv]))
      have h1 := tot_take_succ hlt
      have h2 := tot_take_le K (i + 1)
      obtain ⟨n, hn⟩ : ∃ n, n = K[i].b.length := ⟨_, rfl⟩
      obtain ⟨T, hT⟩ : ∃ T, T = tot (K.take i) := ⟨_, rfl⟩
      rw [← hn] at hb h1
      rw [← hT] at h1 ⊢
      have HB := Lib.hid hb
      have HT1 := Lib.hid h1
      have HH := Lib.hid h
      have hTn : T + n ≤ 100000000 := by omega
      clear hk hv hb hcell hn hT h1 h2 h
      go_wp2_with ((with_reducible refine wpList_plain rfl ?_); intro _ hk; (first
        | (refine opw_indexN 27 48 33 _ _ rfl Tryd.underlying27 infoR g off K.length c i rfl .i64 rfl hlt (hk _ _ ?_))
        | (refine opw_field 48 _ 1 32 rfl (by kernel_rfl) g (off + i * 33) rfl (hk _ _ ?_))
        | (refine opw_load1 30 _ rfl _ Tryd.underlying30 rfl ⟨g, off + i * 33 + 32, none⟩ (.slice B n d) rfl (by rw [Nat.add_assoc]; exact HB.out) (hk _ _ ?_))); simp only [Act.put, List.setIfInBounds_toArray, List.set_cons_zero, List.set_cons_succ])
      go_roundw
      case rel => exact ⟨i + 1, by omega, by rw [HT1.out]; go_num, by go_num, HH.out⟩
      case measure => simp [intOf]; omega
    · have hT : tot (K.take i) = tot K := by rw [List.take_of_length_le (by omega)]
      rw [hT]
      clear hT
      go_wp2
      go_ret
      exact ⟨rfl, h.right⟩
end Go.Proofs.YtblknhpafifebaaDoor

/-
  coldstoreref14: Find, Without.
-/
namespace Go.Proofs.YtblknhpafifebaaDoor
open Go Go.RowKit Go.Sl Go.Sha
set_option linter.unusedVariables false
set_option linter.unusedSimpArgs false
set_option maxRecDepth 100000
def RFindRel (st : World) (F : HProp) (id : List UInt8) (K : List Kp) (q r : Nat) (A : Option Addr) (c : Nat) (lim : Int) (v5 : Value) (wr : World) : Prop :=
  ∃ i : Nat, i ≤ K.length ∧ v5 = .int .i64 (i : Int) ∧ Hid (∀ j (hj : j < K.length), j < i → (K[j].id == id) = false) ∧ Has st (sep (blk q (.cells (rcells (.slice A K.length c) lim) 29 (0, 0))) (sep (blk r (.cells (bcells id).toArray 34 (0, 0))) F)) wr
set_option maxHeartbeats 2000000 in
theorem rfind_any (st : World) (F : HProp) (v : Value) (K : List Kp) (lim : Int) (id : List UInt8) (hRS : RS st F v K) (hid : id.length = 32) (hlen : K.length ≤ 100000) (w : World) (h : Has st F w) :
    Calls Tryd.prog 28 #[.agg (rcells v lim), .agg (bcells id).toArray] w fun e w' => e = .returned (.int .i64 (placeZ id K)) ∧ Has st F w' := by
  obtain ⟨A, c, rfl⟩ := hRS.row.form h
  have HRS := Lib.hid hRS
  have HH := Lib.hid h
  have HI := Lib.hid hid
  have HJI : Hid ((Tryd.prog.info? 34).map (·.size) = some (bcells id).length) := Lib.hid (by rw [bcells_length, hid]; exact infoID)
  have HTI : Hid (((bcells id).toArray.toList.drop 0).take (bcells id).length = bcells id) := Lib.hid (by simp)
  clear hRS h hid
  go_enter Tryd.func28, Tryd.ntmps28
  go_wp2_with (first
    | (fail)
    | ((first | (with_reducible refine wpList_plain rfl ?_) | ((with_reducible refine wpList_yes _ _ rfl ?_ ?_); (focus rfl))); intro _ hk; (first
      | (refine opw_box 29 (.agg (rcells (.slice A K.length c) lim)) (rcells (.slice A K.length c) lim) rfl rfl rfl HH.out (fun q w1 hp h1 => hk _ _ ?_); clear hp; have HX := Lib.hid h1; clear h1)
      | (refine opw_box 34 (.agg (bcells id).toArray) (bcells id).toArray rfl rfl rfl HX.out (fun r w1 hp h1 => hk _ _ ?_); clear hp; have HXX := Lib.hid h1.second; clear h1)); simp only [Act.put, List.setIfInBounds_toArray, List.set_cons_zero, List.set_cons_succ]))
  clear HH HX
  go_loopw [5] (fun v5 wr => RFindRel st F id K q r A c lim v5 wr) (fun v5 _ => K.length - (intOf v5).toNat)
  case atStart => exact ⟨0, Nat.zero_le _, rfl, by intro j hj h0; omega, HXX.out⟩
  case round =>
    clear HXX
    obtain ⟨i, hi, rfl, HA, h⟩ := hrel
    have c0 : wr.cell? ⟨q, 0, none⟩ = some (.slice A K.length c) := h.cell 0
    by_cases hlt : i < K.length
    · obtain ⟨g, off, rfl, _⟩ := (HRS.out.row wr h.right.right).at (by omega)
      have hk : K[i].ok := HRS.out.ok _ (List.getElem_mem hlt)
      obtain ⟨X, hX⟩ : ∃ X, X = K[i].id := ⟨_, rfl⟩
      have HLX : Hid (X.length = 32) := Lib.hid (by rw [hX]; exact hk.1)
      have HJX : Hid ((Tryd.prog.info? 34).map (·.size) = some (bcells X).length) := Lib.hid (by rw [bcells_length, HLX.out]; exact infoID)
      have HCX : Hid (∀ w, Has st F w → ∀ j u, (bcells X)[j]? = some u → w.cell? ⟨g, off + i * 33 + 0 + j, none⟩ = some u) := Lib.hid fun w hw j u hj => by
        obtain ⟨g', o', e, hc⟩ := (HRS.out.row w hw).at (by omega)
        injection e with e; injection e with e1 e2; subst e1 e2
        rw [Nat.add_zero, Nat.add_assoc]; exact hc _ u (kcs_cell HRS.out.ok hlt (by rw [kc, List.getElem?_append_left (by rw [← hX]; exact (List.getElem?_eq_some_iff.1 hj).1), ← hX]; exact hj))
      have HH := Lib.hid h
      have HXE := Lib.hid hX
      clear hk hX h
      cases hF : (X == id) with
      | false =>
        have ZF := Lib.hid hF
        clear hF
        go_wp2_with fail
        refine wp_region_inv3 (fun L u w' => Slots (fun kk => ([some (.pointer (some ⟨q, 0, none⟩)), some (.slice (some ⟨g, off, none⟩) K.length c), some (.int .i64 ((i : Nat) : Int)), some (.pointer (some ⟨g, off + i * 33, none⟩)), some (.pointer (some ⟨g, off + i * 33 + 0, none⟩)), some (.agg (bcells X).toArray), some (.agg (bcells id).toArray), some (.bool false)] : List (Option Value)).getD kk none) L u ∧ Has st (sep (blk q (.cells (rcells (.slice (some ⟨g, off, none⟩) K.length c) lim) 29 (0, 0))) (sep (blk r (.cells (bcells id).toArray 34 (0, 0))) F)) w') (by kernel_rfl) (by decide +kernel) (by decide +kernel) (by kernel_rfl) (by kernel_rfl) (fun u => ⟨Slots.start _ u, HH.out.drew⟩) ?_ ?_
        · refine ⟨?_, ?_, ?_, ?_, ?_, ?_, ?_, ?_, trivial⟩
          · refine RegStep3.plain rfl ?_; rintro L u w1 bA hL hW hD hU ⟨hS, hH⟩ hin hout; exact opw_field _ _ _ 0 rfl (by kernel_rfl) (q) (0) ((hout 2 (by kernel_rfl)).trans (by kernel_rfl)) ⟨_, rfl, hS.step 0 _ (.inr rfl), hH⟩
          · refine RegStep3.plain rfl ?_; rintro L u w1 bA hL hW hD hU ⟨hS, hH⟩ hin hout; exact opw_load1 _ _ rfl _ Tryd.underlying27 rfl _ _ ((hin 0 13 rfl).trans (hS 0 _ rfl (hW.of 0 (by decide)))) (hH.cell 0) ⟨_, rfl, hS.step 1 _ (.inr rfl), hH⟩
          · refine RegStep3.plain rfl ?_; rintro L u w1 bA hL hW hD hU ⟨hS, hH⟩ hin hout; exact opw_move _ _ (.inl rfl) ((hout 5 (by kernel_rfl)).trans (by kernel_rfl)) ⟨_, rfl, hS.step 2 _ (.inr rfl), hH⟩
          · refine RegStep3.plain rfl ?_; rintro L u w1 bA hL hW hD hU ⟨hS, hH⟩ hin hout; exact opw_indexN _ _ 33 _ _ rfl Tryd.underlying27 infoR g off K.length c i ((hin 1 14 rfl).trans (hS 1 _ rfl (hW.of 1 (by decide)))) .i64 ((hin 2 15 rfl).trans (hS 2 _ rfl (hW.of 2 (by decide)))) hlt ⟨_, rfl, hS.step 3 _ (.inr rfl), hH⟩
          · refine RegStep3.plain rfl ?_; rintro L u w1 bA hL hW hD hU ⟨hS, hH⟩ hin hout; exact opw_field _ _ _ 0 rfl (by kernel_rfl) g (off + i * 33) ((hin 3 16 rfl).trans (hS 3 _ rfl (hW.of 3 (by decide)))) ⟨_, rfl, hS.step 4 _ (.inr rfl), hH⟩
          · refine RegStep3.plain rfl ?_; rintro L u w1 bA hL hW hD hU ⟨hS, hH⟩ hin hout; exact wp_load_mid _ _ rfl g (off + i * 33 + 0) ((hin 4 17 rfl).trans (hS 4 _ rfl (hW.of 4 (by decide)))) (bcells X) _ (HCX.out _ hH.right.right) Tryd.underlying34 rfl HJX.out ⟨_, rfl, hS.step 5 _ (.inr rfl), hH⟩
          · refine RegStep3.plain rfl ?_; rintro L u w1 bA hL hW hD hU ⟨hS, hH⟩ hin hout; exact opw_loadMid _ _ rfl r (0) ((hout 3 (by kernel_rfl)).trans (by kernel_rfl)) (bcells id) _ Tryd.underlying34 rfl HJI.out hH.second HTI.out ⟨_, rfl, hS.step 6 _ (.inr rfl), hH⟩
          · refine RegStep3.plain rfl ?_; rintro L u w1 bA hL hW hD hU ⟨hS, hH⟩ hin hout; exact opw_eqRow _ _ 5 32 _ _ X id Tryd.underlying34 Tryd.underlying5 infosz (by kernel_rfl) HLX.out HI.out rfl ((hin 5 18 rfl).trans (hS 5 _ rfl (hW.of 5 (by decide)))) ((hin 6 19 rfl).trans (hS 6 _ rfl (hW.of 6 (by decide)))) false ZF.out ⟨_, rfl, hS.step 7 _ (.inr rfl), hH⟩
        intro L u wv hL ⟨hS, hH⟩
        have E0 := hS 0 _ rfl (hL 0 (by decide))
        have E1 := hS 1 _ rfl (hL 1 (by decide))
        have E2 := hS 2 _ rfl (hL 2 (by decide))
        have E3 := hS 3 _ rfl (hL 3 (by decide))
        have E4 := hS 4 _ rfl (hL 4 (by decide))
        have E5 := hS 5 _ rfl (hL 5 (by decide))
        have E6 := hS 6 _ rfl (hL 6 (by decide))
        have E7 := hS 7 _ rfl (hL 7 (by decide))
        simp only [frame_cons, frame_nil, E0, E1, E2, E3, E4, E5, E6, E7, Act.put, List.setIfInBounds_toArray, List.set_cons_zero, List.set_cons_succ]
        clear hL hS E0 E1 E2 E3 E4 E5 E6 E7
        have Hv := Lib.hid hH
        clear hH HH
        go_wp2
        go_roundw
        case rel => exact ⟨i + 1, by omega, by go_num, by
          intro j hj hji
          rcases Nat.lt_or_ge j i with h' | h'
          · exact HA.out j hj h'
          · obtain rfl : j = i := by omega
            rw [← HXE.out]; exact ZF.out, Hv.out⟩
        case measure => simp [intOf]; omega
      | true =>
        have ZF := Lib.hid hF
        clear hF
        go_wp2_with fail
        refine wp_region_inv3 (fun L u w' => Slots (fun kk => ([some (.pointer (some ⟨q, 0, none⟩)), some (.slice (some ⟨g, off, none⟩) K.length c), some (.int .i64 ((i : Nat) : Int)), some (.pointer (some ⟨g, off + i * 33, none⟩)), some (.pointer (some ⟨g, off + i * 33 + 0, none⟩)), some (.agg (bcells X).toArray), some (.agg (bcells id).toArray), some (.bool true)] : List (Option Value)).getD kk none) L u ∧ Has st (sep (blk q (.cells (rcells (.slice (some ⟨g, off, none⟩) K.length c) lim) 29 (0, 0))) (sep (blk r (.cells (bcells id).toArray 34 (0, 0))) F)) w') (by kernel_rfl) (by decide +kernel) (by decide +kernel) (by kernel_rfl) (by kernel_rfl) (fun u => ⟨Slots.start _ u, HH.out.drew⟩) ?_ ?_
        · refine ⟨?_, ?_, ?_, ?_, ?_, ?_, ?_, ?_, trivial⟩
          · refine RegStep3.plain rfl ?_; rintro L u w1 bA hL hW hD hU ⟨hS, hH⟩ hin hout; exact opw_field _ _ _ 0 rfl (by kernel_rfl) (q) (0) ((hout 2 (by kernel_rfl)).trans (by kernel_rfl)) ⟨_, rfl, hS.step 0 _ (.inr rfl), hH⟩
          · refine RegStep3.plain rfl ?_; rintro L u w1 bA hL hW hD hU ⟨hS, hH⟩ hin hout; exact opw_load1 _ _ rfl _ Tryd.underlying27 rfl _ _ ((hin 0 13 rfl).trans (hS 0 _ rfl (hW.of 0 (by decide)))) (hH.cell 0) ⟨_, rfl, hS.step 1 _ (.inr rfl), hH⟩
          · refine RegStep3.plain rfl ?_; rintro L u w1 bA hL hW hD hU ⟨hS, hH⟩ hin hout; exact opw_move _ _ (.inl rfl) ((hout 5 (by kernel_rfl)).trans (by kernel_rfl)) ⟨_, rfl, hS.step 2 _ (.inr rfl), hH⟩
          · refine RegStep3.plain rfl ?_; rintro L u w1 bA hL hW hD hU ⟨hS, hH⟩ hin hout; exact opw_indexN _ _ 33 _ _ rfl Tryd.underlying27 infoR g off K.length c i ((hin 1 14 rfl).trans (hS 1 _ rfl (hW.of 1 (by decide)))) .i64 ((hin 2 15 rfl).trans (hS 2 _ rfl (hW.of 2 (by decide)))) hlt ⟨_, rfl, hS.step 3 _ (.inr rfl), hH⟩
          · refine RegStep3.plain rfl ?_; rintro L u w1 bA hL hW hD hU ⟨hS, hH⟩ hin hout; exact opw_field _ _ _ 0 rfl (by kernel_rfl) g (off + i * 33) ((hin 3 16 rfl).trans (hS 3 _ rfl (hW.of 3 (by decide)))) ⟨_, rfl, hS.step 4 _ (.inr rfl), hH⟩
          · refine RegStep3.plain rfl ?_; rintro L u w1 bA hL hW hD hU ⟨hS, hH⟩ hin hout; exact wp_load_mid _ _ rfl g (off + i * 33 + 0) ((hin 4 17 rfl).trans (hS 4 _ rfl (hW.of 4 (by decide)))) (bcells X) _ (HCX.out _ hH.right.right) Tryd.underlying34 rfl HJX.out ⟨_, rfl, hS.step 5 _ (.inr rfl), hH⟩
          · refine RegStep3.plain rfl ?_; rintro L u w1 bA hL hW hD hU ⟨hS, hH⟩ hin hout; exact opw_loadMid _ _ rfl r (0) ((hout 3 (by kernel_rfl)).trans (by kernel_rfl)) (bcells id) _ Tryd.underlying34 rfl HJI.out hH.second HTI.out ⟨_, rfl, hS.step 6 _ (.inr rfl), hH⟩
          · refine RegStep3.plain rfl ?_; rintro L u w1 bA hL hW hD hU ⟨hS, hH⟩ hin hout; exact opw_eqRow _ _ 5 32 _ _ X id Tryd.underlying34 Tryd.underlying5 infosz (by kernel_rfl) HLX.out HI.out rfl ((hin 5 18 rfl).trans (hS 5 _ rfl (hW.of 5 (by decide)))) ((hin 6 19 rfl).trans (hS 6 _ rfl (hW.of 6 (by decide)))) true ZF.out ⟨_, rfl, hS.step 7 _ (.inr rfl), hH⟩
        intro L u wv hL ⟨hS, hH⟩
        have E0 := hS 0 _ rfl (hL 0 (by decide))
        have E1 := hS 1 _ rfl (hL 1 (by decide))
        have E2 := hS 2 _ rfl (hL 2 (by decide))
        have E3 := hS 3 _ rfl (hL 3 (by decide))
        have E4 := hS 4 _ rfl (hL 4 (by decide))
        have E5 := hS 5 _ rfl (hL 5 (by decide))
        have E6 := hS 6 _ rfl (hL 6 (by decide))
        have E7 := hS 7 _ rfl (hL 7 (by decide))
        simp only [frame_cons, frame_nil, E0, E1, E2, E3, E4, E5, E6, E7, Act.put, List.setIfInBounds_toArray, List.set_cons_zero, List.set_cons_succ]
        clear hL hS E0 E1 E2 E3 E4 E5 E6 E7
        have Hv := Lib.hid hH
        clear hH HH
        go_wp2
        go_ret
        exact ⟨by rw [placeZ_at hlt (by rw [← HXE.out]; exact ZF.out) fun j hj => HA.out j (by omega) hj]; rfl, Hv.out.right.right⟩
    · go_wp2
      go_ret
      obtain rfl : i = K.length := by omega
      exact ⟨by rw [placeZ_none fun j hj => HA.out j hj hj]; rfl, h.right.right⟩
end Go.Proofs.YtblknhpafifebaaDoor

/-
  coldstoreref14: Without.
-/
namespace Go.Proofs.YtblknhpafifebaaDoor
open Go Go.RowKit Go.Sl Go.Sha
set_option linter.unusedVariables false
set_option linter.unusedSimpArgs false
set_option maxRecDepth 100000
def zrc : Array Value := #[.slice none 0 0, .int .i64 0]
theorem rc_one (A : Option Addr) (n c : Nat) (lim : Int) : (rcells (.slice A n c) lim).all (·.oneCell') = true := by simp [rcells, Value.oneCell']
set_option maxHeartbeats 2000000 in
theorem rwithout_neg (st : World) (F : HProp) (A : Option Addr) (N c : Nat) (lim i : Int) (hi : i < 0) (w : World) (h : Has st F w) :
    Calls Tryd.prog 27 #[.agg (rcells (.slice A N c) lim), .int .i64 i] w fun e w' => e = .returned (.agg (rcells (.slice A N c) lim)) ∧ Has st F w' := by
  have HH := Lib.hid h
  have HZ := Lib.hid zeroRC
  have HRI : Hid ((Tryd.prog.info? 29).map (·.size) = some (rcells (.slice A N c) lim).size) := Lib.hid infoRC
  have HRL : Hid ((Tryd.prog.info? 29).map (·.size) = some (rcells (.slice A N c) lim).toList.length) := Lib.hid infoRC
  have HTK : Hid (((rcells (.slice A N c) lim).toList.drop 0).take (rcells (.slice A N c) lim).toList.length = (rcells (.slice A N c) lim).toList) := Lib.hid rfl
  obtain ⟨CC, hCC⟩ : ∃ CC, CC = rcells (.slice A N c) lim := ⟨_, rfl⟩
  have HONE : Hid (CC.all (·.oneCell') = true) := Lib.hid (by rw [hCC]; exact rc_one _ _ _ _)
  have HSZ : Hid (zrc.size = CC.size) := Lib.hid (by rw [hCC]; rfl)
  rw [← hCC] at HRI HRL HTK ⊢
  clear h hCC
  go_enter Tryd.func27, Tryd.ntmps27
  go_wp2_with (first
    | (fail)
    | ((first | (with_reducible refine wpList_plain rfl ?_) | ((with_reducible refine wpList_yes _ _ rfl ?_ ?_); (focus rfl))); intro _ hk; (first
      | (refine opw_box 29 (.agg CC) CC rfl rfl rfl HH.out (fun q w1 hp h1 => hk _ _ ?_); clear hp; have HX := Lib.hid h1; clear h1)
      | (refine opw_alloc 29 (.agg zrc) zrc rfl HZ.out rfl HX.out (fun r w1 hp h1 => hk _ _ ?_); clear hp; have HR := Lib.hid h1; clear h1)
      | (refine opw_loadMid 29 _ rfl q 0 rfl CC.toList _ Tryd.underlying29 rfl HRL.out HR.out.second HTK.out (hk _ _ ?_))
      | (refine opw_storeRow 29 _ _ rfl r CC rfl rfl 29 zrc HRI.out HSZ.out HONE.out HR.out (fun w9 h9 => hk _ _ ?_))); simp only [Act.put, List.setIfInBounds_toArray, List.set_cons_zero, List.set_cons_succ]))
  refine bodyPost_ret (results_cell_row Tryd.results27 _ _ _ 29 _ _ _ rfl h9.blk Tryd.underlying29 rfl HRI.out) rfl ?_
  exact ⟨rfl, h9.right.right⟩

set_option maxHeartbeats 4000000 in
theorem rwithout_at (st : World) (F : HProp) (A : Option Addr) (c : Nat) (K : List Kp) (lim : Int) (hRS : RS st F (.slice A K.length c) K) (i : Nat) (hi : i < K.length) (hlen : K.length ≤ 100000) (w : World) (h : Has st F w) :
    Calls Tryd.prog 27 #[.agg (rcells (.slice A K.length c) lim), .int .i64 (i : Int)] w fun e w' => ∃ B d, e = .returned (.agg (rcells (.slice B (K.length - 1) d) lim)) ∧ Has st (sep (row 48 33 (.slice B (K.length - 1) d) (K.length - 1) (kcs (K.eraseIdx i))) F) w' := by
  have hok := hRS.ok
  have hcap := (hRS.row w h).le_cap
  have HS1 : Hid (Sees st F 33 (.slice (subA 33 A 0 c) i c) i (kcs (K.take i))) := Lib.hid (by
    have := hRS.row.sub 0 i (Nat.zero_le _) (by omega) (by decide)
    rw [Nat.sub_zero, Nat.sub_zero, Nat.zero_mul, List.drop_zero, kcs_take hok] at this; exact this)
  have HS2 : Hid (Sees st F 33 (.slice (subA 33 A (i + 1) c) (K.length - (i + 1)) (c - (i + 1))) (K.length - (i + 1)) (kcs (K.drop (i + 1)))) := Lib.hid (by
    have := hRS.row.sub (i + 1) K.length (by omega) (Nat.le_refl _) (by decide)
    rw [kcs_drop hok, List.take_of_length_le (by rw [kcs_length fun k hk => hok k (List.mem_of_mem_drop hk), List.length_drop]; exact Nat.le_refl _)] at this; exact this)
  have HO1 : Hid (∀ u ∈ kcs (K.take i), u.oneCell' = true) := Lib.hid (kcs_one fun k hk => hok k (List.mem_of_mem_take hk))
  have HO2 : Hid (∀ u ∈ kcs (K.drop (i + 1)), u.oneCell' = true) := Lib.hid (kcs_one fun k hk => hok k (List.mem_of_mem_drop hk))
  have HER : Hid (kcs (K.take i) ++ kcs (K.drop (i + 1)) = kcs (K.eraseIdx i)) := Lib.hid (by rw [← kcs_append, ← List.eraseIdx_eq_take_drop_succ])
  obtain ⟨N, hN⟩ : ∃ N, N = K.length := ⟨_, rfl⟩
  rw [← hN] at HS2 hcap hi hlen ⊢
  obtain ⟨X1, hX1⟩ : ∃ X, X = kcs (K.take i) := ⟨_, rfl⟩
  obtain ⟨X2, hX2⟩ : ∃ X, X = kcs (K.drop (i + 1)) := ⟨_, rfl⟩
  rw [← hX1] at HS1 HO1 HER
  rw [← hX2] at HS2 HO2 HER
  obtain ⟨M2, hM2⟩ : ∃ M, M = N - (i + 1) := ⟨_, rfl⟩
  rw [← hM2] at HS2
  have HM2 := Lib.hid hM2
  have HMM : Hid (i + M2 = N - 1) := Lib.hid (by omega)
  have hMb : i + M2 ≤ 100000 := by omega
  have HWR : Hid (binZ .add .i64 (i : Int) 1 = some ((i + 1 : Nat) : Int)) := Lib.hid (bin_add i 1 (by omega))
  have HLS : Hid (cmpZ .lss (i : Int) 0 = some false) := Lib.hid (by show some (decide ((i : Int) < 0)) = some false; rw [decide_eq_false (by omega)])
  have hc1 := hcap.1
  have HH := Lib.hid h
  have HZ := Lib.hid zeroRC
  have HR3 := Lib.hid infoR3
  obtain ⟨CC, hCC⟩ : ∃ CC, CC = rcells (.slice A N c) lim := ⟨_, rfl⟩
  rw [← hCC]
  have HCC := Lib.hid hCC
  clear h hRS hok hcap hN hX1 hX2 hM2 hCC
  go_enter Tryd.func27, Tryd.ntmps27
  go_wp2_with (first
    | (fail)
    | ((first | (with_reducible refine wpList_plain rfl ?_) | ((with_reducible refine wpList_yes _ _ rfl ?_ ?_); (focus rfl))); intro _ hk; (first
      | (have _k := U3; refine opw_loadMid 29 _ rfl q 0 rfl (rcells (.slice B2 (i + M2) d2) lim).toList _ Tryd.underlying29 rfl infoRC U3.out rfl (hk _ _ ?_))
      | (have _k := U3; refine opw_storeRow 29 _ _ rfl r (rcells (.slice B2 (i + M2) d2) lim) rfl rfl 29 zrc infoRC rfl (rc_one _ _ _ _) U3.out.third (fun w9 h9 => hk _ _ ?_))
      | (have _k := U2; refine opw_store1 27 _ _ rfl (by kernel_rfl) q 0 (.slice B2 (i + M2) d2) rfl rfl rfl U2.out.third (by rw [HCC.out]; simp [rcells]) (fun w9 h9 => hk _ _ ?_); have U3 : Hid (Has st (sep (blk q (.cells (rcells (.slice B2 (i + M2) d2) lim) 29 (0, 0))) (sep (row 48 33 (.slice B2 (i + M2) d2) (i + M2) (X1 ++ X2)) (sep (blk r (.cells zrc 29 (0, 0))) F))) w9) := Lib.hid (by rw [HCC.out] at h9; exact h9); clear h9)
      | (have _k := U1; refine op_append _ _ 27 48 33 56 (.agg zeroKc.toArray) rfl Tryd.underlying27 HR3.out rfl (by decide) rfl rfl U1.out (HS2.out _ U1.out.right.right.right) HO2.out (by unfold maxLen; omega) (by omega) (fun B2 d2 w9 h9 => hk _ _ ?_); have U2 := Lib.hid h9; clear h9)
      | (refine opw_sl 27 48 33 _ (some _) none rfl Tryd.underlying27 infoR (A := A) (n := N) (cap := c) rfl hc1 (i + 1) N (.inr ⟨.i64, rfl⟩) (SlB.out N) (by omega) (Nat.le_refl _) (hk _ _ ?_); rw [← HM2.out])
      | (refine opw_bin .add _ _ _ _ .i64 (i : Int) 1 ((i + 1 : Nat) : Int) rfl rfl rfl HWR.out (hk _ _ ?_))
      | (have _k := U1; refine opw_load1 27 _ rfl _ Tryd.underlying27 rfl ⟨q, 0, none⟩ (.slice A N c) rfl (by have := (U1.out.third).cell 0; rw [HCC.out] at this; exact this) (hk _ _ ?_))
      | (have _k := U0; refine op_append _ _ 27 48 33 56 (.agg zeroKc.toArray) rfl Tryd.underlying27 HR3.out rfl (by decide) rfl rfl U0.out (HS1.out _ U0.out.right.right.right) HO1.out (by unfold maxLen; omega) (by omega) (fun B1 d1 w9 h9 => hk _ _ ?_); rw [List.nil_append] at h9; rw [Nat.zero_add] at h9 ⊢; have U1 := Lib.hid h9; clear h9)
      | (refine opw_sl 27 48 33 _ none (some _) rfl Tryd.underlying27 infoR (A := A) (n := N) (cap := c) rfl hc1 0 i (SlB.out 0) (.inr ⟨.i64, rfl⟩) (Nat.zero_le _) (by omega) (hk _ _ ?_); rw [Nat.sub_zero, Nat.sub_zero])
      | (have _k := U0; refine opw_load1 27 _ rfl _ Tryd.underlying27 rfl ⟨q, 0, none⟩ (.slice A N c) rfl (by have := (U0.out.third).cell 0; rw [HCC.out] at this; exact this) (hk _ _ ?_))
      | (have _k := HR; refine opw_row0 27 48 33 rfl Tryd.underlying27 infoR HR.out (fun v3 w9 h9 => hk _ _ ?_); have U0 := Lib.hid h9; clear h9)
      | (refine opw_cmp .lss _ _ _ _ .i64 (i : Int) 0 false rfl rfl rfl HLS.out (hk _ _ ?_))
      | (refine opw_alloc 29 (.agg zrc) zrc rfl HZ.out rfl HX.out (fun r w1 hp h1 => hk _ _ ?_); clear hp; have HR := Lib.hid h1; clear h1)
      | (refine opw_box 29 (.agg CC) CC rfl rfl rfl HH.out (fun q w1 hp h1 => hk _ _ ?_); clear hp; have HX := Lib.hid h1; clear h1)); simp only [Act.put, List.setIfInBounds_toArray, List.set_cons_zero, List.set_cons_succ]))
  refine bodyPost_ret (results_cell_row Tryd.results27 _ _ _ 29 _ _ _ rfl h9.blk Tryd.underlying29 rfl infoRC) rfl ?_
  rw [HMM.out] at h9 ⊢
  refine ⟨B2, d2, rfl, ?_⟩
  rw [← HER.out]
  exact h9.right.right
end Go.Proofs.YtblknhpafifebaaDoor

/-
  coldstoreref03: right, first; laws on words.
-/
namespace Go.Sha
open Go Go.Sl Go.RowKit
theorem sh32 (X : UInt32) (m : Nat) (hm : m < 32) : shZ .shr .u32 (X.toNat : Int) (m : Int) = some ((sh X m).toNat : Int) := by
  have h := sh_r .u32 X.toNat m (by show m ≤ 32; omega)
  rw [h]
  have e := w32_shr X m hm
  unfold sh
  rw [← e]
  simp
theorem word_plus (a b c d : UInt8) : (16777216 : UInt32) * a.toUInt32 + (65536 : UInt32) * b.toUInt32 + (256 : UInt32) * c.toUInt32 + d.toUInt32 = a.toUInt32 <<< 24 ||| b.toUInt32 <<< 16 ||| c.toUInt32 <<< 8 ||| d.toUInt32 := by
  have ha := a.toNat_lt
  have hb := b.toNat_lt
  have hc := c.toNat_lt
  have hd := d.toNat_lt
  apply UInt32.toNat_inj.1
  have e1 : (a.toUInt32 <<< 24).toNat = a.toNat <<< 24 := by
    simp only [UInt32.toNat_shiftLeft, UInt8.toNat_toUInt32]
    rw [Nat.mod_eq_of_lt]; rfl
    show a.toNat <<< 24 < 2 ^ 32
    rw [Nat.shiftLeft_eq]; omega
  have e2 : (b.toUInt32 <<< 16).toNat = b.toNat <<< 16 := by
    simp only [UInt32.toNat_shiftLeft, UInt8.toNat_toUInt32]
    rw [Nat.mod_eq_of_lt]; rfl
    show b.toNat <<< 16 < 2 ^ 32
    rw [Nat.shiftLeft_eq]; omega
  have e3 : (c.toUInt32 <<< 8).toNat = c.toNat <<< 8 := by
    simp only [UInt32.toNat_shiftLeft, UInt8.toNat_toUInt32]
    rw [Nat.mod_eq_of_lt]; rfl
    show c.toNat <<< 8 < 2 ^ 32
    rw [Nat.shiftLeft_eq]; omega
  rw [UInt32.toNat_or, UInt32.toNat_or, UInt32.toNat_or, e1, e2, e3, UInt8.toNat_toUInt32]
  rw [Nat.or_assoc, Nat.or_assoc]
  rw [← Nat.shiftLeft_add_eq_or_of_lt (b := d.toNat) (by omega)]
  rw [← Nat.shiftLeft_add_eq_or_of_lt (b := c.toNat <<< 8 + d.toNat) (by rw [Nat.shiftLeft_eq]; omega)]
  rw [← Nat.shiftLeft_add_eq_or_of_lt (b := b.toNat <<< 16 + (c.toNat <<< 8 + d.toNat)) (by rw [Nat.shiftLeft_eq, Nat.shiftLeft_eq]; omega)]
  simp only [UInt32.toNat_add, UInt32.toNat_mul, UInt8.toNat_toUInt32, Nat.shiftLeft_eq]
  have n1 : UInt32.toNat 16777216 = 16777216 := rfl
  have n2 : UInt32.toNat 65536 = 65536 := rfl
  have n3 : UInt32.toNat 256 = 256 := rfl
  rw [n1, n2, n3]
  omega
theorem rr_or (x : UInt32) (n : Nat) : x >>> (UInt32.ofNat n) ||| x <<< (UInt32.ofNat (32 - n)) = rr x n := UInt32.or_comm _ _
end Go.Sha
namespace Go.Proofs.YtblknhpafifebaaDoor
open Go.RowKit Go.Sl Go.Sha
set_option linter.unusedVariables false
set_option linter.unusedSimpArgs false
theorem right_q (x : UInt32) (n : Nat) (hn : 1 ≤ n ∧ n ≤ 31) (w : World) :
    Calls Tryd.prog 35 #[.int .u32 x.toNat, .int .i64 n] w fun e w' => e = .returned (.int .u32 (rr x n).toNat) ∧ ∃ k, w' = w.drewN k := by
  obtain ⟨m, hm⟩ : ∃ m : Nat, m = 32 - n := ⟨_, rfl⟩
  have hm31 : 1 ≤ m ∧ m ≤ 31 := by omega
  have hsub : IntKind.i64.wrap (32 - (n : Int)) = (m : Int) := by rw [IntWalk.i64_in _ ⟨by omega, by omega⟩]; omega
  have HM := Lib.hid hm
  clear hm
  have hn0 : (0 : Int) ≤ (n : Int) := by omega
  have hm0 : (0 : Int) ≤ (m : Int) := by omega
  go_enter Tryd.func35, Tryd.ntmps35
  go_wp2
  go_quiet (fail)
  go_wp2
  go_ret
  refine ⟨?_, nq, rfl⟩
  have e1 : bits .or .u32 ((x.toNat : Int) / 2 ^ n) ((x.toNat : Int) * 2 ^ m % 4294967296) = ((rr x n).toNat : Int) := by
    rw [w32_shl x m (by omega), w32_shr x n (by omega), w32_or, HM.out, rr_or]
  exact congrArg (fun z => Ending.returned (.int .u32 z)) e1
theorem right_any (st : World) (R : HProp) (x : UInt32) (n : Nat) (hn : 1 ≤ n ∧ n ≤ 31) (w : World) (h : Has st R w) :
    Calls Tryd.prog 35 #[.int .u32 x.toNat, .int .i64 n] w fun e w' => e = .returned (.int .u32 (rr x n).toNat) ∧ Has st R w' :=
  (right_q x n hn w).mono fun _ _ ⟨he, k, hk⟩ => ⟨he, hk ▸ h.drewN k⟩

set_option maxRecDepth 100000 in
set_option maxHeartbeats 1000000 in
theorem first_any (st : World) (R : HProp) (w : World) (h : Has st R w) :
    Calls Tryd.prog 25 #[] w fun e w' => ∃ p q, e = .returned (.tuple #[.slice (some ⟨p, 0, none⟩) 8 8, .slice (some ⟨q, 0, none⟩) 64 64]) ∧ Has st (sep (blk q (.cells (wcells keyList).toArray 70 (0, 0))) (sep (blk p (.cells (wcells Sha.start.list).toArray 70 (0, 0))) R)) w' := by
  go_enter Tryd.func25, Tryd.ntmps25
  go_wp2_with ((with_reducible refine wpList_plain rfl ?_); intro _ hk; (first
    | (refine opw_lit _ 8 _ _ 70 (wcells Sha.start.list).toArray rfl rfl (by kernel_rfl) h (fun p w1 h1 => hk _ _ ?_); have H1 := Lib.hid h1; clear h1)
    | (refine opw_lit _ 64 _ _ 70 (wcells keyList).toArray rfl rfl (by kernel_rfl) H1.out (fun q w2 h2 => hk _ _ ?_); have H2 := Lib.hid h2; clear h2)); simp only [Act.put, List.setIfInBounds_toArray, List.set_cons_zero, List.set_cons_succ])
  go_ret2
  exact ⟨p, q, rfl, H2.out⟩
end Go.Proofs.YtblknhpafifebaaDoor
