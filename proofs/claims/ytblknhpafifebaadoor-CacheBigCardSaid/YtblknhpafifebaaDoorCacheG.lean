/-
  cache: Spoil.
-/
import Derived.Test.YtblknhpafifebaaDoorCacheF
import Derived.Test.YtblknhpafifebaaDoorFlip
namespace Go.Proofs.YtblknhpafifebaaDoor
open Go.RowKit Go.Sl Go.Sha
set_option linter.unusedVariables false
set_option linter.unusedSimpArgs false
set_option maxRecDepth 100000

/-- behind Spoil: what is kept, whether -/
def spoilK (id : List UInt8) (bit : Int) (K : List Kp) : List Kp × Bool :=
  match place id K with
  | none => (K, false)
  | some i => match K[i]? with
    | none => (K, false)
    | some k => if k.b.length = 0 then (K, false) else (K.set i ⟨k.id, k.v, Sl.flip k.b (bit % ((8 * k.b.length : Nat) : Int)).toNat⟩, true)
theorem kcs_set {K : List Kp} {i : Nat} (hi : i < K.length) (b : List UInt8) : kcs (K.set i ⟨K[i].id, K[i].v, b⟩) = kcs K := by
  unfold kcs
  rw [List.flatMap_def, List.flatMap_def, List.map_set]
  congr 1
  apply List.ext_getElem (by simp)
  intro j h1 h2
  rw [List.getElem_set]
  split
  · rename_i e; subst e; simp [kc]
  · rfl
theorem tot_set : ∀ (K : List Kp) (i : Nat) (hi : i < K.length) (k : Kp), k.b.length = K[i].b.length → tot (K.set i k) = tot K
  | x :: K, 0, _, k, h => by simp [tot] at h ⊢; exact h
  | x :: K, i + 1, hi, k, h => by
    have hi' : i < K.length := by simpa using hi
    have := tot_set K i hi' k (by simpa using h)
    simp [tot] at this ⊢; exact this

set_option maxHeartbeats 1000000 in
theorem spoil_any (st : World) (R : HProp) (p : Nat) (K : List Kp) (lim : Int) (id : List UInt8) (bit : Int) (w : World) (h : Has st (sep (cacheP p K lim) R) w) (hid : id.length = 32)
    (hok : ∀ k ∈ K, k.ok) (hlen : K.length ≤ 100000) (htot : tot K ≤ 100000000) :
    Calls Tryd.prog 18 #[.pointer (some ⟨p, 0, none⟩), .agg (bcells id).toArray, .int .i64 bit] w fun e w' => e = .returned (.bool (spoilK id bit K).2) ∧ Has st (sep (cacheP p (spoilK id bit K).1 lim) R) w' := by
  have HFI : Hid (∀ F w, Has st (sep (cacheP p K lim) F) w → Calls Tryd.prog 31 #[.pointer (some ⟨p, 0, none⟩), .agg (bcells id).toArray] w fun e w' => e = .returned (.int .i64 (placeZ id K)) ∧ Has st (sep (cacheP p K lim) F) w') :=
    Lib.hid fun F w hw => find_any st F p K lim id w hw hid hok (by omega)
  have hbi : (Tryd.prog.info? 34).map (·.size) = some (bcells id).length := by rw [bcells_length, hid]; exact infoID
  have HBI := Lib.hid hbi
  have HH := Lib.hid h
  have HOK := Lib.hid hok
  have HTI : Hid (((bcells id).toArray.toList.drop 0).take (bcells id).length = bcells id) := Lib.hid (by simp)
  clear h hid hok hbi
  cases hpl : place id K with
  | none =>
    have hpz : placeZ id K = -1 := by rw [placeZ, hpl]
    rw [hpz] at HFI
    have hget : spoilK id bit K = (K, false) := by unfold spoilK; rw [hpl]
    rw [hget]
    clear hpz hget hpl
    go_enter Tryd.func18, Tryd.ntmps18
    go_wp2_with (first
      | (go_at_call 31; refine (HFI.out _ _ H0.out).mono ?_; rintro e w1 ⟨rfl, h1⟩; have H1 := Lib.hid h1; clear h1)
      | ((first | (with_reducible refine wpList_plain rfl ?_) | ((with_reducible refine wpList_yes _ _ rfl ?_ ?_); (focus rfl))); intro _ hk; (first
        | (refine opw_box 34 (.agg (bcells id).toArray) (bcells id).toArray rfl rfl rfl HH.out (fun r w0 hp h0 => hk _ _ ?_); clear hp; have H0 := Lib.hid h0.second; clear h0)
        | (refine opw_loadMid 34 _ rfl r 0 rfl (bcells id) _ Tryd.underlying34 rfl HBI.out H0.out.second HTI.out (hk _ _ ?_))); simp only [Act.put, List.setIfInBounds_toArray, List.set_cons_zero, List.set_cons_succ]))
    refine bodyPost_ret (results_tmp Tryd.results18 _ _ _) rfl ?_
    exact ⟨rfl, H1.out.drop2⟩
  | some i =>
    have hpz : placeZ id K = (i : Int) := by rw [placeZ, hpl]
    rw [hpz] at HFI
    have hi := place_lt hpl
    have hkk : K[i].ok := HOK.out _ (List.getElem_mem hi)
    obtain ⟨B, d, hv⟩ := hkk.2
    have hcell : (kcs K)[i * 33 + 32]? = some (.slice B K[i].b.length d) := kcs_cell HOK.out hi (by rw [kc_cell hkk, hv])
    have hget : spoilK id bit K = if K[i].b.length = 0 then (K, false) else (K.set i ⟨K[i].id, K[i].v, Sl.flip K[i].b (bit % ((8 * K[i].b.length : Nat) : Int)).toNat⟩, true) := by unfold spoilK; rw [hpl]; simp only [List.getElem?_eq_getElem hi]
    rw [hget]
    obtain ⟨n, hn⟩ : ∃ n, n = K[i].b.length := ⟨_, rfl⟩
    have hnt : n ≤ 100000000 := by have := tot_le_at K i hi; omega
    rw [← hn] at hcell ⊢
    have HCE := Lib.hid hcell
    clear hpz hpl hget hcell
    by_cases hn0 : n = 0
    · rw [if_pos hn0]
      have HZ : Hid (cmpZ .eql (n : Int) 0 = some true) := Lib.hid (by rw [hn0]; rfl)
      clear hn hv hkk hnt hn0
      go_enter Tryd.func18, Tryd.ntmps18
      go_wp2_with (first
        | (go_at_call 31; refine (HFI.out _ _ H0.out).mono ?_; rintro e w1 ⟨rfl, h1⟩; obtain ⟨Ac, c, h1⟩ := openCache h1; obtain ⟨g, rfl⟩ := h1.second.row_at33 hi; have H1 := Lib.hid h1; clear h1)
        | ((first | (with_reducible refine wpList_plain rfl ?_) | ((with_reducible refine wpList_yes _ _ rfl ?_ ?_); (focus rfl))); intro _ hk; (first
          | (refine opw_box 34 (.agg (bcells id).toArray) (bcells id).toArray rfl rfl rfl HH.out (fun r w0 hp h0 => hk _ _ ?_); clear hp; have H0 := Lib.hid h0.second; clear h0)
          | (refine opw_loadMid 34 _ rfl r 0 rfl (bcells id) _ Tryd.underlying34 rfl HBI.out H0.out.second HTI.out (hk _ _ ?_))
          | (have _k := H1; refine opw_load1 62 _ rfl _ Tryd.underlying62 rfl ⟨p, 0, none⟩ (.slice (some ⟨g, 0, none⟩) K.length c) rfl (H1.out.cell 0) (hk _ _ ?_))
          | (have _k := H1; refine opw_indexN 62 75 33 _ _ rfl Tryd.underlying62 infoK g 0 K.length c i rfl .i64 rfl hi (hk _ _ ?_))
          | (have _k := H1; refine opw_field 75 _ 1 32 rfl (by kernel_rfl) g (0 + i * 33) rfl (hk _ _ ?_))
          | (have _k := H1; refine opw_load1 30 _ rfl _ Tryd.underlying30 rfl ⟨g, 0 + i * 33 + 32, none⟩ (.slice B n d) rfl (by rw [Nat.zero_add]; exact H1.out.second.row_cell HCE.out) (hk _ _ ?_))
          | (refine opw_cmp .eql _ _ _ _ .i64 (n : Int) 0 true rfl rfl rfl HZ.out (hk _ _ ?_))); simp only [Act.put, List.setIfInBounds_toArray, List.set_cons_zero, List.set_cons_succ]))
      refine bodyPost_ret (results_tmp Tryd.results18 _ _ _) rfl ?_
      exact ⟨rfl, (toCache _ (H1.out.cast (show _ = sep (blk p (.cells (ccells (.slice (some ⟨g, 0, none⟩) K.length c) lim (tot K)) 64 (0, 0))) (sep (row 75 33 (.slice (some ⟨g, 0, none⟩) K.length c) K.length (kcs K)) (sep (blobs 5 K) (sep (blk r (.cells (bcells id).toArray 34 (0, 0))) R))) by ac_rfl))).drop2⟩
    · rw [if_neg hn0]
      obtain ⟨N8, hN8⟩ : ∃ N8, N8 = 8 * n := ⟨_, rfl⟩
      obtain ⟨a, ha⟩ : ∃ a, a = (bit % (N8 : Int)).toNat := ⟨_, rfl⟩
      have hNp : 0 < N8 := by omega
      have haN : a < N8 := by
        have h1 := Int.emod_nonneg bit (by omega : (N8 : Int) ≠ 0)
        have h2 := Int.emod_lt_of_pos bit (by omega : (0 : Int) < N8)
        omega
      have ha8 : a / 8 < n := by omega
      have hNb : N8 ≤ 800000000 := by omega
      obtain ⟨r1, hr1⟩ : ∃ r1, r1 = bit.tmod (N8 : Int) := ⟨_, rfl⟩
      have hr1b : -(N8 : Int) < r1 ∧ r1 < N8 := by
        have h1 := Int.emod_nonneg bit (by omega : (N8 : Int) ≠ 0)
        have h2 := Int.emod_lt_of_pos bit (by omega : (0 : Int) < N8)
        rw [hr1, Int.tmod_eq_emod]
        split <;> omega
      have e0 : binZ .mul .i64 8 (n : Int) = some (N8 : Int) := by rw [hN8]; exact bin_mul 8 n (by omega)
      have e1 : binZ .rem .i64 bit (N8 : Int) = some r1 := by rw [hr1]; show (if (N8 : Int) = 0 then none else some _) = _; rw [if_neg (by omega)]
      have e2 : binZ .add .i64 r1 (N8 : Int) = some (r1 + N8) := by show some (IntKind.i64.wrap _) = _; rw [IntWalk.i64_in _ ⟨by omega, by omega⟩]
      have e3 : binZ .rem .i64 (r1 + N8) (N8 : Int) = some (a : Int) := by show (if (N8 : Int) = 0 then none else some _) = _; rw [if_neg (by omega), hr1, mod_go bit N8 hNp, ha]
      have H1e := Lib.hid e0
      have H2e := Lib.hid e1
      have H3e := Lib.hid e2
      have H4e := Lib.hid e3
      have HCZ : Hid (cmpZ .eql (n : Int) 0 = some false) := Lib.hid (by simp only [cmpZ]; congr 1; simpa using hn0)
      obtain ⟨b, hb⟩ : ∃ b, b = K[i].b := ⟨_, rfl⟩
      have HBL : Hid (blobs 5 K = sep (row 5 1 (.slice B n d) n (bcells b)) (blobs 5 (K.eraseIdx i))) := Lib.hid (by rw [blobs_at _ K i hi]; show sep (row _ 1 K[i].v _ _) _ = _; rw [hv, hb, hn])
      have hlb : b.length = n := by rw [hb, hn]
      obtain ⟨OLD, hOLD⟩ : ∃ OLD, OLD = b.getD (a / 8) 0 := ⟨_, rfl⟩
      obtain ⟨NEW, hNEW⟩ : ∃ NEW, NEW = OLD ^^^ ((1 : UInt8) <<< UInt8.ofNat (a % 8)) := ⟨_, rfl⟩
      have HOLD : Hid ((bcells b)[a / 8]? = some (.int .u8 (OLD.toNat : Int))) := Lib.hid (by rw [hOLD]; exact bgetD (by omega))
      have HFL : Hid ((bcells b).set (a / 8) (.int .u8 (NEW.toNat : Int)) = bcells (Sl.flip b a)) := Lib.hid (by rw [bcells_put, hNEW, hOLD]; rfl)
      have HXO : Hid (bits .xor .u8 (OLD.toNat : Int) (((1 : UInt8) <<< UInt8.ofNat (a % 8)).toNat : Int) = (NEW.toNat : Int)) := Lib.hid (by rw [hNEW]; exact xor8 _ _)
      have HSH : Hid (shZ .shl .u8 1 ((a % 8 : Nat) : Int) = some ((((1 : UInt8) <<< UInt8.ofNat (a % 8)).toNat : Nat) : Int)) := Lib.hid (shl8 _ (by omega))
      obtain ⟨SH, hSHd⟩ : ∃ SH : UInt8, SH = (1 : UInt8) <<< UInt8.ofNat (a % 8) := ⟨_, rfl⟩
      rw [← hSHd] at HXO HSH
      have HEND : Hid (∀ w (c : Nat) (g : Nat), Has st (sep (row 5 1 (.slice B n d) n (bcells (Sl.flip b a))) (sep (blk p (.cells (ccells (.slice (some ⟨g, 0, none⟩) K.length c) lim (tot K)) 64 (0, 0))) (sep (row 75 33 (.slice (some ⟨g, 0, none⟩) K.length c) K.length (kcs K)) (sep (blobs 5 (K.eraseIdx i)) R)))) w →
          Has st (sep (cacheP p (K.set i ⟨K[i].id, K[i].v, Sl.flip K[i].b (bit % (N8 : Int)).toNat⟩) lim) R) w) := Lib.hid fun w c g hw => toCache (.slice (some ⟨g, 0, none⟩) K.length c) (by
            rw [kcs_set hi, List.length_set, tot_set K i hi _ (by show (Sl.flip _ _).length = _; rw [flip_length]), blobs_set _ K i hi, ← ha, ← hb]
            have e : blob 5 ⟨K[i].id, K[i].v, Sl.flip b a⟩ = row 5 1 (.slice B n d) n (bcells (Sl.flip b a)) := by
              show row _ 1 K[i].v (Sl.flip b a).length _ = _
              rw [flip_length, hv, ← hn, hlb]
            rw [e]
            exact hw.cast (by ac_rfl))
      rw [← hN8]
      obtain ⟨KL, hKL⟩ : ∃ KL, KL = K.length := ⟨_, rfl⟩
      clear hn hv hkk hN8 ha hr1 e0 e1 e2 e3 hb hOLD hNEW hSHd hKL
      go_enter Tryd.func18, Tryd.ntmps18
      go_wp2_with (first
        | (go_at_call 31; refine (HFI.out _ _ H0.out).mono ?_; rintro e w1 ⟨rfl, h1⟩; obtain ⟨Ac, c, h1⟩ := openCache h1; obtain ⟨g, rfl⟩ := h1.second.row_at33 hi; rw [HBL.out] at h1; obtain ⟨g2, rfl⟩ := (h1.third.assoc.cast (show _ = sep (row 5 1 (.slice B n d) n (bcells b)) _ from rfl)).row_at33 ha8; have H1 := Lib.hid h1; clear h1)
        | ((first | (with_reducible refine wpList_plain rfl ?_) | ((with_reducible refine wpList_yes _ _ rfl ?_ ?_); (focus rfl))); intro _ hk; (first
          | (refine opw_box 34 (.agg (bcells id).toArray) (bcells id).toArray rfl rfl rfl HH.out (fun r w0 hp h0 => hk _ _ ?_); clear hp; have H0 := Lib.hid h0.second; clear h0)
          | (refine opw_loadMid 34 _ rfl r 0 rfl (bcells id) _ Tryd.underlying34 rfl HBI.out H0.out.second HTI.out (hk _ _ ?_))
          | (have _k := H1; refine opw_load1 62 _ rfl _ Tryd.underlying62 rfl ⟨p, 0, none⟩ (.slice (some ⟨g, 0, none⟩) K.length c) rfl (H1.out.cell 0) (hk _ _ ?_))
          | (have _k := H1; refine opw_indexN 62 75 33 _ _ rfl Tryd.underlying62 infoK g 0 K.length c i rfl .i64 rfl hi (hk _ _ ?_))
          | (have _k := H1; refine opw_field 75 _ 1 32 rfl (by kernel_rfl) g (0 + i * 33) rfl (hk _ _ ?_))
          | (have _k := H1; refine opw_load1 30 _ rfl _ Tryd.underlying30 rfl ⟨g, 0 + i * 33 + 32, none⟩ (.slice (some ⟨g2, 0, none⟩) n d) rfl (by rw [Nat.zero_add]; exact H1.out.second.row_cell HCE.out) (hk _ _ ?_))
          | (refine opw_cmp .eql _ _ _ _ .i64 (n : Int) 0 false rfl rfl rfl HCZ.out (hk _ _ ?_))
          | (refine opw_bin .mul _ _ _ _ .i64 8 (n : Int) (N8 : Int) rfl rfl rfl H1e.out (hk _ _ ?_))
          | (refine opw_bin .rem _ _ _ _ .i64 bit (N8 : Int) r1 rfl rfl rfl H2e.out (hk _ _ ?_))
          | (refine opw_bin .add _ _ _ _ .i64 r1 (N8 : Int) (r1 + N8) rfl rfl rfl H3e.out (hk _ _ ?_))
          | (refine opw_bin .rem _ _ _ _ .i64 (r1 + N8) (N8 : Int) (a : Int) rfl rfl rfl H4e.out (hk _ _ ?_))); simp only [Act.put, List.setIfInBounds_toArray, List.set_cons_zero, List.set_cons_succ]))
      refine wp_region_inv3 (fun L u w' => Slots (fun kk => ([some (.pointer (some ⟨p, 0, none⟩)), some (.pointer (some ⟨p, 0, none⟩)), some (.pointer (some ⟨p, 0, none⟩)), some (.slice (some ⟨g, 0, none⟩) K.length c), some (.int .i64 ((i : Nat) : Int)), some (.pointer (some ⟨g, 0 + i * 33, none⟩)), some (.pointer (some ⟨g, 0 + i * 33 + 32, none⟩)), some (.slice (some ⟨g2, 0, none⟩) n d), some (.int .i64 ((a : Nat) : Int)), some (.int .i64 (((a / 8) : Nat) : Int)), some (.pointer (some ⟨g2, a / 8, none⟩)), some (.int .u8 ((OLD).toNat : Int)), some (.int .i64 ((a : Nat) : Int)), some (.int .i64 (((a % 8) : Nat) : Int)), some (.int .u8 ((SH).toNat : Int)), some (.int .u8 ((NEW).toNat : Int)), some (.pointer (some ⟨g2, a / 8, none⟩)), none] : List (Option Value)).getD kk none) L u ∧ Has st (sep (stg (L 17) (row 5 1 (.slice (some ⟨g2, 0, none⟩) n d) n (bcells (Sl.flip b a))) (row 5 1 (.slice (some ⟨g2, 0, none⟩) n d) n (bcells b))) (sep (blk p (.cells (ccells (.slice (some ⟨g, 0, none⟩) K.length c) lim (tot K)) 64 (0, 0))) (sep (row 75 33 (.slice (some ⟨g, 0, none⟩) K.length c) K.length (kcs K)) (sep (blobs 5 (K.eraseIdx i)) (sep (blk r (.cells (bcells id).toArray 34 (0, 0))) R))))) w') (by kernel_rfl) (by decide +kernel) (by decide +kernel) (by kernel_rfl) (by kernel_rfl) (fun u => ⟨Slots.start _ u, (show Has st (sep (stg false (row 5 1 (.slice (some ⟨g2, 0, none⟩) n d) n (bcells (Sl.flip b a))) (row 5 1 (.slice (some ⟨g2, 0, none⟩) n d) n (bcells b))) (sep (blk p (.cells (ccells (.slice (some ⟨g, 0, none⟩) K.length c) lim (tot K)) 64 (0, 0))) (sep (row 75 33 (.slice (some ⟨g, 0, none⟩) K.length c) K.length (kcs K)) (sep (blobs 5 (K.eraseIdx i)) (sep (blk r (.cells (bcells id).toArray 34 (0, 0))) R))))) _ from H1.out.drew.cast (by simp only [stg_no, emp_sep]; ac_rfl))⟩) ?_ ?_
      · refine ⟨?_, ?_, ?_, ?_, ?_, ?_, ?_, ?_, ?_, ?_, ?_, ?_, ?_, ?_, ?_, ?_, ?_, ?_, trivial⟩
        · refine RegStep3.plain rfl ?_; rintro L u w1 bA hL hW hD hU ⟨hS, hH⟩ hin hout; exact opw_move _ _ (.inl rfl) ((hout 0 (by kernel_rfl)).trans (by kernel_rfl)) ⟨_, rfl, hS.step 0 _ (.inr rfl), hH⟩
        · refine RegStep3.plain rfl ?_; rintro L u w1 bA hL hW hD hU ⟨hS, hH⟩ hin hout; exact opw_nilCheck _ _ rfl ((hin 0 44 rfl).trans (hS 0 _ rfl (hW.of 0 (by decide)))) ⟨_, rfl, hS.step 1 _ (.inr rfl), hH⟩
        · refine RegStep3.plain rfl ?_; rintro L u w1 bA hL hW hD hU ⟨hS, hH⟩ hin hout; exact opw_field _ _ _ 0 rfl (by kernel_rfl) (p) (0) ((hin 1 45 rfl).trans (hS 1 _ rfl (hW.of 1 (by decide)))) ⟨_, rfl, hS.step 2 _ (.inr rfl), hH⟩
        · refine RegStep3.plain rfl ?_; rintro L u w1 bA hL hW hD hU ⟨hS, hH⟩ hin hout; exact opw_load1 _ _ rfl _ Tryd.underlying62 rfl _ _ ((hin 2 46 rfl).trans (hS 2 _ rfl (hW.of 2 (by decide)))) (((hH.right)).cell 0) ⟨_, rfl, hS.step 3 _ (.inr rfl), hH⟩
        · refine RegStep3.plain rfl ?_; rintro L u w1 bA hL hW hD hU ⟨hS, hH⟩ hin hout; exact opw_move _ _ (.inl rfl) ((hout 7 (by kernel_rfl)).trans (by kernel_rfl)) ⟨_, rfl, hS.step 4 _ (.inr rfl), hH⟩
        · refine RegStep3.plain rfl ?_; rintro L u w1 bA hL hW hD hU ⟨hS, hH⟩ hin hout; exact opw_indexN _ _ 33 _ _ rfl Tryd.underlying62 infoK g 0 K.length c i ((hin 3 47 rfl).trans (hS 3 _ rfl (hW.of 3 (by decide)))) .i64 ((hin 4 48 rfl).trans (hS 4 _ rfl (hW.of 4 (by decide)))) hi ⟨_, rfl, hS.step 5 _ (.inr rfl), hH⟩
        · refine RegStep3.plain rfl ?_; rintro L u w1 bA hL hW hD hU ⟨hS, hH⟩ hin hout; exact opw_field _ _ _ 32 rfl (by kernel_rfl) g (0 + i * 33) ((hin 5 49 rfl).trans (hS 5 _ rfl (hW.of 5 (by decide)))) ⟨_, rfl, hS.step 6 _ (.inr rfl), hH⟩
        · refine RegStep3.plain rfl ?_; rintro L u w1 bA hL hW hD hU ⟨hS, hH⟩ hin hout; exact opw_load1 _ _ rfl _ Tryd.underlying30 rfl _ _ ((hin 6 50 rfl).trans (hS 6 _ rfl (hW.of 6 (by decide)))) ((by rw [Nat.zero_add]; exact ((hH.right)).second.row_cell HCE.out)) ⟨_, rfl, hS.step 7 _ (.inr rfl), hH⟩
        · refine RegStep3.plain rfl ?_; rintro L u w1 bA hL hW hD hU ⟨hS, hH⟩ hin hout; exact opw_move _ _ (.inl rfl) ((hout 9 (by kernel_rfl)).trans (by kernel_rfl)) ⟨_, rfl, hS.step 8 _ (.inr rfl), hH⟩
        · refine RegStep3.plain rfl ?_; rintro L u w1 bA hL hW hD hU ⟨hS, hH⟩ hin hout; exact opw_bin .quo _ _ _ _ .i64 _ _ _ rfl ((hin 8 52 rfl).trans (hS 8 _ rfl (hW.of 8 (by decide)))) rfl (bin_quo (a) (8) (by decide) (by omega)) ⟨_, rfl, hS.step 9 _ (.inr rfl), hH⟩
        · refine RegStep3.plain rfl ?_; rintro L u w1 bA hL hW hD hU ⟨hS, hH⟩ hin hout; exact opw_index0 _ _ _ _ rfl Tryd.underlying30 infosz g2 n d (a / 8) ((hin 7 51 rfl).trans (hS 7 _ rfl (hW.of 7 (by decide)))) .i64 ((hin 9 53 rfl).trans (hS 9 _ rfl (hW.of 9 (by decide)))) ha8 ⟨_, rfl, hS.step 10 _ (.inr rfl), hH⟩
        · refine RegStep3.plain rfl ?_; rintro L u w1 bA hL hW hD hU ⟨hS, hH⟩ hin hout; exact opw_load1 _ _ rfl _ Tryd.underlying5 rfl _ _ ((hin 10 54 rfl).trans (hS 10 _ rfl (hW.of 10 (by decide)))) (row_cell ((hH.stg_no (hD.nots 18 17 11 hL (by decide +kernel)))) HOLD.out) ⟨_, rfl, hS.step 11 _ (.inr rfl), hH⟩
        · refine RegStep3.plain rfl ?_; rintro L u w1 bA hL hW hD hU ⟨hS, hH⟩ hin hout; exact opw_move _ _ (.inl rfl) ((hout 9 (by kernel_rfl)).trans (by kernel_rfl)) ⟨_, rfl, hS.step 12 _ (.inr rfl), hH⟩
        · refine RegStep3.plain rfl ?_; rintro L u w1 bA hL hW hD hU ⟨hS, hH⟩ hin hout; exact opw_bin .rem _ _ _ _ .i64 _ _ _ rfl ((hin 12 56 rfl).trans (hS 12 _ rfl (hW.of 12 (by decide)))) rfl (bin_rem (a) (8) (by decide)) ⟨_, rfl, hS.step 13 _ (.inr rfl), hH⟩
        · refine RegStep3.plain rfl ?_; rintro L u w1 bA hL hW hD hU ⟨hS, hH⟩ hin hout; exact opw_shift .shl _ _ _ _ .u8 .i64 _ _ _ rfl rfl ((hin 13 57 rfl).trans (hS 13 _ rfl (hW.of 13 (by decide)))) HSH.out ⟨_, rfl, hS.step 14 _ (.inr rfl), hH⟩
        · refine RegStep3.plain rfl ?_; rintro L u w1 bA hL hW hD hU ⟨hS, hH⟩ hin hout; exact opw_bits .xor _ _ _ _ .u8 _ _ _ (.inr (.inr rfl)) rfl ((hin 11 55 rfl).trans (hS 11 _ rfl (hW.of 11 (by decide)))) ((hin 14 58 rfl).trans (hS 14 _ rfl (hW.of 14 (by decide)))) HXO.out ⟨_, rfl, hS.step 15 _ (.inr rfl), hH⟩
        · refine RegStep3.plain rfl ?_; rintro L u w1 bA hL hW hD hU ⟨hS, hH⟩ hin hout; exact opw_index0 _ _ _ _ rfl Tryd.underlying30 infosz g2 n d (a / 8) ((hin 7 51 rfl).trans (hS 7 _ rfl (hW.of 7 (by decide)))) .i64 ((hin 9 53 rfl).trans (hS 9 _ rfl (hW.of 9 (by decide)))) ha8 ⟨_, rfl, hS.step 16 _ (.inr rfl), hH⟩
        · refine RegStep3.plain rfl ?_; rintro L u w1 bA hL hW hD hU ⟨hS, hH⟩ hin hout; exact opw_storeSl _ _ _ rfl infosz g2 (a / 8) (.int .u8 (NEW.toNat : Int)) ((hin 16 60 rfl).trans (hS 16 _ rfl (hW.of 16 (by decide)))) ((hin 15 59 rfl).trans (hS 15 _ rfl (hW.of 15 (by decide)))) rfl (hH.stg_no hL) ha8 (fun w4 h4 => ⟨_, rfl, hS.step 17 _ (.inl rfl), (show Has st (sep (stg true (row 5 1 (.slice (some ⟨g2, 0, none⟩) n d) n (bcells (Sl.flip b a))) (row 5 1 (.slice (some ⟨g2, 0, none⟩) n d) n (bcells b))) (sep (blk p (.cells (ccells (.slice (some ⟨g, 0, none⟩) K.length c) lim (tot K)) 64 (0, 0))) (sep (row 75 33 (.slice (some ⟨g, 0, none⟩) K.length c) K.length (kcs K)) (sep (blobs 5 (K.eraseIdx i)) (sep (blk r (.cells (bcells id).toArray 34 (0, 0))) R))))) w4 from (((h4.cast (by rw [HFL.out])).stg_mk (Q := (row 5 1 (.slice (some ⟨g2, 0, none⟩) n d) n (bcells b))))).cast (by ac_rfl))⟩)
      intro L u w5 hL ⟨hS, hH⟩
      have E0 := hS 0 _ rfl (hL 0 (by decide))
      have E1 := hS 1 _ rfl (hL 1 (by decide))
      have E2 := hS 2 _ rfl (hL 2 (by decide))
      have E3 := hS 3 _ rfl (hL 3 (by decide))
      have E4 := hS 4 _ rfl (hL 4 (by decide))
      have E5 := hS 5 _ rfl (hL 5 (by decide))
      have E6 := hS 6 _ rfl (hL 6 (by decide))
      have E7 := hS 7 _ rfl (hL 7 (by decide))
      have E8 := hS 8 _ rfl (hL 8 (by decide))
      have E9 := hS 9 _ rfl (hL 9 (by decide))
      have E10 := hS 10 _ rfl (hL 10 (by decide))
      have E11 := hS 11 _ rfl (hL 11 (by decide))
      have E12 := hS 12 _ rfl (hL 12 (by decide))
      have E13 := hS 13 _ rfl (hL 13 (by decide))
      have E14 := hS 14 _ rfl (hL 14 (by decide))
      have E15 := hS 15 _ rfl (hL 15 (by decide))
      have E16 := hS 16 _ rfl (hL 16 (by decide))
      simp only [hL 17 (by decide), stg_true, emp_sep] at hH
      simp only [frame_cons, frame_nil, E0, E1, E2, E3, E4, E5, E6, E7, E8, E9, E10, E11, E12, E13, E14, E15, E16, Act.put, List.setIfInBounds_toArray, List.set_cons_zero, List.set_cons_succ]
      clear hL hS E0 E1 E2 E3 E4 E5 E6 E7 E8 E9 E10 E11 E12 E13 E14 E15 E16
      have H5 := Lib.hid hH
      clear hH
      go_wp2
      refine bodyPost_ret (results_tmp Tryd.results18 _ _ _) rfl ?_
      exact ⟨rfl, HEND.out _ c g (H5.out.cast (show _ = sep (blk r (.cells (bcells id).toArray 34 (0, 0))) (sep (row 5 1 (.slice (some ⟨g2, 0, none⟩) n d) n (bcells (Sl.flip b a))) (sep (blk p (.cells (ccells (.slice (some ⟨g, 0, none⟩) K.length c) lim (tot K)) 64 (0, 0))) (sep (row 75 33 (.slice (some ⟨g, 0, none⟩) K.length c) K.length (kcs K)) (sep (blobs 5 (K.eraseIdx i)) R)))) by ac_rfl)).right⟩
end Go.Proofs.YtblknhpafifebaaDoor
