/-
  cache: Put.
-/
import Derived.Test.YtblknhpafifebaaDoorCacheD
import Derived.Test.YtblknhpafifebaaDoorClone
import Derived.Test.YtblknhpafifebaaDoorShaOf
namespace Go.Proofs.YtblknhpafifebaaDoor
open Go.RowKit Go.Sl Go.Sha
set_option linter.unusedVariables false
set_option linter.unusedSimpArgs false
set_option maxRecDepth 100000

theorem layoutK : layout Tryd.prog 75 = some ([(0, 32), (32, 1)], zeroKc.toArray) := by kernel_rfl
theorem builtK (X : List UInt8) (v : Value) (hX : X.length = 32) (hv : v.cells = #[v]) : Tryd.prog.built 75 [(0, .agg (bcells X).toArray), (1, v)] = some (bcells X ++ [v]).toArray := by
  have h32 : (bcells X).length = 32 := by rw [bcells_length, hX]
  have hz : zeroKc.length = 33 := rfl
  have hl : (Value.agg (bcells X).toArray).cells.size = 32 := by show (bcells X).toArray.size = 32; simp [h32]
  have e1 := fill_cons (([(0, 32), (32, 1)] : List (Nat × Nat)).toArray[·]?) zeroKc.toArray 0 0 32 (.agg (bcells X).toArray) [(1, v)] rfl hl (by show 0 + 32 ≤ 33; decide)
  have e2 := fill_cons (([(0, 32), (32, 1)] : List (Nat × Nat)).toArray[·]?) (bcells X ++ zeroKc.drop 32).toArray 1 32 1 v [] rfl (by rw [hv]; rfl) (by simp [h32, hz])
  rw [built_of layoutK, e1]
  have e3 : zeroKc.toArray.toList.take 0 ++ (Value.agg (bcells X).toArray).cells.toList ++ zeroKc.toArray.toList.drop (0 + 32) = bcells X ++ zeroKc.drop 32 := rfl
  rw [e3, e2]
  show some _ = _
  have e4 : (bcells X ++ zeroKc.drop 32).toArray.toList.take 32 = bcells X := by simp [List.take_append_of_le_length, List.take_of_length_le, h32]
  have e5 : (bcells X ++ zeroKc.drop 32).toArray.toList.drop (32 + 1) = [] := List.drop_eq_nil_of_le (by simp [h32, hz])
  rw [e4, e5, hv]
  simp

/-- without a sum's blob -/
def dropK (id : List UInt8) (K : List Kp) : List Kp := match place id K with | some i => K.eraseIdx i | none => K
/-- without the first ones, till there is room -/
def trimK (lim : Int) (n : Nat) : List Kp → List Kp
  | [] => []
  | k :: K => if lim < ((tot (k :: K) + n : Nat) : Int) then trimK lim n K else k :: K
/-- behind Put -/
def putK (lim : Int) (K : List Kp) (k : Kp) : List Kp := if lim < (k.b.length : Int) then dropK k.id K else trimK lim k.b.length (dropK k.id K) ++ [k]
theorem ok_drop {K : List Kp} (h : ∀ k ∈ K, k.ok) (id : List UInt8) : ∀ k ∈ dropK id K, k.ok := by
  unfold dropK; split
  · exact ok_erase h _
  · exact h
theorem len_drop (K : List Kp) (id : List UInt8) : (dropK id K).length ≤ K.length := by
  unfold dropK; split
  · exact List.length_eraseIdx_le _ _
  · exact Nat.le_refl _
theorem tot_drop (K : List Kp) (id : List UInt8) : tot (dropK id K) ≤ tot K := by
  unfold dropK; split
  · rename_i i h; have := tot_erase K i (place_lt h); omega
  · exact Nat.le_refl _
theorem cache_at0 {st : World} {R : HProp} {w : World} {p : Nat} {K : List Kp} {lim : Int} (h : Has st (sep (cacheP p K lim) R) w) : ∃ A c, w.cell? ⟨p, 0, none⟩ = some (.slice A K.length c) := by
  obtain ⟨A, c, h1⟩ := openCache h; exact ⟨A, c, h1.cell 0⟩
theorem cache_at1 {st : World} {R : HProp} {w : World} {p : Nat} {K : List Kp} {lim : Int} (h : Has st (sep (cacheP p K lim) R) w) : w.cell? ⟨p, 1, none⟩ = some (.int .i64 lim) := by
  obtain ⟨A, c, h1⟩ := openCache h; exact h1.cell 1
theorem cache_at2 {st : World} {R : HProp} {w : World} {p : Nat} {K : List Kp} {lim : Int} (h : Has st (sep (cacheP p K lim) R) w) : w.cell? ⟨p, 2, none⟩ = some (.int .i64 (tot K : Int)) := by
  obtain ⟨A, c, h1⟩ := openCache h; exact h1.cell 2
/-- how many there are, read off the world -/
def keptIn (p : Nat) (w : World) : Nat := match w.cell? ⟨p, 0, none⟩ with | some v => lenOf v | none => 0
theorem keptIn_eq {st : World} {R : HProp} {w : World} {p : Nat} {K : List Kp} {lim : Int} (h : Has st (sep (cacheP p K lim) R) w) : keptIn p w = K.length := by
  obtain ⟨A, c, h1⟩ := cache_at0 h; simp [keptIn, h1, lenOf]
/-- the loop that makes room -/
def TrimRel (st : World) (R : HProp) (p : Nat) (lim : Int) (n : Nat) (G : List Kp) (bd : Nat) (tb : Nat) (wr : World) : Prop :=
  ∃ K, trimK lim n K = G ∧ (∀ k ∈ K, k.ok) ∧ K.length ≤ bd ∧ tot K ≤ tb ∧ Has st (sep (cacheP p K lim) R) wr

set_option maxHeartbeats 4000000 in
theorem put_any (st : World) (R : HProp) (p : Nat) (K : List Kp) (lim : Int) (b : List UInt8) (v : Value) (w : World) (h : Has st (sep (cacheP p K lim) R) w) (hk : Keys st R) (hst : Start st R) (hs : Sees st R 1 v b.length (bcells b))
    (hok : ∀ k ∈ K, k.ok) (hlen : K.length ≤ 100000) (htot : tot K ≤ 100000000) (hb : b.length ≤ 100000000) (hlim : 0 ≤ lim) :
    Calls Tryd.prog 13 #[.pointer (some ⟨p, 0, none⟩), v] w fun e w' => e = .returned (.agg (bcells (sha b)).toArray) ∧ ∃ V, Kp.ok ⟨sha b, V, b⟩ ∧ Has st (sep (cacheP p (putK lim K ⟨sha b, V, b⟩) lim) R) w' := by
  obtain ⟨Av, cv, rfl⟩ := hs.form h.right
  have hS32 : (sha b).length = 32 := sha_length b
  obtain ⟨S, hS⟩ : ∃ S, S = sha b := ⟨_, rfl⟩
  obtain ⟨n, hn⟩ : ∃ n, n = b.length := ⟨_, rfl⟩
  have HSH : Hid (∀ F w, (∀ w, Has st F w → Has st R w) → Has st F w → Calls Tryd.prog 29 #[.slice Av n cv] w fun e w' => e = .returned (.agg (bcells S).toArray) ∧ Has st F w') :=
    Lib.hid fun F w hF hw => by rw [hS, hn]; exact shaOf_any st F b _ (fun w h => hk w (hF w h)) (fun w h => hst w (hF w h)) w hw (fun w h => hs w (hF w h)) (by omega)
  have HCL : Hid (∀ F w, (∀ w, Has st F w → Has st R w) → Has st F w → Calls Tryd.prog 30 #[.slice Av n cv] w fun e w' => ∃ A c, e = .returned (.slice A n c) ∧ Has st (sep (row 5 1 (.slice A n c) n (bcells b)) F) w') :=
    Lib.hid fun F w hF hw => by rw [hn]; exact clone_any st F b _ w hw (fun w h => hs w (hF w h)) (by omega)
  have HFI : Hid (∀ F w, Has st (sep (cacheP p K lim) F) w → Calls Tryd.prog 31 #[.pointer (some ⟨p, 0, none⟩), .agg (bcells S).toArray] w fun e w' => e = .returned (.int .i64 (placeZ S K)) ∧ Has st (sep (cacheP p K lim) F) w') :=
    Lib.hid fun F w hw => find_any st F p K lim S w hw (by rw [hS]; exact hS32) hok (by omega)
  have HZI := Lib.hid infoKz
  have hh := h
  rw [← hS] at hS32 ⊢
  rw [← hn] at hb ⊢
  have HS32 := Lib.hid hS32
  have HH := Lib.hid hh
  have HOK := Lib.hid hok
  have HN := Lib.hid hn
  have hbi : (Tryd.prog.info? 34).map (·.size) = some (bcells S).length := by rw [bcells_length, hS32]; exact infoID
  have HBI := Lib.hid hbi
  have hbi2 : (Tryd.prog.info? 34).map (·.size) = some (bcells S).toArray.size := by simp only [List.size_toArray]; exact hbi
  have HBI2 := Lib.hid hbi2
  have hzz : (bcells (List.replicate 32 (0 : UInt8))).toArray.size = (bcells S).toArray.size := by simp [bcells_length, hS32]
  have HZZ := Lib.hid hzz
  obtain ⟨Z, hZ⟩ : ∃ Z, Z = zeroKc.toArray := ⟨_, rfl⟩
  rw [← hZ] at HZI
  have hZ33 : Z.size = 33 := by rw [hZ]; rfl
  have HZ33 := Lib.hid hZ33
  obtain ⟨PZ, hPZ⟩ : ∃ PZ, PZ = placeZ S K := ⟨_, rfl⟩
  rw [← hPZ] at HFI
  have HPZ := Lib.hid hPZ
  have HCP : Hid (∀ (w : World) (L : List Kp) (R' : HProp), Has st (sep (cacheP p L lim) R') w → w.cell? ⟨p, 1, none⟩ = some (.int .i64 lim)) := Lib.hid fun w L R' h => cache_at1 h
  clear h hh hs hk hst hS32 hok hn hS hbi hbi2 hzz hZ hZ33 hPZ
  obtain ⟨K1, hK1⟩ : ∃ K1, K1 = dropK S K := ⟨_, rfl⟩
  have HKD := Lib.hid hK1
  have HOK1 := Lib.hid (hK1 ▸ ok_drop HOK.out S : ∀ k ∈ K1, k.ok)
  have HL1 := Lib.hid (show K1.length ≤ 100000 by rw [hK1]; have := len_drop K S; omega)
  have HT1 := Lib.hid (show tot K1 ≤ 100000000 by rw [hK1]; have := tot_drop K S; omega)
  clear hK1
  cases hpl : place S K with
  | none =>
    have hpz : PZ = -1 := by rw [HPZ.out, placeZ, hpl]
    subst hpz
    have HK1 : Hid (K = K1) := Lib.hid (by rw [HKD.out]; unfold dropK; rw [hpl])
    clear hpl
    by_cases hbig : lim < (n : Int)
    · go_enter Tryd.func13, Tryd.ntmps13
      go_wp2_with (first
        | (go_at_call 29; refine (HSH.out _ _ (fun w h => h.right.right) H0.out).mono ?_; rintro e w1 ⟨rfl, h1⟩; have H1 := Lib.hid h1; clear h1)
        | (go_at_call 30; refine (HCL.out _ _ (fun w h => h.right.right) H1.out).mono ?_; rintro e w2 ⟨A, c, rfl, h2⟩; have hbl := (show row 5 1 (.slice A n c) n (bcells b) = blob 5 ⟨S, .slice A n c, b⟩ from congrArg (fun m => row 5 1 (.slice A n c) m (bcells b)) HN.out); rw [hbl] at h2; have H2 := Lib.hid (h2.cast (show _ = sep (cacheP p K lim) (sep (blob 5 ⟨S, .slice A n c, b⟩) (sep (blk r (.cells (bcells (List.replicate 32 0)).toArray 34 (0, 0))) R)) by ac_rfl)); clear h2 hbl; obtain ⟨Y, hY⟩ : ∃ Y, Y = bcells S ++ [.slice A n c] := ⟨_, rfl⟩; have HYB := Lib.hid (hY ▸ builtK S (.slice A n c) HS32.out rfl); have HYK := Lib.hid (show Y = kc ⟨S, .slice A n c, b⟩ from hY); clear hY; have hko := (show Kp.ok ⟨S, .slice A n c, b⟩ from ⟨HS32.out, A, c, by rw [HN.out]⟩); have HKO := Lib.hid hko; have HYS := Lib.hid (show Y.length = 33 by rw [HYK.out, kc_length HKO.out]); have HY1 := Lib.hid (show ∀ u ∈ Y, u.oneCell' = true by rw [HYK.out]; exact kc_one HKO.out); clear hko)
        | (go_at_call 31; refine (HFI.out _ _ H4.out).mono ?_; rintro e w6 ⟨rfl, h6⟩; rw [HK1.out] at h6; have c1 := cache_at1 h6; have H6 := Lib.hid h6; clear h6)
        | ((first | (with_reducible refine wpList_plain rfl ?_) | ((with_reducible refine wpList_yes _ _ rfl ?_ ?_); (focus rfl))); intro _ hk; (first
          | (have _k := H6; refine opw_loadMid 34 _ rfl q 0 rfl (bcells S) _ Tryd.underlying34 rfl HBI.out H6.out.second (by rw [HYK.out]; simp [kc]) (hk _ _ ?_))
          | (have _k := H6; refine opw_storeRow 34 _ _ rfl r (bcells S).toArray rfl rfl 34 (bcells (List.replicate 32 0)).toArray HBI2.out HZZ.out (bcells_all _) H6.out.fourth (fun w9 h9 => hk _ _ ?_))
          | (refine opw_alloc 34 (.agg (bcells (List.replicate 32 0)).toArray) (bcells (List.replicate 32 0)).toArray rfl zeroID rfl HH.out (fun r w0 hp h0 => hk _ _ ?_); clear hp; have H0 := Lib.hid h0; clear h0)
          | (refine opw_build 75 _ [(0, .agg (bcells S).toArray), (1, .slice A n c)] Y.toArray rfl rfl HYB.out (hk _ _ ?_))
          | (refine opw_alloc 75 (.agg Z) Z rfl HZI.out rfl H2.out (fun q w3 hp h3 => hk _ _ ?_); clear hp; have H3 := Lib.hid h3; clear h3)
          | (refine opw_storeRow 75 _ _ rfl q Y.toArray rfl rfl 75 Z (by simp only [List.size_toArray, HYS.out]; exact infoK) (by simp only [List.size_toArray, HYS.out]; exact HZ33.out) (all_one HY1.out) H3.out (fun w4 h4 => hk _ _ ?_); have H4 := Lib.hid h4.second; clear h4)
          | (refine opw_field 75 _ 0 0 rfl (by kernel_rfl) q 0 rfl (hk _ _ ?_))
          | (have _k := H4; refine opw_loadMid 34 _ rfl q 0 rfl (bcells S) _ Tryd.underlying34 rfl HBI.out H4.out.second (by rw [HYK.out]; simp [kc]) (hk _ _ ?_))); simp only [Act.put, List.setIfInBounds_toArray, List.set_cons_zero, List.set_cons_succ]))
      refine bodyPost_ret (results_cell_row Tryd.results13 _ _ _ 34 _ _ _ rfl h9.blk Tryd.underlying34 rfl HBI2.out) rfl ?_
      exact ⟨rfl, .slice A n c, HKO.out, by
        have hput : putK lim K ⟨S, .slice A n c, b⟩ = K1 := by unfold putK; rw [if_pos (by show lim < ((b.length : Nat) : Int); rw [← HN.out]; exact hbig)]; exact HKD.out.symm
        rw [hput]
        exact (h9.cast (show _ = sep (blk r (.cells (bcells S).toArray 34 (0, 0))) (sep (blk q (.cells Y.toArray 75 (0, 0))) (sep (blob 5 ⟨S, .slice A n c, b⟩) (sep (cacheP p K1 lim) R))) by ac_rfl)).right.right.right⟩
    · go_enter Tryd.func13, Tryd.ntmps13
      go_wp2_with (first
        | (go_at_call 29; refine (HSH.out _ _ (fun w h => h.right.right) H0.out).mono ?_; rintro e w1 ⟨rfl, h1⟩; have H1 := Lib.hid h1; clear h1)
        | (go_at_call 30; refine (HCL.out _ _ (fun w h => h.right.right) H1.out).mono ?_; rintro e w2 ⟨A, c, rfl, h2⟩; have hbl := (show row 5 1 (.slice A n c) n (bcells b) = blob 5 ⟨S, .slice A n c, b⟩ from congrArg (fun m => row 5 1 (.slice A n c) m (bcells b)) HN.out); rw [hbl] at h2; have H2 := Lib.hid (h2.cast (show _ = sep (cacheP p K lim) (sep (blob 5 ⟨S, .slice A n c, b⟩) (sep (blk r (.cells (bcells (List.replicate 32 0)).toArray 34 (0, 0))) R)) by ac_rfl)); clear h2 hbl; obtain ⟨Y, hY⟩ : ∃ Y, Y = bcells S ++ [.slice A n c] := ⟨_, rfl⟩; have HYB := Lib.hid (hY ▸ builtK S (.slice A n c) HS32.out rfl); have HYK := Lib.hid (show Y = kc ⟨S, .slice A n c, b⟩ from hY); clear hY; have hko := (show Kp.ok ⟨S, .slice A n c, b⟩ from ⟨HS32.out, A, c, by rw [HN.out]⟩); have HKO := Lib.hid hko; have HYS := Lib.hid (show Y.length = 33 by rw [HYK.out, kc_length HKO.out]); have HY1 := Lib.hid (show ∀ u ∈ Y, u.oneCell' = true by rw [HYK.out]; exact kc_one HKO.out); clear hko)
        | (go_at_call 31; refine (HFI.out _ _ H4.out).mono ?_; rintro e w6 ⟨rfl, h6⟩; rw [HK1.out] at h6; have c1 := cache_at1 h6; have H6 := Lib.hid h6; clear h6)
        | ((first | (with_reducible refine wpList_plain rfl ?_) | ((with_reducible refine wpList_yes _ _ rfl ?_ ?_); (focus rfl))); intro _ hk; (first
          | (have _k := H6; refine opw_loadMid 34 _ rfl q 0 rfl (bcells S) _ Tryd.underlying34 rfl HBI.out H6.out.second (by rw [HYK.out]; simp [kc]) (hk _ _ ?_))
          | (have _k := H6; refine opw_storeRow 34 _ _ rfl r (bcells S).toArray rfl rfl 34 (bcells (List.replicate 32 0)).toArray HBI2.out HZZ.out (bcells_all _) H6.out.fourth (fun w9 h9 => hk _ _ ?_))
          | (refine opw_alloc 34 (.agg (bcells (List.replicate 32 0)).toArray) (bcells (List.replicate 32 0)).toArray rfl zeroID rfl HH.out (fun r w0 hp h0 => hk _ _ ?_); clear hp; have H0 := Lib.hid h0; clear h0)
          | (refine opw_build 75 _ [(0, .agg (bcells S).toArray), (1, .slice A n c)] Y.toArray rfl rfl HYB.out (hk _ _ ?_))
          | (refine opw_alloc 75 (.agg Z) Z rfl HZI.out rfl H2.out (fun q w3 hp h3 => hk _ _ ?_); clear hp; have H3 := Lib.hid h3; clear h3)
          | (refine opw_storeRow 75 _ _ rfl q Y.toArray rfl rfl 75 Z (by simp only [List.size_toArray, HYS.out]; exact infoK) (by simp only [List.size_toArray, HYS.out]; exact HZ33.out) (all_one HY1.out) H3.out (fun w4 h4 => hk _ _ ?_); have H4 := Lib.hid h4.second; clear h4)
          | (refine opw_field 75 _ 0 0 rfl (by kernel_rfl) q 0 rfl (hk _ _ ?_))
          | (have _k := H4; refine opw_loadMid 34 _ rfl q 0 rfl (bcells S) _ Tryd.underlying34 rfl HBI.out H4.out.second (by rw [HYK.out]; simp [kc]) (hk _ _ ?_))); simp only [Act.put, List.setIfInBounds_toArray, List.set_cons_zero, List.set_cons_succ]))
      have hfit : (n : Int) ≤ lim := by omega
      clear c1 H0 H1 H2 H3 H4
      obtain ⟨G, hG⟩ : ∃ G, G = trimK lim n K1 := ⟨_, rfl⟩
      have HG := Lib.hid hG
      clear hG
      go_loopw [42] (fun _ wr => TrimRel st (sep (blk q (.cells Y.toArray 75 (0, 0))) (sep (blob 5 ⟨S, .slice A n c, b⟩) (sep (blk r (.cells (bcells (List.replicate 32 0)).toArray 34 (0, 0))) R))) p lim n G 100000 100000000 wr) (fun _ wr => keptIn p wr)
      case atStart => exact ⟨K1, HG.out.symm, HOK1.out, HL1.out, HT1.out, H6.out⟩
      case round =>
        obtain ⟨K2, hG2, hok2, hl2, ht2, h⟩ := hrel
        have HG2 := Lib.hid hG2
        have HOK2 := Lib.hid hok2
        have HM := Lib.hid (keptIn_eq h)
        have HH2 := Lib.hid h
        have c1 := cache_at1 h
        have c2 := cache_at2 h
        clear hG2 hok2 h
        obtain ⟨T, hT⟩ : ∃ T, T = tot K2 := ⟨_, rfl⟩
        rw [← hT] at c2 ht2
        have HT := Lib.hid hT
        clear hT
        by_cases hgt : lim < (T : Int) + (n : Int)
        · cases K2 with
          | nil =>
            exfalso
            have : T = 0 := HT.out
            omega
          | cons k0 K3 =>
            have HTA : Hid (∀ w, Has st (sep (cacheP p (k0 :: K3) lim) (sep (blk q (.cells Y.toArray 75 (0, 0))) (sep (blob 5 ⟨S, .slice A n c, b⟩) (sep (blk r (.cells (bcells (List.replicate 32 0)).toArray 34 (0, 0))) R)))) w → Calls Tryd.prog 32 #[.pointer (some ⟨p, 0, none⟩), .int .i64 0] w fun e w' => e = .returned (.agg (kc k0).toArray) ∧ Has st (sep (cacheP p K3 lim) (sep (blk q (.cells Y.toArray 75 (0, 0))) (sep (blob 5 ⟨S, .slice A n c, b⟩) (sep (blk r (.cells (bcells (List.replicate 32 0)).toArray 34 (0, 0))) R)))) w') :=
              Lib.hid fun w hw => (take_any st (sep (blk q (.cells Y.toArray 75 (0, 0))) (sep (blob 5 ⟨S, .slice A n c, b⟩) (sep (blk r (.cells (bcells (List.replicate 32 0)).toArray 34 (0, 0))) R))) p (k0 :: K3) lim 0 (by simp) w hw HOK2.out (by omega) (by rw [← HT.out]; omega)).mono fun e w' h' => ⟨h'.1, (h'.2.second).right⟩
            go_wp2_with (fail)
            go_region
            have HD := Lib.hid (HH2.out.drew)
            generalize wr.drew = wd at HD ⊢
            go_wp2_with (go_at_call 32; refine (HTA.out _ HD.out).mono ?_; rintro e w7 ⟨rfl, h7⟩; have H7 := Lib.hid h7; clear h7)
            have hmm : tot K3 ≤ T := by rw [HT.out]; simp [tot]
            go_roundw
            case rel => exact ⟨K3, by rw [← HG2.out]; show _ = trimK lim n (k0 :: K3); rw [trimK, if_pos (by rw [← HT.out]; omega)], fun k hk => HOK2.out k (by simp [hk]), by simp at hl2; omega, by omega, H7.out⟩
            case measure =>
              rw [keptIn_eq H7.out, HM.out]; simp
        · have hstop : trimK lim n K2 = K2 := by
            cases K2 with
            | nil => rfl
            | cons k0 K3 => rw [trimK, if_neg (by rw [← HT.out]; omega)]
          have HST := Lib.hid hstop
          clear hstop
          have HKE : Hid (∀ w, Has st (sep (cacheP p K2 lim) (sep (blk q (.cells Y.toArray 75 (0, 0))) (sep (blob 5 ⟨S, .slice A n c, b⟩) (sep (blk r (.cells (bcells (List.replicate 32 0)).toArray 34 (0, 0))) R)))) w → Calls Tryd.prog 33 #[.pointer (some ⟨p, 0, none⟩), .agg Y.toArray] w fun e w' => e = .returned (.tuple #[]) ∧ Has st (sep (cacheP p (K2 ++ [⟨S, .slice A n c, b⟩]) lim) (sep (blk q (.cells Y.toArray 75 (0, 0))) (sep (blk r (.cells (bcells (List.replicate 32 0)).toArray 34 (0, 0))) R))) w') :=
            Lib.hid fun w hw => by rw [HYK.out] at hw ⊢; exact keep_any st _ p K2 lim ⟨S, .slice A n c, b⟩ w (hw.cast (by ac_rfl)) HOK2.out HKO.out (by omega) (by rw [← HT.out]; omega) (by show b.length ≤ _; rw [← HN.out]; omega)
          go_wp2_with (fail)
          go_region
          have HD := Lib.hid (HH2.out.drew)
          generalize wr.drew = wd at HD ⊢
          go_wp2_with (first
            | (go_at_call 33; refine (HKE.out _ HD.out).mono ?_; rintro e w8 ⟨rfl, h8⟩; have H8 := Lib.hid h8; clear h8)
            | ((first | (with_reducible refine wpList_plain rfl ?_) | ((with_reducible refine wpList_yes _ _ rfl ?_ ?_); (focus rfl))); intro _ hk; (first
              | (have _k := H8; refine opw_loadMid 34 _ rfl q 0 rfl (bcells S) _ Tryd.underlying34 rfl HBI.out H8.out.second (by rw [HYK.out]; simp [kc]) (hk _ _ ?_))
              | (have _k := H8; refine opw_storeRow 34 _ _ rfl r (bcells S).toArray rfl rfl 34 (bcells (List.replicate 32 0)).toArray HBI2.out HZZ.out (bcells_all _) H8.out.third (fun w9 h9 => hk _ _ ?_))
              | (refine opw_field 75 _ 0 0 rfl (by kernel_rfl) q 0 rfl (hk _ _ ?_))
              | (refine opw_loadMid 75 _ rfl q 0 rfl Y _ Tryd.underlying75 rfl (by rw [HYS.out]; exact infoK) HD.out.second (by simp) (hk _ _ ?_))); simp only [Act.put, List.setIfInBounds_toArray, List.set_cons_zero, List.set_cons_succ]))
          refine bodyPost_ret (results_cell_row Tryd.results13 _ _ _ 34 _ _ _ rfl h9.blk Tryd.underlying34 rfl HBI2.out) rfl ?_
          exact ⟨rfl, .slice A n c, HKO.out, by
            have hput : putK lim K ⟨S, .slice A n c, b⟩ = K2 ++ [⟨S, .slice A n c, b⟩] := by
              unfold putK; rw [if_neg (by show ¬ lim < ((b.length : Nat) : Int); rw [← HN.out]; omega)]
              show trimK lim b.length (dropK S K) ++ _ = _
              rw [← HN.out, ← HKD.out, ← HG.out, ← HG2.out, HST.out]
            rw [hput]
            exact (h9.cast (show _ = sep (blk r (.cells (bcells S).toArray 34 (0, 0))) (sep (blk q (.cells Y.toArray 75 (0, 0))) (sep (cacheP p (K2 ++ [⟨S, .slice A n c, b⟩]) lim) R)) by ac_rfl)).right.right⟩
  | some i =>
    have hpz : PZ = (i : Int) := by rw [HPZ.out, placeZ, hpl]
    subst hpz
    have hi := place_lt hpl
    have HTK : Hid (∀ F w, Has st (sep (cacheP p K lim) F) w → Calls Tryd.prog 32 #[.pointer (some ⟨p, 0, none⟩), .int .i64 (i : Int)] w fun e w' => e = .returned (.agg (kc K[i]).toArray) ∧ Has st (sep (cacheP p K1 lim) F) w') :=
      Lib.hid fun F w hw => by
        have e1 : K1 = K.eraseIdx i := by rw [HKD.out]; unfold dropK; rw [hpl]
        rw [e1]
        exact (take_any st F p K lim i hi w hw HOK.out (by omega) (by omega)).mono fun e w' h' => ⟨h'.1, (h'.2.second).right⟩
    clear hpl
    by_cases hbig : lim < (n : Int)
    · go_enter Tryd.func13, Tryd.ntmps13
      go_wp2_with (first
        | (go_at_call 29; refine (HSH.out _ _ (fun w h => h.right.right) H0.out).mono ?_; rintro e w1 ⟨rfl, h1⟩; have H1 := Lib.hid h1; clear h1)
        | (go_at_call 30; refine (HCL.out _ _ (fun w h => h.right.right) H1.out).mono ?_; rintro e w2 ⟨A, c, rfl, h2⟩; have hbl := (show row 5 1 (.slice A n c) n (bcells b) = blob 5 ⟨S, .slice A n c, b⟩ from congrArg (fun m => row 5 1 (.slice A n c) m (bcells b)) HN.out); rw [hbl] at h2; have H2 := Lib.hid (h2.cast (show _ = sep (cacheP p K lim) (sep (blob 5 ⟨S, .slice A n c, b⟩) (sep (blk r (.cells (bcells (List.replicate 32 0)).toArray 34 (0, 0))) R)) by ac_rfl)); clear h2 hbl; obtain ⟨Y, hY⟩ : ∃ Y, Y = bcells S ++ [.slice A n c] := ⟨_, rfl⟩; have HYB := Lib.hid (hY ▸ builtK S (.slice A n c) HS32.out rfl); have HYK := Lib.hid (show Y = kc ⟨S, .slice A n c, b⟩ from hY); clear hY; have hko := (show Kp.ok ⟨S, .slice A n c, b⟩ from ⟨HS32.out, A, c, by rw [HN.out]⟩); have HKO := Lib.hid hko; have HYS := Lib.hid (show Y.length = 33 by rw [HYK.out, kc_length HKO.out]); have HY1 := Lib.hid (show ∀ u ∈ Y, u.oneCell' = true by rw [HYK.out]; exact kc_one HKO.out); clear hko)
        | (go_at_call 31; refine (HFI.out _ _ H4.out).mono ?_; rintro e w5 ⟨rfl, h5⟩; have H5 := Lib.hid h5; clear h5)
        | (go_at_call 32; refine (HTK.out _ _ H5.out).mono ?_; rintro e w6 ⟨rfl, h6⟩; have c1 := cache_at1 h6; have H6 := Lib.hid h6; clear h6)
        | ((first | (with_reducible refine wpList_plain rfl ?_) | ((with_reducible refine wpList_yes _ _ rfl ?_ ?_); (focus rfl))); intro _ hk; (first
          | (have _k := H6; refine opw_loadMid 34 _ rfl q 0 rfl (bcells S) _ Tryd.underlying34 rfl HBI.out H6.out.second (by rw [HYK.out]; simp [kc]) (hk _ _ ?_))
          | (have _k := H6; refine opw_storeRow 34 _ _ rfl r (bcells S).toArray rfl rfl 34 (bcells (List.replicate 32 0)).toArray HBI2.out HZZ.out (bcells_all _) H6.out.fourth (fun w9 h9 => hk _ _ ?_))
          | (refine opw_alloc 34 (.agg (bcells (List.replicate 32 0)).toArray) (bcells (List.replicate 32 0)).toArray rfl zeroID rfl HH.out (fun r w0 hp h0 => hk _ _ ?_); clear hp; have H0 := Lib.hid h0; clear h0)
          | (refine opw_build 75 _ [(0, .agg (bcells S).toArray), (1, .slice A n c)] Y.toArray rfl rfl HYB.out (hk _ _ ?_))
          | (refine opw_alloc 75 (.agg Z) Z rfl HZI.out rfl H2.out (fun q w3 hp h3 => hk _ _ ?_); clear hp; have H3 := Lib.hid h3; clear h3)
          | (refine opw_storeRow 75 _ _ rfl q Y.toArray rfl rfl 75 Z (by simp only [List.size_toArray, HYS.out]; exact infoK) (by simp only [List.size_toArray, HYS.out]; exact HZ33.out) (all_one HY1.out) H3.out (fun w4 h4 => hk _ _ ?_); have H4 := Lib.hid h4.second; clear h4)
          | (refine opw_field 75 _ 0 0 rfl (by kernel_rfl) q 0 rfl (hk _ _ ?_))
          | (have _k := H4; refine opw_loadMid 34 _ rfl q 0 rfl (bcells S) _ Tryd.underlying34 rfl HBI.out H4.out.second (by rw [HYK.out]; simp [kc]) (hk _ _ ?_))); simp only [Act.put, List.setIfInBounds_toArray, List.set_cons_zero, List.set_cons_succ]))
      refine bodyPost_ret (results_cell_row Tryd.results13 _ _ _ 34 _ _ _ rfl h9.blk Tryd.underlying34 rfl HBI2.out) rfl ?_
      exact ⟨rfl, .slice A n c, HKO.out, by
        have hput : putK lim K ⟨S, .slice A n c, b⟩ = K1 := by unfold putK; rw [if_pos (by show lim < ((b.length : Nat) : Int); rw [← HN.out]; exact hbig)]; exact HKD.out.symm
        rw [hput]
        exact (h9.cast (show _ = sep (blk r (.cells (bcells S).toArray 34 (0, 0))) (sep (blk q (.cells Y.toArray 75 (0, 0))) (sep (blob 5 ⟨S, .slice A n c, b⟩) (sep (cacheP p K1 lim) R))) by ac_rfl)).right.right.right⟩
    · go_enter Tryd.func13, Tryd.ntmps13
      go_wp2_with (first
        | (go_at_call 29; refine (HSH.out _ _ (fun w h => h.right.right) H0.out).mono ?_; rintro e w1 ⟨rfl, h1⟩; have H1 := Lib.hid h1; clear h1)
        | (go_at_call 30; refine (HCL.out _ _ (fun w h => h.right.right) H1.out).mono ?_; rintro e w2 ⟨A, c, rfl, h2⟩; have hbl := (show row 5 1 (.slice A n c) n (bcells b) = blob 5 ⟨S, .slice A n c, b⟩ from congrArg (fun m => row 5 1 (.slice A n c) m (bcells b)) HN.out); rw [hbl] at h2; have H2 := Lib.hid (h2.cast (show _ = sep (cacheP p K lim) (sep (blob 5 ⟨S, .slice A n c, b⟩) (sep (blk r (.cells (bcells (List.replicate 32 0)).toArray 34 (0, 0))) R)) by ac_rfl)); clear h2 hbl; obtain ⟨Y, hY⟩ : ∃ Y, Y = bcells S ++ [.slice A n c] := ⟨_, rfl⟩; have HYB := Lib.hid (hY ▸ builtK S (.slice A n c) HS32.out rfl); have HYK := Lib.hid (show Y = kc ⟨S, .slice A n c, b⟩ from hY); clear hY; have hko := (show Kp.ok ⟨S, .slice A n c, b⟩ from ⟨HS32.out, A, c, by rw [HN.out]⟩); have HKO := Lib.hid hko; have HYS := Lib.hid (show Y.length = 33 by rw [HYK.out, kc_length HKO.out]); have HY1 := Lib.hid (show ∀ u ∈ Y, u.oneCell' = true by rw [HYK.out]; exact kc_one HKO.out); clear hko)
        | (go_at_call 31; refine (HFI.out _ _ H4.out).mono ?_; rintro e w5 ⟨rfl, h5⟩; have H5 := Lib.hid h5; clear h5)
        | (go_at_call 32; refine (HTK.out _ _ H5.out).mono ?_; rintro e w6 ⟨rfl, h6⟩; have c1 := cache_at1 h6; have H6 := Lib.hid h6; clear h6)
        | ((first | (with_reducible refine wpList_plain rfl ?_) | ((with_reducible refine wpList_yes _ _ rfl ?_ ?_); (focus rfl))); intro _ hk; (first
          | (have _k := H6; refine opw_loadMid 34 _ rfl q 0 rfl (bcells S) _ Tryd.underlying34 rfl HBI.out H6.out.second (by rw [HYK.out]; simp [kc]) (hk _ _ ?_))
          | (have _k := H6; refine opw_storeRow 34 _ _ rfl r (bcells S).toArray rfl rfl 34 (bcells (List.replicate 32 0)).toArray HBI2.out HZZ.out (bcells_all _) H6.out.fourth (fun w9 h9 => hk _ _ ?_))
          | (refine opw_alloc 34 (.agg (bcells (List.replicate 32 0)).toArray) (bcells (List.replicate 32 0)).toArray rfl zeroID rfl HH.out (fun r w0 hp h0 => hk _ _ ?_); clear hp; have H0 := Lib.hid h0; clear h0)
          | (refine opw_build 75 _ [(0, .agg (bcells S).toArray), (1, .slice A n c)] Y.toArray rfl rfl HYB.out (hk _ _ ?_))
          | (refine opw_alloc 75 (.agg Z) Z rfl HZI.out rfl H2.out (fun q w3 hp h3 => hk _ _ ?_); clear hp; have H3 := Lib.hid h3; clear h3)
          | (refine opw_storeRow 75 _ _ rfl q Y.toArray rfl rfl 75 Z (by simp only [List.size_toArray, HYS.out]; exact infoK) (by simp only [List.size_toArray, HYS.out]; exact HZ33.out) (all_one HY1.out) H3.out (fun w4 h4 => hk _ _ ?_); have H4 := Lib.hid h4.second; clear h4)
          | (refine opw_field 75 _ 0 0 rfl (by kernel_rfl) q 0 rfl (hk _ _ ?_))
          | (have _k := H4; refine opw_loadMid 34 _ rfl q 0 rfl (bcells S) _ Tryd.underlying34 rfl HBI.out H4.out.second (by rw [HYK.out]; simp [kc]) (hk _ _ ?_))); simp only [Act.put, List.setIfInBounds_toArray, List.set_cons_zero, List.set_cons_succ]))
      have hfit : (n : Int) ≤ lim := by omega
      clear c1 H0 H1 H2 H3 H4 H5
      obtain ⟨G, hG⟩ : ∃ G, G = trimK lim n K1 := ⟨_, rfl⟩
      have HG := Lib.hid hG
      clear hG
      go_loopw [42] (fun _ wr => TrimRel st (sep (blk q (.cells Y.toArray 75 (0, 0))) (sep (blob 5 ⟨S, .slice A n c, b⟩) (sep (blk r (.cells (bcells (List.replicate 32 0)).toArray 34 (0, 0))) R))) p lim n G 100000 100000000 wr) (fun _ wr => keptIn p wr)
      case atStart => exact ⟨K1, HG.out.symm, HOK1.out, HL1.out, HT1.out, H6.out⟩
      case round =>
        obtain ⟨K2, hG2, hok2, hl2, ht2, h⟩ := hrel
        have HG2 := Lib.hid hG2
        have HOK2 := Lib.hid hok2
        have HM := Lib.hid (keptIn_eq h)
        have HH2 := Lib.hid h
        have c1 := cache_at1 h
        have c2 := cache_at2 h
        clear hG2 hok2 h
        obtain ⟨T, hT⟩ : ∃ T, T = tot K2 := ⟨_, rfl⟩
        rw [← hT] at c2 ht2
        have HT := Lib.hid hT
        clear hT
        by_cases hgt : lim < (T : Int) + (n : Int)
        · cases K2 with
          | nil =>
            exfalso
            have : T = 0 := HT.out
            omega
          | cons k0 K3 =>
            have HTA : Hid (∀ w, Has st (sep (cacheP p (k0 :: K3) lim) (sep (blk q (.cells Y.toArray 75 (0, 0))) (sep (blob 5 ⟨S, .slice A n c, b⟩) (sep (blk r (.cells (bcells (List.replicate 32 0)).toArray 34 (0, 0))) R)))) w → Calls Tryd.prog 32 #[.pointer (some ⟨p, 0, none⟩), .int .i64 0] w fun e w' => e = .returned (.agg (kc k0).toArray) ∧ Has st (sep (cacheP p K3 lim) (sep (blk q (.cells Y.toArray 75 (0, 0))) (sep (blob 5 ⟨S, .slice A n c, b⟩) (sep (blk r (.cells (bcells (List.replicate 32 0)).toArray 34 (0, 0))) R)))) w') :=
              Lib.hid fun w hw => (take_any st (sep (blk q (.cells Y.toArray 75 (0, 0))) (sep (blob 5 ⟨S, .slice A n c, b⟩) (sep (blk r (.cells (bcells (List.replicate 32 0)).toArray 34 (0, 0))) R))) p (k0 :: K3) lim 0 (by simp) w hw HOK2.out (by omega) (by rw [← HT.out]; omega)).mono fun e w' h' => ⟨h'.1, (h'.2.second).right⟩
            go_wp2_with (fail)
            go_region
            have HD := Lib.hid (HH2.out.drew)
            generalize wr.drew = wd at HD ⊢
            go_wp2_with (go_at_call 32; refine (HTA.out _ HD.out).mono ?_; rintro e w7 ⟨rfl, h7⟩; have H7 := Lib.hid h7; clear h7)
            have hmm : tot K3 ≤ T := by rw [HT.out]; simp [tot]
            go_roundw
            case rel => exact ⟨K3, by rw [← HG2.out]; show _ = trimK lim n (k0 :: K3); rw [trimK, if_pos (by rw [← HT.out]; omega)], fun k hk => HOK2.out k (by simp [hk]), by simp at hl2; omega, by omega, H7.out⟩
            case measure =>
              rw [keptIn_eq H7.out, HM.out]; simp
        · have hstop : trimK lim n K2 = K2 := by
            cases K2 with
            | nil => rfl
            | cons k0 K3 => rw [trimK, if_neg (by rw [← HT.out]; omega)]
          have HST := Lib.hid hstop
          clear hstop
          have HKE : Hid (∀ w, Has st (sep (cacheP p K2 lim) (sep (blk q (.cells Y.toArray 75 (0, 0))) (sep (blob 5 ⟨S, .slice A n c, b⟩) (sep (blk r (.cells (bcells (List.replicate 32 0)).toArray 34 (0, 0))) R)))) w → Calls Tryd.prog 33 #[.pointer (some ⟨p, 0, none⟩), .agg Y.toArray] w fun e w' => e = .returned (.tuple #[]) ∧ Has st (sep (cacheP p (K2 ++ [⟨S, .slice A n c, b⟩]) lim) (sep (blk q (.cells Y.toArray 75 (0, 0))) (sep (blk r (.cells (bcells (List.replicate 32 0)).toArray 34 (0, 0))) R))) w') :=
            Lib.hid fun w hw => by rw [HYK.out] at hw ⊢; exact keep_any st _ p K2 lim ⟨S, .slice A n c, b⟩ w (hw.cast (by ac_rfl)) HOK2.out HKO.out (by omega) (by rw [← HT.out]; omega) (by show b.length ≤ _; rw [← HN.out]; omega)
          go_wp2_with (fail)
          go_region
          have HD := Lib.hid (HH2.out.drew)
          generalize wr.drew = wd at HD ⊢
          go_wp2_with (first
            | (go_at_call 33; refine (HKE.out _ HD.out).mono ?_; rintro e w8 ⟨rfl, h8⟩; have H8 := Lib.hid h8; clear h8)
            | ((first | (with_reducible refine wpList_plain rfl ?_) | ((with_reducible refine wpList_yes _ _ rfl ?_ ?_); (focus rfl))); intro _ hk; (first
              | (have _k := H8; refine opw_loadMid 34 _ rfl q 0 rfl (bcells S) _ Tryd.underlying34 rfl HBI.out H8.out.second (by rw [HYK.out]; simp [kc]) (hk _ _ ?_))
              | (have _k := H8; refine opw_storeRow 34 _ _ rfl r (bcells S).toArray rfl rfl 34 (bcells (List.replicate 32 0)).toArray HBI2.out HZZ.out (bcells_all _) H8.out.third (fun w9 h9 => hk _ _ ?_))
              | (refine opw_field 75 _ 0 0 rfl (by kernel_rfl) q 0 rfl (hk _ _ ?_))
              | (refine opw_loadMid 75 _ rfl q 0 rfl Y _ Tryd.underlying75 rfl (by rw [HYS.out]; exact infoK) HD.out.second (by simp) (hk _ _ ?_))); simp only [Act.put, List.setIfInBounds_toArray, List.set_cons_zero, List.set_cons_succ]))
          refine bodyPost_ret (results_cell_row Tryd.results13 _ _ _ 34 _ _ _ rfl h9.blk Tryd.underlying34 rfl HBI2.out) rfl ?_
          exact ⟨rfl, .slice A n c, HKO.out, by
            have hput : putK lim K ⟨S, .slice A n c, b⟩ = K2 ++ [⟨S, .slice A n c, b⟩] := by
              unfold putK; rw [if_neg (by show ¬ lim < ((b.length : Nat) : Int); rw [← HN.out]; omega)]
              show trimK lim b.length (dropK S K) ++ _ = _
              rw [← HN.out, ← HKD.out, ← HG.out, ← HG2.out, HST.out]
            rw [hput]
            exact (h9.cast (show _ = sep (blk r (.cells (bcells S).toArray 34 (0, 0))) (sep (blk q (.cells Y.toArray 75 (0, 0))) (sep (cacheP p (K2 ++ [⟨S, .slice A n c, b⟩]) lim) R)) by ac_rfl)).right.right⟩
end Go.Proofs.YtblknhpafifebaaDoor
