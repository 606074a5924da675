/-
  Several texts of this proof in one: Plays.
-/
import Derived.Test.YtblknhpafifebaaDoorM11
import Derived.Deep.CutBlock
/-
  coldstorelaw14.CachePlays: the walk.
-/
namespace Go.Proofs.YtblknhpafifebaaDoor
open Go Go.RowKit Go.Sl Go.Sha
set_option linter.unusedVariables false
set_option linter.unusedSimpArgs false
set_option maxRecDepth 100000

def PlayRel (st : World) (R : HProp) (p q : Nat) (lm : Int) (N : Nat) (v : Value) (wr : World) : Prop :=
  ∃ (i : Nat) (K : List Kp) (B : Option Addr) (d : Nat) (G : HProp), i ≤ N ∧ v = .int .i64 (i : Int) ∧ K.length ≤ i ∧ tot K ≤ 100 * i ∧ Hid (RS st (sep G R) (.slice B K.length d) K) ∧ Hid (Has st (sep (cacheA p (absK K) lm) (sep (blk q (.cells (rcells (.slice B K.length d) lm) 29 (0, 0))) (sep G R))) wr)
def PlayCut (st : World) (R : HProp) (p q : Nat) (lm : Int) (i : Nat) (v : Value) (wr : World) : Prop :=
  ∃ (K : List Kp) (B : Option Addr) (d : Nat) (G : HProp), v = .bool true ∧ K.length ≤ i + 1 ∧ tot K ≤ 100 * (i + 1) ∧ Hid (RS st (sep G R) (.slice B K.length d) K) ∧ Hid (Has st (sep (cacheA p (absK K) lm) (sep (blk q (.cells (rcells (.slice B K.length d) lm) 29 (0, 0))) (sep G R))) wr)

def IdsRel (st : World) (RF : HProp) (T : List (List UInt8)) (v23 v121 : Value) (wr : World) : Prop :=
  ∃ (j : Nat) (A : Option Addr) (c : Nat), j ≤ T.length ∧ v23 = .slice A j c ∧ v121 = .int .i64 (j : Int) ∧ Hid (Has st (sep (row 34 32 (.slice A j c) j (idsC (T.take j))) RF) wr)

set_option maxHeartbeats 8000000 in
theorem plays_any (st : World) (R : HProp) (hk : Keys st R) (hst : Start st R) (limit : Int) (hlim : -9223372036854775808 ≤ limit ∧ limit ≤ 9223372036854775807) (ops : List OpV) (Al : Option Addr) (cl : Nat) (hso : SeesOps st R (.slice Al ops.length cl) ops) (most : Int) (w : World) (h : Has st R w) :
    Calls Tryd.prog 3 #[.int .i64 limit, .slice Al ops.length cl, .int .i64 most] w fun e w' => e = .returned (.bool true) ∧ Has st R w' := by
  have HAV : Hid (∀ w, Has st R w → Calls Tryd.prog 8 #[] w fun e w' => e = .returned (.bool true) ∧ Has st R w') := Lib.hid fun w h => alive_any st R hk hst w h
  have HFW : Hid (∀ w, Has st R w → Calls Tryd.prog 9 #[.slice Al ops.length cl] w fun e w' => e = .returned (.bool (fewB ops)) ∧ Has st R w') := Lib.hid fun w h => few_any st R Al cl ops hso w h
  have HH := Lib.hid h
  have HSO := Lib.hid hso
  obtain ⟨N, hN⟩ : ∃ N, N = ops.length := ⟨_, rfl⟩
  rw [← hN] at HFW ⊢
  have HN := Lib.hid hN
  clear hN h hso
  cases hf : fewB ops with
  | false =>
    rw [hf] at HFW
    clear hf HN HSO hk hst hlim
    go_enter Tryd.func3, Tryd.ntmps3
    go_wp2_with (first
      | (have _k := H0; go_at_call 9; refine (HFW.out _ H0.out).mono ?_; rintro e w9 ⟨rfl, h9⟩; have H1 := Lib.hid h9; clear h9)
      | (go_at_call 8; refine (HAV.out _ HH.out).mono ?_; rintro e w9 ⟨rfl, h9⟩; have H0 := Lib.hid h9; clear h9)
      | ((first | (with_reducible refine wpList_plain rfl ?_) | ((with_reducible refine wpList_yes _ _ rfl ?_ ?_); (focus rfl))); intro _ hk; (first
        | (fail)); simp only [Act.put, List.setIfInBounds_toArray, List.set_cons_zero, List.set_cons_succ]))
    go_ret
    exact ⟨rfl, H1.out⟩
  | true =>
    rw [hf] at HFW
    obtain ⟨hsh, hn30⟩ := few_true hf
    rw [← HN.out] at hn30
    have HSH := Lib.hid hsh
    obtain ⟨lm, hlm⟩ : ∃ lm, lm = max limit 0 := ⟨_, rfl⟩
    have hlm0 : 0 ≤ lm := by omega
    have HNW := Lib.hid (newC (st := st) (R := R) (lim := limit) (l2 := lm) hlm hlim)
    have HLM := Lib.hid hlm.symm
    have HKY := Lib.hid hk
    have HST := Lib.hid hst
    have HZC := Lib.hid zeroRC
    have HBC := Lib.hid (builtRC lm)
    have HR0 : Hid (RS st (sep emp R) (.slice none 0 0) []) := Lib.hid ⟨sees_nilN st _ 33, fun k hk => by simp at hk, fun k hk => by simp at hk⟩
    clear hf hsh hlm hk hst hlim
    go_enter Tryd.func3, Tryd.ntmps3
    go_wp2_with (first
      | (have _k := H1; go_at_call 10; refine (HNW.out _ H1.out).mono ?_; rintro e w9 ⟨p, rfl, h9⟩; have C0 := Lib.hid h9; clear h9)
      | (have _k := H0; go_at_call 9; refine (HFW.out _ H0.out).mono ?_; rintro e w9 ⟨rfl, h9⟩; have H1 := Lib.hid h9; clear h9)
      | (go_at_call 8; refine (HAV.out _ HH.out).mono ?_; rintro e w9 ⟨rfl, h9⟩; have H0 := Lib.hid h9; clear h9)
      | ((first | (with_reducible refine wpList_plain rfl ?_) | ((with_reducible refine wpList_yes _ _ rfl ?_ ?_); (focus rfl))); intro _ hk; (first
        | (have _k := A0; refine opw_storeRow 29 _ _ rfl q (rcells (.slice none 0 0) lm) rfl rfl 29 zrc infoRC rfl (rc_one _ _ _ _) A0.out (fun w9 h9 => hk _ _ ?_); have T0 := Lib.hid h9; clear h9)
        | (have _k := C0; refine opw_alloc 29 (.agg zrc) zrc rfl HZC.out rfl C0.out (fun q w9 hp h9 => hk _ _ ?_); clear hp; have A0 := Lib.hid h9; clear h9)
        | (have _k := C0; refine opw_build _ _ [(1, .int .i64 lm)] (rcells (.slice none 0 0) lm) rfl rfl HBC.out (hk _ _ ?_))
        | (have _k := C0; refine opw_max _ _ _ limit 0 lm rfl rfl rfl HLM.out (hk _ _ ?_))); simp only [Act.put, List.setIfInBounds_toArray, List.set_cons_zero, List.set_cons_succ]))
    clear HH H0 H1 C0 A0 HAV HFW HNW HBC
    go_loopw [38] (fun v wr => PlayRel st R p q lm N v wr) (fun v _ => N - (intOf v).toNat)
    case atStart => exact ⟨0, [], none, 0, emp, Nat.zero_le _, rfl, Nat.zero_le _, Nat.zero_le _, HR0, Lib.hid (T0.out.cast (by show _ = sep _ (sep _ (sep emp R)); rw [emp_sep]; ac_rfl))⟩
    case round =>
      obtain ⟨i, K, B, d, G, hi, rfl, hKl, hKt, HRS, HC⟩ := hrel
      clear T0 HR0
      by_cases hlt : i < N
      · have hlt' : i < ops.length := by rw [← HN.out]; exact hlt
        have hs' := HSO.out
        rw [← HN.out] at hs'
        obtain ⟨g, off, Bb, db, rfl, hrg, hsb⟩ := ops_at HSO.out HC.out.right.right.right hlt'
        have hshort : ops[i].b.length ≤ 100 := HSH.out _ (List.getElem_mem hlt')
        obtain ⟨kd, hkd⟩ : ∃ k, k = ops[i].kind := ⟨_, rfl⟩
        obtain ⟨bit, hbit⟩ : ∃ k, k = ops[i].bit := ⟨_, rfl⟩
        obtain ⟨bl, hbl⟩ : ∃ k, k = ops[i].b := ⟨_, rfl⟩
        rw [← hkd, ← hbit, ← hbl] at hrg
        rw [← hbl] at hsb hshort
        obtain ⟨nb, hnb⟩ : ∃ n, n = bl.length := ⟨_, rfl⟩
        rw [← hnb] at hrg hsb hshort
        obtain ⟨OC, hOC⟩ : ∃ OC : List Value, OC = [.int .i64 kd, .int .i64 bit, .slice Bb nb db] := ⟨_, rfl⟩
        rw [← hOC] at hrg
        have HRG := Lib.hid hrg
        have HSB := Lib.hid hsb
        have HNB := Lib.hid hnb
        have HOI : Hid ((Tryd.prog.info? 32).map (·.size) = some OC.length) := Lib.hid (by rw [hOC]; exact infoO)
        have HOI2 : Hid ((Tryd.prog.info? 32).map (·.size) = some OC.toArray.size) := Lib.hid (by rw [hOC]; exact infoO)
        have HOZ : Hid ((#[.int .i64 0, .int .i64 0, .slice none 0 0] : Array Value).size = OC.toArray.size) := Lib.hid (by rw [hOC]; rfl)
        have HO1 : Hid (OC.toArray.all (·.oneCell') = true) := Lib.hid (by rw [hOC]; simp [Value.oneCell'])
        have HC0 : Hid (OC.toArray[0]? = some (.int .i64 kd)) := Lib.hid (by rw [hOC]; rfl)
        have HC1 : Hid (OC.toArray[1]? = some (.int .i64 bit)) := Lib.hid (by rw [hOC]; rfl)
        have HC2 : Hid (OC.toArray[2]? = some (.slice Bb nb db)) := Lib.hid (by rw [hOC]; rfl)
        have HOT : Hid ((Tryd.prog.info? 32).map (·.zero) = some (some (.agg #[.int .i64 0, .int .i64 0, .slice none 0 0]))) := Lib.hid infoOz
        obtain ⟨ZO, hZO⟩ : ∃ Z : Array Value, Z = #[.int .i64 0, .int .i64 0, .slice none 0 0] := ⟨_, rfl⟩
        rw [← hZO] at HOZ HOT
        obtain ⟨S, hS⟩ : ∃ S, S = sha bl := ⟨_, rfl⟩
        have lS : S.length = 32 := by rw [hS]; exact sha_length _
        have HOF : Hid (∀ T w, (∀ w, Has st T w → Has st R w) → Has st T w → Calls Tryd.prog 11 #[.slice Bb nb db] w fun e w' => e = .returned (.agg (bcells S).toArray) ∧ Has st T w') := Lib.hid fun T w hT hw => by
          rw [hS, HNB.out]; exact refOf_any st T bl _ w hw (fun w h => by rw [← HNB.out]; exact HSB.out w (hT w h)) (by omega)
        have HIS : Hid ((Tryd.prog.info? 34).map (·.size) = some (bcells S).toArray.size) := Lib.hid (by rw [List.size_toArray, bcells_length, lS]; exact infoID)
        have HJS : Hid ((Tryd.prog.info? 34).map (·.size) = some (bcells S).length) := Lib.hid (by rw [bcells_length, lS]; exact infoID)
        have HTS : Hid (((bcells S).toArray.toList.drop 0).take (bcells S).length = bcells S) := Lib.hid (by simp)
        obtain ⟨Z, hZ⟩ : ∃ Z, Z = (bcells (List.replicate 32 (0 : UInt8))).toArray := ⟨_, rfl⟩
        have HZI : Hid ((Tryd.prog.info? 34).map (·.zero) = some (some (.agg Z))) := Lib.hid (by rw [hZ]; exact zeroID)
        have HOS : Hid (Z.size = (bcells S).toArray.size) := Lib.hid (by rw [hZ]; simp [bcells_length, lS])
        have HLS := Lib.hid lS
        have HS := Lib.hid hS
        have HZZ := Lib.hid hZ
        obtain ⟨n, hn⟩ : ∃ n, n = K.length := ⟨_, rfl⟩
        rw [← hn] at hKl HRS HC
        have HNK := Lib.hid hn
        have hi30 : i < 30 := by omega
        clear hrg hsb hs' hkd hbit hbl hnb hOC hZO hS lS hZ hn hlt'
        go_upto_block 2 with (first
          | (have _k := D1; go_at_call 11; refine (HOF.out _ _ (fun w h => h.right.right.right.right) D1.out).mono ?_; rintro e w9 ⟨rfl, h9⟩; have D2 := Lib.hid h9; clear h9)
          | ((first | (with_reducible refine wpList_plain rfl ?_) | ((with_reducible refine wpList_yes _ _ rfl ?_ ?_); (focus rfl))); intro _ hk; (first
            | (have _k := D4; refine opw_load1 3 _ rfl _ Tryd.underlying3 rfl ⟨po, 0 + 0, none⟩ (.int .i64 kd) rfl ((D4.out.third.cell 0).trans HC0.out) (hk _ _ ?_))
            | (have _k := D4; refine opw_field 32 _ 0 0 rfl (by kernel_rfl) po 0 rfl (hk _ _ ?_))
            | (have _k := D3; refine opw_storeRow 34 _ _ rfl ix (bcells S).toArray rfl rfl 34 Z HIS.out HOS.out (bcells_all _) D3.out (fun w9 h9 => hk _ _ ?_); have D4 : Hid (Has st (sep (blk q (.cells (rcells (.slice B n d) lm) 29 (0, 0))) (sep (blk ix (.cells (bcells S).toArray 34 (0, 0))) (sep (blk po (.cells OC.toArray 32 (0, 0))) (sep (cacheA p (absK K) lm) (sep G R))))) w9) := Lib.hid (h9.cast (by ac_rfl)); clear h9)
            | (have _k := D2; refine opw_alloc 34 (.agg Z) Z rfl HZI.out rfl D2.out (fun ix w1 hp h1 => hk _ _ ?_); clear hp; have D3 := Lib.hid h1; clear h1)
            | (have _k := D1; refine opw_load1 30 _ rfl _ Tryd.underlying30 rfl ⟨po, 0 + 2, none⟩ (.slice Bb nb db) rfl ((D1.out.cell 2).trans HC2.out) (hk _ _ ?_))
            | (have _k := D1; refine opw_field 32 _ 2 2 rfl (by kernel_rfl) po 0 rfl (hk _ _ ?_))
            | (have _k := D0; refine opw_storeRow 32 _ _ rfl po OC.toArray rfl rfl 32 ZO HOI2.out HOZ.out HO1.out D0.out (fun w9 h9 => hk _ _ ?_); have D1 := Lib.hid h9; clear h9)
            | (have _k := HC; refine opw_alloc 32 (.agg ZO) ZO rfl HOT.out rfl HC.out (fun po w1 hp h1 => hk _ _ ?_); clear hp; have D0 := Lib.hid h1; clear h1)
            | (have _k := HC; refine wp_load_mid _ _ rfl g (off + i * 3) rfl OC _ HRG.out Tryd.underlying32 rfl HOI.out (hk _ _ ?_))
            | (have _k := HC; refine opw_indexN 22 32 3 _ _ rfl Tryd.underlying22 infoO g off N cl i rfl .i64 rfl hlt (hk _ _ ?_))); simp only [Act.put, List.setIfInBounds_toArray, List.set_cons_zero, List.set_cons_succ]))
        clear HRG HOI HOI2 HOZ HO1 HOT HOF D0 D1 D2 D3 HSO HSH
        obtain ⟨LK, hLK⟩ : ∃ L, L = absK K := ⟨_, rfl⟩
        rw [← hLK] at D4
        have HLK := Lib.hid hLK
        clear hLK HC
        go_cut [12] from 39 to 167 (fun v12 wc => PlayCut st R p q lm i v12 wc)
        case first =>
          by_cases e0 : kd = 0
          · have HE0 : Hid (cmpZ .eql kd 0 = some true) := Lib.hid (by simp only [cmpZ]; congr 1; simpa using e0)
            clear e0
            obtain ⟨L2, hL2⟩ : ∃ L, L = putL lm LK S bl := ⟨_, rfl⟩
            have HRP := Lib.hid (putN (st := st) (R := R) (G := G) (lm := lm) (i := i) (d := d) (L2 := L2) HRS.out HNK.out hKl hKt hi30 hlm0 HNB.out hshort HSB.out HS.out (by rw [← HLK.out]; exact hL2))
            have HPC := Lib.hid (putC (st := st) (R := R) (lim := lm) (L := LK) (L' := L2) (b := bl) (S := S) HKY.out HST.out HS.out hL2 (by rw [HLK.out, abs_length, ← HNK.out]; omega) (by rw [HLK.out, abs_tot]; omega) (by rw [← HNB.out]; omega) hlm0)
            have HSS : Hid ((S == S) = true) := Lib.hid (by simp)
            clear hL2
            go_wp2_with (first
              | (have _k := P1; go_at_call 12; refine (HRP.out _ _ (fun G2 w h => h.second.right.second.right.second.right.second.right.second.right) P1.out).mono ?_; rintro e w9 ⟨G2, B2, d2, K2, rfl, hk2, hl2, ht2, h9, hr2⟩; have P2 := Lib.hid h9; clear h9)
              | ((first | (with_reducible refine wpList_plain rfl ?_) | ((with_reducible refine wpList_yes _ _ rfl ?_ ?_); (focus rfl))); intro _ hk; (first
                | (have _k := P6; refine opw_storeRow 29 _ _ rfl q (rcells (.slice B2 K2.length d2) lm) rfl rfl 29 (rcells (.slice B n d) lm) infoRC rfl (rc_one _ _ _ _) P6.out.second (fun w9 h9 => hk _ _ ?_); have P7 := Lib.hid h9; clear h9)
                | (have _k := P6; refine opw_loadMid 29 _ rfl y 0 rfl (rcells (.slice B2 K2.length d2) lm).toList _ Tryd.underlying29 rfl infoRC P6.out.third rfl (hk _ _ ?_))
                | (have _k := P5; refine opw_storeRow 34 _ _ rfl wt (bcells S).toArray rfl rfl 34 Z HIS.out HOS.out (bcells_all _) P5.out (fun w9 h9 => hk _ _ ?_); have P6 := Lib.hid h9; clear h9)
                | (have _k := P4; refine opw_storeRow 29 _ _ rfl y (rcells (.slice B2 K2.length d2) lm) rfl rfl 29 zrc infoRC rfl (rc_one _ _ _ _) P4.out.second (fun w9 h9 => hk _ _ ?_); have P5 : Hid (Has st (sep (blk wt (.cells Z 34 (0, 0))) (sep (blk q (.cells (rcells (.slice B n d) lm) 29 (0, 0))) (sep (blk y (.cells (rcells (.slice B2 K2.length d2) lm) 29 (0, 0))) (sep (row 5 1 (.slice A1 nb d1) nb (bcells bl)) (sep (cacheA p LK lm) (sep (sep G2 G) R)))))) w9) := Lib.hid ((h9.cast (show _ = (sep (blk ix (.cells (bcells S).toArray 34 (0, 0))) (sep (blk po (.cells OC.toArray 32 (0, 0))) (sep (blk wt (.cells Z 34 (0, 0))) (sep (blk q (.cells (rcells (.slice B n d) lm) 29 (0, 0))) (sep (blk y (.cells (rcells (.slice B2 K2.length d2) lm) 29 (0, 0))) (sep (row 5 1 (.slice A1 nb d1) nb (bcells bl)) (sep (cacheA p LK lm) (sep (sep G2 G) R)))))))) by ac_rfl)).right.right); clear h9)
                | (have _k := P3; refine opw_alloc 34 (.agg Z) Z rfl HZI.out rfl P3.out (fun wt w9 hp h9 => hk _ _ ?_); clear hp; have P4 := Lib.hid h9; clear h9)
                | (have _k := P2; refine opw_alloc 29 (.agg zrc) zrc rfl HZC.out rfl P2.out (fun y w9 hp h9 => hk _ _ ?_); clear hp; have P3 := Lib.hid h9; clear h9)
                | (have _k := P1; refine opw_load1 30 _ rfl _ Tryd.underlying30 rfl ⟨po, 0 + 2, none⟩ (.slice Bb nb db) rfl ((P1.out.fourth.cell 2).trans HC2.out) (hk _ _ ?_))
                | (have _k := P1; refine opw_field 32 _ 2 2 rfl (by kernel_rfl) po 0 rfl (hk _ _ ?_))
                | (have _k := P1; refine opw_loadMid 29 _ rfl q 0 rfl (rcells (.slice B n d) lm).toList _ Tryd.underlying29 rfl infoRC P1.out.second rfl (hk _ _ ?_))
                | (have _k := P0; refine op_append _ _ 30 5 1 1 (.int .u8 0) rfl Tryd.underlying30 infoB rfl (by decide) rfl rfl P0.out (HSB.out _ P0.out.right.right.right.right.right.right) (bcells_one bl) (by unfold maxLen; omega) (by omega) (fun A1 d1 w9 h9 => hk _ _ ?_); rw [List.nil_append] at h9; rw [Nat.zero_add] at h9 ⊢; have P1 := Lib.hid h9; clear h9)
                | (have _k := P0; refine opw_load1 30 _ rfl _ Tryd.underlying30 rfl ⟨po, 0 + 2, none⟩ (.slice Bb nb db) rfl ((P0.out.fourth.cell 2).trans HC2.out) (hk _ _ ?_))
                | (have _k := P0; refine opw_field 32 _ 2 2 rfl (by kernel_rfl) po 0 rfl (hk _ _ ?_))
                | (have _k := D4; refine opw_row0 30 5 1 rfl Tryd.underlying30 infosz D4.out (fun v0 w9 h9 => hk _ _ ?_); have P0 := Lib.hid h9; clear h9)
                | (refine opw_cmp .eql _ _ _ _ .i64 kd 0 true rfl rfl rfl HE0.out (hk _ _ ?_))); simp only [Act.put, List.setIfInBounds_toArray, List.set_cons_zero, List.set_cons_succ]))
            refine wp_region_inv3 (fun L u w' => Slots (fun kk => ([some (.pointer (some ⟨p, 0, none⟩)), some (.slice A1 nb d1), some (.agg (bcells S).toArray), some (.agg (bcells S).toArray), some (.bool true), some (.bool true)] : List (Option Value)).getD kk none) L u ∧ Has st (sep (stg (L 2) (cacheA p L2 lm) (cacheA p LK lm)) (sep (blk q (.cells (rcells (.slice B2 K2.length d2) lm) 29 (0, 0))) (sep (blk wt (.cells (bcells S).toArray 34 (0, 0))) (sep (blk y (.cells (rcells (.slice B2 K2.length d2) lm) 29 (0, 0))) (sep (row 5 1 (.slice A1 nb d1) nb (bcells bl)) (sep (sep G2 G) R)))))) w') (by kernel_rfl) (by decide +kernel) (by decide +kernel) (by kernel_rfl) (by kernel_rfl) (fun u => ⟨Slots.start _ u, (show Has st (sep (stg false (cacheA p L2 lm) (cacheA p LK lm)) (sep (blk q (.cells (rcells (.slice B2 K2.length d2) lm) 29 (0, 0))) (sep (blk wt (.cells (bcells S).toArray 34 (0, 0))) (sep (blk y (.cells (rcells (.slice B2 K2.length d2) lm) 29 (0, 0))) (sep (row 5 1 (.slice A1 nb d1) nb (bcells bl)) (sep (sep G2 G) R)))))) _ from P7.out.drew.cast (by first | (simp only [stg_no, emp_sep]; done) | (simp only [stg_no, emp_sep]; ac_rfl)))⟩) ?_ ?_
            · refine ⟨?_, ?_, ?_, ?_, ?_, ?_, trivial⟩
              · refine RegStep3.plain rfl ?_; rintro L u w1 bA hL hW hD hU ⟨hS, hH⟩ hin hout; exact opw_move _ _ (.inl rfl) ((hout 7 (by kernel_rfl)).trans (by kernel_rfl)) ⟨_, rfl, hS.step 0 _ (.inr rfl), hH⟩
              · refine RegStep3.plain rfl ?_; rintro L u w1 bA hL hW hD hU ⟨hS, hH⟩ hin hout; exact opw_move _ _ (.inl rfl) ((hout 13 (by kernel_rfl)).trans (by kernel_rfl)) ⟨_, rfl, hS.step 1 _ (.inr rfl), hH⟩
              · refine RegStep3.plain rfl ?_; rintro L u w1 bA hL hW hD hU ⟨hS, hH⟩ hin hout; exact opw_call_ret _ _ _ [(.pointer (some ⟨p, 0, none⟩)), (.slice A1 nb d1)] rfl (by kernel_rfl) (list2 ((hin 0 62 rfl).trans (hS 0 _ rfl (hW.of 0 (by decide)))) (list2 ((hin 1 63 rfl).trans (hS 1 _ rfl (hW.of 1 (by decide)))) rfl)) (HPC.out p (sep (blk q (.cells (rcells (.slice B2 K2.length d2) lm) 29 (0, 0))) (sep (blk wt (.cells (bcells S).toArray 34 (0, 0))) (sep (blk y (.cells (rcells (.slice B2 K2.length d2) lm) 29 (0, 0))) (sep (row 5 1 (.slice A1 nb d1) nb (bcells bl)) (sep (sep G2 G) R))))) (.slice A1 nb d1) _ (fun w h => h.right.right.right.right.right) (by rw [← HNB.out]; exact fun w h => sees_row st _ 1 _ _ _ _ w h.fourth) (hH.stg_no hL)) (fun e w2 he => by obtain ⟨rfl, h2⟩ := he; exact ⟨_, rfl, _, rfl, hS.step 2 _ (.inr rfl), (show Has st (sep (stg true (cacheA p L2 lm) (cacheA p LK lm)) (sep (blk q (.cells (rcells (.slice B2 K2.length d2) lm) 29 (0, 0))) (sep (blk wt (.cells (bcells S).toArray 34 (0, 0))) (sep (blk y (.cells (rcells (.slice B2 K2.length d2) lm) 29 (0, 0))) (sep (row 5 1 (.slice A1 nb d1) nb (bcells bl)) (sep (sep G2 G) R)))))) w2 from ((h2.stg_mk (Q := (cacheA p LK lm)))).cast (by ac_rfl))⟩)
              · refine RegStep3.plain rfl ?_; rintro L u w1 bA hL hW hD hU ⟨hS, hH⟩ hin hout; exact opw_loadMid _ _ rfl wt (0) ((hout 15 (by kernel_rfl)).trans (by kernel_rfl)) (bcells S) _ Tryd.underlying34 rfl HJS.out ((hH.right)).second HTS.out ⟨_, rfl, hS.step 3 _ (.inr rfl), hH⟩
              · refine RegStep3.plain rfl ?_; rintro L u w1 bA hL hW hD hU ⟨hS, hH⟩ hin hout; exact opw_eqRow _ _ 5 32 _ _ S S Tryd.underlying34 Tryd.underlying5 infosz (by kernel_rfl) HLS.out HLS.out rfl ((hin 2 64 rfl).trans (hS 2 _ rfl (hW.of 2 (by decide)))) ((hin 3 65 rfl).trans (hS 3 _ rfl (hW.of 3 (by decide)))) true HSS.out ⟨_, rfl, hS.step 4 _ (.inr rfl), hH⟩
              · refine RegStep3.plain rfl ?_; rintro L u w1 bA hL hW hD hU ⟨hS, hH⟩ hin hout; exact opw_move _ _ (.inr rfl) ((hin 4 66 rfl).trans (hS 4 _ rfl (hW.of 4 (by decide)))) ⟨_, rfl, hS.step 5 _ (.inr rfl), hH⟩
            intro L u wv hL ⟨hS, hH⟩
            have E0 := hS 0 _ rfl (hL 0 (by decide))
            have E1 := hS 1 _ rfl (hL 1 (by decide))
            have E2 := hS 2 _ rfl (hL 2 (by decide))
            have E3 := hS 3 _ rfl (hL 3 (by decide))
            have E4 := hS 4 _ rfl (hL 4 (by decide))
            have E5 := hS 5 _ rfl (hL 5 (by decide))
            simp only [hL 2 (by decide), stg_true, emp_sep] at hH
            simp only [frame_cons, frame_nil, E0, E1, E2, E3, E4, E5, Act.put, List.setIfInBounds_toArray, List.set_cons_zero, List.set_cons_succ]
            clear hL hS E0 E1 E2 E3 E4 E5
            generalize u 2 = u2 at hH ⊢
            have Hv := Lib.hid hH
            clear hH P0 P1 P2 P3 P4 P5 P6 P7
            go_wp2_with (first
              | (fail)
              | ((first | (with_reducible refine wpList_plain rfl ?_) | ((with_reducible refine wpList_yes _ _ rfl ?_ ?_); (focus rfl))); intro _ hk; (first
                | (have _k := Hv; refine opw_clearR _ 30 5 1 (.int .u8 0) rfl Tryd.underlying30 zeroV8 rfl one8 rfl (Hv.out.cast (show _ = (sep (row 5 1 (.slice A1 nb d1) nb (bcells bl)) (sep (blk wt (.cells (bcells S).toArray 34 (0, 0))) (sep (blk y (.cells (rcells (.slice B2 K2.length d2) lm) 29 (0, 0))) (sep (cacheA p L2 lm) (sep (blk q (.cells (rcells (.slice B2 K2.length d2) lm) 29 (0, 0))) (sep (sep G2 G) R)))))) by ac_rfl)) (fun w9 h9 => hk _ _ ?_); have W1 : Hid (Has st (sep (cacheA p L2 lm) (sep (blk q (.cells (rcells (.slice B2 K2.length d2) lm) 29 (0, 0))) (sep (sep G2 G) R))) w9) := Lib.hid h9.right.right; clear h9)); simp only [Act.put, List.setIfInBounds_toArray, List.set_cons_zero, List.set_cons_succ]))
            go_meet
            case rel => exact ⟨K2, B2, d2, (sep G2 G), by first | rfl | simp, hl2, ht2, Lib.hid (rs_assoc hr2.out), Lib.hid (by rw [hk2.out]; exact W1.out)⟩
          · have HE0 : Hid (cmpZ .eql kd 0 = some false) := Lib.hid (by simp only [cmpZ]; congr 1; simpa using e0)
            clear e0
            by_cases e1 : kd = 1
            · have HE1 : Hid (cmpZ .eql kd 1 = some true) := Lib.hid (by simp only [cmpZ]; congr 1; simpa using e1)
              clear e1
              obtain ⟨L2, hL2⟩ : ∃ L, L = putL lm LK S bl := ⟨_, rfl⟩
              have HRP := Lib.hid (putN (st := st) (R := R) (G := G) (lm := lm) (i := i) (d := d) (L2 := L2) HRS.out HNK.out hKl hKt hi30 hlm0 HNB.out hshort HSB.out HS.out (by rw [← HLK.out]; exact hL2))
              have HPC := Lib.hid (putC (st := st) (R := R) (lim := lm) (L := LK) (L' := L2) (b := bl) (S := S) HKY.out HST.out HS.out hL2 (by rw [HLK.out, abs_length, ← HNK.out]; omega) (by rw [HLK.out, abs_tot]; omega) (by rw [← HNB.out]; omega) hlm0)
              have HSS : Hid ((S == S) = true) := Lib.hid (by simp)
              clear hL2
              go_wp2_with (first
                | (have _k := P1; go_at_call 12; refine (HRP.out _ _ (fun G2 w h => h.second.right.second.right.second.right.second.right.second.right) P1.out).mono ?_; rintro e w9 ⟨G2, B2, d2, K2, rfl, hk2, hl2, ht2, h9, hr2⟩; have P2 := Lib.hid h9; clear h9)
                | ((first | (with_reducible refine wpList_plain rfl ?_) | ((with_reducible refine wpList_yes _ _ rfl ?_ ?_); (focus rfl))); intro _ hk; (first
                  | (have _k := P6; refine opw_storeRow 29 _ _ rfl q (rcells (.slice B2 K2.length d2) lm) rfl rfl 29 (rcells (.slice B n d) lm) infoRC rfl (rc_one _ _ _ _) P6.out.second (fun w9 h9 => hk _ _ ?_); have P7 := Lib.hid h9; clear h9)
                  | (have _k := P6; refine opw_loadMid 29 _ rfl y 0 rfl (rcells (.slice B2 K2.length d2) lm).toList _ Tryd.underlying29 rfl infoRC P6.out.third rfl (hk _ _ ?_))
                  | (have _k := P5; refine opw_storeRow 34 _ _ rfl wt (bcells S).toArray rfl rfl 34 Z HIS.out HOS.out (bcells_all _) P5.out (fun w9 h9 => hk _ _ ?_); have P6 := Lib.hid h9; clear h9)
                  | (have _k := P4; refine opw_storeRow 29 _ _ rfl y (rcells (.slice B2 K2.length d2) lm) rfl rfl 29 zrc infoRC rfl (rc_one _ _ _ _) P4.out.second (fun w9 h9 => hk _ _ ?_); have P5 : Hid (Has st (sep (blk wt (.cells Z 34 (0, 0))) (sep (blk q (.cells (rcells (.slice B n d) lm) 29 (0, 0))) (sep (blk y (.cells (rcells (.slice B2 K2.length d2) lm) 29 (0, 0))) (sep (row 5 1 (.slice A1 nb d1) nb (bcells bl)) (sep (cacheA p LK lm) (sep (sep G2 G) R)))))) w9) := Lib.hid ((h9.cast (show _ = (sep (blk ix (.cells (bcells S).toArray 34 (0, 0))) (sep (blk po (.cells OC.toArray 32 (0, 0))) (sep (blk wt (.cells Z 34 (0, 0))) (sep (blk q (.cells (rcells (.slice B n d) lm) 29 (0, 0))) (sep (blk y (.cells (rcells (.slice B2 K2.length d2) lm) 29 (0, 0))) (sep (row 5 1 (.slice A1 nb d1) nb (bcells bl)) (sep (cacheA p LK lm) (sep (sep G2 G) R)))))))) by ac_rfl)).right.right); clear h9)
                  | (have _k := P3; refine opw_alloc 34 (.agg Z) Z rfl HZI.out rfl P3.out (fun wt w9 hp h9 => hk _ _ ?_); clear hp; have P4 := Lib.hid h9; clear h9)
                  | (have _k := P2; refine opw_alloc 29 (.agg zrc) zrc rfl HZC.out rfl P2.out (fun y w9 hp h9 => hk _ _ ?_); clear hp; have P3 := Lib.hid h9; clear h9)
                  | (have _k := P1; refine opw_load1 30 _ rfl _ Tryd.underlying30 rfl ⟨po, 0 + 2, none⟩ (.slice Bb nb db) rfl ((P1.out.fourth.cell 2).trans HC2.out) (hk _ _ ?_))
                  | (have _k := P1; refine opw_field 32 _ 2 2 rfl (by kernel_rfl) po 0 rfl (hk _ _ ?_))
                  | (have _k := P1; refine opw_loadMid 29 _ rfl q 0 rfl (rcells (.slice B n d) lm).toList _ Tryd.underlying29 rfl infoRC P1.out.second rfl (hk _ _ ?_))
                  | (have _k := P0; refine op_append _ _ 30 5 1 1 (.int .u8 0) rfl Tryd.underlying30 infoB rfl (by decide) rfl rfl P0.out (HSB.out _ P0.out.right.right.right.right.right.right) (bcells_one bl) (by unfold maxLen; omega) (by omega) (fun A1 d1 w9 h9 => hk _ _ ?_); rw [List.nil_append] at h9; rw [Nat.zero_add] at h9 ⊢; have P1 := Lib.hid h9; clear h9)
                  | (have _k := P0; refine opw_load1 30 _ rfl _ Tryd.underlying30 rfl ⟨po, 0 + 2, none⟩ (.slice Bb nb db) rfl ((P0.out.fourth.cell 2).trans HC2.out) (hk _ _ ?_))
                  | (have _k := P0; refine opw_field 32 _ 2 2 rfl (by kernel_rfl) po 0 rfl (hk _ _ ?_))
                  | (have _k := D4; refine opw_row0 30 5 1 rfl Tryd.underlying30 infosz D4.out (fun v0 w9 h9 => hk _ _ ?_); have P0 := Lib.hid h9; clear h9)
                  | (refine opw_cmp .eql _ _ _ _ .i64 kd 0 false rfl rfl rfl HE0.out (hk _ _ ?_))
                  | (refine opw_cmp .eql _ _ _ _ .i64 kd 1 true rfl rfl rfl HE1.out (hk _ _ ?_))); simp only [Act.put, List.setIfInBounds_toArray, List.set_cons_zero, List.set_cons_succ]))
              refine wp_region_inv3 (fun L u w' => Slots (fun kk => ([some (.pointer (some ⟨p, 0, none⟩)), some (.slice A1 nb d1), some (.agg (bcells S).toArray), some (.agg (bcells S).toArray), some (.bool true), some (.bool true)] : List (Option Value)).getD kk none) L u ∧ Has st (sep (stg (L 2) (cacheA p L2 lm) (cacheA p LK lm)) (sep (blk q (.cells (rcells (.slice B2 K2.length d2) lm) 29 (0, 0))) (sep (blk wt (.cells (bcells S).toArray 34 (0, 0))) (sep (blk y (.cells (rcells (.slice B2 K2.length d2) lm) 29 (0, 0))) (sep (row 5 1 (.slice A1 nb d1) nb (bcells bl)) (sep (sep G2 G) R)))))) w') (by kernel_rfl) (by decide +kernel) (by decide +kernel) (by kernel_rfl) (by kernel_rfl) (fun u => ⟨Slots.start _ u, (show Has st (sep (stg false (cacheA p L2 lm) (cacheA p LK lm)) (sep (blk q (.cells (rcells (.slice B2 K2.length d2) lm) 29 (0, 0))) (sep (blk wt (.cells (bcells S).toArray 34 (0, 0))) (sep (blk y (.cells (rcells (.slice B2 K2.length d2) lm) 29 (0, 0))) (sep (row 5 1 (.slice A1 nb d1) nb (bcells bl)) (sep (sep G2 G) R)))))) _ from P7.out.drew.cast (by first | (simp only [stg_no, emp_sep]; done) | (simp only [stg_no, emp_sep]; ac_rfl)))⟩) ?_ ?_
              · refine ⟨?_, ?_, ?_, ?_, ?_, ?_, trivial⟩
                · refine RegStep3.plain rfl ?_; rintro L u w1 bA hL hW hD hU ⟨hS, hH⟩ hin hout; exact opw_move _ _ (.inl rfl) ((hout 7 (by kernel_rfl)).trans (by kernel_rfl)) ⟨_, rfl, hS.step 0 _ (.inr rfl), hH⟩
                · refine RegStep3.plain rfl ?_; rintro L u w1 bA hL hW hD hU ⟨hS, hH⟩ hin hout; exact opw_move _ _ (.inl rfl) ((hout 13 (by kernel_rfl)).trans (by kernel_rfl)) ⟨_, rfl, hS.step 1 _ (.inr rfl), hH⟩
                · refine RegStep3.plain rfl ?_; rintro L u w1 bA hL hW hD hU ⟨hS, hH⟩ hin hout; exact opw_call_ret _ _ _ [(.pointer (some ⟨p, 0, none⟩)), (.slice A1 nb d1)] rfl (by kernel_rfl) (list2 ((hin 0 62 rfl).trans (hS 0 _ rfl (hW.of 0 (by decide)))) (list2 ((hin 1 63 rfl).trans (hS 1 _ rfl (hW.of 1 (by decide)))) rfl)) (HPC.out p (sep (blk q (.cells (rcells (.slice B2 K2.length d2) lm) 29 (0, 0))) (sep (blk wt (.cells (bcells S).toArray 34 (0, 0))) (sep (blk y (.cells (rcells (.slice B2 K2.length d2) lm) 29 (0, 0))) (sep (row 5 1 (.slice A1 nb d1) nb (bcells bl)) (sep (sep G2 G) R))))) (.slice A1 nb d1) _ (fun w h => h.right.right.right.right.right) (by rw [← HNB.out]; exact fun w h => sees_row st _ 1 _ _ _ _ w h.fourth) (hH.stg_no hL)) (fun e w2 he => by obtain ⟨rfl, h2⟩ := he; exact ⟨_, rfl, _, rfl, hS.step 2 _ (.inr rfl), (show Has st (sep (stg true (cacheA p L2 lm) (cacheA p LK lm)) (sep (blk q (.cells (rcells (.slice B2 K2.length d2) lm) 29 (0, 0))) (sep (blk wt (.cells (bcells S).toArray 34 (0, 0))) (sep (blk y (.cells (rcells (.slice B2 K2.length d2) lm) 29 (0, 0))) (sep (row 5 1 (.slice A1 nb d1) nb (bcells bl)) (sep (sep G2 G) R)))))) w2 from ((h2.stg_mk (Q := (cacheA p LK lm)))).cast (by ac_rfl))⟩)
                · refine RegStep3.plain rfl ?_; rintro L u w1 bA hL hW hD hU ⟨hS, hH⟩ hin hout; exact opw_loadMid _ _ rfl wt (0) ((hout 15 (by kernel_rfl)).trans (by kernel_rfl)) (bcells S) _ Tryd.underlying34 rfl HJS.out ((hH.right)).second HTS.out ⟨_, rfl, hS.step 3 _ (.inr rfl), hH⟩
                · refine RegStep3.plain rfl ?_; rintro L u w1 bA hL hW hD hU ⟨hS, hH⟩ hin hout; exact opw_eqRow _ _ 5 32 _ _ S S Tryd.underlying34 Tryd.underlying5 infosz (by kernel_rfl) HLS.out HLS.out rfl ((hin 2 64 rfl).trans (hS 2 _ rfl (hW.of 2 (by decide)))) ((hin 3 65 rfl).trans (hS 3 _ rfl (hW.of 3 (by decide)))) true HSS.out ⟨_, rfl, hS.step 4 _ (.inr rfl), hH⟩
                · refine RegStep3.plain rfl ?_; rintro L u w1 bA hL hW hD hU ⟨hS, hH⟩ hin hout; exact opw_move _ _ (.inr rfl) ((hin 4 66 rfl).trans (hS 4 _ rfl (hW.of 4 (by decide)))) ⟨_, rfl, hS.step 5 _ (.inr rfl), hH⟩
              intro L u wv hL ⟨hS, hH⟩
              have E0 := hS 0 _ rfl (hL 0 (by decide))
              have E1 := hS 1 _ rfl (hL 1 (by decide))
              have E2 := hS 2 _ rfl (hL 2 (by decide))
              have E3 := hS 3 _ rfl (hL 3 (by decide))
              have E4 := hS 4 _ rfl (hL 4 (by decide))
              have E5 := hS 5 _ rfl (hL 5 (by decide))
              simp only [hL 2 (by decide), stg_true, emp_sep] at hH
              simp only [frame_cons, frame_nil, E0, E1, E2, E3, E4, E5, Act.put, List.setIfInBounds_toArray, List.set_cons_zero, List.set_cons_succ]
              clear hL hS E0 E1 E2 E3 E4 E5
              generalize u 2 = u2 at hH ⊢
              have Hv := Lib.hid hH
              clear hH P0 P1 P2 P3 P4 P5 P6 P7
              go_wp2_with (first
                | (fail)
                | ((first | (with_reducible refine wpList_plain rfl ?_) | ((with_reducible refine wpList_yes _ _ rfl ?_ ?_); (focus rfl))); intro _ hk; (first
                  | (have _k := Hv; refine opw_clearR _ 30 5 1 (.int .u8 0) rfl Tryd.underlying30 zeroV8 rfl one8 rfl (Hv.out.cast (show _ = (sep (row 5 1 (.slice A1 nb d1) nb (bcells bl)) (sep (blk wt (.cells (bcells S).toArray 34 (0, 0))) (sep (blk y (.cells (rcells (.slice B2 K2.length d2) lm) 29 (0, 0))) (sep (cacheA p L2 lm) (sep (blk q (.cells (rcells (.slice B2 K2.length d2) lm) 29 (0, 0))) (sep (sep G2 G) R)))))) by ac_rfl)) (fun w9 h9 => hk _ _ ?_); have W1 : Hid (Has st (sep (cacheA p L2 lm) (sep (blk q (.cells (rcells (.slice B2 K2.length d2) lm) 29 (0, 0))) (sep (sep G2 G) R))) w9) := Lib.hid h9.right.right; clear h9)); simp only [Act.put, List.setIfInBounds_toArray, List.set_cons_zero, List.set_cons_succ]))
              go_meet
              case rel => exact ⟨K2, B2, d2, (sep G2 G), by first | rfl | simp, hl2, ht2, Lib.hid (rs_assoc hr2.out), Lib.hid (by rw [hk2.out]; exact W1.out)⟩
            · have HE1 : Hid (cmpZ .eql kd 1 = some false) := Lib.hid (by simp only [cmpZ]; congr 1; simpa using e1)
              clear e1
              by_cases e2 : kd = 2
              · have HE2 : Hid (cmpZ .eql kd 2 = some true) := Lib.hid (by simp only [cmpZ]; congr 1; simpa using e2)
                clear e2
                obtain ⟨L2, hL2⟩ : ∃ L, L = (getL S LK).1 := ⟨_, rfl⟩
                obtain ⟨gb, hgb⟩ : ∃ L, L = (getL S LK).2.1 := ⟨_, rfl⟩
                obtain ⟨ok, hok⟩ : ∃ L, L = (getL S LK).2.2 := ⟨_, rfl⟩
                have hget : getL S LK = (L2, gb, ok) := by rw [hL2, hgb, hok]
                have HRG := Lib.hid (getN (st := st) (R := R) (G := G) (lm := lm) (i := i) (d := d) (L2 := L2) (gb := gb) (ok := ok) HRS.out HNK.out hKl hKt hi30 HLS.out (by rw [← HLK.out]; exact hget))
                have HGC := Lib.hid (getC (st := st) (R := R) (lim := lm) (L := LK) (L' := L2) (id := S) (g := gb) (ok := ok) HKY.out HST.out HLS.out hget (by rw [HLK.out, abs_length, ← HNK.out]; omega) (by rw [HLK.out, abs_tot]; omega))
                have HOO : Hid ((ok == ok) = true) := Lib.hid (by simp)
                clear hL2 hgb hok hget
                have HSM : Hid (∀ w (u v : Value), Rd 1 w u gb.length (bcells gb) → Rd 1 w v gb.length (bcells gb) → Calls Tryd.prog 16 #[u, v] w fun e w' => e = .returned (.bool true) ∧ w = w') := Lib.hid fun w u v hu hv => (sameB_any gb gb _ _ u v w hu hv).mono fun e w' h' => ⟨by rw [h'.1]; simp, h'.2⟩
                go_wp2_with (first
                  | (have _k := P8; go_at_call 16; refine (HSM.out _ _ _ (sees_row st _ 1 _ _ _ _ _ P8.out) (hv3.out _ P8.out.right.right.right.right.right.assoc)).mono ?_; rintro e w9 ⟨rfl, rfl⟩)
                  | (have _k := P7; go_at_call 15; refine (HGC.out p (sep (blk q (.cells (rcells (.slice B2 K2.length d2) lm) 29 (0, 0))) (sep (blk y (.cells (rcells (.slice B2 K2.length d2) lm) 29 (0, 0))) (sep (blk ix (.cells (bcells S).toArray 34 (0, 0))) (sep (sep G2 G) R)))) _ (fun w h => h.right.right.right.right) (P7.out.cast (show _ = (sep (cacheA p LK lm) (sep (blk q (.cells (rcells (.slice B2 K2.length d2) lm) 29 (0, 0))) (sep (blk y (.cells (rcells (.slice B2 K2.length d2) lm) 29 (0, 0))) (sep (blk ix (.cells (bcells S).toArray 34 (0, 0))) (sep (sep G2 G) R))))) by ac_rfl))).mono ?_; rintro e w9 ⟨Ag, cg, rfl, h9⟩; have P8 := Lib.hid h9; clear h9)
                  | (have _k := D4; go_at_call 14; refine (HRG.out _ _ (fun G2 w h => h.second.right.second.right.second.right.second.right) D4.out).mono ?_; rintro e w9 ⟨G2, B2, d2, K2, V3, c3, rfl, ⟨hk2, hl2, ht2, h9, hr2⟩, hv3⟩; have P2 := Lib.hid h9; clear h9)
                  | ((first | (with_reducible refine wpList_plain rfl ?_) | ((with_reducible refine wpList_yes _ _ rfl ?_ ?_); (focus rfl))); intro _ hk; (first
                    | (have _k := P8; refine opw_clearR _ 30 5 1 (.int .u8 0) rfl Tryd.underlying30 zeroV8 rfl one8 rfl P8.out (fun w9 h9 => hk _ _ ?_); have W1 : Hid (Has st (sep (cacheA p L2 lm) (sep (blk q (.cells (rcells (.slice B2 K2.length d2) lm) 29 (0, 0))) (sep (sep G2 G) R))) w9) := Lib.hid (h9.cast (show _ = (sep (blk y (.cells (rcells (.slice B2 K2.length d2) lm) 29 (0, 0))) (sep (blk ix (.cells (bcells S).toArray 34 (0, 0))) (sep (cacheA p L2 lm) (sep (blk q (.cells (rcells (.slice B2 K2.length d2) lm) 29 (0, 0))) (sep (sep G2 G) R))))) by ac_rfl)).right.right; clear h9)
                    | (have _k := P8; refine opw_eqBool _ _ _ _ ok ok rfl rfl rfl rfl true HOO.out (hk _ _ ?_))
                    | (have _k := P8; refine opw_pickT _ _ _ _ rfl rfl rfl (hk _ _ ?_))
                    | (have _k := P7; refine opw_loadMid 34 _ rfl ix 0 rfl (bcells S) _ Tryd.underlying34 rfl HJS.out P7.out.third HTS.out (hk _ _ ?_))
                    | (have _k := P6; refine opw_storeRow 29 _ _ rfl q (rcells (.slice B2 K2.length d2) lm) rfl rfl 29 (rcells (.slice B n d) lm) infoRC rfl (rc_one _ _ _ _) P6.out (fun w9 h9 => hk _ _ ?_); have P7 := Lib.hid h9; clear h9)
                    | (have _k := P6; refine opw_loadMid 29 _ rfl y 0 rfl (rcells (.slice B2 K2.length d2) lm).toList _ Tryd.underlying29 rfl infoRC P6.out.second rfl (hk _ _ ?_))
                    | (have _k := P3; refine opw_storeRow 29 _ _ rfl y (rcells (.slice B2 K2.length d2) lm) rfl rfl 29 zrc infoRC rfl (rc_one _ _ _ _) P3.out (fun w9 h9 => hk _ _ ?_); have P6 : Hid (Has st (sep (blk q (.cells (rcells (.slice B n d) lm) 29 (0, 0))) (sep (blk y (.cells (rcells (.slice B2 K2.length d2) lm) 29 (0, 0))) (sep (blk ix (.cells (bcells S).toArray 34 (0, 0))) (sep (cacheA p LK lm) (sep (sep G2 G) R))))) w9) := Lib.hid ((h9.cast (show _ = (sep (blk po (.cells OC.toArray 32 (0, 0))) (sep (blk q (.cells (rcells (.slice B n d) lm) 29 (0, 0))) (sep (blk y (.cells (rcells (.slice B2 K2.length d2) lm) 29 (0, 0))) (sep (blk ix (.cells (bcells S).toArray 34 (0, 0))) (sep (cacheA p LK lm) (sep (sep G2 G) R)))))) by ac_rfl)).right); clear h9)
                    | (have _k := P2; refine opw_alloc 29 (.agg zrc) zrc rfl HZC.out rfl P2.out (fun y w9 hp h9 => hk _ _ ?_); clear hp; have P3 := Lib.hid h9; clear h9)
                    | (have _k := D4; refine opw_loadMid 34 _ rfl ix 0 rfl (bcells S) _ Tryd.underlying34 rfl HJS.out D4.out.second HTS.out (hk _ _ ?_))
                    | (have _k := D4; refine opw_loadMid 29 _ rfl q 0 rfl (rcells (.slice B n d) lm).toList _ Tryd.underlying29 rfl infoRC D4.out rfl (hk _ _ ?_))
                    | (refine opw_cmp .eql _ _ _ _ .i64 kd 0 false rfl rfl rfl HE0.out (hk _ _ ?_))
                    | (refine opw_cmp .eql _ _ _ _ .i64 kd 1 false rfl rfl rfl HE1.out (hk _ _ ?_))
                    | (refine opw_cmp .eql _ _ _ _ .i64 kd 2 true rfl rfl rfl HE2.out (hk _ _ ?_))); simp only [Act.put, List.setIfInBounds_toArray, List.set_cons_zero, List.set_cons_succ]))
                go_meet
                case rel => exact ⟨K2, B2, d2, (sep G2 G), by first | rfl | simp, hl2, ht2, Lib.hid (rs_assoc hr2.out), Lib.hid (by rw [hk2.out]; exact W1.out)⟩
              · have HE2 : Hid (cmpZ .eql kd 2 = some false) := Lib.hid (by simp only [cmpZ]; congr 1; simpa using e2)
                clear e2
                by_cases e3 : kd = 3
                · have HE3 : Hid (cmpZ .eql kd 3 = some true) := Lib.hid (by simp only [cmpZ]; congr 1; simpa using e3)
                  clear e3
                  obtain ⟨L2, hL2⟩ : ∃ L, L = (getL S LK).1 := ⟨_, rfl⟩
                  obtain ⟨gb, hgb⟩ : ∃ L, L = (getL S LK).2.1 := ⟨_, rfl⟩
                  obtain ⟨ok, hok⟩ : ∃ L, L = (getL S LK).2.2 := ⟨_, rfl⟩
                  have hget : getL S LK = (L2, gb, ok) := by rw [hL2, hgb, hok]
                  have HRG := Lib.hid (getN (st := st) (R := R) (G := G) (lm := lm) (i := i) (d := d) (L2 := L2) (gb := gb) (ok := ok) HRS.out HNK.out hKl hKt hi30 HLS.out (by rw [← HLK.out]; exact hget))
                  have HGC := Lib.hid (getC (st := st) (R := R) (lim := lm) (L := LK) (L' := L2) (id := S) (g := gb) (ok := ok) HKY.out HST.out HLS.out hget (by rw [HLK.out, abs_length, ← HNK.out]; omega) (by rw [HLK.out, abs_tot]; omega))
                  have HOO : Hid ((ok == ok) = true) := Lib.hid (by simp)
                  clear hL2 hgb hok hget
                  have HSM : Hid (∀ w (u v : Value), Rd 1 w u gb.length (bcells gb) → Rd 1 w v gb.length (bcells gb) → Calls Tryd.prog 16 #[u, v] w fun e w' => e = .returned (.bool true) ∧ w = w') := Lib.hid fun w u v hu hv => (sameB_any gb gb _ _ u v w hu hv).mono fun e w' h' => ⟨by rw [h'.1]; simp, h'.2⟩
                  go_wp2_with (first
                    | (have _k := P8; go_at_call 16; refine (HSM.out _ _ _ (sees_row st _ 1 _ _ _ _ _ P8.out) (hv3.out _ P8.out.right.right.right.right.right.assoc)).mono ?_; rintro e w9 ⟨rfl, rfl⟩)
                    | (have _k := P7; go_at_call 15; refine (HGC.out p (sep (blk q (.cells (rcells (.slice B2 K2.length d2) lm) 29 (0, 0))) (sep (blk y (.cells (rcells (.slice B2 K2.length d2) lm) 29 (0, 0))) (sep (blk ix (.cells (bcells S).toArray 34 (0, 0))) (sep (sep G2 G) R)))) _ (fun w h => h.right.right.right.right) (P7.out.cast (show _ = (sep (cacheA p LK lm) (sep (blk q (.cells (rcells (.slice B2 K2.length d2) lm) 29 (0, 0))) (sep (blk y (.cells (rcells (.slice B2 K2.length d2) lm) 29 (0, 0))) (sep (blk ix (.cells (bcells S).toArray 34 (0, 0))) (sep (sep G2 G) R))))) by ac_rfl))).mono ?_; rintro e w9 ⟨Ag, cg, rfl, h9⟩; have P8 := Lib.hid h9; clear h9)
                    | (have _k := D4; go_at_call 14; refine (HRG.out _ _ (fun G2 w h => h.second.right.second.right.second.right.second.right) D4.out).mono ?_; rintro e w9 ⟨G2, B2, d2, K2, V3, c3, rfl, ⟨hk2, hl2, ht2, h9, hr2⟩, hv3⟩; have P2 := Lib.hid h9; clear h9)
                    | ((first | (with_reducible refine wpList_plain rfl ?_) | ((with_reducible refine wpList_yes _ _ rfl ?_ ?_); (focus rfl))); intro _ hk; (first
                      | (have _k := P8; refine opw_clearR _ 30 5 1 (.int .u8 0) rfl Tryd.underlying30 zeroV8 rfl one8 rfl P8.out (fun w9 h9 => hk _ _ ?_); have W1 : Hid (Has st (sep (cacheA p L2 lm) (sep (blk q (.cells (rcells (.slice B2 K2.length d2) lm) 29 (0, 0))) (sep (sep G2 G) R))) w9) := Lib.hid (h9.cast (show _ = (sep (blk y (.cells (rcells (.slice B2 K2.length d2) lm) 29 (0, 0))) (sep (blk ix (.cells (bcells S).toArray 34 (0, 0))) (sep (cacheA p L2 lm) (sep (blk q (.cells (rcells (.slice B2 K2.length d2) lm) 29 (0, 0))) (sep (sep G2 G) R))))) by ac_rfl)).right.right; clear h9)
                      | (have _k := P8; refine opw_eqBool _ _ _ _ ok ok rfl rfl rfl rfl true HOO.out (hk _ _ ?_))
                      | (have _k := P8; refine opw_pickT _ _ _ _ rfl rfl rfl (hk _ _ ?_))
                      | (have _k := P7; refine opw_loadMid 34 _ rfl ix 0 rfl (bcells S) _ Tryd.underlying34 rfl HJS.out P7.out.third HTS.out (hk _ _ ?_))
                      | (have _k := P6; refine opw_storeRow 29 _ _ rfl q (rcells (.slice B2 K2.length d2) lm) rfl rfl 29 (rcells (.slice B n d) lm) infoRC rfl (rc_one _ _ _ _) P6.out (fun w9 h9 => hk _ _ ?_); have P7 := Lib.hid h9; clear h9)
                      | (have _k := P6; refine opw_loadMid 29 _ rfl y 0 rfl (rcells (.slice B2 K2.length d2) lm).toList _ Tryd.underlying29 rfl infoRC P6.out.second rfl (hk _ _ ?_))
                      | (have _k := P3; refine opw_storeRow 29 _ _ rfl y (rcells (.slice B2 K2.length d2) lm) rfl rfl 29 zrc infoRC rfl (rc_one _ _ _ _) P3.out (fun w9 h9 => hk _ _ ?_); have P6 : Hid (Has st (sep (blk q (.cells (rcells (.slice B n d) lm) 29 (0, 0))) (sep (blk y (.cells (rcells (.slice B2 K2.length d2) lm) 29 (0, 0))) (sep (blk ix (.cells (bcells S).toArray 34 (0, 0))) (sep (cacheA p LK lm) (sep (sep G2 G) R))))) w9) := Lib.hid ((h9.cast (show _ = (sep (blk po (.cells OC.toArray 32 (0, 0))) (sep (blk q (.cells (rcells (.slice B n d) lm) 29 (0, 0))) (sep (blk y (.cells (rcells (.slice B2 K2.length d2) lm) 29 (0, 0))) (sep (blk ix (.cells (bcells S).toArray 34 (0, 0))) (sep (cacheA p LK lm) (sep (sep G2 G) R)))))) by ac_rfl)).right); clear h9)
                      | (have _k := P2; refine opw_alloc 29 (.agg zrc) zrc rfl HZC.out rfl P2.out (fun y w9 hp h9 => hk _ _ ?_); clear hp; have P3 := Lib.hid h9; clear h9)
                      | (have _k := D4; refine opw_loadMid 34 _ rfl ix 0 rfl (bcells S) _ Tryd.underlying34 rfl HJS.out D4.out.second HTS.out (hk _ _ ?_))
                      | (have _k := D4; refine opw_loadMid 29 _ rfl q 0 rfl (rcells (.slice B n d) lm).toList _ Tryd.underlying29 rfl infoRC D4.out rfl (hk _ _ ?_))
                      | (refine opw_cmp .eql _ _ _ _ .i64 kd 0 false rfl rfl rfl HE0.out (hk _ _ ?_))
                      | (refine opw_cmp .eql _ _ _ _ .i64 kd 1 false rfl rfl rfl HE1.out (hk _ _ ?_))
                      | (refine opw_cmp .eql _ _ _ _ .i64 kd 2 false rfl rfl rfl HE2.out (hk _ _ ?_))
                      | (refine opw_cmp .eql _ _ _ _ .i64 kd 3 true rfl rfl rfl HE3.out (hk _ _ ?_))); simp only [Act.put, List.setIfInBounds_toArray, List.set_cons_zero, List.set_cons_succ]))
                  go_meet
                  case rel => exact ⟨K2, B2, d2, (sep G2 G), by first | rfl | simp, hl2, ht2, Lib.hid (rs_assoc hr2.out), Lib.hid (by rw [hk2.out]; exact W1.out)⟩
                · have HE3 : Hid (cmpZ .eql kd 3 = some false) := Lib.hid (by simp only [cmpZ]; congr 1; simpa using e3)
                  clear e3
                  by_cases e4 : kd = 4
                  · have HE4 : Hid (cmpZ .eql kd 4 = some true) := Lib.hid (by simp only [cmpZ]; congr 1; simpa using e4)
                    clear e4
                    obtain ⟨L2, hL2⟩ : ∃ L, L = (spoilL S bit LK).1 := ⟨_, rfl⟩
                    obtain ⟨ok, hok⟩ : ∃ L, L = (spoilL S bit LK).2 := ⟨_, rfl⟩
                    have hsp : spoilL S bit LK = (L2, ok) := by rw [hL2, hok]
                    have HRP := Lib.hid (spoilN (st := st) (R := R) (G := G) (lm := lm) (i := i) (d := d) (L2 := L2) (ok := ok) HRS.out HNK.out hKl hKt hi30 HLS.out (bit := bit) (by rw [← HLK.out]; exact hsp))
                    have HPC := Lib.hid (spoilC (st := st) (lim := lm) (L := LK) (L' := L2) (id := S) (bit := bit) (ok := ok) HLS.out hsp (by rw [HLK.out, abs_length, ← HNK.out]; omega) (by rw [HLK.out, abs_tot]; omega))
                    clear hL2 hok hsp
                    go_wp2_with (first
                      | (have _k := P7; go_at_call 18; refine (HPC.out p _ _ (P7.out.cast (show _ = (sep (cacheA p LK lm) (sep (blk q (.cells (rcells (.slice B2 K2.length d2) lm) 29 (0, 0))) (sep (blk ix (.cells (bcells S).toArray 34 (0, 0))) (sep (blk po (.cells OC.toArray 32 (0, 0))) (sep (blk y (.cells (rcells (.slice B2 K2.length d2) lm) 29 (0, 0))) (sep (sep G2 G) R)))))) by ac_rfl))).mono ?_; rintro e w9 ⟨rfl, h9⟩; have W1 : Hid (Has st (sep (cacheA p L2 lm) (sep (blk q (.cells (rcells (.slice B2 K2.length d2) lm) 29 (0, 0))) (sep (sep G2 G) R))) w9) := Lib.hid (h9.cast (show _ = (sep (blk y (.cells (rcells (.slice B2 K2.length d2) lm) 29 (0, 0))) (sep (blk ix (.cells (bcells S).toArray 34 (0, 0))) (sep (blk po (.cells OC.toArray 32 (0, 0))) (sep (cacheA p L2 lm) (sep (blk q (.cells (rcells (.slice B2 K2.length d2) lm) 29 (0, 0))) (sep (sep G2 G) R)))))) by ac_rfl)).right.right.right; clear h9)
                      | (have _k := D4; go_at_call 17; refine (HRP.out _ _ (fun G2 w h => h.second.right.second.right.second.right.second.right) D4.out).mono ?_; rintro e w9 ⟨G2, B2, d2, K2, rfl, hk2, hl2, ht2, h9, hr2⟩; have P2 := Lib.hid h9; clear h9)
                      | ((first | (with_reducible refine wpList_plain rfl ?_) | ((with_reducible refine wpList_yes _ _ rfl ?_ ?_); (focus rfl))); intro _ hk; (first
                        | (have _k := P7; refine opw_load1 3 _ rfl _ Tryd.underlying3 rfl ⟨po, 0 + 1, none⟩ (.int .i64 bit) rfl ((P7.out.third.cell 1).trans HC1.out) (hk _ _ ?_))
                        | (have _k := P7; refine opw_field 32 _ 1 1 rfl (by kernel_rfl) po 0 rfl (hk _ _ ?_))
                        | (have _k := P7; refine opw_loadMid 34 _ rfl ix 0 rfl (bcells S) _ Tryd.underlying34 rfl HJS.out P7.out.second HTS.out (hk _ _ ?_))
                        | (have _k := P6; refine opw_storeRow 29 _ _ rfl q (rcells (.slice B2 K2.length d2) lm) rfl rfl 29 (rcells (.slice B n d) lm) infoRC rfl (rc_one _ _ _ _) P6.out (fun w9 h9 => hk _ _ ?_); have P7 := Lib.hid h9; clear h9)
                        | (have _k := P6; refine opw_loadMid 29 _ rfl y 0 rfl (rcells (.slice B2 K2.length d2) lm).toList _ Tryd.underlying29 rfl infoRC P6.out.fourth rfl (hk _ _ ?_))
                        | (have _k := P3; refine opw_storeRow 29 _ _ rfl y (rcells (.slice B2 K2.length d2) lm) rfl rfl 29 zrc infoRC rfl (rc_one _ _ _ _) P3.out (fun w9 h9 => hk _ _ ?_); have P6 : Hid (Has st (sep (blk q (.cells (rcells (.slice B n d) lm) 29 (0, 0))) (sep (blk ix (.cells (bcells S).toArray 34 (0, 0))) (sep (blk po (.cells OC.toArray 32 (0, 0))) (sep (blk y (.cells (rcells (.slice B2 K2.length d2) lm) 29 (0, 0))) (sep (cacheA p LK lm) (sep (sep G2 G) R)))))) w9) := Lib.hid (h9.cast (show _ = (sep (blk q (.cells (rcells (.slice B n d) lm) 29 (0, 0))) (sep (blk ix (.cells (bcells S).toArray 34 (0, 0))) (sep (blk po (.cells OC.toArray 32 (0, 0))) (sep (blk y (.cells (rcells (.slice B2 K2.length d2) lm) 29 (0, 0))) (sep (cacheA p LK lm) (sep (sep G2 G) R)))))) by ac_rfl)); clear h9)
                        | (have _k := P2; refine opw_alloc 29 (.agg zrc) zrc rfl HZC.out rfl P2.out (fun y w9 hp h9 => hk _ _ ?_); clear hp; have P3 := Lib.hid h9; clear h9)
                        | (have _k := D4; refine opw_load1 3 _ rfl _ Tryd.underlying3 rfl ⟨po, 0 + 1, none⟩ (.int .i64 bit) rfl ((D4.out.third.cell 1).trans HC1.out) (hk _ _ ?_))
                        | (have _k := D4; refine opw_field 32 _ 1 1 rfl (by kernel_rfl) po 0 rfl (hk _ _ ?_))
                        | (have _k := D4; refine opw_loadMid 34 _ rfl ix 0 rfl (bcells S) _ Tryd.underlying34 rfl HJS.out D4.out.second HTS.out (hk _ _ ?_))
                        | (have _k := D4; refine opw_loadMid 29 _ rfl q 0 rfl (rcells (.slice B n d) lm).toList _ Tryd.underlying29 rfl infoRC D4.out rfl (hk _ _ ?_))
                        | (refine opw_cmp .eql _ _ _ _ .i64 kd 0 false rfl rfl rfl HE0.out (hk _ _ ?_))
                        | (refine opw_cmp .eql _ _ _ _ .i64 kd 1 false rfl rfl rfl HE1.out (hk _ _ ?_))
                        | (refine opw_cmp .eql _ _ _ _ .i64 kd 2 false rfl rfl rfl HE2.out (hk _ _ ?_))
                        | (refine opw_cmp .eql _ _ _ _ .i64 kd 3 false rfl rfl rfl HE3.out (hk _ _ ?_))
                        | (refine opw_cmp .eql _ _ _ _ .i64 kd 4 true rfl rfl rfl HE4.out (hk _ _ ?_))); simp only [Act.put, List.setIfInBounds_toArray, List.set_cons_zero, List.set_cons_succ]))
                    go_meet
                    case rel => exact ⟨K2, B2, d2, (sep G2 G), by first | rfl | simp, hl2, ht2, Lib.hid (rs_assoc hr2.out), Lib.hid (by rw [hk2.out]; exact W1.out)⟩
                  · have HE4 : Hid (cmpZ .eql kd 4 = some false) := Lib.hid (by simp only [cmpZ]; congr 1; simpa using e4)
                    clear e4
                    by_cases e5 : kd = 5
                    · have HE5 : Hid (cmpZ .eql kd 5 = some true) := Lib.hid (by simp only [cmpZ]; congr 1; simpa using e5)
                      clear e5
                      have HWC := Lib.hid (wipeC (st := st) (lim := lm) (L := LK))
                      go_wp2_with (first
                        | (have _k := P0; go_at_call 19; refine (HWC.out p _ _ P0.out).mono ?_; rintro e w9 ⟨rfl, h9⟩; have W1 : Hid (Has st (sep (cacheA p [] lm) (sep (blk q (.cells (rcells (.slice none 0 0) lm) 29 (0, 0))) (sep G R))) w9) := Lib.hid (h9.cast (show _ = (sep (blk ix (.cells (bcells S).toArray 34 (0, 0))) (sep (blk po (.cells OC.toArray 32 (0, 0))) (sep (cacheA p [] lm) (sep (blk q (.cells (rcells (.slice none 0 0) lm) 29 (0, 0))) (sep G R))))) by ac_rfl)).right.right; clear h9)
                        | ((first | (with_reducible refine wpList_plain rfl ?_) | ((with_reducible refine wpList_yes _ _ rfl ?_ ?_); (focus rfl))); intro _ hk; (first
                          | (have _k := D4; refine opw_store1 27 _ _ rfl infoSlR q 0 (.slice none 0 0) rfl rfl rfl D4.out (by simp [rcells]) (fun w9 h9 => hk _ _ ?_); have P0 : Hid (Has st (sep (cacheA p LK lm) (sep (blk q (.cells (rcells (.slice none 0 0) lm) 29 (0, 0))) (sep (blk ix (.cells (bcells S).toArray 34 (0, 0))) (sep (blk po (.cells OC.toArray 32 (0, 0))) (sep G R))))) w9) := Lib.hid (Has.cast (show Has st (sep (blk q (.cells (rcells (.slice none 0 0) lm) 29 (0, 0))) (sep (blk ix (.cells (bcells S).toArray 34 (0, 0))) (sep (blk po (.cells OC.toArray 32 (0, 0))) (sep (cacheA p LK lm) (sep G R))))) w9 from h9) (by ac_rfl)); clear h9)
                          | (have _k := D4; refine opw_field 29 _ 0 0 rfl (by kernel_rfl) q 0 rfl (hk _ _ ?_))
                          | (refine opw_cmp .eql _ _ _ _ .i64 kd 0 false rfl rfl rfl HE0.out (hk _ _ ?_))
                          | (refine opw_cmp .eql _ _ _ _ .i64 kd 1 false rfl rfl rfl HE1.out (hk _ _ ?_))
                          | (refine opw_cmp .eql _ _ _ _ .i64 kd 2 false rfl rfl rfl HE2.out (hk _ _ ?_))
                          | (refine opw_cmp .eql _ _ _ _ .i64 kd 3 false rfl rfl rfl HE3.out (hk _ _ ?_))
                          | (refine opw_cmp .eql _ _ _ _ .i64 kd 4 false rfl rfl rfl HE4.out (hk _ _ ?_))
                          | (refine opw_cmp .eql _ _ _ _ .i64 kd 5 true rfl rfl rfl HE5.out (hk _ _ ?_))); simp only [Act.put, List.setIfInBounds_toArray, List.set_cons_zero, List.set_cons_succ]))
                      go_meet
                      case rel => exact ⟨[], none, 0, G, by first | rfl | simp, (by simp), (by simp [tot]), Lib.hid ⟨sees_nilN st _ 33, fun k hk => by simp at hk, fun k hk => by simp at hk⟩, W1⟩
                    · have HE5 : Hid (cmpZ .eql kd 5 = some false) := Lib.hid (by simp only [cmpZ]; congr 1; simpa using e5)
                      clear e5
                      go_wp2_with (first
                        | (fail)
                        | ((first | (with_reducible refine wpList_plain rfl ?_) | ((with_reducible refine wpList_yes _ _ rfl ?_ ?_); (focus rfl))); intro _ hk; (first
                          | (refine opw_cmp .eql _ _ _ _ .i64 kd 0 false rfl rfl rfl HE0.out (hk _ _ ?_))
                          | (refine opw_cmp .eql _ _ _ _ .i64 kd 1 false rfl rfl rfl HE1.out (hk _ _ ?_))
                          | (refine opw_cmp .eql _ _ _ _ .i64 kd 2 false rfl rfl rfl HE2.out (hk _ _ ?_))
                          | (refine opw_cmp .eql _ _ _ _ .i64 kd 3 false rfl rfl rfl HE3.out (hk _ _ ?_))
                          | (refine opw_cmp .eql _ _ _ _ .i64 kd 4 false rfl rfl rfl HE4.out (hk _ _ ?_))
                          | (refine opw_cmp .eql _ _ _ _ .i64 kd 5 false rfl rfl rfl HE5.out (hk _ _ ?_))); simp only [Act.put, List.setIfInBounds_toArray, List.set_cons_zero, List.set_cons_succ]))
                      go_meet
                      case rel => exact ⟨K, B, d, G, by first | rfl | simp, (by rw [← HNK.out]; omega), (by omega), (by rw [← HNK.out]; exact HRS), Lib.hid (by rw [← HLK.out, ← HNK.out]; exact (D4.out.cast (show _ = (sep (blk ix (.cells (bcells S).toArray 34 (0, 0))) (sep (blk po (.cells OC.toArray 32 (0, 0))) (sep (cacheA p LK lm) (sep (blk q (.cells (rcells (.slice B n d) lm) 29 (0, 0))) (sep G R))))) by ac_rfl)).right.right)⟩
        case rest =>
          obtain ⟨K1, B1, d1, G1, rfl, hl1, ht1, HR1, HC1⟩ := hcut
          clear D4 HRS HNK HLK HC0 HC2 HS HSB HLS
          obtain ⟨T, hT⟩ : ∃ T, T = K1.map (·.id) := ⟨_, rfl⟩
          have hTl : K1.length = T.length := by rw [hT, List.length_map]
          obtain ⟨L1, hL1⟩ : ∃ L, L = absK K1 := ⟨_, rfl⟩
          rw [← hL1] at HC1
          rw [hTl] at HC1 HR1 hl1
          have HT32 : Hid (∀ x ∈ T, x.length = 32) := Lib.hid (by
            rw [hT]; intro x hx
            obtain ⟨k, hk, rfl⟩ := List.mem_map.1 hx
            exact (HR1.out.ok k hk).1)
          have HTT := Lib.hid hT
          have HTl := Lib.hid hTl
          have HL1 := Lib.hid hL1
          have hT31 : T.length ≤ 30 := by omega
          have HID2 : Hid ((Tryd.prog.info? 34).map (fun i => (i.zero, i.size)) = some (some (.agg Z), 32)) := Lib.hid (by rw [HZZ.out]; exact infoID2)
          have HID3 : Hid ((Tryd.prog.info? 34).map (fun i => (i.zero, i.size, i.bytes)) = some (some (.agg Z), 32, 32)) := Lib.hid (by rw [HZZ.out]; exact infoID3)
          have HZ32 : Hid ((Value.agg Z).cells.size = 32) := Lib.hid (by rw [HZZ.out]; simp [Value.cells, bcells_length])
          clear hT hTl hL1
          go_wp2_with (first
            | (fail)
            | ((first | (with_reducible refine wpList_plain rfl ?_) | ((with_reducible refine wpList_yes _ _ rfl ?_ ?_); (focus rfl))); intro _ hk; (first
              | (have _k := T0; refine opw_load1 27 _ rfl _ Tryd.underlying27 rfl ⟨q, 0 + 0, none⟩ (.slice B1 T.length d1) rfl ((T0.out.third.cell 0).trans rfl) (hk _ _ ?_))
              | (have _k := T0; refine opw_field 29 _ 0 0 rfl (by kernel_rfl) q 0 rfl (hk _ _ ?_))
              | (have _k := HC1; refine opw_row0 46 34 32 rfl Tryd.underlying46 infoID HC1.out (fun v0 w9 h9 => hk _ _ ?_); obtain ⟨A0, c0, rfl⟩ := h9.row_slice; have T0 := Lib.hid h9; clear h9)); simp only [Act.put, List.setIfInBounds_toArray, List.set_cons_zero, List.set_cons_succ]))
          go_loopw [23, 121] (fun v23 v121 wr => IdsRel st (sep (cacheA p L1 lm) (sep (blk q (.cells (rcells (.slice B1 T.length d1) lm) 29 (0, 0))) (sep G1 R))) T v23 v121 wr) (fun _ v121 _ => T.length - (intOf v121).toNat)
          case atStart => exact ⟨0, A0, c0, Nat.zero_le _, rfl, rfl, T0⟩
          case round =>
            obtain ⟨j, A, c, hj, rfl, rfl, HC⟩ := hrel
            clear T0 HC1
            by_cases hjl : j < T.length
            · have hj' : j < K1.length := by rw [HTl.out]; exact hjl
              have hkk : K1[j].ok := HR1.out.ok _ (List.getElem_mem hj')
              obtain ⟨g1, off1, rfl, hcell⟩ := ((show Sees st _ 33 (.slice B1 T.length d1) T.length (kcs K1) by have := HR1.out.row; rwa [HTl.out] at this) wr HC.out.right.right.right).at (by omega)
              obtain ⟨Y, hY⟩ : ∃ Y, Y = kc K1[j] := ⟨_, rfl⟩
              obtain ⟨X, hX⟩ : ∃ X, X = K1[j].id := ⟨_, rfl⟩
              have HRG : Hid (wr.rangeAt g1 (off1 + j * 33) Y) := Lib.hid fun k u hu => by
                rw [Nat.add_assoc]; exact hcell _ u (kcs_cell HR1.out.ok hj' (by rw [← hY]; exact hu))
              have hX32 : X.length = 32 := by rw [hX]; exact hkk.1
              have HYL := Lib.hid (show Y.length = 33 by rw [hY, kc_length hkk])
              have HY1 := Lib.hid (show ∀ u ∈ Y, u.oneCell' = true by rw [hY]; exact kc_one hkk)
              have HYT : Hid ((Y.toArray.toList.drop 0).take (bcells X).length = bcells X) := Lib.hid (by rw [hY, kc, ← hX]; simp)
              have HXL : Hid ((bcells X).length = 32) := Lib.hid (by rw [bcells_length, hX32])
              have HJX : Hid ((Tryd.prog.info? 34).map (·.size) = some (bcells X).length) := Lib.hid (by rw [HXL.out]; exact infoID)
              have HIX : Hid (idsC (T.take j) ++ bcells X = idsC (T.take (j + 1))) := Lib.hid (by
                have : T[j] = X := by rw [hX]; simp [HTT.out]
                rw [List.take_succ_eq_append_getElem hjl, this]; simp [idsC])
              obtain ⟨ZK, hZK⟩ : ∃ ZK, ZK = zeroKc.toArray := ⟨_, rfl⟩
              have HKI : Hid ((Tryd.prog.info? 48).map (·.zero) = some (some (.agg ZK))) := Lib.hid (by rw [hZK]; exact infoRKz)
              have HZ33 : Hid (ZK.size = 33) := Lib.hid (by rw [hZK]; rfl)
              clear hkk hcell hY hX hX32 hZK hj'
              go_wp2_with (first
                | (fail)
                | ((first | (with_reducible refine wpList_plain rfl ?_) | ((with_reducible refine wpList_yes _ _ rfl ?_ ?_); (focus rfl))); intro _ hk; (first
                  | (have _k := U2; refine op_append _ _ 46 34 32 32 (.agg Z) rfl Tryd.underlying46 HID3.out HZ32.out (by decide) rfl rfl U2.out.third (sees_row st _ 32 _ _ _ _ _ U2.out) (bcells_one X) (by unfold maxLen; omega) (by omega) (fun A9 c9 w9 h9 => hk _ _ ?_); rw [HIX.out] at h9; have U3 := Lib.hid h9.second.right.second.right; clear h9)
                  | (have _k := U1; refine opw_row1 46 34 32 (.agg Z) _ (.agg (bcells X).toArray) (bcells X) rfl Tryd.underlying46 HID2.out HZ32.out (by decide) (by decide) rfl rfl HXL.out U1.out (fun v9 w9 h9 => hk _ _ ?_); have U2 := Lib.hid h9; clear h9)
                  | (have _k := U1; refine opw_loadMid 34 _ rfl kq (0 + 0) rfl (bcells X) _ Tryd.underlying34 rfl HJX.out U1.out HYT.out (hk _ _ ?_))
                  | (have _k := U1; refine opw_field 48 _ 0 0 rfl (by kernel_rfl) kq 0 rfl (hk _ _ ?_))
                  | (have _k := U0; refine opw_storeRow 48 _ _ rfl kq Y.toArray rfl rfl 48 ZK (by simp only [List.size_toArray, HYL.out]; exact infoR) (by simp only [List.size_toArray, HYL.out]; exact HZ33.out) (all_one HY1.out) U0.out (fun w4 h4 => hk _ _ ?_); have U1 := Lib.hid h4; clear h4)
                  | (have _k := HC; refine opw_alloc 48 (.agg ZK) ZK rfl HKI.out rfl HC.out (fun kq w3 hp h3 => hk _ _ ?_); clear hp; have U0 := Lib.hid h3; clear h3)
                  | (have _k := HC; refine wp_load_mid _ _ rfl g1 (off1 + j * 33) rfl Y _ HRG.out Tryd.underlying48 rfl (by rw [HYL.out]; exact infoR) (hk _ _ ?_))
                  | (have _k := HC; refine opw_indexN 27 48 33 _ _ rfl Tryd.underlying27 infoR g1 off1 T.length d1 j rfl .i64 rfl hjl (hk _ _ ?_))); simp only [Act.put, List.setIfInBounds_toArray, List.set_cons_zero, List.set_cons_succ]))
              go_roundw
              case rel => exact ⟨j + 1, A9, c9, by omega, rfl, by go_num, U3⟩
              case measure => simp [intOf]; omega
            · have hje : j = T.length := by omega
              subst hje
              rw [List.take_length] at HC
              obtain ⟨m3, hm3⟩ : ∃ m : Nat, most % 4 = (m : Int) := ⟨(most % 4).toNat, by omega⟩
              have HM3 : Hid (bits .and .i64 most 3 = (m3 : Int)) := Lib.hid ((i64_and_mask most 2 (by decide)).trans hm3)
              obtain ⟨T3, hT3⟩ : ∃ T3, T3 = topL L1 (m3 : Int) := ⟨_, rfl⟩
              have hLl : L1.length = T.length := by rw [HL1.out, abs_length, HTl.out]
              have hT3l : T3.length = min m3 T.length := by rw [hT3, topL_len, hLl]
              have HAL := Lib.hid (allC (st := st) (lim := lm) (L := L1) (most := 1000) (T := T) (by rw [topL_all L1 (by omega), HL1.out, abs_ids, HTT.out]) (by omega))
              have HA3 := Lib.hid (allC (st := st) (lim := lm) (L := L1) (most := (m3 : Int)) (T := T3) hT3 (by omega))
              obtain ⟨SZ, hSZ⟩ : ∃ n, n = tot K1 := ⟨_, rfl⟩
              have HLN : Hid (∀ X Y w, Has st (sep X (sep Y (sep (row 34 32 (.slice A T.length c) T.length (idsC T)) (sep (cacheA p L1 lm) (sep (blk q (.cells (rcells (.slice B1 T.length d1) lm) 29 (0, 0))) (sep G1 R)))))) w → Calls Tryd.prog 22 #[.pointer (some ⟨p, 0, none⟩)] w fun e w' => e = .returned (.int .i64 ((T.length : Nat) : Int)) ∧ Has st (sep X (sep Y (sep (row 34 32 (.slice A T.length c) T.length (idsC T)) (sep (cacheA p L1 lm) (sep (blk q (.cells (rcells (.slice B1 T.length d1) lm) 29 (0, 0))) (sep G1 R)))))) w') := Lib.hid fun X Y w hw =>
                (lenC (st := st) (lim := lm) (L := L1) (n := T.length) hLl.symm p (sep X (sep Y (sep (row 34 32 (.slice A T.length c) T.length (idsC T)) (sep (blk q (.cells (rcells (.slice B1 T.length d1) lm) 29 (0, 0))) (sep G1 R))))) w (hw.cast (by ac_rfl))).mono fun e w' h' => ⟨h'.1, h'.2.cast (by ac_rfl)⟩
              have HSZ : Hid (∀ X Y w, Has st (sep X (sep Y (sep (row 34 32 (.slice A T.length c) T.length (idsC T)) (sep (cacheA p L1 lm) (sep (blk q (.cells (rcells (.slice B1 T.length d1) lm) 29 (0, 0))) (sep G1 R)))))) w → Calls Tryd.prog 23 #[.pointer (some ⟨p, 0, none⟩)] w fun e w' => e = .returned (.int .i64 ((SZ : Nat) : Int)) ∧ Has st (sep X (sep Y (sep (row 34 32 (.slice A T.length c) T.length (idsC T)) (sep (cacheA p L1 lm) (sep (blk q (.cells (rcells (.slice B1 T.length d1) lm) 29 (0, 0))) (sep G1 R)))))) w') := Lib.hid fun X Y w hw =>
                (sizeC (st := st) (lim := lm) (L := L1) (n := SZ) (by rw [hSZ, HL1.out, abs_tot]) p (sep X (sep Y (sep (row 34 32 (.slice A T.length c) T.length (idsC T)) (sep (blk q (.cells (rcells (.slice B1 T.length d1) lm) 29 (0, 0))) (sep G1 R))))) w (hw.cast (by ac_rfl))).mono fun e w' h' => ⟨h'.1, h'.2.cast (by ac_rfl)⟩
              have HRZ : Hid (∀ X Y w, Has st (sep X (sep Y (sep (row 34 32 (.slice A T.length c) T.length (idsC T)) (sep (cacheA p L1 lm) (sep (blk q (.cells (rcells (.slice B1 T.length d1) lm) 29 (0, 0))) (sep G1 R)))))) w → Calls Tryd.prog 24 #[.agg (rcells (.slice B1 T.length d1) lm)] w fun e w' => e = .returned (.int .i64 ((SZ : Nat) : Int)) ∧ Has st (sep X (sep Y (sep (row 34 32 (.slice A T.length c) T.length (idsC T)) (sep (cacheA p L1 lm) (sep (blk q (.cells (rcells (.slice B1 T.length d1) lm) 29 (0, 0))) (sep G1 R)))))) w') := Lib.hid fun X Y w hw => by
                rw [hSZ]; exact rsize_any st _ _ K1 lm (HR1.out.widen fun w h => h.right.right.right.right.right) (by rw [HTl.out]; omega) (by omega) w hw
              have HN1 : Hid (cmpZ .neq ((T.length : Nat) : Int) ((T.length : Nat) : Int) = some false) := Lib.hid (by simp [cmpZ])
              have HN2 : Hid (cmpZ .neq ((SZ : Nat) : Int) ((SZ : Nat) : Int) = some false) := Lib.hid (by simp [cmpZ])
              have HN3 : Hid (cmpZ .neq ((T3.length : Nat) : Int) ((T3.length : Nat) : Int) = some false) := Lib.hid (by simp [cmpZ])
              have HMN : Hid (min (m3 : Int) ((T.length : Nat) : Int) = ((T3.length : Nat) : Int)) := Lib.hid (by rw [hT3l]; omega)
              have HTL : Hid (T.length ≤ 1000000) := Lib.hid (by omega)
              clear hm3 hT3 hLl hT3l hSZ
              go_wp2_with fail
              refine wp_region_inv3 (fun L u w' => Slots (fun kk => ([some (.bool true), some (.bool false), some (.bool false), some (.pointer (some ⟨p, 0, none⟩)), none, some (.slice A T.length c), some (.bool true), some (.bool false), some (.bool false), some (.bool false), some (.pointer (some ⟨p, 0, none⟩)), some (.int .i64 ((T.length : Nat) : Int)), some (.slice A T.length c), some (.int .i64 ((T.length : Nat) : Int)), some (.bool false), some (.bool false), some (.bool false), some (.pointer (some ⟨p, 0, none⟩)), some (.int .i64 ((SZ : Nat) : Int)), some (.agg (rcells (.slice B1 T.length d1) lm)), some (.int .i64 ((SZ : Nat) : Int)), some (.bool false), some (.bool false), some (.bool false), some (.pointer (some ⟨p, 0, none⟩)), some (.int .i64 most), some (.int .i64 ((m3 : Nat) : Int)), none, some (.int .i64 ((T3.length : Nat) : Int)), some (.int .i64 most), some (.int .i64 ((m3 : Nat) : Int)), some (.slice A T.length c), some (.int .i64 ((T.length : Nat) : Int)), some (.int .i64 ((T3.length : Nat) : Int)), some (.bool false), some (.bool false)] : List (Option Value)).getD kk none) L u ∧ Has st (sep (stg (L 4) (row 34 32 (u 4) T.length (idsC T)) emp) (sep (stg (L 27) (row 34 32 (u 27) T3.length (idsC T3)) emp) (sep (row 34 32 (.slice A T.length c) T.length (idsC T)) (sep (cacheA p L1 lm) (sep (blk q (.cells (rcells (.slice B1 T.length d1) lm) 29 (0, 0))) (sep G1 R)))))) w') (by kernel_rfl) (by decide +kernel) (by decide +kernel) (by kernel_rfl) (by kernel_rfl) (fun u => ⟨Slots.start _ u, (show Has st (sep (stg false (row 34 32 (u 4) T.length (idsC T)) emp) (sep (stg false (row 34 32 (u 27) T3.length (idsC T3)) emp) (sep (row 34 32 (.slice A T.length c) T.length (idsC T)) (sep (cacheA p L1 lm) (sep (blk q (.cells (rcells (.slice B1 T.length d1) lm) 29 (0, 0))) (sep G1 R)))))) _ from HC.out.drew.cast (by first | (simp only [stg_no, emp_sep]; done) | (simp only [stg_no, emp_sep]; ac_rfl)))⟩) ?_ ?_
              · refine ⟨?_, ?_, ?_, ?_, ?_, ?_, ?_, ?_, ?_, ?_, ?_, ?_, ?_, ?_, ?_, ?_, ?_, ?_, ?_, ?_, ?_, ?_, ?_, ?_, ?_, ?_, ?_, ?_, ?_, ?_, ?_, ?_, ?_, ?_, ?_, ?_, trivial⟩
                · refine RegStep3.plain rfl ?_; rintro L u w1 bA hL hW hD hU ⟨hS, hH⟩ hin hout; exact opw_move _ _ (.inl rfl) ((hout 12 (by kernel_rfl)).trans (by kernel_rfl)) ⟨_, rfl, hS.step 0 _ (.inr rfl), hH⟩
                · refine RegStep3.plain rfl ?_; rintro L u w1 bA hL hW hD hU ⟨hS, hH⟩ hin hout; exact opw_not _ _ _ rfl ((hin 0 131 rfl).trans (hS 0 _ rfl (hW.of 0 (by decide)))) false rfl ⟨_, rfl, hS.step 1 _ (.inr rfl), hH⟩
                · refine RegStep3.plain rfl ?_; rintro L u w1 bA hL hW hD hU ⟨hS, hH⟩ hin hout; exact opw_move _ _ (.inl rfl) ((hin 1 132 rfl).trans (hS 1 _ rfl (hW.of 1 (by decide)))) ⟨_, rfl, hS.step 2 _ (.inr rfl), hH⟩
                · refine RegStep3.yes 2 false rfl (fun L u w1 hW hI => hI.1 2 _ rfl (hW.of 2 (by decide))) ?_; rintro L u w1 bA hL hW hD hU ⟨hS, hH⟩ hin hout; exact opw_move _ _ (.inl rfl) ((hout 7 (by kernel_rfl)).trans (by kernel_rfl)) ⟨_, rfl, hS.step 3 _ (.inr rfl), hH⟩
                · refine RegStep3.yes 2 false rfl (fun L u w1 hW hI => hI.1 2 _ rfl (hW.of 2 (by decide))) ?_; rintro L u w1 bA hL hW hD hU ⟨hS, hH⟩ hin hout; exact opw_call_ret _ _ _ [.pointer (some ⟨p, 0, none⟩), .int .i64 1000] rfl (by kernel_rfl) (list2 ((hin 3 134 rfl).trans (hS 3 _ rfl (hW.of 3 (by decide)))) (list2 rfl rfl)) (HAL.out p _ w1 (hH.cast (show _ = (sep (cacheA p L1 lm) (sep (stg (L 4) (row 34 32 (u 4) T.length (idsC T)) emp) (sep (stg (L 27) (row 34 32 (u 27) T3.length (idsC T3)) emp) (sep (row 34 32 (.slice A T.length c) T.length (idsC T)) (sep (blk q (.cells (rcells (.slice B1 T.length d1) lm) 29 (0, 0))) (sep G1 R)))))) by ac_rfl))) (fun e w2 he => by obtain ⟨A8, c8, rfl, h8⟩ := he; exact ⟨_, rfl, _, rfl, hS.step 4 _ (.inl rfl), (show Has st (sep (stg true (row 34 32 (.slice A8 T.length c8) T.length (idsC T)) emp) (sep (stg (L 27) (row 34 32 (u 27) T3.length (idsC T3)) emp) (sep (row 34 32 (.slice A T.length c) T.length (idsC T)) (sep (cacheA p L1 lm) (sep (blk q (.cells (rcells (.slice B1 T.length d1) lm) 29 (0, 0))) (sep G1 R)))))) w2 from h8.cast (by simp only [stg_off hL, stg_true, emp_sep]; ac_rfl))⟩)
                · refine RegStep3.yes 2 false rfl (fun L u w1 hW hI => hI.1 2 _ rfl (hW.of 2 (by decide))) ?_; rintro L u w1 bA hL hW hD hU ⟨hS, hH⟩ hin hout; exact opw_move _ _ (.inl rfl) ((hout 23 (by kernel_rfl)).trans (by kernel_rfl)) ⟨_, rfl, hS.step 5 _ (.inr rfl), hH⟩
                · refine RegStep3.yes 2 false rfl (fun L u w1 hW hI => hI.1 2 _ rfl (hW.of 2 (by decide))) ?_; rintro L u w1 bA hL hW hD hU ⟨hS, hH⟩ hin hout; obtain ⟨A8, c8, e8⟩ := ((hH.stg_yes (hW.far (i := 6) hD rfl 36 4 (by decide +kernel)))).row_slice; exact opw_call_ret _ _ _ [.slice A8 T.length c8, .slice A T.length c] rfl (by kernel_rfl) (list2 ((hin 4 135 rfl).trans e8) (list2 ((hin 5 136 rfl).trans (hS 5 _ rfl (hW.of 5 (by decide)))) rfl)) (sameIDs_any st _ T HT32.out HTL.out A8 c8 A c (fun w h => by have q := Rd.of_row ((h.stg_yes (hW.far (i := 6) hD rfl 36 4 (by decide +kernel)))).ownsRow; rw [e8] at q; exact q) (fun w h => Rd.of_row h.right.right.ownsRow) w1 hH) (fun e w2 he => by obtain ⟨rfl, h2⟩ := he; exact ⟨_, rfl, _, rfl, hS.step 6 _ (.inr rfl), h2⟩)
                · refine RegStep3.yes 2 false rfl (fun L u w1 hW hI => hI.1 2 _ rfl (hW.of 2 (by decide))) ?_; rintro L u w1 bA hL hW hD hU ⟨hS, hH⟩ hin hout; exact opw_not _ _ _ rfl ((hin 6 137 rfl).trans (hS 6 _ rfl (hW.of 6 (by decide)))) false rfl ⟨_, rfl, hS.step 7 _ (.inr rfl), hH⟩
                · refine RegStep3.plain rfl ?_; rintro L u w1 bA hL hW hD hU ⟨hS, hH⟩ hin hout; exact opw_pickF _ _ _ _ rfl ((hin 2 133 rfl).trans (hS 2 _ rfl (hW.of 2 (by decide)))) ((hin 7 138 rfl).trans (hS 7 _ rfl (hW.of 7 (by decide)))) ⟨_, rfl, hS.step 8 _ (.inr rfl), hH⟩
                · refine RegStep3.plain rfl ?_; rintro L u w1 bA hL hW hD hU ⟨hS, hH⟩ hin hout; exact opw_move _ _ (.inl rfl) ((hin 8 139 rfl).trans (hS 8 _ rfl (hW.of 8 (by decide)))) ⟨_, rfl, hS.step 9 _ (.inr rfl), hH⟩
                · refine RegStep3.yes 9 false rfl (fun L u w1 hW hI => hI.1 9 _ rfl (hW.of 9 (by decide))) ?_; rintro L u w1 bA hL hW hD hU ⟨hS, hH⟩ hin hout; exact opw_move _ _ (.inl rfl) ((hout 7 (by kernel_rfl)).trans (by kernel_rfl)) ⟨_, rfl, hS.step 10 _ (.inr rfl), hH⟩
                · refine RegStep3.yes 9 false rfl (fun L u w1 hW hI => hI.1 9 _ rfl (hW.of 9 (by decide))) ?_; rintro L u w1 bA hL hW hD hU ⟨hS, hH⟩ hin hout; exact opw_call_ret _ _ _ [(.pointer (some ⟨p, 0, none⟩))] rfl (by kernel_rfl) (list2 ((hin 10 141 rfl).trans (hS 10 _ rfl (hW.of 10 (by decide)))) rfl) (HLN.out _ _ _ hH) (fun e w2 he => by obtain ⟨rfl, h2⟩ := he; exact ⟨_, rfl, _, rfl, hS.step 11 _ (.inr rfl), h2⟩)
                · refine RegStep3.yes 9 false rfl (fun L u w1 hW hI => hI.1 9 _ rfl (hW.of 9 (by decide))) ?_; rintro L u w1 bA hL hW hD hU ⟨hS, hH⟩ hin hout; exact opw_move _ _ (.inl rfl) ((hout 23 (by kernel_rfl)).trans (by kernel_rfl)) ⟨_, rfl, hS.step 12 _ (.inr rfl), hH⟩
                · refine RegStep3.yes 9 false rfl (fun L u w1 hW hI => hI.1 9 _ rfl (hW.of 9 (by decide))) ?_; rintro L u w1 bA hL hW hD hU ⟨hS, hH⟩ hin hout; exact opw_len _ _ _ Tryd.underlying46 A (T.length) c rfl ((hin 12 143 rfl).trans (hS 12 _ rfl (hW.of 12 (by decide)))) ⟨_, rfl, hS.step 13 _ (.inr rfl), hH⟩
                · refine RegStep3.yes 9 false rfl (fun L u w1 hW hI => hI.1 9 _ rfl (hW.of 9 (by decide))) ?_; rintro L u w1 bA hL hW hD hU ⟨hS, hH⟩ hin hout; exact opw_cmp .neq _ _ _ _ .i64 _ _ false rfl ((hin 11 142 rfl).trans (hS 11 _ rfl (hW.of 11 (by decide)))) ((hin 13 144 rfl).trans (hS 13 _ rfl (hW.of 13 (by decide)))) HN1.out ⟨_, rfl, hS.step 14 _ (.inr rfl), hH⟩
                · refine RegStep3.plain rfl ?_; rintro L u w1 bA hL hW hD hU ⟨hS, hH⟩ hin hout; exact opw_pickF _ _ _ _ rfl ((hin 9 140 rfl).trans (hS 9 _ rfl (hW.of 9 (by decide)))) ((hin 14 145 rfl).trans (hS 14 _ rfl (hW.of 14 (by decide)))) ⟨_, rfl, hS.step 15 _ (.inr rfl), hH⟩
                · refine RegStep3.plain rfl ?_; rintro L u w1 bA hL hW hD hU ⟨hS, hH⟩ hin hout; exact opw_move _ _ (.inl rfl) ((hin 15 146 rfl).trans (hS 15 _ rfl (hW.of 15 (by decide)))) ⟨_, rfl, hS.step 16 _ (.inr rfl), hH⟩
                · refine RegStep3.yes 16 false rfl (fun L u w1 hW hI => hI.1 16 _ rfl (hW.of 16 (by decide))) ?_; rintro L u w1 bA hL hW hD hU ⟨hS, hH⟩ hin hout; exact opw_move _ _ (.inl rfl) ((hout 7 (by kernel_rfl)).trans (by kernel_rfl)) ⟨_, rfl, hS.step 17 _ (.inr rfl), hH⟩
                · refine RegStep3.yes 16 false rfl (fun L u w1 hW hI => hI.1 16 _ rfl (hW.of 16 (by decide))) ?_; rintro L u w1 bA hL hW hD hU ⟨hS, hH⟩ hin hout; exact opw_call_ret _ _ _ [(.pointer (some ⟨p, 0, none⟩))] rfl (by kernel_rfl) (list2 ((hin 17 148 rfl).trans (hS 17 _ rfl (hW.of 17 (by decide)))) rfl) (HSZ.out _ _ _ hH) (fun e w2 he => by obtain ⟨rfl, h2⟩ := he; exact ⟨_, rfl, _, rfl, hS.step 18 _ (.inr rfl), h2⟩)
                · refine RegStep3.yes 16 false rfl (fun L u w1 hW hI => hI.1 16 _ rfl (hW.of 16 (by decide))) ?_; rintro L u w1 bA hL hW hD hU ⟨hS, hH⟩ hin hout; exact opw_loadMid _ _ rfl q (0) ((hout 8 (by kernel_rfl)).trans (by kernel_rfl)) (rcells (.slice B1 T.length d1) lm).toList _ Tryd.underlying29 rfl infoRC ((hH.right.right)).third rfl ⟨_, rfl, hS.step 19 _ (.inr rfl), hH⟩
                · refine RegStep3.yes 16 false rfl (fun L u w1 hW hI => hI.1 16 _ rfl (hW.of 16 (by decide))) ?_; rintro L u w1 bA hL hW hD hU ⟨hS, hH⟩ hin hout; exact opw_call_ret _ _ _ [(.agg (rcells (.slice B1 T.length d1) lm))] rfl (by kernel_rfl) (list2 ((hin 19 150 rfl).trans (hS 19 _ rfl (hW.of 19 (by decide)))) rfl) (HRZ.out _ _ _ hH) (fun e w2 he => by obtain ⟨rfl, h2⟩ := he; exact ⟨_, rfl, _, rfl, hS.step 20 _ (.inr rfl), h2⟩)
                · refine RegStep3.yes 16 false rfl (fun L u w1 hW hI => hI.1 16 _ rfl (hW.of 16 (by decide))) ?_; rintro L u w1 bA hL hW hD hU ⟨hS, hH⟩ hin hout; exact opw_cmp .neq _ _ _ _ .i64 _ _ false rfl ((hin 18 149 rfl).trans (hS 18 _ rfl (hW.of 18 (by decide)))) ((hin 20 151 rfl).trans (hS 20 _ rfl (hW.of 20 (by decide)))) HN2.out ⟨_, rfl, hS.step 21 _ (.inr rfl), hH⟩
                · refine RegStep3.plain rfl ?_; rintro L u w1 bA hL hW hD hU ⟨hS, hH⟩ hin hout; exact opw_pickF _ _ _ _ rfl ((hin 16 147 rfl).trans (hS 16 _ rfl (hW.of 16 (by decide)))) ((hin 21 152 rfl).trans (hS 21 _ rfl (hW.of 21 (by decide)))) ⟨_, rfl, hS.step 22 _ (.inr rfl), hH⟩
                · refine RegStep3.plain rfl ?_; rintro L u w1 bA hL hW hD hU ⟨hS, hH⟩ hin hout; exact opw_move _ _ (.inl rfl) ((hin 22 153 rfl).trans (hS 22 _ rfl (hW.of 22 (by decide)))) ⟨_, rfl, hS.step 23 _ (.inr rfl), hH⟩
                · refine RegStep3.yes 23 false rfl (fun L u w1 hW hI => hI.1 23 _ rfl (hW.of 23 (by decide))) ?_; rintro L u w1 bA hL hW hD hU ⟨hS, hH⟩ hin hout; exact opw_move _ _ (.inl rfl) ((hout 7 (by kernel_rfl)).trans (by kernel_rfl)) ⟨_, rfl, hS.step 24 _ (.inr rfl), hH⟩
                · refine RegStep3.yes 23 false rfl (fun L u w1 hW hI => hI.1 23 _ rfl (hW.of 23 (by decide))) ?_; rintro L u w1 bA hL hW hD hU ⟨hS, hH⟩ hin hout; exact opw_move _ _ (.inl rfl) ((hout 2 (by kernel_rfl)).trans (by kernel_rfl)) ⟨_, rfl, hS.step 25 _ (.inr rfl), hH⟩
                · refine RegStep3.yes 23 false rfl (fun L u w1 hW hI => hI.1 23 _ rfl (hW.of 23 (by decide))) ?_; rintro L u w1 bA hL hW hD hU ⟨hS, hH⟩ hin hout; exact opw_bits .and _ _ _ _ .i64 _ _ _ (.inl rfl) rfl ((hin 25 156 rfl).trans (hS 25 _ rfl (hW.of 25 (by decide)))) rfl HM3.out ⟨_, rfl, hS.step 26 _ (.inr rfl), hH⟩
                · refine RegStep3.yes 23 false rfl (fun L u w1 hW hI => hI.1 23 _ rfl (hW.of 23 (by decide))) ?_; rintro L u w1 bA hL hW hD hU ⟨hS, hH⟩ hin hout; exact opw_call_ret _ _ _ [.pointer (some ⟨p, 0, none⟩), .int .i64 (m3 : Int)] rfl (by kernel_rfl) (list2 ((hin 24 155 rfl).trans (hS 24 _ rfl (hW.of 24 (by decide)))) (list2 ((hin 26 157 rfl).trans (hS 26 _ rfl (hW.of 26 (by decide)))) rfl)) (HA3.out p _ w1 (hH.cast (show _ = (sep (cacheA p L1 lm) (sep (stg (L 4) (row 34 32 (u 4) T.length (idsC T)) emp) (sep (stg (L 27) (row 34 32 (u 27) T3.length (idsC T3)) emp) (sep (row 34 32 (.slice A T.length c) T.length (idsC T)) (sep (blk q (.cells (rcells (.slice B1 T.length d1) lm) 29 (0, 0))) (sep G1 R)))))) by ac_rfl))) (fun e w2 he => by obtain ⟨A8, c8, rfl, h8⟩ := he; exact ⟨_, rfl, _, rfl, hS.step 27 _ (.inl rfl), (show Has st (sep (stg (L 4) (row 34 32 (u 4) T.length (idsC T)) emp) (sep (stg true (row 34 32 (.slice A8 T3.length c8) T3.length (idsC T3)) emp) (sep (row 34 32 (.slice A T.length c) T.length (idsC T)) (sep (cacheA p L1 lm) (sep (blk q (.cells (rcells (.slice B1 T.length d1) lm) 29 (0, 0))) (sep G1 R)))))) w2 from h8.cast (by simp only [stg_off hL, stg_true, emp_sep]; ac_rfl))⟩)
                · refine RegStep3.yes 23 false rfl (fun L u w1 hW hI => hI.1 23 _ rfl (hW.of 23 (by decide))) ?_; rintro L u w1 bA hL hW hD hU ⟨hS, hH⟩ hin hout; obtain ⟨A8, c8, e8⟩ := (((hH.cast (show _ = sep (stg (L 27) (row 34 32 (u 27) T3.length (idsC T3)) emp) (sep (stg (L 4) (row 34 32 (u 4) T.length (idsC T)) emp) (sep (row 34 32 (.slice A T.length c) T.length (idsC T)) (sep (cacheA p L1 lm) (sep (blk q (.cells (rcells (.slice B1 T.length d1) lm) 29 (0, 0))) (sep G1 R))))) by ac_rfl)).stg_yes (hW.far (i := 28) hD rfl 36 27 (by decide +kernel)))).row_slice; exact opw_len _ _ _ Tryd.underlying46 A8 T3.length c8 rfl ((hin 27 158 rfl).trans e8) ⟨_, rfl, hS.step 28 _ (.inr rfl), hH⟩
                · refine RegStep3.yes 23 false rfl (fun L u w1 hW hI => hI.1 23 _ rfl (hW.of 23 (by decide))) ?_; rintro L u w1 bA hL hW hD hU ⟨hS, hH⟩ hin hout; exact opw_move _ _ (.inl rfl) ((hout 2 (by kernel_rfl)).trans (by kernel_rfl)) ⟨_, rfl, hS.step 29 _ (.inr rfl), hH⟩
                · refine RegStep3.yes 23 false rfl (fun L u w1 hW hI => hI.1 23 _ rfl (hW.of 23 (by decide))) ?_; rintro L u w1 bA hL hW hD hU ⟨hS, hH⟩ hin hout; exact opw_bits .and _ _ _ _ .i64 _ _ _ (.inl rfl) rfl ((hin 29 160 rfl).trans (hS 29 _ rfl (hW.of 29 (by decide)))) rfl HM3.out ⟨_, rfl, hS.step 30 _ (.inr rfl), hH⟩
                · refine RegStep3.yes 23 false rfl (fun L u w1 hW hI => hI.1 23 _ rfl (hW.of 23 (by decide))) ?_; rintro L u w1 bA hL hW hD hU ⟨hS, hH⟩ hin hout; exact opw_move _ _ (.inl rfl) ((hout 23 (by kernel_rfl)).trans (by kernel_rfl)) ⟨_, rfl, hS.step 31 _ (.inr rfl), hH⟩
                · refine RegStep3.yes 23 false rfl (fun L u w1 hW hI => hI.1 23 _ rfl (hW.of 23 (by decide))) ?_; rintro L u w1 bA hL hW hD hU ⟨hS, hH⟩ hin hout; exact opw_len _ _ _ Tryd.underlying46 A (T.length) c rfl ((hin 31 162 rfl).trans (hS 31 _ rfl (hW.of 31 (by decide)))) ⟨_, rfl, hS.step 32 _ (.inr rfl), hH⟩
                · refine RegStep3.yes 23 false rfl (fun L u w1 hW hI => hI.1 23 _ rfl (hW.of 23 (by decide))) ?_; rintro L u w1 bA hL hW hD hU ⟨hS, hH⟩ hin hout; exact opw_min _ _ _ _ _ _ rfl ((hin 30 161 rfl).trans (hS 30 _ rfl (hW.of 30 (by decide)))) ((hin 32 163 rfl).trans (hS 32 _ rfl (hW.of 32 (by decide)))) HMN.out ⟨_, rfl, hS.step 33 _ (.inr rfl), hH⟩
                · refine RegStep3.yes 23 false rfl (fun L u w1 hW hI => hI.1 23 _ rfl (hW.of 23 (by decide))) ?_; rintro L u w1 bA hL hW hD hU ⟨hS, hH⟩ hin hout; exact opw_cmp .neq _ _ _ _ .i64 _ _ false rfl ((hin 28 159 rfl).trans (hS 28 _ rfl (hW.of 28 (by decide)))) ((hin 33 164 rfl).trans (hS 33 _ rfl (hW.of 33 (by decide)))) HN3.out ⟨_, rfl, hS.step 34 _ (.inr rfl), hH⟩
                · refine RegStep3.plain rfl ?_; rintro L u w1 bA hL hW hD hU ⟨hS, hH⟩ hin hout; exact opw_pickF _ _ _ _ rfl ((hin 23 154 rfl).trans (hS 23 _ rfl (hW.of 23 (by decide)))) ((hin 34 165 rfl).trans (hS 34 _ rfl (hW.of 34 (by decide)))) ⟨_, rfl, hS.step 35 _ (.inr rfl), hH⟩
              intro L u ws hL ⟨hS, hH⟩
              have E0 := hS 0 _ rfl (hL 0 (by decide))
              have E1 := hS 1 _ rfl (hL 1 (by decide))
              have E2 := hS 2 _ rfl (hL 2 (by decide))
              have E3 := hS 3 _ rfl (hL 3 (by decide))
              have E5 := hS 5 _ rfl (hL 5 (by decide))
              have E6 := hS 6 _ rfl (hL 6 (by decide))
              have E7 := hS 7 _ rfl (hL 7 (by decide))
              have E8 := hS 8 _ rfl (hL 8 (by decide))
              have E9 := hS 9 _ rfl (hL 9 (by decide))
              have E10 := hS 10 _ rfl (hL 10 (by decide))
              have E11 := hS 11 _ rfl (hL 11 (by decide))
              have E12 := hS 12 _ rfl (hL 12 (by decide))
              have E13 := hS 13 _ rfl (hL 13 (by decide))
              have E14 := hS 14 _ rfl (hL 14 (by decide))
              have E15 := hS 15 _ rfl (hL 15 (by decide))
              have E16 := hS 16 _ rfl (hL 16 (by decide))
              have E17 := hS 17 _ rfl (hL 17 (by decide))
              have E18 := hS 18 _ rfl (hL 18 (by decide))
              have E19 := hS 19 _ rfl (hL 19 (by decide))
              have E20 := hS 20 _ rfl (hL 20 (by decide))
              have E21 := hS 21 _ rfl (hL 21 (by decide))
              have E22 := hS 22 _ rfl (hL 22 (by decide))
              have E23 := hS 23 _ rfl (hL 23 (by decide))
              have E24 := hS 24 _ rfl (hL 24 (by decide))
              have E25 := hS 25 _ rfl (hL 25 (by decide))
              have E26 := hS 26 _ rfl (hL 26 (by decide))
              have E28 := hS 28 _ rfl (hL 28 (by decide))
              have E29 := hS 29 _ rfl (hL 29 (by decide))
              have E30 := hS 30 _ rfl (hL 30 (by decide))
              have E31 := hS 31 _ rfl (hL 31 (by decide))
              have E32 := hS 32 _ rfl (hL 32 (by decide))
              have E33 := hS 33 _ rfl (hL 33 (by decide))
              have E34 := hS 34 _ rfl (hL 34 (by decide))
              have E35 := hS 35 _ rfl (hL 35 (by decide))
              simp only [hL 4 (by decide), hL 27 (by decide), stg_true, emp_sep] at hH
              simp only [frame_cons, frame_nil, E0, E1, E2, E3, E5, E6, E7, E8, E9, E10, E11, E12, E13, E14, E15, E16, E17, E18, E19, E20, E21, E22, E23, E24, E25, E26, E28, E29, E30, E31, E32, E33, E34, E35, Act.put, List.setIfInBounds_toArray, List.set_cons_zero, List.set_cons_succ]
              clear hL hS E0 E1 E2 E3 E5 E6 E7 E8 E9 E10 E11 E12 E13 E14 E15 E16 E17 E18 E19 E20 E21 E22 E23 E24 E25 E26 E28 E29 E30 E31 E32 E33 E34 E35
              generalize u 4 = u4 at hH ⊢
              generalize u 27 = u27 at hH ⊢
              have Hs := Lib.hid hH
              clear hH
              have W2 : Hid (Has st (sep (cacheA p L1 lm) (sep (blk q (.cells (rcells (.slice B1 T.length d1) lm) 29 (0, 0))) (sep G1 R))) ws) := Lib.hid (Hs.out.right.right.right)
              clear Hs HC
              go_wp2
              go_roundw
              case rel => exact ⟨i + 1, K1, B1, d1, G1, by omega, by go_num, by rw [HTl.out]; exact hl1, ht1, by rw [HTl.out]; exact HR1, Lib.hid (by rw [← HL1.out, HTl.out]; exact W2.out)⟩
              case measure => simp [intOf]; omega
      · obtain rfl : i = N := by omega
        go_wp2
        go_ret
        exact ⟨rfl, HC.out.right.right.right⟩
end Go.Proofs.YtblknhpafifebaaDoor
