/-
  Several texts of this proof in one: Keeps.
-/
import Derived.Test.YtblknhpafifebaaDoorM11
import Derived.Deep.CutBlock
/-
  coldstorelaw14.CacheKeeps: the walk.
-/
namespace Go.Proofs.YtblknhpafifebaaDoor
open Go Go.RowKit Go.Sl Go.Sha
set_option linter.unusedVariables false
set_option linter.unusedSimpArgs false
set_option maxRecDepth 100000

theorem opw_lookupV {P : Program} {o : Oper} {a : Act} {w : World} {K : Act → World → Prop} {Q : Exit → Act → World → Prop} {st : World} (t k e : TypeId) (x ix : Operand) (ho : o.op = .lookup t x ix true) (ht : P.underlying t = some (.map k e)) (SK : SumKey P k) (z : Value) (hz : ∀ w, (zeroValue e).run P w = .ok z w) {m : Nat} {M : ML} {R : HProp} (S : List UInt8) (hS : S.length = 32)
    (hx : a.eval x = .map (some m)) (hi : a.eval ix = .agg (bcells S).toArray) (h : Has st (sep (mapI m M) R) w) (v : Value) (b : Bool) (hv : (lookM S M).getD z = v) (hb : (lookM S M).isSome = b) (hK : K (a.put o.dst (.tuple #[v, .bool b])) w) : o.wp P a w K Q := by
  subst hv hb
  exact opw_lookupOk t k e x ix ho ht SK z hz S hS hx hi h hK
theorem zeroStr (w : World) : (zeroValue 9).run Tryd.prog w = .ok (.string (str [])) w := by kernel_rfl
def KeepRel (st : World) (R : HProp) (p mp : Nat) (lm : Int) (N : Nat) (v : Value) (wr : World) : Prop :=
  ∃ (i : Nat) (L : CL) (M : ML), i ≤ N ∧ v = .int .i64 (i : Int) ∧ L.length ≤ i ∧ totL L ≤ 100 * i ∧ Hid (Keep lm L) ∧ Hid (∀ x ∈ M, ∃ s, x.2 = .string (str s)) ∧ Hid (Has st (sep (cacheA p L lm) (sep (mapI mp M) R)) wr)
def KeepCut (st : World) (R : HProp) (p mp : Nat) (lm : Int) (i : Nat) (M : ML) (wr : World) : Prop :=
  ∃ (L : CL), L.length ≤ i + 1 ∧ totL L ≤ 100 * (i + 1) ∧ Hid (Keep lm L) ∧ Hid (Has st (sep (cacheA p L lm) (sep (mapI mp M) R)) wr)
def BoolCut (st : World) (T : HProp) (v : Value) (wr : World) : Prop := ∃ b, v = .bool b ∧ Hid (Has st T wr)
def LookCut (st : World) (T : HProp) (v u : Value) (wr : World) : Prop := ∃ s b, v = .string (str s) ∧ u = .bool b ∧ Hid (Has st T wr)

set_option maxHeartbeats 8000000 in
theorem keeps_any (st : World) (R : HProp) (hk : Keys st R) (hst : Start st R) (limit : Int) (hlim : -9223372036854775808 ≤ limit ∧ limit ≤ 9223372036854775807) (ops : List OpV) (Al : Option Addr) (cl : Nat) (hso : SeesOps st R (.slice Al ops.length cl) ops) (w : World) (h : Has st R w) :
    Calls Tryd.prog 4 #[.int .i64 limit, .slice Al ops.length cl] w fun e w' => e = .returned (.bool true) ∧ Has st R w' := by
  have HAV : Hid (∀ w, Has st R w → Calls Tryd.prog 8 #[] w fun e w' => e = .returned (.bool true) ∧ Has st R w') := Lib.hid fun w h => alive_any st R hk hst w h
  have HFW : Hid (∀ w, Has st R w → Calls Tryd.prog 9 #[.slice Al ops.length cl] w fun e w' => e = .returned (.bool (fewB ops)) ∧ Has st R w') := Lib.hid fun w h => few_any st R Al cl ops hso w h
  have HH := Lib.hid h
  have HSO := Lib.hid hso
  obtain ⟨N, hN⟩ : ∃ N, N = ops.length := ⟨_, rfl⟩
  rw [← hN] at HFW ⊢
  have HN := Lib.hid hN
  clear hN h hso
  cases hf : fewB ops with
  | false =>
    rw [hf] at HFW
    clear hf HN HSO hk hst hlim
    go_enter Tryd.func4, Tryd.ntmps4
    go_wp2_with (first
      | (have _k := H0; go_at_call 9; refine (HFW.out _ H0.out).mono ?_; rintro e w9 ⟨rfl, h9⟩; have H1 := Lib.hid h9; clear h9)
      | (go_at_call 8; refine (HAV.out _ HH.out).mono ?_; rintro e w9 ⟨rfl, h9⟩; have H0 := Lib.hid h9; clear h9)
      | ((first | (with_reducible refine wpList_plain rfl ?_) | ((with_reducible refine wpList_yes _ _ rfl ?_ ?_); (focus rfl))); intro _ hk; (first
        | (fail)); simp only [Act.put, List.setIfInBounds_toArray, List.set_cons_zero, List.set_cons_succ]))
    go_ret
    exact ⟨rfl, H1.out⟩
  | true =>
    rw [hf] at HFW
    obtain ⟨hsh, hn30⟩ := few_true hf
    rw [← HN.out] at hn30
    have HSH := Lib.hid hsh
    obtain ⟨lm, hlm⟩ : ∃ lm, lm = max limit 0 := ⟨_, rfl⟩
    have hlm0 : 0 ≤ lm := by omega
    have HNW := Lib.hid (newC (st := st) (R := R) (lim := limit) (l2 := lm) hlm hlim)
    have HLM := Lib.hid hlm.symm
    have HKY := Lib.hid hk
    have HST := Lib.hid hst
    have HK0 := Lib.hid (keep_nil hlm0)
    clear hf hsh hlm hk hst hlim
    go_enter Tryd.func4, Tryd.ntmps4
    go_wp2_with (first
      | (have _k := H1; go_at_call 10; refine (HNW.out _ H1.out).mono ?_; rintro e w9 ⟨p, rfl, h9⟩; have C0 := Lib.hid h9; clear h9)
      | (have _k := H0; go_at_call 9; refine (HFW.out _ H0.out).mono ?_; rintro e w9 ⟨rfl, h9⟩; have H1 := Lib.hid h9; clear h9)
      | (go_at_call 8; refine (HAV.out _ HH.out).mono ?_; rintro e w9 ⟨rfl, h9⟩; have H0 := Lib.hid h9; clear h9)
      | ((first | (with_reducible refine wpList_plain rfl ?_) | ((with_reducible refine wpList_yes _ _ rfl ?_ ?_); (focus rfl))); intro _ hk; (first
        | (have _k := C0; refine opw_makeMap _ rfl C0.out (fun mp w9 h9 => hk _ _ ?_); have T0 := Lib.hid h9.second; clear h9)); simp only [Act.put, List.setIfInBounds_toArray, List.set_cons_zero, List.set_cons_succ]))
    clear HH H0 H1 C0 HAV HFW HNW
    go_loopw [26] (fun v wr => KeepRel st R p mp lm N v wr) (fun v _ => N - (intOf v).toNat)
    case atStart => exact ⟨0, [], [], Nat.zero_le _, rfl, Nat.zero_le _, Nat.zero_le _, HK0, Lib.hid (by simp), T0⟩
    case round =>
      obtain ⟨i, LK, M, hi, rfl, hLl, hLt, HKP, HMS, HC⟩ := hrel
      clear T0 HK0
      by_cases hlt : i < N
      · have hlt' : i < ops.length := by rw [← HN.out]; exact hlt
        obtain ⟨g, off, Bb, db, rfl, hrg, hsb⟩ := ops_at HSO.out HC.out.right.right hlt'
        have hshort : ops[i].b.length ≤ 100 := HSH.out _ (List.getElem_mem hlt')
        obtain ⟨kd, hkd⟩ : ∃ k, k = ops[i].kind := ⟨_, rfl⟩
        obtain ⟨bit, hbit⟩ : ∃ k, k = ops[i].bit := ⟨_, rfl⟩
        obtain ⟨bl, hbl⟩ : ∃ k, k = ops[i].b := ⟨_, rfl⟩
        rw [← hkd, ← hbit, ← hbl] at hrg
        rw [← hbl] at hsb hshort
        obtain ⟨nb, hnb⟩ : ∃ n, n = bl.length := ⟨_, rfl⟩
        rw [← hnb] at hrg hsb hshort
        obtain ⟨OC, hOC⟩ : ∃ OC : List Value, OC = [.int .i64 kd, .int .i64 bit, .slice Bb nb db] := ⟨_, rfl⟩
        rw [← hOC] at hrg
        have HRG := Lib.hid hrg
        have HSB := Lib.hid hsb
        have HNB := Lib.hid hnb
        have HOI : Hid ((Tryd.prog.info? 32).map (·.size) = some OC.length) := Lib.hid (by rw [hOC]; exact infoO)
        have HOI2 : Hid ((Tryd.prog.info? 32).map (·.size) = some OC.toArray.size) := Lib.hid (by rw [hOC]; exact infoO)
        have HOZ : Hid ((#[.int .i64 0, .int .i64 0, .slice none 0 0] : Array Value).size = OC.toArray.size) := Lib.hid (by rw [hOC]; rfl)
        have HO1 : Hid (OC.toArray.all (·.oneCell') = true) := Lib.hid (by rw [hOC]; simp [Value.oneCell'])
        have HC0 : Hid (OC.toArray[0]? = some (.int .i64 kd)) := Lib.hid (by rw [hOC]; rfl)
        have HC1 : Hid (OC.toArray[1]? = some (.int .i64 bit)) := Lib.hid (by rw [hOC]; rfl)
        have HC2 : Hid (OC.toArray[2]? = some (.slice Bb nb db)) := Lib.hid (by rw [hOC]; rfl)
        have HOT : Hid ((Tryd.prog.info? 32).map (·.zero) = some (some (.agg #[.int .i64 0, .int .i64 0, .slice none 0 0]))) := Lib.hid infoOz
        obtain ⟨ZO, hZO⟩ : ∃ Z : Array Value, Z = #[.int .i64 0, .int .i64 0, .slice none 0 0] := ⟨_, rfl⟩
        rw [← hZO] at HOZ HOT
        obtain ⟨S, hS⟩ : ∃ S, S = sha bl := ⟨_, rfl⟩
        have lS : S.length = 32 := by rw [hS]; exact sha_length _
        have HOF : Hid (∀ T w, (∀ w, Has st T w → Has st R w) → Has st T w → Calls Tryd.prog 11 #[.slice Bb nb db] w fun e w' => e = .returned (.agg (bcells S).toArray) ∧ Has st T w') := Lib.hid fun T w hT hw => by
          rw [hS, HNB.out]; exact refOf_any st T bl _ w hw (fun w h => by rw [← HNB.out]; exact HSB.out w (hT w h)) (by omega)
        have HIS : Hid ((Tryd.prog.info? 34).map (·.size) = some (bcells S).toArray.size) := Lib.hid (by rw [List.size_toArray, bcells_length, lS]; exact infoID)
        have HJS : Hid ((Tryd.prog.info? 34).map (·.size) = some (bcells S).length) := Lib.hid (by rw [bcells_length, lS]; exact infoID)
        have HTS : Hid (((bcells S).toArray.toList.drop 0).take (bcells S).length = bcells S) := Lib.hid (by simp)
        obtain ⟨Z, hZ⟩ : ∃ Z, Z = (bcells (List.replicate 32 (0 : UInt8))).toArray := ⟨_, rfl⟩
        have HZI : Hid ((Tryd.prog.info? 34).map (·.zero) = some (some (.agg Z))) := Lib.hid (by rw [hZ]; exact zeroID)
        have HOS : Hid (Z.size = (bcells S).toArray.size) := Lib.hid (by rw [hZ]; simp [bcells_length, lS])
        have HLS := Lib.hid lS
        have HS := Lib.hid hS
        have hi30 : i < 30 := by omega
        have HSS : Hid ((S == S) = true) := Lib.hid (by simp)
        have HNS : Hid ((!(S == S)) = false) := Lib.hid (by simp)
        clear hrg hsb hkd hbit hbl hnb hOC hZO hS lS hZ hlt'
        go_upto_region 11 with (first
          | (have _k := D1; go_at_call 11; refine (HOF.out _ _ (fun w h => h.right.right.right) D1.out).mono ?_; rintro e w9 ⟨rfl, h9⟩; have D2 := Lib.hid h9; clear h9)
          | ((first | (with_reducible refine wpList_plain rfl ?_) | ((with_reducible refine wpList_yes _ _ rfl ?_ ?_); (focus rfl))); intro _ hk; (first
            | (have _k := D3; refine opw_storeRow 34 _ _ rfl ix (bcells S).toArray rfl rfl 34 Z HIS.out HOS.out (bcells_all _) D3.out (fun w9 h9 => hk _ _ ?_); have D4 : Hid (Has st (sep (blk ix (.cells (bcells S).toArray 34 (0, 0))) (sep (blk po (.cells OC.toArray 32 (0, 0))) (sep (mapI mp M) (sep (cacheA p LK lm) R)))) w9) := Lib.hid (h9.cast (by ac_rfl)); clear h9)
            | (have _k := D2; refine opw_alloc 34 (.agg Z) Z rfl HZI.out rfl D2.out (fun ix w1 hp h1 => hk _ _ ?_); clear hp; have D3 := Lib.hid h1; clear h1)
            | (have _k := D1; refine opw_load1 30 _ rfl _ Tryd.underlying30 rfl ⟨po, 0 + 2, none⟩ (.slice Bb nb db) rfl ((D1.out.cell 2).trans HC2.out) (hk _ _ ?_))
            | (have _k := D1; refine opw_field 32 _ 2 2 rfl (by kernel_rfl) po 0 rfl (hk _ _ ?_))
            | (have _k := D0; refine opw_storeRow 32 _ _ rfl po OC.toArray rfl rfl 32 ZO HOI2.out HOZ.out HO1.out D0.out (fun w9 h9 => hk _ _ ?_); have D1 := Lib.hid h9; clear h9)
            | (have _k := HC; refine opw_alloc 32 (.agg ZO) ZO rfl HOT.out rfl HC.out (fun po w1 hp h1 => hk _ _ ?_); clear hp; have D0 := Lib.hid h1; clear h1)
            | (have _k := HC; refine wp_load_mid _ _ rfl g (off + i * 3) rfl OC _ HRG.out Tryd.underlying32 rfl HOI.out (hk _ _ ?_))
            | (have _k := HC; refine opw_indexN 22 32 3 _ _ rfl Tryd.underlying22 infoO g off N cl i rfl .i64 rfl hlt (hk _ _ ?_))); simp only [Act.put, List.setIfInBounds_toArray, List.set_cons_zero, List.set_cons_succ]))
        clear HRG HOI HOI2 HOZ HO1 HOT HOF D0 D1 D2 D3 HSO HSH HC
        go_cut [10, 11] from 27 to 125 (fun v10 v11 wc => LookCut st (sep (blk ix (.cells (bcells S).toArray 34 (0, 0))) (sep (blk po (.cells OC.toArray 32 (0, 0))) (sep (mapI mp M) (sep (cacheA p LK lm) R)))) v10 v11 wc)
        case first =>
          obtain ⟨s0, b0, hs0, hb0⟩ : ∃ s b, (lookM S M).getD (.string (str [])) = .string (str s) ∧ (lookM S M).isSome = b := by
            cases hl : lookM S M with
            | none => exact ⟨[], false, rfl, rfl⟩
            | some v =>
              obtain ⟨s, hs⟩ := HMS.out _ (look_mem hl)
              exact ⟨s, true, hs, rfl⟩
          have HS0 := Lib.hid hs0
          have HB0 := Lib.hid hb0
          clear hs0 hb0
          go_wp2_with (first
            | (fail)
            | ((first | (with_reducible refine wpList_plain rfl ?_) | ((with_reducible refine wpList_yes _ _ rfl ?_ ?_); (focus rfl))); intro _ hk; (first
              | (have _k := D4; refine opw_lookupV 54 _ _ _ _ rfl Tryd.underlying54 sumKey (.string (str [])) zeroStr S HLS.out rfl rfl D4.out.third (.string (str s0)) b0 HS0.out HB0.out (hk _ _ ?_))
              | (have _k := D4; refine opw_loadMid 34 _ rfl ix 0 rfl (bcells S) _ Tryd.underlying34 rfl HJS.out D4.out HTS.out (hk _ _ ?_))); simp only [Act.put, List.setIfInBounds_toArray, List.set_cons_zero, List.set_cons_succ]))
          go_meet
          case rel => exact ⟨s0, b0, rfl, rfl, D4⟩
        case rest =>
          obtain ⟨s0, b0, rfl, rfl, D5⟩ := hcut
          clear D4
          go_upto_region 12 with fail
          go_cut [46] from 27 to 125 (fun v46 wc => BoolCut st (sep (blk ix (.cells (bcells S).toArray 34 (0, 0))) (sep (blk po (.cells OC.toArray 32 (0, 0))) (sep (mapI mp M) (sep (cacheA p LK lm) R)))) v46 wc)
          case first =>
            cases b0 with
            | false =>
              go_wp2_with (first
                | (fail)
                | ((first | (with_reducible refine wpList_plain rfl ?_) | ((with_reducible refine wpList_yes _ _ rfl ?_ ?_); (focus rfl))); intro _ hk; (first
                  | (fail)); simp only [Act.put, List.setIfInBounds_toArray, List.set_cons_zero, List.set_cons_succ]))
              go_meet
              case rel => exact ⟨false, rfl, D5⟩
            | true =>
              obtain ⟨Z9, hZ9⟩ : ∃ Z9, cmpS .neq s0 bl = some Z9 := ⟨_, rfl⟩
              have HZ9 := Lib.hid hZ9
              clear hZ9
              go_wp2_with (first
                | (fail)
                | ((first | (with_reducible refine wpList_plain rfl ?_) | ((with_reducible refine wpList_yes _ _ rfl ?_ ?_); (focus rfl))); intro _ hk; (first
                  | (have _k := D5; refine opw_cmpStr .neq _ _ _ _ s0 bl Z9 rfl rfl rfl HZ9.out (hk _ _ ?_))
                  | (have _k := D5; refine opw_toStr _ _ 5 _ Tryd.underlying30 Tryd.underlying5 Tryd.underlying9 rfl (.slice Bb nb db) nb bl rfl (HSB.out _ D5.out.right.right.right.right) (hk _ _ ?_))
                  | (have _k := D5; refine opw_load1 30 _ rfl _ Tryd.underlying30 rfl ⟨po, 0 + 2, none⟩ (.slice Bb nb db) rfl ((D5.out.second.cell 2).trans HC2.out) (hk _ _ ?_))
                  | (have _k := D5; refine opw_field 32 _ 2 2 rfl (by kernel_rfl) po 0 rfl (hk _ _ ?_))
                  | (have _k := D5; refine opw_pickT _ _ _ (.bool Z9) rfl rfl rfl (hk _ _ ?_))); simp only [Act.put, List.setIfInBounds_toArray, List.set_cons_zero, List.set_cons_succ]))
              go_meet
              case rel => exact ⟨Z9, rfl, D5⟩
          case rest =>
            obtain ⟨b9, rfl, D6⟩ := hcut
            clear D5
            cases b9 with
            | true =>
              go_wp2
              go_ret
              exact ⟨rfl, D6.out.right.right.right.right⟩
            | false =>
              obtain ⟨M2, hM2⟩ : ∃ M2, M2 = putM S (.string (str bl)) M := ⟨_, rfl⟩
              have HM2 : Hid (∀ x ∈ M2, ∃ s, x.2 = .string (str s)) := Lib.hid fun x hx => by
                rw [hM2] at hx
                rcases put_mem hx with rfl | hx
                · exact ⟨bl, rfl⟩
                · exact HMS.out x hx
              have HMM := Lib.hid hM2.symm
              clear hM2
              go_upto_block 2 with (first
                | (fail)
                | ((first | (with_reducible refine wpList_plain rfl ?_) | ((with_reducible refine wpList_yes _ _ rfl ?_ ?_); (focus rfl))); intro _ hk; (first
                  | (have _k := D7; refine opw_load1 3 _ rfl _ Tryd.underlying3 rfl ⟨po, 0 + 0, none⟩ (.int .i64 kd) rfl ((D7.out.second.cell 0).trans HC0.out) (hk _ _ ?_))
                  | (have _k := D7; refine opw_field 32 _ 0 0 rfl (by kernel_rfl) po 0 rfl (hk _ _ ?_))
                  | (have _k := D6; refine opw_mapUpdate 54 _ _ _ _ _ rfl Tryd.underlying54 sumKey S HLS.out (.string (str bl)) rfl rfl rfl D6.out.third (fun w9 h9 => hk _ _ ?_); rw [HMM.out] at h9; have D7 : Hid (Has st (sep (blk ix (.cells (bcells S).toArray 34 (0, 0))) (sep (blk po (.cells OC.toArray 32 (0, 0))) (sep (mapI mp M2) (sep (cacheA p LK lm) R)))) w9) := Lib.hid (h9.cast (by ac_rfl)); clear h9)
                  | (have _k := D6; refine opw_toStr _ _ 5 _ Tryd.underlying30 Tryd.underlying5 Tryd.underlying9 rfl (.slice Bb nb db) nb bl rfl (HSB.out _ D6.out.right.right.right.right) (hk _ _ ?_))
                  | (have _k := D6; refine opw_load1 30 _ rfl _ Tryd.underlying30 rfl ⟨po, 0 + 2, none⟩ (.slice Bb nb db) rfl ((D6.out.second.cell 2).trans HC2.out) (hk _ _ ?_))
                  | (have _k := D6; refine opw_field 32 _ 2 2 rfl (by kernel_rfl) po 0 rfl (hk _ _ ?_))
                  | (have _k := D6; refine opw_loadMid 34 _ rfl ix 0 rfl (bcells S) _ Tryd.underlying34 rfl HJS.out D6.out HTS.out (hk _ _ ?_))); simp only [Act.put, List.setIfInBounds_toArray, List.set_cons_zero, List.set_cons_succ]))
              clear D6 HMS HMM
              have hKb : LK.length ≤ 30 ∧ totL LK ≤ 3000 := by omega
              go_cut [12] from 27 to 125 (fun _ wc => KeepCut st R p mp lm i M2 wc)
              case first =>
                by_cases e0 : kd = 0
                · have HE0 : Hid (cmpZ .eql kd 0 = some true) := Lib.hid (by simp only [cmpZ]; congr 1; simpa using e0)
                  clear e0
                  obtain ⟨L2, hL2⟩ : ∃ L, L = putL lm LK S bl := ⟨_, rfl⟩
                  have HPC := Lib.hid (putC (st := st) (R := R) (lim := lm) (L := LK) (L' := L2) (b := bl) (S := S) HKY.out HST.out HS.out hL2 (by omega) (by omega) (by rw [← HNB.out]; omega) hlm0)
                  have hl2 : L2.length ≤ i + 1 := by rw [hL2]; have := len_putL lm LK S bl; omega
                  have ht2 : totL L2 ≤ 100 * (i + 1) := by rw [hL2]; have := tot_putL lm LK S bl; rw [← HNB.out] at this; omega
                  have HK2 : Hid (Keep lm L2) := Lib.hid (by rw [hL2]; exact keep_put HKP.out)
                  have HSM : Hid (∀ w (u v : Value), Rd 1 w u bl.length (bcells bl) → Rd 1 w v nb (bcells bl) → Calls Tryd.prog 16 #[u, v] w fun e w' => e = .returned (.bool true) ∧ w = w') := Lib.hid fun w u v hu hv => (sameB_any bl bl _ _ u v w hu hv).mono fun e w' h' => ⟨by rw [h'.1]; simp, h'.2⟩
                  have HGE : Hid (getL S L2 = if (nb : Int) ≤ lm then (L2, bl, true) else (L2, [], false)) := Lib.hid (by
                    split
                    · next h => rw [hL2]; exact get_put_fits HKP.out HS.out (by rw [← HNB.out]; exact h)
                    · next h => rw [hL2]; exact get_put_big HKP.out (by rw [← HNB.out]; omega))
                  clear hL2
                  go_upto_region 21 with (first
                    | (fail)
                    | ((first | (with_reducible refine wpList_plain rfl ?_) | ((with_reducible refine wpList_yes _ _ rfl ?_ ?_); (focus rfl))); intro _ hk; (first
                      | (refine opw_cmp .eql _ _ _ _ .i64 kd 0 true rfl rfl rfl HE0.out (hk _ _ ?_))); simp only [Act.put, List.setIfInBounds_toArray, List.set_cons_zero, List.set_cons_succ]))
                  refine wp_region_inv3 (fun L u w' => Slots (fun kk => ([some (.pointer (some ⟨p, 0, none⟩)), some (.pointer (some ⟨po, 2, none⟩)), some (.slice Bb nb db), some (.agg (bcells S).toArray), some (.agg (bcells S).toArray), some (.bool false)] : List (Option Value)).getD kk none) L u ∧ Has st (sep (stg (L 3) (cacheA p L2 lm) (cacheA p LK lm)) (sep (blk ix (.cells (bcells S).toArray 34 (0, 0))) (sep (blk po (.cells OC.toArray 32 (0, 0))) (sep (mapI mp M2) R)))) w') (by kernel_rfl) (by decide +kernel) (by decide +kernel) (by kernel_rfl) (by kernel_rfl) (fun u => ⟨Slots.start _ u, (show Has st (sep (stg false (cacheA p L2 lm) (cacheA p LK lm)) (sep (blk ix (.cells (bcells S).toArray 34 (0, 0))) (sep (blk po (.cells OC.toArray 32 (0, 0))) (sep (mapI mp M2) R)))) _ from D7.out.drew.cast (by first | (simp only [stg_no, emp_sep]; done) | (simp only [stg_no, emp_sep]; ac_rfl)))⟩) ?_ ?_
                  · refine ⟨?_, ?_, ?_, ?_, ?_, ?_, trivial⟩
                    · refine RegStep3.plain rfl ?_; rintro L u w1 bA hL hW hD hU ⟨hS, hH⟩ hin hout; exact opw_move _ _ (.inl rfl) ((hout 5 (by kernel_rfl)).trans (by kernel_rfl)) ⟨_, rfl, hS.step 0 _ (.inr rfl), hH⟩
                    · refine RegStep3.plain rfl ?_; rintro L u w1 bA hL hW hD hU ⟨hS, hH⟩ hin hout; exact opw_field _ _ _ 2 rfl (by kernel_rfl) (po) (0) ((hout 8 (by kernel_rfl)).trans (by kernel_rfl)) ⟨_, rfl, hS.step 1 _ (.inr rfl), hH⟩
                    · refine RegStep3.plain rfl ?_; rintro L u w1 bA hL hW hD hU ⟨hS, hH⟩ hin hout; exact opw_load1 _ _ rfl _ Tryd.underlying30 rfl _ _ ((hin 1 76 rfl).trans (hS 1 _ rfl (hW.of 1 (by decide)))) ((((hH.right)).second.cell 2).trans HC2.out) ⟨_, rfl, hS.step 2 _ (.inr rfl), hH⟩
                    · refine RegStep3.plain rfl ?_; rintro L u w1 bA hL hW hD hU ⟨hS, hH⟩ hin hout; exact opw_call_ret _ _ _ [(.pointer (some ⟨p, 0, none⟩)), (.slice Bb nb db)] rfl (by kernel_rfl) (list2 ((hin 0 75 rfl).trans (hS 0 _ rfl (hW.of 0 (by decide)))) (list2 ((hin 2 77 rfl).trans (hS 2 _ rfl (hW.of 2 (by decide)))) rfl)) (HPC.out p (sep (blk ix (.cells (bcells S).toArray 34 (0, 0))) (sep (blk po (.cells OC.toArray 32 (0, 0))) (sep (mapI mp M2) R))) (.slice Bb nb db) _ (fun w h => h.right.right.right) (by rw [← HNB.out]; exact fun w h => HSB.out w h.right.right.right) (hH.stg_no hL)) (fun e w2 he => by obtain ⟨rfl, h2⟩ := he; exact ⟨_, rfl, _, rfl, hS.step 3 _ (.inr rfl), (show Has st (sep (stg true (cacheA p L2 lm) (cacheA p LK lm)) (sep (blk ix (.cells (bcells S).toArray 34 (0, 0))) (sep (blk po (.cells OC.toArray 32 (0, 0))) (sep (mapI mp M2) R)))) w2 from ((h2.stg_mk (Q := (cacheA p LK lm)))).cast (by ac_rfl))⟩)
                    · refine RegStep3.plain rfl ?_; rintro L u w1 bA hL hW hD hU ⟨hS, hH⟩ hin hout; exact opw_loadMid _ _ rfl ix (0) ((hout 9 (by kernel_rfl)).trans (by kernel_rfl)) (bcells S) _ Tryd.underlying34 rfl HJS.out ((hH.right)) HTS.out ⟨_, rfl, hS.step 4 _ (.inr rfl), hH⟩
                    · refine RegStep3.plain rfl ?_; rintro L u w1 bA hL hW hD hU ⟨hS, hH⟩ hin hout; exact opw_neRow _ _ 5 32 _ _ S S Tryd.underlying34 Tryd.underlying5 infosz (by kernel_rfl) HLS.out HLS.out rfl ((hin 3 78 rfl).trans (hS 3 _ rfl (hW.of 3 (by decide)))) ((hin 4 79 rfl).trans (hS 4 _ rfl (hW.of 4 (by decide)))) false HNS.out ⟨_, rfl, hS.step 5 _ (.inr rfl), hH⟩
                  intro L u wv hL ⟨hS, hH⟩
                  have E0 := hS 0 _ rfl (hL 0 (by decide))
                  have E1 := hS 1 _ rfl (hL 1 (by decide))
                  have E2 := hS 2 _ rfl (hL 2 (by decide))
                  have E3 := hS 3 _ rfl (hL 3 (by decide))
                  have E4 := hS 4 _ rfl (hL 4 (by decide))
                  have E5 := hS 5 _ rfl (hL 5 (by decide))
                  simp only [hL 3 (by decide), stg_true, emp_sep] at hH
                  simp only [frame_cons, frame_nil, E0, E1, E2, E3, E4, E5, Act.put, List.setIfInBounds_toArray, List.set_cons_zero, List.set_cons_succ]
                  clear hL hS E0 E1 E2 E3 E4 E5
                  generalize u 3 = u3 at hH ⊢
                  have Hv := Lib.hid hH
                  clear hH D7
                  by_cases hfit : (nb : Int) ≤ lm
                  · have HZ : Hid (cmpZ .leq (nb : Int) lm = some true) := Lib.hid (by show some (decide ((nb : Int) ≤ lm)) = some true; rw [decide_eq_true hfit])
                    have HGC := Lib.hid (getC (st := st) (R := R) (lim := lm) (L := L2) (L' := L2) (id := S) (g := bl) (ok := true) HKY.out HST.out HLS.out (by rw [HGE.out, if_pos hfit]) (by omega) (by omega))
                    clear hfit HGE
                    go_wp2_with (first
                      | (have _k := P8; go_at_call 16; refine (HSM.out _ _ _ (sees_row st _ 1 _ _ _ _ _ P8.out) (HSB.out _ P8.out.right.right.right.right.right)).mono ?_; rintro e w9 ⟨rfl, rfl⟩)
                      | (have _k := Hv; go_at_call 15; refine (HGC.out p _ _ (fun w h => h.right.right.right) Hv.out).mono ?_; rintro e w9 ⟨Ag, cg, rfl, h9⟩; have P8 := Lib.hid h9; clear h9)
                      | ((first | (with_reducible refine wpList_plain rfl ?_) | ((with_reducible refine wpList_yes _ _ rfl ?_ ?_); (focus rfl))); intro _ hk; (first
                        | (have _k := P8; refine opw_pickF _ _ _ _ rfl rfl rfl (hk _ _ ?_))
                        | (have _k := P8; refine opw_pickT _ _ _ _ rfl rfl rfl (hk _ _ ?_))
                        | (have _k := P8; refine opw_not _ _ true rfl rfl false rfl (hk _ _ ?_))
                        | (have _k := P8; refine opw_neBool _ _ _ _ true true rfl rfl rfl rfl false rfl (hk _ _ ?_))
                        | (have _k := P8; refine opw_cmp .leq _ _ _ _ .i64 (nb : Int) lm true rfl rfl rfl HZ.out (hk _ _ ?_))
                        | (have _k := P8; refine opw_max _ _ _ limit 0 lm rfl rfl rfl HLM.out (hk _ _ ?_))
                        | (have _k := P8; refine opw_load1 30 _ rfl _ Tryd.underlying30 rfl ⟨po, 0 + 2, none⟩ (.slice Bb nb db) rfl ((P8.out.fourth.cell 2).trans HC2.out) (hk _ _ ?_))
                        | (have _k := P8; refine opw_field 32 _ 2 2 rfl (by kernel_rfl) po 0 rfl (hk _ _ ?_))
                        | (have _k := Hv; refine opw_loadMid 34 _ rfl ix 0 rfl (bcells S) _ Tryd.underlying34 rfl HJS.out Hv.out.second HTS.out (hk _ _ ?_))); simp only [Act.put, List.setIfInBounds_toArray, List.set_cons_zero, List.set_cons_succ]))
                    go_meet
                    case rel => exact ⟨L2, hl2, ht2, HK2, Lib.hid (P8.out.right.cast (show _ = (sep (blk ix (.cells (bcells S).toArray 34 (0, 0))) (sep (blk po (.cells OC.toArray 32 (0, 0))) (sep (cacheA p L2 lm) (sep (mapI mp M2) R)))) by ac_rfl)).right.right⟩
                  · have HZ : Hid (cmpZ .leq (nb : Int) lm = some false) := Lib.hid (by show some (decide ((nb : Int) ≤ lm)) = some false; rw [decide_eq_false hfit])
                    have HGC := Lib.hid (getC (st := st) (R := R) (lim := lm) (L := L2) (L' := L2) (id := S) (g := []) (ok := false) HKY.out HST.out HLS.out (by rw [HGE.out, if_neg hfit]) (by omega) (by omega))
                    clear hfit HGE
                    go_wp2_with (first
                      | (have _k := P8; go_at_call 16; refine (HSM.out _ _ _ (sees_row st _ 1 _ _ _ _ _ P8.out) (HSB.out _ P8.out.right.right.right.right.right)).mono ?_; rintro e w9 ⟨rfl, rfl⟩)
                      | (have _k := Hv; go_at_call 15; refine (HGC.out p _ _ (fun w h => h.right.right.right) Hv.out).mono ?_; rintro e w9 ⟨Ag, cg, rfl, h9⟩; have P8 := Lib.hid h9; clear h9)
                      | ((first | (with_reducible refine wpList_plain rfl ?_) | ((with_reducible refine wpList_yes _ _ rfl ?_ ?_); (focus rfl))); intro _ hk; (first
                        | (have _k := P8; refine opw_pickF _ _ _ _ rfl rfl rfl (hk _ _ ?_))
                        | (have _k := P8; refine opw_pickT _ _ _ _ rfl rfl rfl (hk _ _ ?_))
                        | (have _k := P8; refine opw_not _ _ true rfl rfl false rfl (hk _ _ ?_))
                        | (have _k := P8; refine opw_neBool _ _ _ _ false false rfl rfl rfl rfl false rfl (hk _ _ ?_))
                        | (have _k := P8; refine opw_cmp .leq _ _ _ _ .i64 (nb : Int) lm false rfl rfl rfl HZ.out (hk _ _ ?_))
                        | (have _k := P8; refine opw_max _ _ _ limit 0 lm rfl rfl rfl HLM.out (hk _ _ ?_))
                        | (have _k := P8; refine opw_load1 30 _ rfl _ Tryd.underlying30 rfl ⟨po, 0 + 2, none⟩ (.slice Bb nb db) rfl ((P8.out.fourth.cell 2).trans HC2.out) (hk _ _ ?_))
                        | (have _k := P8; refine opw_field 32 _ 2 2 rfl (by kernel_rfl) po 0 rfl (hk _ _ ?_))
                        | (have _k := Hv; refine opw_loadMid 34 _ rfl ix 0 rfl (bcells S) _ Tryd.underlying34 rfl HJS.out Hv.out.second HTS.out (hk _ _ ?_))); simp only [Act.put, List.setIfInBounds_toArray, List.set_cons_zero, List.set_cons_succ]))
                    go_meet
                    case rel => exact ⟨L2, hl2, ht2, HK2, Lib.hid (P8.out.right.cast (show _ = (sep (blk ix (.cells (bcells S).toArray 34 (0, 0))) (sep (blk po (.cells OC.toArray 32 (0, 0))) (sep (cacheA p L2 lm) (sep (mapI mp M2) R)))) by ac_rfl)).right.right⟩
                · have HE0 : Hid (cmpZ .eql kd 0 = some false) := Lib.hid (by simp only [cmpZ]; congr 1; simpa using e0)
                  clear e0
                  by_cases e1 : kd = 1
                  · have HE1 : Hid (cmpZ .eql kd 1 = some true) := Lib.hid (by simp only [cmpZ]; congr 1; simpa using e1)
                    clear e1
                    obtain ⟨L2, hL2⟩ : ∃ L, L = putL lm LK S bl := ⟨_, rfl⟩
                    have HPC := Lib.hid (putC (st := st) (R := R) (lim := lm) (L := LK) (L' := L2) (b := bl) (S := S) HKY.out HST.out HS.out hL2 (by omega) (by omega) (by rw [← HNB.out]; omega) hlm0)
                    have hl2 : L2.length ≤ i + 1 := by rw [hL2]; have := len_putL lm LK S bl; omega
                    have ht2 : totL L2 ≤ 100 * (i + 1) := by rw [hL2]; have := tot_putL lm LK S bl; rw [← HNB.out] at this; omega
                    have HK2 : Hid (Keep lm L2) := Lib.hid (by rw [hL2]; exact keep_put HKP.out)
                    have HSM : Hid (∀ w (u v : Value), Rd 1 w u bl.length (bcells bl) → Rd 1 w v nb (bcells bl) → Calls Tryd.prog 16 #[u, v] w fun e w' => e = .returned (.bool true) ∧ w = w') := Lib.hid fun w u v hu hv => (sameB_any bl bl _ _ u v w hu hv).mono fun e w' h' => ⟨by rw [h'.1]; simp, h'.2⟩
                    have HGE : Hid (getL S L2 = if (nb : Int) ≤ lm then (L2, bl, true) else (L2, [], false)) := Lib.hid (by
                      split
                      · next h => rw [hL2]; exact get_put_fits HKP.out HS.out (by rw [← HNB.out]; exact h)
                      · next h => rw [hL2]; exact get_put_big HKP.out (by rw [← HNB.out]; omega))
                    clear hL2
                    go_upto_region 21 with (first
                      | (fail)
                      | ((first | (with_reducible refine wpList_plain rfl ?_) | ((with_reducible refine wpList_yes _ _ rfl ?_ ?_); (focus rfl))); intro _ hk; (first
                        | (refine opw_cmp .eql _ _ _ _ .i64 kd 0 false rfl rfl rfl HE0.out (hk _ _ ?_))
                        | (refine opw_cmp .eql _ _ _ _ .i64 kd 1 true rfl rfl rfl HE1.out (hk _ _ ?_))); simp only [Act.put, List.setIfInBounds_toArray, List.set_cons_zero, List.set_cons_succ]))
                    refine wp_region_inv3 (fun L u w' => Slots (fun kk => ([some (.pointer (some ⟨p, 0, none⟩)), some (.pointer (some ⟨po, 2, none⟩)), some (.slice Bb nb db), some (.agg (bcells S).toArray), some (.agg (bcells S).toArray), some (.bool false)] : List (Option Value)).getD kk none) L u ∧ Has st (sep (stg (L 3) (cacheA p L2 lm) (cacheA p LK lm)) (sep (blk ix (.cells (bcells S).toArray 34 (0, 0))) (sep (blk po (.cells OC.toArray 32 (0, 0))) (sep (mapI mp M2) R)))) w') (by kernel_rfl) (by decide +kernel) (by decide +kernel) (by kernel_rfl) (by kernel_rfl) (fun u => ⟨Slots.start _ u, (show Has st (sep (stg false (cacheA p L2 lm) (cacheA p LK lm)) (sep (blk ix (.cells (bcells S).toArray 34 (0, 0))) (sep (blk po (.cells OC.toArray 32 (0, 0))) (sep (mapI mp M2) R)))) _ from D7.out.drew.cast (by first | (simp only [stg_no, emp_sep]; done) | (simp only [stg_no, emp_sep]; ac_rfl)))⟩) ?_ ?_
                    · refine ⟨?_, ?_, ?_, ?_, ?_, ?_, trivial⟩
                      · refine RegStep3.plain rfl ?_; rintro L u w1 bA hL hW hD hU ⟨hS, hH⟩ hin hout; exact opw_move _ _ (.inl rfl) ((hout 5 (by kernel_rfl)).trans (by kernel_rfl)) ⟨_, rfl, hS.step 0 _ (.inr rfl), hH⟩
                      · refine RegStep3.plain rfl ?_; rintro L u w1 bA hL hW hD hU ⟨hS, hH⟩ hin hout; exact opw_field _ _ _ 2 rfl (by kernel_rfl) (po) (0) ((hout 8 (by kernel_rfl)).trans (by kernel_rfl)) ⟨_, rfl, hS.step 1 _ (.inr rfl), hH⟩
                      · refine RegStep3.plain rfl ?_; rintro L u w1 bA hL hW hD hU ⟨hS, hH⟩ hin hout; exact opw_load1 _ _ rfl _ Tryd.underlying30 rfl _ _ ((hin 1 76 rfl).trans (hS 1 _ rfl (hW.of 1 (by decide)))) ((((hH.right)).second.cell 2).trans HC2.out) ⟨_, rfl, hS.step 2 _ (.inr rfl), hH⟩
                      · refine RegStep3.plain rfl ?_; rintro L u w1 bA hL hW hD hU ⟨hS, hH⟩ hin hout; exact opw_call_ret _ _ _ [(.pointer (some ⟨p, 0, none⟩)), (.slice Bb nb db)] rfl (by kernel_rfl) (list2 ((hin 0 75 rfl).trans (hS 0 _ rfl (hW.of 0 (by decide)))) (list2 ((hin 2 77 rfl).trans (hS 2 _ rfl (hW.of 2 (by decide)))) rfl)) (HPC.out p (sep (blk ix (.cells (bcells S).toArray 34 (0, 0))) (sep (blk po (.cells OC.toArray 32 (0, 0))) (sep (mapI mp M2) R))) (.slice Bb nb db) _ (fun w h => h.right.right.right) (by rw [← HNB.out]; exact fun w h => HSB.out w h.right.right.right) (hH.stg_no hL)) (fun e w2 he => by obtain ⟨rfl, h2⟩ := he; exact ⟨_, rfl, _, rfl, hS.step 3 _ (.inr rfl), (show Has st (sep (stg true (cacheA p L2 lm) (cacheA p LK lm)) (sep (blk ix (.cells (bcells S).toArray 34 (0, 0))) (sep (blk po (.cells OC.toArray 32 (0, 0))) (sep (mapI mp M2) R)))) w2 from ((h2.stg_mk (Q := (cacheA p LK lm)))).cast (by ac_rfl))⟩)
                      · refine RegStep3.plain rfl ?_; rintro L u w1 bA hL hW hD hU ⟨hS, hH⟩ hin hout; exact opw_loadMid _ _ rfl ix (0) ((hout 9 (by kernel_rfl)).trans (by kernel_rfl)) (bcells S) _ Tryd.underlying34 rfl HJS.out ((hH.right)) HTS.out ⟨_, rfl, hS.step 4 _ (.inr rfl), hH⟩
                      · refine RegStep3.plain rfl ?_; rintro L u w1 bA hL hW hD hU ⟨hS, hH⟩ hin hout; exact opw_neRow _ _ 5 32 _ _ S S Tryd.underlying34 Tryd.underlying5 infosz (by kernel_rfl) HLS.out HLS.out rfl ((hin 3 78 rfl).trans (hS 3 _ rfl (hW.of 3 (by decide)))) ((hin 4 79 rfl).trans (hS 4 _ rfl (hW.of 4 (by decide)))) false HNS.out ⟨_, rfl, hS.step 5 _ (.inr rfl), hH⟩
                    intro L u wv hL ⟨hS, hH⟩
                    have E0 := hS 0 _ rfl (hL 0 (by decide))
                    have E1 := hS 1 _ rfl (hL 1 (by decide))
                    have E2 := hS 2 _ rfl (hL 2 (by decide))
                    have E3 := hS 3 _ rfl (hL 3 (by decide))
                    have E4 := hS 4 _ rfl (hL 4 (by decide))
                    have E5 := hS 5 _ rfl (hL 5 (by decide))
                    simp only [hL 3 (by decide), stg_true, emp_sep] at hH
                    simp only [frame_cons, frame_nil, E0, E1, E2, E3, E4, E5, Act.put, List.setIfInBounds_toArray, List.set_cons_zero, List.set_cons_succ]
                    clear hL hS E0 E1 E2 E3 E4 E5
                    generalize u 3 = u3 at hH ⊢
                    have Hv := Lib.hid hH
                    clear hH D7
                    by_cases hfit : (nb : Int) ≤ lm
                    · have HZ : Hid (cmpZ .leq (nb : Int) lm = some true) := Lib.hid (by show some (decide ((nb : Int) ≤ lm)) = some true; rw [decide_eq_true hfit])
                      have HGC := Lib.hid (getC (st := st) (R := R) (lim := lm) (L := L2) (L' := L2) (id := S) (g := bl) (ok := true) HKY.out HST.out HLS.out (by rw [HGE.out, if_pos hfit]) (by omega) (by omega))
                      clear hfit HGE
                      go_wp2_with (first
                        | (have _k := P8; go_at_call 16; refine (HSM.out _ _ _ (sees_row st _ 1 _ _ _ _ _ P8.out) (HSB.out _ P8.out.right.right.right.right.right)).mono ?_; rintro e w9 ⟨rfl, rfl⟩)
                        | (have _k := Hv; go_at_call 15; refine (HGC.out p _ _ (fun w h => h.right.right.right) Hv.out).mono ?_; rintro e w9 ⟨Ag, cg, rfl, h9⟩; have P8 := Lib.hid h9; clear h9)
                        | ((first | (with_reducible refine wpList_plain rfl ?_) | ((with_reducible refine wpList_yes _ _ rfl ?_ ?_); (focus rfl))); intro _ hk; (first
                          | (have _k := P8; refine opw_pickF _ _ _ _ rfl rfl rfl (hk _ _ ?_))
                          | (have _k := P8; refine opw_pickT _ _ _ _ rfl rfl rfl (hk _ _ ?_))
                          | (have _k := P8; refine opw_not _ _ true rfl rfl false rfl (hk _ _ ?_))
                          | (have _k := P8; refine opw_neBool _ _ _ _ true true rfl rfl rfl rfl false rfl (hk _ _ ?_))
                          | (have _k := P8; refine opw_cmp .leq _ _ _ _ .i64 (nb : Int) lm true rfl rfl rfl HZ.out (hk _ _ ?_))
                          | (have _k := P8; refine opw_max _ _ _ limit 0 lm rfl rfl rfl HLM.out (hk _ _ ?_))
                          | (have _k := P8; refine opw_load1 30 _ rfl _ Tryd.underlying30 rfl ⟨po, 0 + 2, none⟩ (.slice Bb nb db) rfl ((P8.out.fourth.cell 2).trans HC2.out) (hk _ _ ?_))
                          | (have _k := P8; refine opw_field 32 _ 2 2 rfl (by kernel_rfl) po 0 rfl (hk _ _ ?_))
                          | (have _k := Hv; refine opw_loadMid 34 _ rfl ix 0 rfl (bcells S) _ Tryd.underlying34 rfl HJS.out Hv.out.second HTS.out (hk _ _ ?_))); simp only [Act.put, List.setIfInBounds_toArray, List.set_cons_zero, List.set_cons_succ]))
                      go_meet
                      case rel => exact ⟨L2, hl2, ht2, HK2, Lib.hid (P8.out.right.cast (show _ = (sep (blk ix (.cells (bcells S).toArray 34 (0, 0))) (sep (blk po (.cells OC.toArray 32 (0, 0))) (sep (cacheA p L2 lm) (sep (mapI mp M2) R)))) by ac_rfl)).right.right⟩
                    · have HZ : Hid (cmpZ .leq (nb : Int) lm = some false) := Lib.hid (by show some (decide ((nb : Int) ≤ lm)) = some false; rw [decide_eq_false hfit])
                      have HGC := Lib.hid (getC (st := st) (R := R) (lim := lm) (L := L2) (L' := L2) (id := S) (g := []) (ok := false) HKY.out HST.out HLS.out (by rw [HGE.out, if_neg hfit]) (by omega) (by omega))
                      clear hfit HGE
                      go_wp2_with (first
                        | (have _k := P8; go_at_call 16; refine (HSM.out _ _ _ (sees_row st _ 1 _ _ _ _ _ P8.out) (HSB.out _ P8.out.right.right.right.right.right)).mono ?_; rintro e w9 ⟨rfl, rfl⟩)
                        | (have _k := Hv; go_at_call 15; refine (HGC.out p _ _ (fun w h => h.right.right.right) Hv.out).mono ?_; rintro e w9 ⟨Ag, cg, rfl, h9⟩; have P8 := Lib.hid h9; clear h9)
                        | ((first | (with_reducible refine wpList_plain rfl ?_) | ((with_reducible refine wpList_yes _ _ rfl ?_ ?_); (focus rfl))); intro _ hk; (first
                          | (have _k := P8; refine opw_pickF _ _ _ _ rfl rfl rfl (hk _ _ ?_))
                          | (have _k := P8; refine opw_pickT _ _ _ _ rfl rfl rfl (hk _ _ ?_))
                          | (have _k := P8; refine opw_not _ _ true rfl rfl false rfl (hk _ _ ?_))
                          | (have _k := P8; refine opw_neBool _ _ _ _ false false rfl rfl rfl rfl false rfl (hk _ _ ?_))
                          | (have _k := P8; refine opw_cmp .leq _ _ _ _ .i64 (nb : Int) lm false rfl rfl rfl HZ.out (hk _ _ ?_))
                          | (have _k := P8; refine opw_max _ _ _ limit 0 lm rfl rfl rfl HLM.out (hk _ _ ?_))
                          | (have _k := P8; refine opw_load1 30 _ rfl _ Tryd.underlying30 rfl ⟨po, 0 + 2, none⟩ (.slice Bb nb db) rfl ((P8.out.fourth.cell 2).trans HC2.out) (hk _ _ ?_))
                          | (have _k := P8; refine opw_field 32 _ 2 2 rfl (by kernel_rfl) po 0 rfl (hk _ _ ?_))
                          | (have _k := Hv; refine opw_loadMid 34 _ rfl ix 0 rfl (bcells S) _ Tryd.underlying34 rfl HJS.out Hv.out.second HTS.out (hk _ _ ?_))); simp only [Act.put, List.setIfInBounds_toArray, List.set_cons_zero, List.set_cons_succ]))
                      go_meet
                      case rel => exact ⟨L2, hl2, ht2, HK2, Lib.hid (P8.out.right.cast (show _ = (sep (blk ix (.cells (bcells S).toArray 34 (0, 0))) (sep (blk po (.cells OC.toArray 32 (0, 0))) (sep (cacheA p L2 lm) (sep (mapI mp M2) R)))) by ac_rfl)).right.right⟩
                  · have HE1 : Hid (cmpZ .eql kd 1 = some false) := Lib.hid (by simp only [cmpZ]; congr 1; simpa using e1)
                    clear e1
                    by_cases e4 : kd = 4
                    · have HE4 : Hid (cmpZ .eql kd 4 = some true) := Lib.hid (by simp only [cmpZ]; congr 1; simpa using e4)
                      clear e4
                      obtain ⟨L2, hL2⟩ : ∃ L, L = (spoilL S bit LK).1 := ⟨_, rfl⟩
                      obtain ⟨ok, hok⟩ : ∃ L, L = (spoilL S bit LK).2 := ⟨_, rfl⟩
                      have hsp : spoilL S bit LK = (L2, ok) := by rw [hL2, hok]
                      have HPC := Lib.hid (spoilC (st := st) (lim := lm) (L := LK) (L' := L2) (id := S) (bit := bit) (ok := ok) HLS.out hsp (by omega) (by omega))
                      have hl2 : L2.length ≤ i + 1 := by rw [hL2, len_spoilL]; omega
                      have ht2 : totL L2 ≤ 100 * (i + 1) := by rw [hL2, tot_spoilL]; omega
                      have HK2 : Hid (Keep lm L2) := Lib.hid (keep_spoil HKP.out hsp)
                      clear hL2 hok hsp
                      go_wp2_with (first
                        | (have _k := D7; go_at_call 18; refine (HPC.out p _ _ (D7.out.cast (show _ = (sep (cacheA p LK lm) (sep (blk ix (.cells (bcells S).toArray 34 (0, 0))) (sep (blk po (.cells OC.toArray 32 (0, 0))) (sep (mapI mp M2) R)))) by ac_rfl))).mono ?_; rintro e w9 ⟨rfl, h9⟩; have W1 : Hid (Has st (sep (cacheA p L2 lm) (sep (mapI mp M2) R)) w9) := Lib.hid (h9.cast (show _ = (sep (blk ix (.cells (bcells S).toArray 34 (0, 0))) (sep (blk po (.cells OC.toArray 32 (0, 0))) (sep (cacheA p L2 lm) (sep (mapI mp M2) R)))) by ac_rfl)).right.right; clear h9)
                        | ((first | (with_reducible refine wpList_plain rfl ?_) | ((with_reducible refine wpList_yes _ _ rfl ?_ ?_); (focus rfl))); intro _ hk; (first
                          | (have _k := D7; refine opw_load1 3 _ rfl _ Tryd.underlying3 rfl ⟨po, 0 + 1, none⟩ (.int .i64 bit) rfl ((D7.out.second.cell 1).trans HC1.out) (hk _ _ ?_))
                          | (have _k := D7; refine opw_field 32 _ 1 1 rfl (by kernel_rfl) po 0 rfl (hk _ _ ?_))
                          | (have _k := D7; refine opw_loadMid 34 _ rfl ix 0 rfl (bcells S) _ Tryd.underlying34 rfl HJS.out D7.out HTS.out (hk _ _ ?_))
                          | (refine opw_cmp .eql _ _ _ _ .i64 kd 0 false rfl rfl rfl HE0.out (hk _ _ ?_))
                          | (refine opw_cmp .eql _ _ _ _ .i64 kd 1 false rfl rfl rfl HE1.out (hk _ _ ?_))
                          | (refine opw_cmp .eql _ _ _ _ .i64 kd 4 true rfl rfl rfl HE4.out (hk _ _ ?_))); simp only [Act.put, List.setIfInBounds_toArray, List.set_cons_zero, List.set_cons_succ]))
                      go_meet
                      case rel => exact ⟨L2, hl2, ht2, HK2, W1⟩
                    · have HE4 : Hid (cmpZ .eql kd 4 = some false) := Lib.hid (by simp only [cmpZ]; congr 1; simpa using e4)
                      clear e4
                      obtain ⟨L2, hL2⟩ : ∃ L, L = (getL S LK).1 := ⟨_, rfl⟩
                      obtain ⟨gb, hgb⟩ : ∃ L, L = (getL S LK).2.1 := ⟨_, rfl⟩
                      obtain ⟨ok, hok⟩ : ∃ L, L = (getL S LK).2.2 := ⟨_, rfl⟩
                      have hget : getL S LK = (L2, gb, ok) := by rw [hL2, hgb, hok]
                      obtain ⟨hk2, hsg, hgl⟩ := keep_get HKP.out hget
                      have HK2 := Lib.hid hk2
                      have hl2 : L2.length ≤ i + 1 := by rw [hL2]; have := len_getL S LK; omega
                      have ht2 : totL L2 ≤ 100 * (i + 1) := by rw [hL2]; have := tot_getL S LK; omega
                      have hgl2 : gb.length ≤ 3000 := by omega
                      clear hL2 hgb hok hk2 hgl
                      cases ok with
                      | false =>
                        have HGC := Lib.hid (getC (st := st) (R := R) (lim := lm) (L := LK) (L' := L2) (id := S) (g := gb) (ok := false) HKY.out HST.out HLS.out hget (by omega) (by omega))
                        clear hget hsg
                        go_wp2_with (first
                          | (have _k := D7; go_at_call 15; refine (HGC.out p _ _ (fun w h => h.right.right.right) (D7.out.cast (show _ = (sep (cacheA p LK lm) (sep (blk ix (.cells (bcells S).toArray 34 (0, 0))) (sep (blk po (.cells OC.toArray 32 (0, 0))) (sep (mapI mp M2) R)))) by ac_rfl))).mono ?_; rintro e w9 ⟨Ag, cg, rfl, h9⟩; have P8 := Lib.hid h9; clear h9)
                          | ((first | (with_reducible refine wpList_plain rfl ?_) | ((with_reducible refine wpList_yes _ _ rfl ?_ ?_); (focus rfl))); intro _ hk; (first
                            | (have _k := P8; refine opw_pickT _ _ _ _ rfl rfl rfl (hk _ _ ?_))
                            | (have _k := P8; refine opw_pickF _ _ _ _ rfl rfl rfl (hk _ _ ?_))
                            | (have _k := P8; refine opw_load1 30 _ rfl _ Tryd.underlying30 rfl ⟨po, 0 + 2, none⟩ (.slice Bb nb db) rfl ((P8.out.fourth.cell 2).trans HC2.out) (hk _ _ ?_))
                            | (have _k := P8; refine opw_field 32 _ 2 2 rfl (by kernel_rfl) po 0 rfl (hk _ _ ?_))
                            | (have _k := D7; refine opw_loadMid 34 _ rfl ix 0 rfl (bcells S) _ Tryd.underlying34 rfl HJS.out D7.out HTS.out (hk _ _ ?_))
                            | (refine opw_cmp .eql _ _ _ _ .i64 kd 0 false rfl rfl rfl HE0.out (hk _ _ ?_))
                            | (refine opw_cmp .eql _ _ _ _ .i64 kd 1 false rfl rfl rfl HE1.out (hk _ _ ?_))
                            | (refine opw_cmp .eql _ _ _ _ .i64 kd 4 false rfl rfl rfl HE4.out (hk _ _ ?_))); simp only [Act.put, List.setIfInBounds_toArray, List.set_cons_zero, List.set_cons_succ]))
                        go_meet
                        case rel => exact ⟨L2, hl2, ht2, HK2, Lib.hid (P8.out.right.cast (show _ = (sep (blk ix (.cells (bcells S).toArray 34 (0, 0))) (sep (blk po (.cells OC.toArray 32 (0, 0))) (sep (cacheA p L2 lm) (sep (mapI mp M2) R)))) by ac_rfl)).right.right⟩
                      | true =>
                        have HGC := Lib.hid (getC (st := st) (R := R) (lim := lm) (L := LK) (L' := L2) (id := S) (g := gb) (ok := true) HKY.out HST.out HLS.out hget (by omega) (by omega))
                        have hsg := hsg rfl
                        by_cases hsame : (gb == bl) = true
                        · have HSM : Hid (∀ w (u v : Value), Rd 1 w u gb.length (bcells gb) → Rd 1 w v nb (bcells bl) → Calls Tryd.prog 16 #[u, v] w fun e w' => e = .returned (.bool true) ∧ w = w') := Lib.hid fun w u v hu hv => (sameB_any gb bl _ _ u v w hu hv).mono fun e w' h' => ⟨by rw [h'.1, hsame], h'.2⟩
                          have HSG := Lib.hid hsg
                          clear hsame hget hsg
                          go_wp2_with (first
                            | (have _k := P8; go_at_call 16; refine (HSM.out _ _ _ (sees_row st _ 1 _ _ _ _ _ P8.out) (HSB.out _ P8.out.right.right.right.right.right)).mono ?_; rintro e w9 ⟨rfl, rfl⟩)
                            | (have _k := D7; go_at_call 15; refine (HGC.out p _ _ (fun w h => h.right.right.right) (D7.out.cast (show _ = (sep (cacheA p LK lm) (sep (blk ix (.cells (bcells S).toArray 34 (0, 0))) (sep (blk po (.cells OC.toArray 32 (0, 0))) (sep (mapI mp M2) R)))) by ac_rfl))).mono ?_; rintro e w9 ⟨Ag, cg, rfl, h9⟩; have P8 := Lib.hid h9; clear h9)
                            | ((first | (with_reducible refine wpList_plain rfl ?_) | ((with_reducible refine wpList_yes _ _ rfl ?_ ?_); (focus rfl))); intro _ hk; (first
                              | (have _k := P8; refine opw_pickT _ _ _ _ rfl rfl rfl (hk _ _ ?_))
                              | (have _k := P8; refine opw_pickF _ _ _ _ rfl rfl rfl (hk _ _ ?_))
                              | (have _k := P8; refine opw_not _ _ true rfl rfl false rfl (hk _ _ ?_))
                              | (have _k := P8; refine opw_load1 30 _ rfl _ Tryd.underlying30 rfl ⟨po, 0 + 2, none⟩ (.slice Bb nb db) rfl ((P8.out.fourth.cell 2).trans HC2.out) (hk _ _ ?_))
                              | (have _k := P8; refine opw_field 32 _ 2 2 rfl (by kernel_rfl) po 0 rfl (hk _ _ ?_))
                              | (have _k := D7; refine opw_loadMid 34 _ rfl ix 0 rfl (bcells S) _ Tryd.underlying34 rfl HJS.out D7.out HTS.out (hk _ _ ?_))
                              | (refine opw_cmp .eql _ _ _ _ .i64 kd 0 false rfl rfl rfl HE0.out (hk _ _ ?_))
                              | (refine opw_cmp .eql _ _ _ _ .i64 kd 1 false rfl rfl rfl HE1.out (hk _ _ ?_))
                              | (refine opw_cmp .eql _ _ _ _ .i64 kd 4 false rfl rfl rfl HE4.out (hk _ _ ?_))); simp only [Act.put, List.setIfInBounds_toArray, List.set_cons_zero, List.set_cons_succ]))
                          go_meet
                          case rel => exact ⟨L2, hl2, ht2, HK2, Lib.hid (P8.out.right.cast (show _ = (sep (blk ix (.cells (bcells S).toArray 34 (0, 0))) (sep (blk po (.cells OC.toArray 32 (0, 0))) (sep (cacheA p L2 lm) (sep (mapI mp M2) R)))) by ac_rfl)).right.right⟩
                        · have hsame : (gb == bl) = false := by simpa using hsame
                          have HSM : Hid (∀ w (u v : Value), Rd 1 w u gb.length (bcells gb) → Rd 1 w v nb (bcells bl) → Calls Tryd.prog 16 #[u, v] w fun e w' => e = .returned (.bool false) ∧ w = w') := Lib.hid fun w u v hu hv => (sameB_any gb bl _ _ u v w hu hv).mono fun e w' h' => ⟨by rw [h'.1, hsame], h'.2⟩
                          have HSG := Lib.hid hsg
                          clear hsame hget hsg
                          go_wp2_with (first
                            | (have _k := P8; go_at_call 16; refine (HSM.out _ _ _ (sees_row st _ 1 _ _ _ _ _ P8.out) (HSB.out _ P8.out.right.right.right.right.right)).mono ?_; rintro e w9 ⟨rfl, rfl⟩)
                            | (have _k := D7; go_at_call 15; refine (HGC.out p _ _ (fun w h => h.right.right.right) (D7.out.cast (show _ = (sep (cacheA p LK lm) (sep (blk ix (.cells (bcells S).toArray 34 (0, 0))) (sep (blk po (.cells OC.toArray 32 (0, 0))) (sep (mapI mp M2) R)))) by ac_rfl))).mono ?_; rintro e w9 ⟨Ag, cg, rfl, h9⟩; have P8 := Lib.hid h9; clear h9)
                            | ((first | (with_reducible refine wpList_plain rfl ?_) | ((with_reducible refine wpList_yes _ _ rfl ?_ ?_); (focus rfl))); intro _ hk; (first
                              | (have _k := P8; refine opw_pickT _ _ _ _ rfl rfl rfl (hk _ _ ?_))
                              | (have _k := P8; refine opw_pickF _ _ _ _ rfl rfl rfl (hk _ _ ?_))
                              | (have _k := P8; refine opw_not _ _ false rfl rfl true rfl (hk _ _ ?_))
                              | (have _k := P8; refine opw_load1 30 _ rfl _ Tryd.underlying30 rfl ⟨po, 0 + 2, none⟩ (.slice Bb nb db) rfl ((P8.out.fourth.cell 2).trans HC2.out) (hk _ _ ?_))
                              | (have _k := P8; refine opw_field 32 _ 2 2 rfl (by kernel_rfl) po 0 rfl (hk _ _ ?_))
                              | (have _k := D7; refine opw_loadMid 34 _ rfl ix 0 rfl (bcells S) _ Tryd.underlying34 rfl HJS.out D7.out HTS.out (hk _ _ ?_))
                              | (refine opw_cmp .eql _ _ _ _ .i64 kd 0 false rfl rfl rfl HE0.out (hk _ _ ?_))
                              | (refine opw_cmp .eql _ _ _ _ .i64 kd 1 false rfl rfl rfl HE1.out (hk _ _ ?_))
                              | (refine opw_cmp .eql _ _ _ _ .i64 kd 4 false rfl rfl rfl HE4.out (hk _ _ ?_))); simp only [Act.put, List.setIfInBounds_toArray, List.set_cons_zero, List.set_cons_succ]))
                          have HOG : Hid (∀ w, Has st (sep (row 5 1 (.slice Ag gb.length cg) gb.length (bcells gb)) (sep (cacheA p L2 lm) (sep (blk ix (.cells (bcells S).toArray 34 (0, 0))) (sep (blk po (.cells OC.toArray 32 (0, 0))) (sep (mapI mp M2) R))))) w → Calls Tryd.prog 11 #[.slice Ag gb.length cg] w fun e w' => e = .returned (.agg (bcells S).toArray) ∧ Has st (sep (row 5 1 (.slice Ag gb.length cg) gb.length (bcells gb)) (sep (cacheA p L2 lm) (sep (blk ix (.cells (bcells S).toArray 34 (0, 0))) (sep (blk po (.cells OC.toArray 32 (0, 0))) (sep (mapI mp M2) R))))) w') := Lib.hid fun w hw => by
                            have q := refOf_any st _ gb _ w hw (fun w h => sees_row st _ 1 _ _ _ _ w h) (by omega)
                            rw [HSG.out] at q
                            exact q
                          refine wp_region_inv3 (fun L u w' => Slots (fun kk => ([some (.slice Ag gb.length cg), some (.agg (bcells S).toArray), some (.agg (bcells S).toArray), some (.bool true), some (.bool true)] : List (Option Value)).getD kk none) L u ∧ Has st (sep (row 5 1 (.slice Ag gb.length cg) gb.length (bcells gb)) (sep (cacheA p L2 lm) (sep (blk ix (.cells (bcells S).toArray 34 (0, 0))) (sep (blk po (.cells OC.toArray 32 (0, 0))) (sep (mapI mp M2) R))))) w') (by kernel_rfl) (by decide +kernel) (by decide +kernel) (by kernel_rfl) (by kernel_rfl) (fun u => ⟨Slots.start _ u, P8.out.drew⟩) ?_ ?_
                          · refine ⟨?_, ?_, ?_, ?_, ?_, trivial⟩
                            · refine RegStep3.plain rfl ?_; rintro L u w1 bA hL hW hD hU ⟨hS, hH⟩ hin hout; exact opw_move _ _ (.inl rfl) ((hout 14 (by kernel_rfl)).trans (by kernel_rfl)) ⟨_, rfl, hS.step 0 _ (.inr rfl), hH⟩
                            · refine RegStep3.plain rfl ?_; rintro L u w1 bA hL hW hD hU ⟨hS, hH⟩ hin hout; exact opw_call_ret _ _ _ [(.slice Ag gb.length cg)] rfl (by kernel_rfl) (list2 ((hin 0 68 rfl).trans (hS 0 _ rfl (hW.of 0 (by decide)))) rfl) (HOG.out _ hH) (fun e w2 he => by obtain ⟨rfl, h2⟩ := he; exact ⟨_, rfl, _, rfl, hS.step 1 _ (.inr rfl), h2⟩)
                            · refine RegStep3.plain rfl ?_; rintro L u w1 bA hL hW hD hU ⟨hS, hH⟩ hin hout; exact opw_loadMid _ _ rfl ix (0) ((hout 9 (by kernel_rfl)).trans (by kernel_rfl)) (bcells S) _ Tryd.underlying34 rfl HJS.out (hH).third HTS.out ⟨_, rfl, hS.step 2 _ (.inr rfl), hH⟩
                            · refine RegStep3.plain rfl ?_; rintro L u w1 bA hL hW hD hU ⟨hS, hH⟩ hin hout; exact opw_eqRow _ _ 5 32 _ _ S S Tryd.underlying34 Tryd.underlying5 infosz (by kernel_rfl) HLS.out HLS.out rfl ((hin 1 69 rfl).trans (hS 1 _ rfl (hW.of 1 (by decide)))) ((hin 2 70 rfl).trans (hS 2 _ rfl (hW.of 2 (by decide)))) true HSS.out ⟨_, rfl, hS.step 3 _ (.inr rfl), hH⟩
                            · refine RegStep3.plain rfl ?_; rintro L u w1 bA hL hW hD hU ⟨hS, hH⟩ hin hout; exact opw_move _ _ (.inr rfl) ((hin 3 71 rfl).trans (hS 3 _ rfl (hW.of 3 (by decide)))) ⟨_, rfl, hS.step 4 _ (.inr rfl), hH⟩
                          intro L u wv hL ⟨hS, hH⟩
                          have E0 := hS 0 _ rfl (hL 0 (by decide))
                          have E1 := hS 1 _ rfl (hL 1 (by decide))
                          have E2 := hS 2 _ rfl (hL 2 (by decide))
                          have E3 := hS 3 _ rfl (hL 3 (by decide))
                          have E4 := hS 4 _ rfl (hL 4 (by decide))
                          simp only [frame_cons, frame_nil, E0, E1, E2, E3, E4, Act.put, List.setIfInBounds_toArray, List.set_cons_zero, List.set_cons_succ]
                          clear hL hS E0 E1 E2 E3 E4
                          have Hv := Lib.hid hH
                          clear hH P8
                          go_wp2
                          go_ret
                          exact ⟨rfl, Hv.out.right.right.right.right.right⟩
              case rest =>
                obtain ⟨L2, hl2, ht2, HK2, W0⟩ := hcut
                clear D7 HKP HC0 HC1 HC2
                obtain ⟨SZ, hSZ⟩ : ∃ n, n = totL L2 := ⟨_, rfl⟩
                have hsz : (SZ : Int) ≤ lm := by rw [hSZ]; exact HK2.out.fits
                have HZZ := Lib.hid (sizeC (st := st) (lim := lm) (L := L2) (n := SZ) hSZ)
                obtain ⟨T, hT⟩ : ∃ T, T = idL L2 := ⟨_, rfl⟩
                have hTl : T.length = L2.length := by rw [hT, idL, List.length_map]
                have HLN := Lib.hid (lenC (st := st) (lim := lm) (L := L2) (n := T.length) hTl)
                have HAL := Lib.hid (allC (st := st) (lim := lm) (L := L2) (most := 1000) (T := T) (by rw [topL_all L2 (by omega), hT]; rfl) (by omega))
                have HG : Hid (cmpZ .gtr (SZ : Int) lm = some false) := Lib.hid (by show some (decide ((SZ : Int) > lm)) = some false; rw [decide_eq_false (by omega)])
                have HNN : Hid (cmpZ .neq ((T.length : Nat) : Int) ((T.length : Nat) : Int) = some false) := Lib.hid (by simp [cmpZ])
                clear hSZ hT hTl hsz
                go_wp2_with (first
                  | (have _k := W2; go_at_call 21; refine (HAL.out _ _ _ W2.out).mono ?_; rintro e w9 ⟨Aw, cw, rfl, h9⟩; have W3 := Lib.hid h9.right; clear h9)
                  | (have _k := W1; go_at_call 22; refine (HLN.out _ _ _ W1.out).mono ?_; rintro e w9 ⟨rfl, h9⟩; have W2 := Lib.hid h9; clear h9)
                  | (have _k := W0; go_at_call 23; refine (HZZ.out _ _ _ W0.out).mono ?_; rintro e w9 ⟨rfl, h9⟩; have W1 := Lib.hid h9; clear h9)
                  | ((first | (with_reducible refine wpList_plain rfl ?_) | ((with_reducible refine wpList_yes _ _ rfl ?_ ?_); (focus rfl))); intro _ hk; (first
                    | (have _k := W3; refine opw_cmp .neq _ _ _ _ .i64 ((T.length : Nat) : Int) ((T.length : Nat) : Int) false rfl rfl rfl HNN.out (hk _ _ ?_))
                    | (have _k := W1; refine opw_cmp .gtr _ _ _ _ .i64 (SZ : Int) lm false rfl rfl rfl HG.out (hk _ _ ?_))
                    | (have _k := W1; refine opw_max _ _ _ limit 0 lm rfl rfl rfl HLM.out (hk _ _ ?_))
                    | (have _k := W3; refine opw_pickF _ _ _ _ rfl rfl rfl (hk _ _ ?_))); simp only [Act.put, List.setIfInBounds_toArray, List.set_cons_zero, List.set_cons_succ]))
                go_roundw
                case rel => exact ⟨i + 1, L2, M2, by omega, by go_num, hl2, ht2, HK2, HM2, W3⟩
                case measure => simp [intOf]; omega
      · obtain rfl : i = N := by omega
        go_wp2
        go_ret
        exact ⟨rfl, HC.out.right.right⟩
end Go.Proofs.YtblknhpafifebaaDoor
