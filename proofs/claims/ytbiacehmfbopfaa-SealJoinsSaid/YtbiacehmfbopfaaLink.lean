/-
  Layer 4: link, Chain.
-/
import Derived.Test.YtbiacehmfbopfaaRefSeal
namespace Go.Proofs.Ytbiacehmfbopfaa
open Go.RowKit Go.Sl Go.Crc
set_option linter.unusedVariables false
set_option linter.unusedSimpArgs false
/-- a row with its length, and the sum of both -/
def linkB (l : List UInt8) : List UInt8 := le l.length 4 ++ le (crc (le l.length 4 ++ l)).toNat 4 ++ l
theorem linkB_length (l : List UInt8) : (linkB l).length = l.length + 8 := by simp [linkB, le_length]; omega
def chainB (ls : List (List UInt8)) : List UInt8 := (ls.map linkB).flatten
theorem chainB_snoc (ls : List (List UInt8)) (l : List UInt8) : chainB (ls ++ [l]) = chainB ls ++ linkB l := by simp [chainB]
theorem chainB_append (ls ms : List (List UInt8)) : chainB (ls ++ ms) = chainB ls ++ chainB ms := by simp [chainB]
theorem chainB_cons (l : List UInt8) (ls : List (List UInt8)) : chainB (l :: ls) = linkB l ++ chainB ls := by simp [chainB]
set_option maxRecDepth 100000 in
set_option maxHeartbeats 2000000 in
theorem link_any (st : World) (R : HProp) (l : List UInt8) (v : Value) (w : World) (h : Has st R w) (hs : Sees st R 1 v l.length (bcells l)) (hb : l.length ≤ 4294967295) :
    Calls Try.prog 27 #[v] w fun e w' => ∃ A c, e = .returned (.slice A (linkB l).length c) ∧ Has st (sep (row 5 1 (.slice A (linkB l).length c) (linkB l).length (bcells (linkB l))) R) w' := by
  obtain ⟨Av, cv, rfl⟩ := hs.form h
  obtain ⟨L, hL⟩ : ∃ L, L = le l.length 4 := ⟨_, rfl⟩
  obtain ⟨M, hM⟩ : ∃ M, M = L ++ l := ⟨_, rfl⟩
  obtain ⟨X, hX⟩ : ∃ X, X = crc M := ⟨_, rfl⟩
  obtain ⟨E, hE⟩ : ∃ E, E = L ++ le X.toNat 4 := ⟨_, rfl⟩
  obtain ⟨S, hS⟩ : ∃ S, S = linkB l := ⟨_, rfl⟩
  rw [← hS]
  have hSE : E ++ l = S := by rw [hS, hE, hX, hM, hL]; rfl
  have hLl : L.length = 4 := by rw [hL, le_length]
  have hMl : L.length + l.length = M.length := by rw [hM, List.length_append]
  have hEl : E.length = 8 := by rw [hE, List.length_append, hLl, le_length]
  have hSl : S.length = l.length + 8 := by rw [hS, linkB_length]
  have hc1 : IntKind.u64.wrap (l.length : Int) = (l.length : Int) := by simp [IntKind.wrap, IntKind.signed, IntKind.bits]; omega
  have hc2 := conv_64 X
  have hn1 : ∀ RR p w, Has st (sep (writer p []) RR) w → Calls Try.prog 23 #[.pointer (some ⟨p, 0, none⟩), .int .u64 (l.length : Int), .int .i64 4] w fun e w' => e = .returned (.tuple #[]) ∧ Has st (sep (writer p L) RR) w' := fun RR p w h => by
    have := num_any st RR p [] l.length 4 w h (by simp)
    rw [List.nil_append, show held 4 = 4 from rfl, ← hL] at this; exact this
  have hn2 : ∀ RR p w, Has st (sep (writer p L) RR) w → Calls Try.prog 23 #[.pointer (some ⟨p, 0, none⟩), .int .u64 (X.toNat : Int), .int .i64 4] w fun e w' => e = .returned (.tuple #[]) ∧ Has st (sep (writer p E) RR) w' := fun RR p w h => by
    have := num_any st RR p L X.toNat 4 w h (by rw [hLl]; decide)
    rw [show held 4 = 4 from rfl, ← hE] at this; exact this
  have hrw : ∀ RR p w, Has st (sep (writer p E) RR) w → Sees st RR 1 (.slice Av l.length cv) l.length (bcells l) → Calls Try.prog 22 #[.pointer (some ⟨p, 0, none⟩), .slice Av l.length cv] w fun e w' => e = .returned (.tuple #[]) ∧ Has st (sep (writer p S) RR) w' := fun RR p w h hs => by
    have := raw_any st RR p E l _ w h hs (by rw [hEl]; omega)
    rw [hSE] at this; exact this
  have hsm : ∀ v w, Rd 1 w v M.length (bcells M) → Calls Try.prog 13 #[v] w fun e w' => e = .returned (.int .u32 (X.toNat : Int)) ∧ w = w' := fun v w hr => by rw [hX]; exact crc_any M v w hr
  have hap : bcells L ++ bcells l = bcells M := by rw [hM, bcells_append]
  have HS := Lib.hid hs
  have HH := Lib.hid h
  have HC1 := Lib.hid hc1
  have HC2 := Lib.hid hc2
  have HN1 := Lib.hid hn1
  have HN2 := Lib.hid hn2
  have HRW := Lib.hid hrw
  have HSM := Lib.hid hsm
  have HAP := Lib.hid hap
  have HML := Lib.hid hMl
  have hL4 : L.length ≤ 4 := by omega
  have hS8 : S.length ≤ l.length + 8 := by omega
  clear hs h hL hM hX hE hS hSE hEl hLl hSl hc1 hc2 hn1 hn2 hrw hsm hap hMl
  go_enter Try.func27, Try.ntmps27
  go_wp2_with (first
    | (have _k := H3; go_at_call 23; refine (HN2.out _ _ _ H4.out.second).mono ?_; rintro e w5 ⟨rfl, h5⟩; have H5 := Lib.hid h5; clear h5)
    | (go_at_call 23; refine (HN1.out _ _ _ H1.out).mono ?_; rintro e w2 ⟨rfl, h2⟩; have H2 := Lib.hid h2; clear h2)
    | (have _k := H6; go_at_call 24; refine (done_any st _ p S _ H6.out (by omega)).mono ?_; rintro e w7 ⟨A7, c7, rfl, h7⟩; have H7 := Lib.hid h7; clear h7)
    | (go_at_call 24; refine (done_any st _ p L _ H2.out (by omega)).mono ?_; rintro e w3 ⟨A3, c3, rfl, h3⟩; have H3 := Lib.hid h3; clear h3)
    | (go_at_call 13; refine (HSM.out _ _ (sees_row st _ 1 _ _ _ _ _ H4.out)).mono ?_; rintro e w4' ⟨rfl, rfl⟩)
    | (go_at_call 22; refine (HRW.out _ _ _ H5.out HS.out.right).mono ?_; rintro e w6 ⟨rfl, h6⟩; have H6 := Lib.hid h6; clear h6)
    | (refine wp_append (v := .slice A3 L.length c3) rfl _ _ 22 5 1 1 (.int .u8 0) rfl Try.underlying22 infoB rfl (by decide) rfl rfl H3.out (HS.out.right.right _ H3.out) (bcells_one l) (by unfold maxLen; omega) (by omega) ?_; intro A4 c4 w4 h4 _; rw [HAP.out, HML.out] at h4; rw [HML.out]; have H4 := Lib.hid h4; clear h4)
    | ((with_reducible refine wpList_plain rfl ?_); intro _ hk; (first
      | (refine opw_alloc 46 (.agg #[.slice none 0 0]) #[.slice none 0 0] rfl zeroWriter rfl HH.out (fun p w1 hp h1 => hk _ _ ?_); clear hp; have H1 := Lib.hid (writer_of h1); clear h1)
      | (refine opw_len _ _ _ Try.underlying22 Av l.length cv rfl rfl (hk _ _ ?_))
      | (refine opw_conv _ _ _ .i64 .u64 (l.length : Int) (l.length : Int) rfl Try.underlying3 Try.underlying49 rfl HC1.out (hk _ _ ?_))
      | (refine opw_conv _ _ _ .u32 .u64 (X.toNat : Int) (X.toNat : Int) rfl Try.underlying30 Try.underlying49 rfl HC2.out (hk _ _ ?_))); simp only [Act.put, List.setIfInBounds_toArray, List.set_cons_zero, List.set_cons_succ]))
  go_ret
  exact ⟨A7, c7, rfl, H7.out.drop2.drop2⟩
theorem infoS : (Try.prog.info? 22).map (·.size) = some 1 := by kernel_rfl
def ChainI (st : World) (R : HProp) (ls : List (List UInt8)) (v3 v8 : Value) (w : World) : Prop := ∃ (i : Nat) (A : Option Addr) (c : Nat) (L : List UInt8), i ≤ ls.length ∧ v8 = .int .i64 ((i : Nat) : Int) ∧ Hid (L = chainB (ls.take i)) ∧ v3 = .slice A L.length c ∧ Has st (sep (row 5 1 (.slice A L.length c) L.length (bcells L)) R) w
theorem chainB_take_le (ls : List (List UInt8)) (i : Nat) : (chainB (ls.take i)).length ≤ (chainB ls).length := by
  have : chainB ls = chainB (ls.take i) ++ chainB (ls.drop i) := by rw [← chainB_append, List.take_append_drop]
  rw [this, List.length_append]; omega
set_option maxRecDepth 100000 in
set_option maxHeartbeats 2000000 in
theorem chain_any (st : World) (R : HProp) (ls : List (List UInt8)) (v : Value) (w : World) (h : Has st R w) (hs : SeesL st R v ls) (hb : (chainB ls).length ≤ 1000000000) :
    Calls Try.prog 18 #[v] w fun e w' => ∃ A c, e = .returned (.slice A (chainB ls).length c) ∧ Has st (sep (row 5 1 (.slice A (chainB ls).length c) (chainB ls).length (bcells (chainB ls))) R) w' := by
  obtain ⟨vs, hv, hall⟩ := hs
  obtain ⟨V, k, rfl⟩ := hv.form h
  have hk := (hv w h).le_cap
  unfold maxLen at hk
  have HV := Lib.hid hv
  have HALL := Lib.hid hall
  have HH := Lib.hid h
  clear hv hall h
  go_enter Try.func18, Try.ntmps18
  go_wp2_with ((with_reducible refine wpList_plain rfl ?_); intro _ hk; (first
      | (refine opw_len _ _ _ Try.underlying35 V ls.length k rfl rfl (hk _ _ ?_))); simp only [Act.put, List.setIfInBounds_toArray, List.set_cons_zero, List.set_cons_succ])
  go_loopw [3, 8] (ChainI st R ls) (fun _ v8 _ => ls.length - (intOf v8).toNat)
  case atStart => exact ⟨0, none, 0, [], Nat.zero_le _, rfl, Lib.hid rfl, rfl, HH.out.row_nil 5 1⟩
  case round =>
    obtain ⟨i, A, c, L, hi, rfl, HL, rfl, h3⟩ := hrel
    have H3 := Lib.hid h3
    clear h3 HH
    by_cases hlt : i < ls.length
    · obtain ⟨B, d, hvi, hsr⟩ := HALL.out i hlt
      obtain ⟨b, off, hA, hcell⟩ := (HV.out _ H3.out.right).at (by omega)
      subst hA
      have hci := hcell i _ hvi
      obtain ⟨m, hm⟩ : ∃ m, m = ls[i] := ⟨_, rfl⟩
      rw [← hm] at hci hsr
      obtain ⟨S, hS⟩ : ∃ S, S = linkB m := ⟨_, rfl⟩
      have hn : chainB (ls.take (i + 1)) = L ++ S := by rw [List.take_succ_eq_append_getElem hlt, chainB_snoc, ← HL.out, ← hm, hS]
      have hle := chainB_take_le ls (i + 1)
      rw [hn, List.length_append] at hle
      have hml : m.length ≤ 4294967295 := by rw [hS, linkB_length] at hle; omega
      have hlk : ∀ RR w, Has st (sep RR R) w → Calls Try.prog 27 #[.slice B m.length d] w fun e w' => ∃ A c, e = .returned (.slice A S.length c) ∧ Has st (sep (row 5 1 (.slice A S.length c) S.length (bcells S)) (sep RR R)) w' := fun RR w h => by rw [hS]; exact link_any st (sep RR R) m _ w h hsr.right hml
      have HCI := Lib.hid hci
      have HLK := Lib.hid hlk
      have HN := Lib.hid hn
      clear hvi hsr hcell hci hm hS hn hlk hml
      go_wp2_with (first
        | (go_at_call 27; refine (HLK.out _ _ H3.out).mono ?_; rintro e w4 ⟨A4, c4, rfl, h4⟩; have H4 := Lib.hid h4; clear h4)
        | (refine wp_append (v := .slice A L.length c) rfl _ _ 22 5 1 1 (.int .u8 0) rfl Try.underlying22 infoB rfl (by decide) rfl rfl H4.out.second (sees_row st _ 1 _ _ _ _ _ H4.out) (bcells_one S) (by unfold maxLen; omega) (by omega) ?_; intro A5 c5 w5 h5 _; have H5 := Lib.hid h5.drop2; clear h5)
        | ((with_reducible refine wpList_plain rfl ?_); intro _ hk; (first
          | (refine opw_indexSl 35 22 _ _ rfl Try.underlying35 infoS b off ls.length k i rfl rfl hlt (hk _ _ ?_))
          | (refine opw_load1 22 _ rfl _ Try.underlying22 rfl ⟨b, off + i, none⟩ (.slice B m.length d) rfl HCI.out (hk _ _ ?_))); simp only [Act.put, List.setIfInBounds_toArray, List.set_cons_zero, List.set_cons_succ]))
      go_wp2
      go_roundw
      case rel =>
        have hrel2 : ChainI st R ls (.slice A5 (L.length + S.length) c5) (.int .i64 ((i : Int) + 1)) w5 := by
          refine ⟨i + 1, A5, c5, L ++ S, by omega, by go_num, Lib.hid HN.out.symm, by rw [List.length_append], ?_⟩
          rw [List.length_append, ← bcells_append]; exact H5.out
        first | exact hrel2 | ((repeat apply Exists.intro); exact ⟨hrel2, rfl⟩)
      case measure => simp [intOf]; omega
    · obtain rfl : i = ls.length := by omega
      have e1 : L = chainB ls := by rw [HL.out, List.take_length]
      subst e1
      go_wp2
      go_ret
      exact ⟨A, c, rfl, H3.out⟩
end Go.Proofs.Ytbiacehmfbopfaa
