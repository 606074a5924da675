/-
  Layer 4: next.
-/
import Derived.Test.YtbiacehmfbopfaaLink
namespace Go.Proofs.Ytbiacehmfbopfaa
open Go.RowKit Go.Sl Go.Crc
set_option linter.unusedVariables false
set_option linter.unusedSimpArgs false
/-- a row, and what is behind it -/
def parse1 (l : List UInt8) : Option (List UInt8 × List UInt8) :=
  if l.length < 8 then none else if (l.drop 8).length < unle (l.take 4) then none
  else if (crc (le (unle (l.take 4)) 4 ++ (l.drop 8).take (unle (l.take 4)))).toNat = unle ((l.drop 4).take 4) then some ((l.drop 8).take (unle (l.take 4)), (l.drop 8).drop (unle (l.take 4))) else none
def NextR (st : World) (R0 F : HProp) (p : Nat) (l : List UInt8) (e : Ending) (w' : World) : Prop :=
  match parse1 l with
  | some (x, rest) => ∃ A c, e = .returned (.slice A x.length c) ∧ Sees st R0 1 (.slice A x.length c) x.length (bcells x) ∧ Has st (sep (reader st R0 p rest) F) w'
  | none => ∃ c l', (c == 0) = false ∧ e = thrown c ∧ Has st (sep (reader st R0 p l') F) w'
theorem next_none {st : World} {R0 F : HProp} {p : Nat} {l l' : List UInt8} {w : World} (hp : parse1 l = none) (c : Int) (hc : (c == 0) = false) (h : Has st (sep (reader st R0 p l') F) w) : NextR st R0 F p l (thrown c) w := by
  unfold NextR; rw [hp]; exact ⟨c, l', hc, rfl, h⟩
theorem le4_bytes (X : UInt32) (j : Nat) (h : j < 4) : (le X.toNat 4)[j]? = some (UInt8.ofNat (X.toNat / 256 ^ j)) := by
  match j, h with
  | 0, _ => rfl
  | 1, _ => rfl
  | 2, _ => rfl
  | 3, _ => rfl
theorem shl64 (c k : Nat) (hk : k ≤ 24) (hc : c < 256) : shZ .shl .u64 (c : Int) (k : Int) = some ((c * 2 ^ k : Nat) : Int) := by
  unfold shZ
  rw [if_neg (by omega)]
  simp only
  have h1 : min (k : Int).toNat IntKind.u64.bits = k := by rw [Int.toNat_natCast]; show min k 64 = k; omega
  rw [h1]
  have hp : (2 : Nat) ^ k ≤ 2 ^ 24 := Nat.pow_le_pow_right (by decide) hk
  have hm : c * 2 ^ k ≤ 255 * 2 ^ 24 := Nat.mul_le_mul (by omega) hp
  have e : (c : Int) * 2 ^ k = ((c * 2 ^ k : Nat) : Int) := by simp
  rw [e, IntWalk.u64_in _ ⟨by omega, by omega⟩]
theorem or64 (n c i : Nat) (hn : n < 256 ^ i) (hi : i < 4) (hc : c < 256) : bits .or .u64 (n : Int) ((c * 2 ^ (8 * i) : Nat) : Int) = ((n + c * 256 ^ i : Nat) : Int) := by
  have h := or_place n c i hn (by omega) hc
  have hp : (2 : Nat) ^ (8 * i) ≤ 2 ^ 24 := Nat.pow_le_pow_right (by decide) (by omega)
  have hm : c * 2 ^ (8 * i) ≤ 255 * 2 ^ 24 := Nat.mul_le_mul (by omega) hp
  have e1 : IntKind.u64.wrap (c : Int) = (c : Int) := IntWalk.u64_in _ ⟨by omega, by omega⟩
  have e : (c : Int) * 2 ^ (8 * i) = ((c * 2 ^ (8 * i) : Nat) : Int) := by simp
  rw [e1, e, IntWalk.u64_in _ ⟨by omega, by omega⟩] at h
  exact h
set_option maxRecDepth 100000 in
set_option maxHeartbeats 4000000 in
theorem next_any (st : World) (R0 F : HProp) (hF : ∀ w, Has st F w → Has st R0 w) (p : Nat) (l : List UInt8) (w : World) (h : Has st (sep (reader st R0 p l) F) w) :
    Calls Try.prog 30 #[.pointer (some ⟨p, 0, none⟩)] w (NextR st R0 F p l) := by
  have hh4 : held 4 = 4 := rfl
  have HHF := Lib.hid hF
  by_cases h4 : l.length < 4
  · have hp : parse1 l = none := by unfold parse1; rw [if_pos (by omega)]
    have HN := Lib.hid (next_none hp 20 (by decide) h)
    have HC := Lib.hid (rnum_no st R0 F hF p l 4 w h h4)
    clear hp h h4 hF hh4
    go_enter Try.func30, Try.ntmps30
    go_wp2_with (go_at_call 38; refine HC.out.mono ?_; rintro e w' ⟨rfl, rfl⟩)
    exact ⟨rfl, HN.out⟩
  · have hn1 := rnum_ok st R0 F hF p l 4 w h (by omega)
    rw [hh4] at hn1
    obtain ⟨n, hn⟩ : ∃ n, n = unle (l.take 4) := ⟨_, rfl⟩
    rw [← hn] at hn1
    have hnlt : n < 4294967296 := by have := unle_lt (l.take 4); rw [← hn, List.length_take, Nat.min_eq_left (by omega)] at this; omega
    have HN1 := Lib.hid hn1
    clear hn1 h
    by_cases h8 : l.length < 8
    · have hp : parse1 l = none := by unfold parse1; rw [if_pos h8]
      have HN : Hid (∀ w', Has st (sep (reader st R0 p (l.drop 4)) F) w' → NextR st R0 F p l (thrown 20) w') := Lib.hid fun w' h' => next_none hp 20 (by decide) h'
      have HC : Hid (∀ w', Has st (sep (reader st R0 p (l.drop 4)) F) w' → Calls Try.prog 38 #[.pointer (some ⟨p, 0, none⟩), .int .i64 4] w' fun e w'' => e = thrown 20 ∧ w' = w'') := Lib.hid fun w' h' => rnum_no st R0 F hF p (l.drop 4) 4 w' h' (by rw [List.length_drop, hh4]; omega)
      clear hp h8 hF hh4 hn hnlt h4
      go_enter Try.func30, Try.ntmps30
      go_wp2_with (first
        | (have _k := H1; go_at_call 38; refine (HC.out _ H1.out).mono ?_; rintro e w' ⟨rfl, rfl⟩)
        | (go_at_call 38; refine HN1.out.mono ?_; rintro e w1 ⟨rfl, h1⟩; have H1 := Lib.hid h1; clear h1))
      exact ⟨rfl, HN.out _ H1.out⟩
    · obtain ⟨s, hs⟩ : ∃ s, s = unle ((l.drop 4).take 4) := ⟨_, rfl⟩
      obtain ⟨r, hr⟩ : ∃ r, r = l.drop 8 := ⟨_, rfl⟩
      have hslt : s < 4294967296 := by have := unle_lt ((l.drop 4).take 4); rw [← hs, List.length_take, List.length_drop, Nat.min_eq_left (by omega)] at this; omega
      have HN2 : Hid (∀ w', Has st (sep (reader st R0 p (l.drop 4)) F) w' → Calls Try.prog 38 #[.pointer (some ⟨p, 0, none⟩), .int .i64 4] w' fun e w'' => e = .returned (.int .u64 (s : Int)) ∧ Has st (sep (reader st R0 p r) F) w'') := Lib.hid fun w' h' => by
        have := rnum_ok st R0 F hF p (l.drop 4) 4 w' h' (by rw [List.length_drop, hh4]; omega)
        rw [hh4, ← hs, List.drop_drop, ← hr] at this; exact this
      have HLF : Hid (∀ w', Has st (sep (reader st R0 p r) F) w' → Calls Try.prog 32 #[.pointer (some ⟨p, 0, none⟩)] w' fun e w'' => e = .returned (.int .i64 (r.length : Int)) ∧ w' = w'') := Lib.hid fun w' h' => left_any st R0 F hF p r w' h'
      have hru : parse1 l = if r.length < n then none else if (crc (le n 4 ++ r.take n)).toNat = s then some (r.take n, r.drop n) else none := by
        unfold parse1; rw [if_neg h8, ← hr, ← hn, ← hs]
      have HRL : Hid (∀ w', Has st (sep (reader st R0 p r) F) w' → (r.length : Int) ≤ 9223372036854775807) := Lib.hid fun w' h' => by
        obtain ⟨v, hsv, h1⟩ := reader_open h'
        obtain ⟨_, A', c', e, h4', h5, _⟩ := hsv w' (hF _ h1.right)
        unfold maxLen at h5
        omega
      have c2 : IntKind.i64.wrap (n : Int) = (n : Int) := by simp [IntKind.wrap, IntKind.signed, IntKind.bits]; omega
      have C2 := Lib.hid c2
      clear hh4 h4 h8 hn hs hr c2
      by_cases hlen : r.length < n
      · have hp : parse1 l = none := by rw [hru, if_pos hlen]
        have HN : Hid (∀ w', Has st (sep (reader st R0 p r) F) w' → NextR st R0 F p l (thrown 20) w') := Lib.hid fun w' h' => next_none hp 20 (by decide) h'
        have c1 : IntKind.u64.wrap (r.length : Int) = (r.length : Int) := by simp [IntKind.wrap, IntKind.signed, IntKind.bits]; omega
        have C1 := Lib.hid c1
        have HZ : Hid (cmpZ .gtr (n : Int) (r.length : Int) = some true) := Lib.hid (by simp only [cmpZ]; simp; omega)
        clear hp hru hlen hF c1
        go_enter Try.func30, Try.ntmps30
        go_wp2_with (first
          | (have _k := H1; go_at_call 38; refine (HN2.out _ H1.out).mono ?_; rintro e w2 ⟨rfl, h2⟩; have H2 := Lib.hid h2; clear h2)
          | (go_at_call 38; refine HN1.out.mono ?_; rintro e w1 ⟨rfl, h1⟩; have H1 := Lib.hid h1; clear h1)
          | (go_at_call 32; refine (HLF.out _ H2.out).mono ?_; rintro e w3 ⟨rfl, rfl⟩)
          | (go_at_call 37; refine (must_no 20 (by decide) _).mono ?_; rintro e w4 ⟨rfl, rfl⟩)
          | ((first | (with_reducible refine wpList_plain rfl ?_) | ((with_reducible refine wpList_yes _ _ rfl ?_ ?_); (focus rfl))); intro _ hk; (first
            | (refine opw_conv _ _ _ .i64 .u64 (r.length : Int) (r.length : Int) rfl Try.underlying3 Try.underlying49 rfl C1.out (hk _ _ ?_))
            | (refine opw_cmp .gtr _ _ _ _ .u64 (n : Int) (r.length : Int) true rfl rfl rfl HZ.out (hk _ _ ?_))); simp only [Act.put, List.setIfInBounds_toArray, List.set_cons_zero, List.set_cons_succ]))
        exact ⟨rfl, HN.out _ H2.out⟩
      · obtain ⟨x, hx⟩ : ∃ x, x = r.take n := ⟨_, rfl⟩
        obtain ⟨q, hq⟩ : ∃ q, q = r.drop n := ⟨_, rfl⟩
        have hxl : x.length = n := by rw [hx, List.length_take]; omega
        obtain ⟨X, hX⟩ : ∃ X, X = crc (le n 4 ++ x) := ⟨_, rfl⟩
        obtain ⟨S, hS⟩ : ∃ S, S = linkB x := ⟨_, rfl⟩
        have hSl : S.length = n + 8 := by rw [hS, linkB_length, hxl]
        have hSX : S = le n 4 ++ (le X.toNat 4 ++ x) := by rw [hS, hX]; unfold linkB; rw [hxl, List.append_assoc]
        have HRW : Hid (∀ w', Has st (sep (reader st R0 p r) F) w' → Calls Try.prog 31 #[.pointer (some ⟨p, 0, none⟩), .int .i64 (n : Int)] w' fun e w'' => ∃ A c, e = .returned (.slice A n c) ∧ Sees st R0 1 (.slice A n c) n (bcells x) ∧ Has st (sep (reader st R0 p q) F) w'') := Lib.hid fun w' h' => by
          rw [hx, hq]; exact rraw_ok st R0 F hF p r n w' h' (by omega)
        have HLK : Hid (∀ A c w', Sees st R0 1 (.slice A n c) n (bcells x) → Has st (sep (reader st R0 p q) F) w' → Calls Try.prog 27 #[.slice A n c] w' fun e w'' => ∃ A c, e = .returned (.slice A S.length c) ∧ Has st (sep (row 5 1 (.slice A S.length c) S.length (bcells S)) (sep (reader st R0 p q) F)) w'') := Lib.hid fun A c w' hsx h' => by
          rw [hS]; exact link_any st _ x _ w' h' (by rw [hxl]; exact fun w hw => hsx w (hF w hw.right)) (by omega)
        have gS : ∀ j, j < 4 → S[4 + j]? = some (UInt8.ofNat (X.toNat / 256 ^ j)) := fun j hj => by
          rw [hSX, List.getElem?_append_right (by rw [le_length]; omega), le_length, Nat.add_sub_cancel_left, List.getElem?_append_left (by rw [le_length]; exact hj)]
          exact le4_bytes X j hj
        have HG : Hid (∀ A c w', Has st (sep (row 5 1 (.slice A S.length c) S.length (bcells S)) (sep (reader st R0 p q) F)) w' → ∃ b off, A = some ⟨b, off, none⟩ ∧ ∀ w'', Has st (sep (row 5 1 (.slice A S.length c) S.length (bcells S)) (sep (reader st R0 p q) F)) w'' → ∀ j, j < 4 → w''.cell? ⟨b, off + (4 + j), none⟩ = some (.int .u8 ((X.toNat / 256 ^ j % 256 : Nat) : Int))) := Lib.hid fun A c w' h' => by
          obtain ⟨b, off, rfl, hc⟩ := (sees_row st _ 1 _ _ _ _ _ h').at (by rw [hSl]; omega)
          refine ⟨b, off, rfl, fun w'' h'' j hj => ?_⟩
          have := (sees_row st _ 1 _ _ _ _ _ h'').cell (j := 4 + j) (u := .int .u8 ((X.toNat / 256 ^ j % 256 : Nat) : Int)) (by
            have := gS j hj
            simp only [bcells, List.getElem?_map, this, Option.map_some, bcell, UInt8.toNat_ofNat'])
          exact this
        have hXlt := X.toNat_lt
        obtain ⟨c0, e0⟩ : ∃ c, c = X.toNat % 256 := ⟨_, rfl⟩
        obtain ⟨c1, e1⟩ : ∃ c, c = X.toNat / 256 % 256 := ⟨_, rfl⟩
        obtain ⟨c2, e2⟩ : ∃ c, c = X.toNat / 65536 % 256 := ⟨_, rfl⟩
        obtain ⟨c3, e3⟩ : ∃ c, c = X.toNat / 16777216 % 256 := ⟨_, rfl⟩
        obtain ⟨s1, f1⟩ : ∃ c, c = c0 + c1 * 256 := ⟨_, rfl⟩
        obtain ⟨s2, f2⟩ : ∃ c, c = s1 + c2 * 65536 := ⟨_, rfl⟩
        obtain ⟨m1, g1⟩ : ∃ c, c = c1 * 256 := ⟨_, rfl⟩
        obtain ⟨m2, g2⟩ : ∃ c, c = c2 * 65536 := ⟨_, rfl⟩
        obtain ⟨m3, g3⟩ : ∃ c, c = c3 * 16777216 := ⟨_, rfl⟩
        have k1 : bits .or .u64 (c0 : Int) (m1 : Int) = (s1 : Int) := (congrArg (fun z => bits .or .u64 (c0 : Int) z) (show (m1 : Int) = ((c1 * 2 ^ (8 * 1) : Nat) : Int) by omega)).trans ((or64 c0 c1 1 (by omega) (by decide) (by omega)).trans (show ((c0 + c1 * 256 ^ 1 : Nat) : Int) = (s1 : Int) by omega))
        have k2 : bits .or .u64 (s1 : Int) (m2 : Int) = (s2 : Int) := (congrArg (fun z => bits .or .u64 (s1 : Int) z) (show (m2 : Int) = ((c2 * 2 ^ (8 * 2) : Nat) : Int) by omega)).trans ((or64 s1 c2 2 (by omega) (by decide) (by omega)).trans (show ((s1 + c2 * 256 ^ 2 : Nat) : Int) = (s2 : Int) by omega))
        have k3 : bits .or .u64 (s2 : Int) (m3 : Int) = (X.toNat : Int) := (congrArg (fun z => bits .or .u64 (s2 : Int) z) (show (m3 : Int) = ((c3 * 2 ^ (8 * 3) : Nat) : Int) by omega)).trans ((or64 s2 c3 3 (by omega) (by decide) (by omega)).trans (show ((s2 + c3 * 256 ^ 3 : Nat) : Int) = (X.toNat : Int) by omega))
        have j1 := shl64 c1 8 (by decide) (by omega)
        have j2 := shl64 c2 16 (by decide) (by omega)
        have j3 := shl64 c3 24 (by decide) (by omega)
        rw [show c1 * 2 ^ 8 = m1 by omega] at j1
        rw [show c2 * 2 ^ 16 = m2 by omega] at j2
        rw [show c3 * 2 ^ 24 = m3 by omega] at j3
        have w0 : IntKind.u64.wrap (c0 : Int) = (c0 : Int) := IntWalk.u64_in _ ⟨by omega, by omega⟩
        have w1' : IntKind.u64.wrap (c1 : Int) = (c1 : Int) := IntWalk.u64_in _ ⟨by omega, by omega⟩
        have w2' : IntKind.u64.wrap (c2 : Int) = (c2 : Int) := IntWalk.u64_in _ ⟨by omega, by omega⟩
        have w3' : IntKind.u64.wrap (c3 : Int) = (c3 : Int) := IntWalk.u64_in _ ⟨by omega, by omega⟩
        have HGc : Hid (∀ A c w', Has st (sep (row 5 1 (.slice A S.length c) S.length (bcells S)) (sep (reader st R0 p q) F)) w' → ∃ b off, A = some ⟨b, off, none⟩ ∧ ∀ w'', Has st (sep (row 5 1 (.slice A S.length c) S.length (bcells S)) (sep (reader st R0 p q) F)) w'' → w''.cell? ⟨b, off + 4, none⟩ = some (.int .u8 (c0 : Int)) ∧ w''.cell? ⟨b, off + 5, none⟩ = some (.int .u8 (c1 : Int)) ∧ w''.cell? ⟨b, off + 6, none⟩ = some (.int .u8 (c2 : Int)) ∧ w''.cell? ⟨b, off + 7, none⟩ = some (.int .u8 (c3 : Int))) := Lib.hid fun A c w' h' => by
          obtain ⟨b, off, rfl, hc⟩ := HG.out A c w' h'
          refine ⟨b, off, rfl, fun w'' h'' => ?_⟩
          have a0 := hc w'' h'' 0 (by decide)
          have a1 := hc w'' h'' 1 (by decide)
          have a2 := hc w'' h'' 2 (by decide)
          have a3 := hc w'' h'' 3 (by decide)
          rw [show X.toNat / 256 ^ 0 % 256 = c0 by rw [Nat.pow_zero, Nat.div_one]; exact e0.symm] at a0
          rw [show X.toNat / 256 ^ 1 % 256 = c1 by rw [Nat.pow_one]; exact e1.symm] at a1
          rw [show X.toNat / 256 ^ 2 % 256 = c2 from e2.symm] at a2
          rw [show X.toNat / 256 ^ 3 % 256 = c3 from e3.symm] at a3
          exact ⟨a0, a1, a2, a3⟩
        have d1 : IntKind.u64.wrap (r.length : Int) = (r.length : Int) ∨ True := .inr trivial
        have HW0 := Lib.hid w0
        have HW1 := Lib.hid w1'
        have HW2 := Lib.hid w2'
        have HW3 := Lib.hid w3'
        have K1 := Lib.hid k1
        have K2 := Lib.hid k2
        have K3 := Lib.hid k3
        have J1 := Lib.hid j1
        have J2 := Lib.hid j2
        have J3 := Lib.hid j3
        have hS8 : 8 ≤ S.length := by omega
        have HXL := Lib.hid hxl
        have hru2 : parse1 l = if X.toNat = s then some (x, q) else none := by rw [hru, if_neg hlen, ← hx, ← hq, ← hX]
        have HRU := Lib.hid hru2
        have hle : n ≤ r.length := by omega
        clear hX hS hSl hSX gS hXlt e0 e1 e2 e3 f1 f2 g1 g2 g3 k1 k2 k3 j1 j2 j3 w0 w1' w2' w3' d1 HG hx hq hxl hru hru2 hlen hF
        by_cases hxs : X.toNat = s
        ·
          have HNE : Hid (cmpZ .neq (X.toNat : Int) (s : Int) = some false) := Lib.hid (by simp only [cmpZ]; simp [hxs])
          have hp : parse1 l = some (x, q) := by rw [HRU.out, if_pos hxs]
          have HP := Lib.hid hp
          clear hp hxs
          go_enter Try.func30, Try.ntmps30
          go_wp2_with (first
            | (have _k := H1; go_at_call 38; refine (HN2.out _ H1.out).mono ?_; rintro e w2 ⟨rfl, h2⟩; have H2 := Lib.hid h2; clear h2)
            | (go_at_call 38; refine HN1.out.mono ?_; rintro e w1 ⟨rfl, h1⟩; have H1 := Lib.hid h1; clear h1)
            | (go_at_call 32; refine (HLF.out _ H2.out).mono ?_; rintro e w3 ⟨rfl, rfl⟩)
            | (go_at_call 31; refine (HRW.out _ H2.out).mono ?_; rintro e w4 ⟨A4, d4, rfl, hsx, h4⟩; have H4 := Lib.hid h4; have HSX := Lib.hid hsx; clear h4 hsx)
            | (go_at_call 27; refine (HLK.out _ _ _ HSX.out H4.out).mono ?_; rintro e w5 ⟨A5, d5, rfl, h5⟩; obtain ⟨bb, off, rfl, hcc⟩ := HGc.out _ _ _ h5; have H5 := Lib.hid h5; have HCC := Lib.hid hcc; clear h5 hcc)
            | ((first | (with_reducible refine wpList_plain rfl ?_) | ((with_reducible refine wpList_yes _ _ rfl ?_ ?_); (focus rfl))); intro _ hk; (first
              | (refine opw_conv _ _ _ .i64 .u64 (r.length : Int) (r.length : Int) rfl Try.underlying3 Try.underlying49 rfl (by have := HRL.out _ H2.out; simp [IntKind.wrap, IntKind.signed, IntKind.bits]; omega) (hk _ _ ?_))
              | (refine opw_cmp .gtr _ _ _ _ .u64 (n : Int) (r.length : Int) false rfl rfl rfl (by simp only [cmpZ]; simp; omega) (hk _ _ ?_))
              | (refine opw_conv _ _ _ .u64 .i64 (n : Int) (n : Int) rfl Try.underlying49 Try.underlying3 rfl C2.out (hk _ _ ?_))); simp only [Act.put, List.setIfInBounds_toArray, List.set_cons_zero, List.set_cons_succ]))
          refine wp_region_inv3 (fun L u w' => Slots (fun kk => ([some (.slice (some ⟨bb, off, none⟩) S.length d5), some (.pointer (some ⟨bb, off + 4, none⟩)), some (.int .u8 (c0 : Int)), some (.int .u64 (c0 : Int)), some (.slice (some ⟨bb, off, none⟩) S.length d5), some (.pointer (some ⟨bb, off + 5, none⟩)), some (.int .u8 (c1 : Int)), some (.int .u64 (c1 : Int)), some (.int .u64 (m1 : Int)), some (.int .u64 (s1 : Int)), some (.slice (some ⟨bb, off, none⟩) S.length d5), some (.pointer (some ⟨bb, off + 6, none⟩)), some (.int .u8 (c2 : Int)), some (.int .u64 (c2 : Int)), some (.int .u64 (m2 : Int)), some (.int .u64 (s2 : Int)), some (.slice (some ⟨bb, off, none⟩) S.length d5), some (.pointer (some ⟨bb, off + 7, none⟩)), some (.int .u8 (c3 : Int)), some (.int .u64 (c3 : Int)), some (.int .u64 (m3 : Int)), some (.int .u64 (X.toNat : Int)), some (.int .u64 ((s : Nat) : Int)), some (.bool false)] : List (Option Value)).getD kk none) L u ∧ Has st (sep (row 5 1 (.slice (some ⟨bb, off, none⟩) S.length d5) S.length (bcells S)) (sep (reader st R0 p q) F)) w') (by kernel_rfl) (by decide +kernel) (by decide +kernel) (by kernel_rfl) (by kernel_rfl) (fun u => ⟨Slots.start _ u, H5.out.drew⟩) ?_ ?_
          · refine ⟨?_, ?_, ?_, ?_, ?_, ?_, ?_, ?_, ?_, ?_, ?_, ?_, ?_, ?_, ?_, ?_, ?_, ?_, ?_, ?_, ?_, ?_, ?_, ?_, trivial⟩
            · refine RegStep3.plain rfl ?_; rintro L u w1 bA hL hW hD hU ⟨hS, hH⟩ hin hout; exact opw_move _ _ (.inl rfl) ((hout 6 (by kernel_rfl)).trans (by kernel_rfl)) ⟨_, rfl, hS.step 0 _ (.inr rfl), hH⟩
            · refine RegStep3.plain rfl ?_; rintro L u w1 bA hL hW hD hU ⟨hS, hH⟩ hin hout; exact opw_indexSl _ _ _ _ rfl Try.underlying22 sizeB (bb) (off) (S.length) (d5) (4) ((hin 0 23 rfl).trans (hS 0 _ rfl (hW.of 0 (by decide)))) _ rfl (by omega) ⟨_, rfl, hS.step 1 _ (.inr rfl), hH⟩
            · refine RegStep3.plain rfl ?_; rintro L u w1 bA hL hW hD hU ⟨hS, hH⟩ hin hout; exact opw_load1 _ _ rfl _ Try.underlying5 rfl _ _ ((hin 1 24 rfl).trans (hS 1 _ rfl (hW.of 1 (by decide)))) ((HCC.out _ hH).1) ⟨_, rfl, hS.step 2 _ (.inr rfl), hH⟩
            · refine RegStep3.plain rfl ?_; rintro L u w1 bA hL hW hD hU ⟨hS, hH⟩ hin hout; exact opw_conv _ _ _ .u8 .u64 _ _ rfl Try.underlying5 Try.underlying49 ((hin 2 25 rfl).trans (hS 2 _ rfl (hW.of 2 (by decide)))) HW0.out ⟨_, rfl, hS.step 3 _ (.inr rfl), hH⟩
            · refine RegStep3.plain rfl ?_; rintro L u w1 bA hL hW hD hU ⟨hS, hH⟩ hin hout; exact opw_move _ _ (.inl rfl) ((hout 6 (by kernel_rfl)).trans (by kernel_rfl)) ⟨_, rfl, hS.step 4 _ (.inr rfl), hH⟩
            · refine RegStep3.plain rfl ?_; rintro L u w1 bA hL hW hD hU ⟨hS, hH⟩ hin hout; exact opw_indexSl _ _ _ _ rfl Try.underlying22 sizeB (bb) (off) (S.length) (d5) (5) ((hin 4 27 rfl).trans (hS 4 _ rfl (hW.of 4 (by decide)))) _ rfl (by omega) ⟨_, rfl, hS.step 5 _ (.inr rfl), hH⟩
            · refine RegStep3.plain rfl ?_; rintro L u w1 bA hL hW hD hU ⟨hS, hH⟩ hin hout; exact opw_load1 _ _ rfl _ Try.underlying5 rfl _ _ ((hin 5 28 rfl).trans (hS 5 _ rfl (hW.of 5 (by decide)))) ((HCC.out _ hH).2.1) ⟨_, rfl, hS.step 6 _ (.inr rfl), hH⟩
            · refine RegStep3.plain rfl ?_; rintro L u w1 bA hL hW hD hU ⟨hS, hH⟩ hin hout; exact opw_conv _ _ _ .u8 .u64 _ _ rfl Try.underlying5 Try.underlying49 ((hin 6 29 rfl).trans (hS 6 _ rfl (hW.of 6 (by decide)))) HW1.out ⟨_, rfl, hS.step 7 _ (.inr rfl), hH⟩
            · refine RegStep3.plain rfl ?_; rintro L u w1 bA hL hW hD hU ⟨hS, hH⟩ hin hout; exact opw_shift .shl _ _ _ _ .u64 .u64 _ _ _ rfl ((hin 7 30 rfl).trans (hS 7 _ rfl (hW.of 7 (by decide)))) rfl J1.out ⟨_, rfl, hS.step 8 _ (.inr rfl), hH⟩
            · refine RegStep3.plain rfl ?_; rintro L u w1 bA hL hW hD hU ⟨hS, hH⟩ hin hout; exact opw_bits .or _ _ _ _ .u64 _ _ _ (.inr (.inl rfl)) rfl ((hin 3 26 rfl).trans (hS 3 _ rfl (hW.of 3 (by decide)))) ((hin 8 31 rfl).trans (hS 8 _ rfl (hW.of 8 (by decide)))) K1.out ⟨_, rfl, hS.step 9 _ (.inr rfl), hH⟩
            · refine RegStep3.plain rfl ?_; rintro L u w1 bA hL hW hD hU ⟨hS, hH⟩ hin hout; exact opw_move _ _ (.inl rfl) ((hout 6 (by kernel_rfl)).trans (by kernel_rfl)) ⟨_, rfl, hS.step 10 _ (.inr rfl), hH⟩
            · refine RegStep3.plain rfl ?_; rintro L u w1 bA hL hW hD hU ⟨hS, hH⟩ hin hout; exact opw_indexSl _ _ _ _ rfl Try.underlying22 sizeB (bb) (off) (S.length) (d5) (6) ((hin 10 33 rfl).trans (hS 10 _ rfl (hW.of 10 (by decide)))) _ rfl (by omega) ⟨_, rfl, hS.step 11 _ (.inr rfl), hH⟩
            · refine RegStep3.plain rfl ?_; rintro L u w1 bA hL hW hD hU ⟨hS, hH⟩ hin hout; exact opw_load1 _ _ rfl _ Try.underlying5 rfl _ _ ((hin 11 34 rfl).trans (hS 11 _ rfl (hW.of 11 (by decide)))) ((HCC.out _ hH).2.2.1) ⟨_, rfl, hS.step 12 _ (.inr rfl), hH⟩
            · refine RegStep3.plain rfl ?_; rintro L u w1 bA hL hW hD hU ⟨hS, hH⟩ hin hout; exact opw_conv _ _ _ .u8 .u64 _ _ rfl Try.underlying5 Try.underlying49 ((hin 12 35 rfl).trans (hS 12 _ rfl (hW.of 12 (by decide)))) HW2.out ⟨_, rfl, hS.step 13 _ (.inr rfl), hH⟩
            · refine RegStep3.plain rfl ?_; rintro L u w1 bA hL hW hD hU ⟨hS, hH⟩ hin hout; exact opw_shift .shl _ _ _ _ .u64 .u64 _ _ _ rfl ((hin 13 36 rfl).trans (hS 13 _ rfl (hW.of 13 (by decide)))) rfl J2.out ⟨_, rfl, hS.step 14 _ (.inr rfl), hH⟩
            · refine RegStep3.plain rfl ?_; rintro L u w1 bA hL hW hD hU ⟨hS, hH⟩ hin hout; exact opw_bits .or _ _ _ _ .u64 _ _ _ (.inr (.inl rfl)) rfl ((hin 9 32 rfl).trans (hS 9 _ rfl (hW.of 9 (by decide)))) ((hin 14 37 rfl).trans (hS 14 _ rfl (hW.of 14 (by decide)))) K2.out ⟨_, rfl, hS.step 15 _ (.inr rfl), hH⟩
            · refine RegStep3.plain rfl ?_; rintro L u w1 bA hL hW hD hU ⟨hS, hH⟩ hin hout; exact opw_move _ _ (.inl rfl) ((hout 6 (by kernel_rfl)).trans (by kernel_rfl)) ⟨_, rfl, hS.step 16 _ (.inr rfl), hH⟩
            · refine RegStep3.plain rfl ?_; rintro L u w1 bA hL hW hD hU ⟨hS, hH⟩ hin hout; exact opw_indexSl _ _ _ _ rfl Try.underlying22 sizeB (bb) (off) (S.length) (d5) (7) ((hin 16 39 rfl).trans (hS 16 _ rfl (hW.of 16 (by decide)))) _ rfl (by omega) ⟨_, rfl, hS.step 17 _ (.inr rfl), hH⟩
            · refine RegStep3.plain rfl ?_; rintro L u w1 bA hL hW hD hU ⟨hS, hH⟩ hin hout; exact opw_load1 _ _ rfl _ Try.underlying5 rfl _ _ ((hin 17 40 rfl).trans (hS 17 _ rfl (hW.of 17 (by decide)))) ((HCC.out _ hH).2.2.2) ⟨_, rfl, hS.step 18 _ (.inr rfl), hH⟩
            · refine RegStep3.plain rfl ?_; rintro L u w1 bA hL hW hD hU ⟨hS, hH⟩ hin hout; exact opw_conv _ _ _ .u8 .u64 _ _ rfl Try.underlying5 Try.underlying49 ((hin 18 41 rfl).trans (hS 18 _ rfl (hW.of 18 (by decide)))) HW3.out ⟨_, rfl, hS.step 19 _ (.inr rfl), hH⟩
            · refine RegStep3.plain rfl ?_; rintro L u w1 bA hL hW hD hU ⟨hS, hH⟩ hin hout; exact opw_shift .shl _ _ _ _ .u64 .u64 _ _ _ rfl ((hin 19 42 rfl).trans (hS 19 _ rfl (hW.of 19 (by decide)))) rfl J3.out ⟨_, rfl, hS.step 20 _ (.inr rfl), hH⟩
            · refine RegStep3.plain rfl ?_; rintro L u w1 bA hL hW hD hU ⟨hS, hH⟩ hin hout; exact opw_bits .or _ _ _ _ .u64 _ _ _ (.inr (.inl rfl)) rfl ((hin 15 38 rfl).trans (hS 15 _ rfl (hW.of 15 (by decide)))) ((hin 20 43 rfl).trans (hS 20 _ rfl (hW.of 20 (by decide)))) K3.out ⟨_, rfl, hS.step 21 _ (.inr rfl), hH⟩
            · refine RegStep3.plain rfl ?_; rintro L u w1 bA hL hW hD hU ⟨hS, hH⟩ hin hout; exact opw_move _ _ (.inl rfl) ((hout 4 (by kernel_rfl)).trans (by kernel_rfl)) ⟨_, rfl, hS.step 22 _ (.inr rfl), hH⟩
            · refine RegStep3.plain rfl ?_; rintro L u w1 bA hL hW hD hU ⟨hS, hH⟩ hin hout; exact opw_cmp .neq _ _ _ _ .u64 _ _ false rfl ((hin 21 44 rfl).trans (hS 21 _ rfl (hW.of 21 (by decide)))) ((hin 22 45 rfl).trans (hS 22 _ rfl (hW.of 22 (by decide)))) HNE.out ⟨_, rfl, hS.step 23 _ (.inr rfl), hH⟩
          intro L u w6 hL ⟨hS, hH⟩
          have E := hS 23 _ rfl (hL 23 (by decide))
          simp only [frame_cons, frame_nil, E, Act.put, List.setIfInBounds_toArray, List.set_cons_zero, List.set_cons_succ]
          have H6 := Lib.hid hH
          clear hL hS hH E
          go_wp2
          go_ret
          show NextR _ _ _ _ _ _ _
          unfold NextR
          rw [HP.out]
          simp only
          rw [HXL.out]
          exact ⟨A4, d4, rfl, HSX.out, H6.out.right⟩
        ·
          have HNE : Hid (cmpZ .neq (X.toNat : Int) (s : Int) = some true) := Lib.hid (by simp only [cmpZ]; simp; omega)
          have hp : parse1 l = none := by rw [HRU.out, if_neg hxs]
          have HN : Hid (∀ w', Has st (sep (reader st R0 p q) F) w' → NextR st R0 F p l (thrown 36) w') := Lib.hid fun w' h' => next_none hp 36 (by decide) h'
          clear hp hxs
          go_enter Try.func30, Try.ntmps30
          go_wp2_with (first
            | (have _k := H1; go_at_call 38; refine (HN2.out _ H1.out).mono ?_; rintro e w2 ⟨rfl, h2⟩; have H2 := Lib.hid h2; clear h2)
            | (go_at_call 38; refine HN1.out.mono ?_; rintro e w1 ⟨rfl, h1⟩; have H1 := Lib.hid h1; clear h1)
            | (go_at_call 32; refine (HLF.out _ H2.out).mono ?_; rintro e w3 ⟨rfl, rfl⟩)
            | (go_at_call 31; refine (HRW.out _ H2.out).mono ?_; rintro e w4 ⟨A4, d4, rfl, hsx, h4⟩; have H4 := Lib.hid h4; have HSX := Lib.hid hsx; clear h4 hsx)
            | (go_at_call 27; refine (HLK.out _ _ _ HSX.out H4.out).mono ?_; rintro e w5 ⟨A5, d5, rfl, h5⟩; obtain ⟨bb, off, rfl, hcc⟩ := HGc.out _ _ _ h5; have H5 := Lib.hid h5; have HCC := Lib.hid hcc; clear h5 hcc)
            | ((first | (with_reducible refine wpList_plain rfl ?_) | ((with_reducible refine wpList_yes _ _ rfl ?_ ?_); (focus rfl))); intro _ hk; (first
              | (refine opw_conv _ _ _ .i64 .u64 (r.length : Int) (r.length : Int) rfl Try.underlying3 Try.underlying49 rfl (by have := HRL.out _ H2.out; simp [IntKind.wrap, IntKind.signed, IntKind.bits]; omega) (hk _ _ ?_))
              | (refine opw_cmp .gtr _ _ _ _ .u64 (n : Int) (r.length : Int) false rfl rfl rfl (by simp only [cmpZ]; simp; omega) (hk _ _ ?_))
              | (refine opw_conv _ _ _ .u64 .i64 (n : Int) (n : Int) rfl Try.underlying49 Try.underlying3 rfl C2.out (hk _ _ ?_))); simp only [Act.put, List.setIfInBounds_toArray, List.set_cons_zero, List.set_cons_succ]))
          refine wp_region_inv3 (fun L u w' => Slots (fun kk => ([some (.slice (some ⟨bb, off, none⟩) S.length d5), some (.pointer (some ⟨bb, off + 4, none⟩)), some (.int .u8 (c0 : Int)), some (.int .u64 (c0 : Int)), some (.slice (some ⟨bb, off, none⟩) S.length d5), some (.pointer (some ⟨bb, off + 5, none⟩)), some (.int .u8 (c1 : Int)), some (.int .u64 (c1 : Int)), some (.int .u64 (m1 : Int)), some (.int .u64 (s1 : Int)), some (.slice (some ⟨bb, off, none⟩) S.length d5), some (.pointer (some ⟨bb, off + 6, none⟩)), some (.int .u8 (c2 : Int)), some (.int .u64 (c2 : Int)), some (.int .u64 (m2 : Int)), some (.int .u64 (s2 : Int)), some (.slice (some ⟨bb, off, none⟩) S.length d5), some (.pointer (some ⟨bb, off + 7, none⟩)), some (.int .u8 (c3 : Int)), some (.int .u64 (c3 : Int)), some (.int .u64 (m3 : Int)), some (.int .u64 (X.toNat : Int)), some (.int .u64 ((s : Nat) : Int)), some (.bool true)] : List (Option Value)).getD kk none) L u ∧ Has st (sep (row 5 1 (.slice (some ⟨bb, off, none⟩) S.length d5) S.length (bcells S)) (sep (reader st R0 p q) F)) w') (by kernel_rfl) (by decide +kernel) (by decide +kernel) (by kernel_rfl) (by kernel_rfl) (fun u => ⟨Slots.start _ u, H5.out.drew⟩) ?_ ?_
          · refine ⟨?_, ?_, ?_, ?_, ?_, ?_, ?_, ?_, ?_, ?_, ?_, ?_, ?_, ?_, ?_, ?_, ?_, ?_, ?_, ?_, ?_, ?_, ?_, ?_, trivial⟩
            · refine RegStep3.plain rfl ?_; rintro L u w1 bA hL hW hD hU ⟨hS, hH⟩ hin hout; exact opw_move _ _ (.inl rfl) ((hout 6 (by kernel_rfl)).trans (by kernel_rfl)) ⟨_, rfl, hS.step 0 _ (.inr rfl), hH⟩
            · refine RegStep3.plain rfl ?_; rintro L u w1 bA hL hW hD hU ⟨hS, hH⟩ hin hout; exact opw_indexSl _ _ _ _ rfl Try.underlying22 sizeB (bb) (off) (S.length) (d5) (4) ((hin 0 23 rfl).trans (hS 0 _ rfl (hW.of 0 (by decide)))) _ rfl (by omega) ⟨_, rfl, hS.step 1 _ (.inr rfl), hH⟩
            · refine RegStep3.plain rfl ?_; rintro L u w1 bA hL hW hD hU ⟨hS, hH⟩ hin hout; exact opw_load1 _ _ rfl _ Try.underlying5 rfl _ _ ((hin 1 24 rfl).trans (hS 1 _ rfl (hW.of 1 (by decide)))) ((HCC.out _ hH).1) ⟨_, rfl, hS.step 2 _ (.inr rfl), hH⟩
            · refine RegStep3.plain rfl ?_; rintro L u w1 bA hL hW hD hU ⟨hS, hH⟩ hin hout; exact opw_conv _ _ _ .u8 .u64 _ _ rfl Try.underlying5 Try.underlying49 ((hin 2 25 rfl).trans (hS 2 _ rfl (hW.of 2 (by decide)))) HW0.out ⟨_, rfl, hS.step 3 _ (.inr rfl), hH⟩
            · refine RegStep3.plain rfl ?_; rintro L u w1 bA hL hW hD hU ⟨hS, hH⟩ hin hout; exact opw_move _ _ (.inl rfl) ((hout 6 (by kernel_rfl)).trans (by kernel_rfl)) ⟨_, rfl, hS.step 4 _ (.inr rfl), hH⟩
            · refine RegStep3.plain rfl ?_; rintro L u w1 bA hL hW hD hU ⟨hS, hH⟩ hin hout; exact opw_indexSl _ _ _ _ rfl Try.underlying22 sizeB (bb) (off) (S.length) (d5) (5) ((hin 4 27 rfl).trans (hS 4 _ rfl (hW.of 4 (by decide)))) _ rfl (by omega) ⟨_, rfl, hS.step 5 _ (.inr rfl), hH⟩
            · refine RegStep3.plain rfl ?_; rintro L u w1 bA hL hW hD hU ⟨hS, hH⟩ hin hout; exact opw_load1 _ _ rfl _ Try.underlying5 rfl _ _ ((hin 5 28 rfl).trans (hS 5 _ rfl (hW.of 5 (by decide)))) ((HCC.out _ hH).2.1) ⟨_, rfl, hS.step 6 _ (.inr rfl), hH⟩
            · refine RegStep3.plain rfl ?_; rintro L u w1 bA hL hW hD hU ⟨hS, hH⟩ hin hout; exact opw_conv _ _ _ .u8 .u64 _ _ rfl Try.underlying5 Try.underlying49 ((hin 6 29 rfl).trans (hS 6 _ rfl (hW.of 6 (by decide)))) HW1.out ⟨_, rfl, hS.step 7 _ (.inr rfl), hH⟩
            · refine RegStep3.plain rfl ?_; rintro L u w1 bA hL hW hD hU ⟨hS, hH⟩ hin hout; exact opw_shift .shl _ _ _ _ .u64 .u64 _ _ _ rfl ((hin 7 30 rfl).trans (hS 7 _ rfl (hW.of 7 (by decide)))) rfl J1.out ⟨_, rfl, hS.step 8 _ (.inr rfl), hH⟩
            · refine RegStep3.plain rfl ?_; rintro L u w1 bA hL hW hD hU ⟨hS, hH⟩ hin hout; exact opw_bits .or _ _ _ _ .u64 _ _ _ (.inr (.inl rfl)) rfl ((hin 3 26 rfl).trans (hS 3 _ rfl (hW.of 3 (by decide)))) ((hin 8 31 rfl).trans (hS 8 _ rfl (hW.of 8 (by decide)))) K1.out ⟨_, rfl, hS.step 9 _ (.inr rfl), hH⟩
            · refine RegStep3.plain rfl ?_; rintro L u w1 bA hL hW hD hU ⟨hS, hH⟩ hin hout; exact opw_move _ _ (.inl rfl) ((hout 6 (by kernel_rfl)).trans (by kernel_rfl)) ⟨_, rfl, hS.step 10 _ (.inr rfl), hH⟩
            · refine RegStep3.plain rfl ?_; rintro L u w1 bA hL hW hD hU ⟨hS, hH⟩ hin hout; exact opw_indexSl _ _ _ _ rfl Try.underlying22 sizeB (bb) (off) (S.length) (d5) (6) ((hin 10 33 rfl).trans (hS 10 _ rfl (hW.of 10 (by decide)))) _ rfl (by omega) ⟨_, rfl, hS.step 11 _ (.inr rfl), hH⟩
            · refine RegStep3.plain rfl ?_; rintro L u w1 bA hL hW hD hU ⟨hS, hH⟩ hin hout; exact opw_load1 _ _ rfl _ Try.underlying5 rfl _ _ ((hin 11 34 rfl).trans (hS 11 _ rfl (hW.of 11 (by decide)))) ((HCC.out _ hH).2.2.1) ⟨_, rfl, hS.step 12 _ (.inr rfl), hH⟩
            · refine RegStep3.plain rfl ?_; rintro L u w1 bA hL hW hD hU ⟨hS, hH⟩ hin hout; exact opw_conv _ _ _ .u8 .u64 _ _ rfl Try.underlying5 Try.underlying49 ((hin 12 35 rfl).trans (hS 12 _ rfl (hW.of 12 (by decide)))) HW2.out ⟨_, rfl, hS.step 13 _ (.inr rfl), hH⟩
            · refine RegStep3.plain rfl ?_; rintro L u w1 bA hL hW hD hU ⟨hS, hH⟩ hin hout; exact opw_shift .shl _ _ _ _ .u64 .u64 _ _ _ rfl ((hin 13 36 rfl).trans (hS 13 _ rfl (hW.of 13 (by decide)))) rfl J2.out ⟨_, rfl, hS.step 14 _ (.inr rfl), hH⟩
            · refine RegStep3.plain rfl ?_; rintro L u w1 bA hL hW hD hU ⟨hS, hH⟩ hin hout; exact opw_bits .or _ _ _ _ .u64 _ _ _ (.inr (.inl rfl)) rfl ((hin 9 32 rfl).trans (hS 9 _ rfl (hW.of 9 (by decide)))) ((hin 14 37 rfl).trans (hS 14 _ rfl (hW.of 14 (by decide)))) K2.out ⟨_, rfl, hS.step 15 _ (.inr rfl), hH⟩
            · refine RegStep3.plain rfl ?_; rintro L u w1 bA hL hW hD hU ⟨hS, hH⟩ hin hout; exact opw_move _ _ (.inl rfl) ((hout 6 (by kernel_rfl)).trans (by kernel_rfl)) ⟨_, rfl, hS.step 16 _ (.inr rfl), hH⟩
            · refine RegStep3.plain rfl ?_; rintro L u w1 bA hL hW hD hU ⟨hS, hH⟩ hin hout; exact opw_indexSl _ _ _ _ rfl Try.underlying22 sizeB (bb) (off) (S.length) (d5) (7) ((hin 16 39 rfl).trans (hS 16 _ rfl (hW.of 16 (by decide)))) _ rfl (by omega) ⟨_, rfl, hS.step 17 _ (.inr rfl), hH⟩
            · refine RegStep3.plain rfl ?_; rintro L u w1 bA hL hW hD hU ⟨hS, hH⟩ hin hout; exact opw_load1 _ _ rfl _ Try.underlying5 rfl _ _ ((hin 17 40 rfl).trans (hS 17 _ rfl (hW.of 17 (by decide)))) ((HCC.out _ hH).2.2.2) ⟨_, rfl, hS.step 18 _ (.inr rfl), hH⟩
            · refine RegStep3.plain rfl ?_; rintro L u w1 bA hL hW hD hU ⟨hS, hH⟩ hin hout; exact opw_conv _ _ _ .u8 .u64 _ _ rfl Try.underlying5 Try.underlying49 ((hin 18 41 rfl).trans (hS 18 _ rfl (hW.of 18 (by decide)))) HW3.out ⟨_, rfl, hS.step 19 _ (.inr rfl), hH⟩
            · refine RegStep3.plain rfl ?_; rintro L u w1 bA hL hW hD hU ⟨hS, hH⟩ hin hout; exact opw_shift .shl _ _ _ _ .u64 .u64 _ _ _ rfl ((hin 19 42 rfl).trans (hS 19 _ rfl (hW.of 19 (by decide)))) rfl J3.out ⟨_, rfl, hS.step 20 _ (.inr rfl), hH⟩
            · refine RegStep3.plain rfl ?_; rintro L u w1 bA hL hW hD hU ⟨hS, hH⟩ hin hout; exact opw_bits .or _ _ _ _ .u64 _ _ _ (.inr (.inl rfl)) rfl ((hin 15 38 rfl).trans (hS 15 _ rfl (hW.of 15 (by decide)))) ((hin 20 43 rfl).trans (hS 20 _ rfl (hW.of 20 (by decide)))) K3.out ⟨_, rfl, hS.step 21 _ (.inr rfl), hH⟩
            · refine RegStep3.plain rfl ?_; rintro L u w1 bA hL hW hD hU ⟨hS, hH⟩ hin hout; exact opw_move _ _ (.inl rfl) ((hout 4 (by kernel_rfl)).trans (by kernel_rfl)) ⟨_, rfl, hS.step 22 _ (.inr rfl), hH⟩
            · refine RegStep3.plain rfl ?_; rintro L u w1 bA hL hW hD hU ⟨hS, hH⟩ hin hout; exact opw_cmp .neq _ _ _ _ .u64 _ _ true rfl ((hin 21 44 rfl).trans (hS 21 _ rfl (hW.of 21 (by decide)))) ((hin 22 45 rfl).trans (hS 22 _ rfl (hW.of 22 (by decide)))) HNE.out ⟨_, rfl, hS.step 23 _ (.inr rfl), hH⟩
          intro L u w6 hL ⟨hS, hH⟩
          have E := hS 23 _ rfl (hL 23 (by decide))
          simp only [frame_cons, frame_nil, E, Act.put, List.setIfInBounds_toArray, List.set_cons_zero, List.set_cons_succ]
          have H6 := Lib.hid hH
          clear hL hS hH E
          go_wp2_with (first
            | (go_at_call 37; refine (must_no 36 (by decide) _).mono ?_; rintro e w7 ⟨rfl, rfl⟩)
            | ((first | (with_reducible refine wpList_plain rfl ?_) | ((with_reducible refine wpList_yes _ _ rfl ?_ ?_); (focus rfl))); intro _ hk; (first
              | (fail)); simp only [Act.put, List.setIfInBounds_toArray, List.set_cons_zero, List.set_cons_succ]))
          exact ⟨rfl, HN.out _ H6.out.right⟩
end Go.Proofs.Ytbiacehmfbopfaa
