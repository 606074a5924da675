/-
  The contracts of package code's Reader.
-/
import Derived.Test.YtkmhopnpkilhiaaCode
namespace Go.Proofs.Ytkmhopnpkilhiaa
open Go.RowKit Go.Sl
set_option linter.unusedVariables false
set_option linter.unusedSimpArgs false

theorem sizeB : (Try.prog.info? 5).map (·.size) = some 1 := by kernel_rfl

/-- what guard.Must throws -/
abbrev thrown (n : Int) : Ending := .panicked [{ v := .iface 37 (.int .i64 n), recovered := false }]

set_option maxHeartbeats 400000 in
theorem must_ok (w : World) : Calls Try.prog 45 #[.int .i64 0] w fun e w' => e = .returned (.tuple #[]) ∧ w = w' := by
  go_enter Try.func45, Try.ntmps45
  go_wp2
  go_end0
  exact ⟨rfl, rfl⟩
set_option maxHeartbeats 400000 in
theorem must_no (n : Int) (hn : (n == 0) = false) (w : World) : Calls Try.prog 45 #[.int .i64 n] w fun e w' => e = thrown n ∧ w = w' := by
  go_enter Try.func45, Try.ntmps45
  go_wp2
  exact ⟨rfl, rfl, rfl⟩

/-- a Reader at block p over the bytes l, which lie in R0 -/
def reader (st : World) (R0 : HProp) (p : Nat) (l : List UInt8) : HProp := ex fun v => sep (pure (Sees st R0 1 v l.length (bcells l))) (blk p (.cells #[v] 63 (0, 0)))
theorem reader_open {st : World} {R0 R : HProp} {p : Nat} {l : List UInt8} {w : World} (h : Has st (sep (reader st R0 p l) R) w) : ∃ v, Sees st R0 1 v l.length (bcells l) ∧ Has st (sep (blk p (.cells #[v] 63 (0, 0))) R) w := by
  obtain ⟨v, h⟩ := h.exL
  obtain ⟨h1, h2⟩ := h.assoc.pureL
  exact ⟨v, h1, h2⟩
theorem reader_shut {st : World} {R0 R : HProp} {p : Nat} {l : List UInt8} {w : World} (v : Value) (hs : Sees st R0 1 v l.length (bcells l)) (h : Has st (sep (blk p (.cells #[v] 63 (0, 0))) R) w) : Has st (sep (reader st R0 p l) R) w :=
  Has.ofEx v (Has.ofPure hs h).unassoc
set_option maxHeartbeats 400000 in
theorem left_any (st : World) (R0 F : HProp) (hF : ∀ w, Has st F w → Has st R0 w) (p : Nat) (l : List UInt8) (w : World) (h : Has st (sep (reader st R0 p l) F) w) :
    Calls Try.prog 22 #[.pointer (some ⟨p, 0, none⟩)] w fun e w' => e = .returned (.int .i64 l.length) ∧ w = w' := by
  obtain ⟨v, hs, h1⟩ := reader_open h
  obtain ⟨A, c, rfl⟩ := hs.form (hF _ h1.right)
  have hc := h1.cell 0
  go_enter Try.func22, Try.ntmps22
  go_wp2
  go_ret
  exact ⟨rfl, rfl⟩

/-- the number of bytes that Raw reads -/
def cnt (n : Int) : Nat := n.toNat

theorem part_bytes (l : List UInt8) (L H : Nat) : ((bcells l).drop (L * 1)).take ((H - L) * 1) = bcells ((l.drop L).take (H - L)) := by
  simp [bcells, List.map_take, List.map_drop]

set_option maxHeartbeats 400000 in
/-- Raw, as many as there are -/
theorem rraw_ok (st : World) (R0 F : HProp) (hF : ∀ w, Has st F w → Has st R0 w) (p : Nat) (l : List UInt8) (n : Nat) (w : World) (h : Has st (sep (reader st R0 p l) F) w) (hn : n ≤ l.length) :
    Calls Try.prog 29 #[.pointer (some ⟨p, 0, none⟩), .int .i64 n] w fun e w' =>
      ∃ A c, e = .returned (.slice A n c) ∧ Sees st R0 1 (.slice A n c) n (bcells (l.take n)) ∧ Has st (sep (reader st R0 p (l.drop n)) F) w' := by
  obtain ⟨v, hs, h1⟩ := reader_open h
  obtain ⟨A, c, rfl⟩ := hs.form (hF _ h1.right)
  have hc := h1.cell 0
  have hf := h1.free 0
  have hr := hs w (hF _ h1.right)
  have hcap : l.length ≤ c := by obtain ⟨_, A', c', e, h, _⟩ := hr; injection e; omega
  have hmax : c ≤ maxLen := by obtain ⟨_, A', c', e, _, h, _⟩ := hr; injection e; omega
  unfold maxLen at hmax
  go_enter Try.func29, Try.ntmps29
  go_wp2_with (first
    | (refine wp_slice rfl 25 5 1 (.tmp 19) none (some (.tmp 20)) (some (.tmp 21)) rfl Try.underlying25 sizeB (by decide) rfl hr 0 n n (SlB.out 0) (SlB.at .i64 n _) (SlB.at .i64 n _) (by simp) (Nat.zero_le _) hn (Nat.le_refl _) (by omega) ?_; intro A1 c1 hA1)
    | (refine wp_slice rfl 25 5 1 (.tmp 27) (some (.tmp 28)) none none rfl Try.underlying25 sizeB (by decide) rfl hr n l.length c (SlB.at .i64 n 0) (SlB.out _) (SlB.out _) (by simp) hn (Nat.le_refl _) hcap (Nat.le_refl _) ?_; intro A2 c2 hA2))
  go_ret
  refine ⟨A1, c1, rfl, fun w' hw' => ?_, reader_shut (.slice A2 (l.length - n) c2) (fun w' hw' => ?_) (h1.set 0 (.slice A2 (l.length - n) c2))⟩
  · have := hA1 w' (hs w' hw')
    simpa [part_bytes, bcells, List.map_take] using this
  · have := hA2 w' (hs w' hw')
    rw [part_bytes] at this
    rw [List.length_drop]
    rwa [show List.take (l.length - n) (l.drop n) = l.drop n from List.take_of_length_le (by simp)] at this

set_option maxHeartbeats 400000 in
/-- Raw, too many -/
theorem rraw_no (st : World) (R0 F : HProp) (hF : ∀ w, Has st F w → Has st R0 w) (p : Nat) (l : List UInt8) (n : Nat) (w : World) (h : Has st (sep (reader st R0 p l) F) w) (hn : l.length < n) :
    Calls Try.prog 29 #[.pointer (some ⟨p, 0, none⟩), .int .i64 n] w fun e w' => e = thrown 20 ∧ w = w' := by
  obtain ⟨v, hs, h1⟩ := reader_open h
  obtain ⟨A, c, rfl⟩ := hs.form (hF _ h1.right)
  have hc := h1.cell 0
  go_enter Try.func29, Try.ntmps29
  go_wp2_with (go_at_call 45; refine (must_no 20 (by decide) _).mono ?_; rintro e w' ⟨rfl, rfl⟩)
  exact ⟨rfl, rfl, rfl⟩

/-- a number's value out of its bytes, the lowest first -/
def unle : List UInt8 → Nat
  | [] => 0
  | c :: l => c.toNat + 256 * unle l
theorem unle_lt (l : List UInt8) : unle l < 256 ^ l.length := by
  induction l with
  | nil => simp [unle]
  | cons c l ih =>
    have := c.toNat_lt
    simp only [unle, List.length_cons, Nat.pow_succ]
    omega
theorem unle_snoc (l : List UInt8) (c : UInt8) : unle (l ++ [c]) = unle l + c.toNat * 256 ^ l.length := by
  induction l with
  | nil => simp [unle]
  | cons d l ih => simp only [List.cons_append, unle, ih, List.length_cons, Nat.pow_succ]; rw [Nat.mul_add, Nat.add_assoc]; congr 2; ac_rfl

theorem pow256 (i : Nat) : 256 ^ i = 2 ^ (8 * i) := by rw [Nat.pow_mul]
theorem pow256_le {i : Nat} (hi : i < 8) : 256 ^ i * 256 ≤ 18446744073709551616 := by
  have : 256 ^ (i + 1) ≤ 256 ^ 8 := Nat.pow_le_pow_right (by decide) (by omega)
  rw [Nat.pow_succ] at this
  exact Nat.le_trans this (by decide)
theorem or_place (n c i : Nat) (hn : n < 256 ^ i) (hi : i < 8) (hc : c < 256) : bits .or .u64 (n : Int) (IntKind.u64.wrap (IntKind.u64.wrap (c : Int) * 2 ^ (8 * i))) = ((n + c * 256 ^ i : Nat) : Int) := by
  have hp := pow256_le hi
  have h1 : c * 256 ^ i + 256 ^ i ≤ 18446744073709551616 := by
    have : (c + 1) * 256 ^ i ≤ 256 * 256 ^ i := Nat.mul_le_mul_right _ (by omega)
    rw [Nat.add_mul, Nat.one_mul] at this
    omega
  have h0 : 0 < 256 ^ i := Nat.pow_pos (by decide)
  have e1 : IntKind.u64.wrap (c : Int) = (c : Int) := IntWalk.u64_in _ ⟨by omega, by omega⟩
  have e2 : (c : Int) * 2 ^ (8 * i) = ((c * 256 ^ i : Nat) : Int) := by rw [pow256]; simp
  rw [e1, e2, IntWalk.u64_in _ ⟨by omega, by omega⟩, u64_or_nat _ _ (by omega) (by omega)]
  congr 1
  rw [Nat.or_comm, pow256, ← Nat.shiftLeft_eq, ← Nat.shiftLeft_add_eq_or_of_lt (by rw [← pow256]; exact hn)]
  exact Nat.add_comm _ _

set_option maxHeartbeats 400000 in
/-- Num, as many bytes as there are -/
theorem rnum_ok (st : World) (R0 F : HProp) (hF : ∀ w, Has st F w → Has st R0 w) (p : Nat) (l : List UInt8) (size : Int) (w : World) (h : Has st (sep (reader st R0 p l) F) w) (hn : held size ≤ l.length) :
    Calls Try.prog 26 #[.pointer (some ⟨p, 0, none⟩), .int .i64 size] w fun e w' =>
      e = .returned (.int .u64 (unle (l.take (held size)))) ∧ Has st (sep (reader st R0 p (l.drop (held size))) F) w' := by
  have hh := held_pos size
  generalize hk : held size = k at hh hn
  have HK := Lib.hid hk
  clear hk
  go_enter Try.func26, Try.ntmps26
  go_wp2_with (first
    | (go_at_call 50; refine (held_any size _).mono ?_; rintro e w' ⟨rfl, rfl⟩; rw [HK.out])
    | (go_at_call 29; refine (rraw_ok st R0 F hF p l k _ h hn).mono ?_; rintro e w1 ⟨A, c, rfl, hs, h1⟩))
  go_loop [5, 6, 7, 13] (fun v5 v6 v7 v13 => ∃ (i n : Nat), i ≤ k ∧ v13 = .int .i64 i ∧ v5 = .int .u64 n ∧ Hid (n = unle (l.take i))) (fun _ _ _ v13 => k - (intOf v13).toNat)
  case atStart => exact ⟨0, 0, Nat.zero_le _, rfl, rfl, by simp [unle, Hid]⟩
  case round =>
    obtain ⟨i, n, hi, rfl, rfl, HE⟩ := hrel
    by_cases hlt : i < k
    · obtain ⟨b, off, cap, e, hc⟩ := Rd.open (hs w1 (hF _ h1.right)) (by omega)
      have hcell := hc.2.2 i _ (bcells_get (by simp; omega))
      injection e with e1 e2 e3
      subst e1
      go_wp2
      go_round
      case rel =>
        have hlt' := unle_lt (l.take i)
        rw [← HE.out, List.length_take, Nat.min_eq_left (by omega)] at hlt'
        refine ⟨i + 1, n + l[i].toNat * 256 ^ i, by omega, by go_num, ?_, ?_⟩
        · rw [or_place n _ i hlt' (by omega) l[i].toNat_lt]
        · show _ = _
          rw [List.take_succ_eq_append_getElem (by omega), unle_snoc, ← HE.out, List.length_take, Nat.min_eq_left (by omega)]
      case measure => simp [intOf]; omega
    · go_wp2
      go_ret
      obtain rfl : i = k := by omega
      exact ⟨by rw [HE.out]; rfl, h1⟩

set_option maxHeartbeats 400000 in
/-- Num, too many -/
theorem rnum_no (st : World) (R0 F : HProp) (hF : ∀ w, Has st F w → Has st R0 w) (p : Nat) (l : List UInt8) (size : Int) (w : World) (h : Has st (sep (reader st R0 p l) F) w) (hn : l.length < held size) :
    Calls Try.prog 26 #[.pointer (some ⟨p, 0, none⟩), .int .i64 size] w fun e w' => e = thrown 20 ∧ w = w' := by
  go_enter Try.func26, Try.ntmps26
  go_wp2_with (first
    | (go_at_call 50; refine (held_any size _).mono ?_; rintro e w' ⟨rfl, rfl⟩)
    | (go_at_call 29; refine (rraw_no st R0 F hF p l _ _ h hn).mono ?_; rintro e w1 ⟨rfl, rfl⟩))
  exact ⟨rfl, rfl, rfl⟩

/-- what Bytes and Text read: an error, or the bytes and what is left -/
def rget (l : List UInt8) (most : Int) : Except Int (List UInt8 × List UInt8) :=
  if l.length < 4 then .error 20
  else if most.toNat < unle (l.take 4) then .error 2
  else if (l.drop 4).length < unle (l.take 4) then .error 20
  else .ok ((l.drop 4).take (unle (l.take 4)), (l.drop 4).drop (unle (l.take 4)))
/-- behind Bytes -/
def RGet (st : World) (R0 F : HProp) (p : Nat) (l : List UInt8) (most : Int) (e : Ending) (w' : World) : Prop :=
  match rget l most with
  | .error c => e = thrown c ∧ Has st (sep (reader st R0 p l) F) w'
  | .ok (x, rest) => ∃ A c, e = .returned (.slice A x.length c) ∧ Sees st R0 1 (.slice A x.length c) x.length (bcells x) ∧ Has st (sep (reader st R0 p rest) F) w'

theorem max_toNat (most : Int) : max most 0 = (most.toNat : Int) := by omega

set_option maxHeartbeats 1000000 in
theorem rbytes_any (st : World) (R0 F : HProp) (hF : ∀ w, Has st F w → Has st R0 w) (p : Nat) (l : List UInt8) (most : Int) (w : World) (h : Has st (sep (reader st R0 p l) F) w) (hm : most ≤ 9223372036854775807) :
    Calls Try.prog 27 #[.pointer (some ⟨p, 0, none⟩), .int .i64 most] w (RGet st R0 F p l most) := by
  obtain ⟨v, hs, h1⟩ := reader_open h
  obtain ⟨A, c, rfl⟩ := hs.form (hF _ h1.right)
  have hc := h1.cell 0
  by_cases hl : l.length < 4
  · have hp : RGet st R0 F p l most (thrown 20) w := by unfold RGet; rw [show rget l most = .error 20 from if_pos hl]; exact ⟨rfl, h⟩
    go_enter Try.func27, Try.ntmps27
    go_wp2_with (go_at_call 26; refine (rnum_no st R0 F hF p l 4 _ h hl).mono ?_; rintro e w' ⟨rfl, rfl⟩)
    exact ⟨rfl, hp⟩
  · have hl4 : 4 ≤ l.length := by omega
    have hlt := unle_lt (l.take 4)
    rw [List.length_take, Nat.min_eq_left hl4] at hlt
    obtain ⟨n, hn⟩ : ∃ n, n = unle (l.take 4) := ⟨_, rfl⟩
    rw [← hn] at hlt
    have HN := Lib.hid hn
    clear hn
    obtain ⟨r, hr⟩ : ∃ r, r = l.drop 4 := ⟨_, rfl⟩
    have HR := Lib.hid hr
    clear hr
    have hnum : Calls Try.prog 26 #[.pointer (some ⟨p, 0, none⟩), .int .i64 4] w fun e w' => e = .returned (.int .u64 n) ∧ Has st (sep (reader st R0 p r) F) w' := by
      rw [HN.out, HR.out]; exact rnum_ok st R0 F hF p l 4 w h hl4
    have hrl : r.length + 4 = l.length := by rw [HR.out, List.length_drop]; omega
    have hlen : (r.length : Int) ≤ 9223372036854775807 := by
      obtain ⟨_, A', c', e, h4, h5⟩ := hs w (hF _ h1.right)
      injection e with _ _ e3
      have h6 := h5.1
      unfold maxLen at h6
      omega
    by_cases hlong : most.toNat < n
    · have hp : ∀ w', Has st (sep (reader st R0 p l) F) w' → RGet st R0 F p l most (thrown 2) w' := fun w' h' => by
        unfold RGet rget
        rw [if_neg hl, ← HN.out, if_pos hlong]
        exact ⟨rfl, h'⟩
      have HP := Lib.hid hp
      clear hp
      rcases Int.lt_or_le most 0 with hneg | hpos
      · have hz : most.toNat = 0 := by omega
        rw [hz] at hlong
        clear hz
        go_enter Try.func27, Try.ntmps27
        go_wp2_with (first
          | (go_at_call 26; refine hnum.mono ?_; rintro e w1 ⟨rfl, h2⟩; obtain ⟨v2, hs2, h3⟩ := reader_open h2; obtain ⟨A2, c2, rfl⟩ := hs2.form (hF _ h3.right); have hc1 := h3.cell 0; have hf1 := h3.free 0)
          | (go_at_call 45; refine (must_no _ (by decide) _).mono ?_; rintro e w' ⟨rfl, rfl⟩))
        exact ⟨rfl, HP.out _ (reader_shut (.slice A l.length c) hs (h3.set 0 _))⟩
      · obtain ⟨m, rfl⟩ : ∃ m : Nat, most = m := ⟨most.toNat, by omega⟩
        rw [Int.toNat_natCast] at hlong
        go_enter Try.func27, Try.ntmps27
        go_wp2_with (first
          | (go_at_call 26; refine hnum.mono ?_; rintro e w1 ⟨rfl, h2⟩; obtain ⟨v2, hs2, h3⟩ := reader_open h2; obtain ⟨A2, c2, rfl⟩ := hs2.form (hF _ h3.right); have hc1 := h3.cell 0; have hf1 := h3.free 0)
          | (go_at_call 45; refine (must_no _ (by decide) _).mono ?_; rintro e w' ⟨rfl, rfl⟩))
        exact ⟨rfl, HP.out _ (reader_shut (.slice A l.length c) hs (h3.set 0 _))⟩
    · by_cases hshort : r.length < n
      · have hp : ∀ w', Has st (sep (reader st R0 p l) F) w' → RGet st R0 F p l most (thrown 20) w' := fun w' h' => by
          unfold RGet rget
          rw [if_neg hl, ← HN.out, if_neg hlong, ← HR.out, if_pos hshort]
          exact ⟨rfl, h'⟩
        have HP := Lib.hid hp
        clear hp
        rcases Int.lt_or_le most 0 with hneg | hpos
        · exfalso; omega
        · obtain ⟨m, rfl⟩ : ∃ m : Nat, most = m := ⟨most.toNat, by omega⟩
          rw [Int.toNat_natCast] at hlong
          go_enter Try.func27, Try.ntmps27
          go_wp2_with (first
            | (go_at_call 26; refine hnum.mono ?_; rintro e w1 ⟨rfl, h2⟩; obtain ⟨v2, hs2, h3⟩ := reader_open h2; obtain ⟨A2, c2, rfl⟩ := hs2.form (hF _ h3.right); have hc1 := h3.cell 0; have hf1 := h3.free 0)
            | (go_at_call 45; refine (must_no _ (by decide) _).mono ?_; rintro e w' ⟨rfl, rfl⟩))
          exact ⟨rfl, HP.out _ (reader_shut (.slice A l.length c) hs (h3.set 0 _))⟩
      · have hp : ∀ w' e, (∃ A c, e = .returned (.slice A n c) ∧ Sees st R0 1 (.slice A n c) n (bcells (r.take n)) ∧ Has st (sep (reader st R0 p (r.drop n)) F) w') → RGet st R0 F p l most e w' := fun w' e h' => by
          have hln : (r.take n).length = n := by rw [List.length_take]; omega
          unfold RGet rget
          rw [if_neg hl, ← HN.out, if_neg hlong, ← HR.out, if_neg hshort]
          simp only [hln]
          exact h'
        have HP := Lib.hid hp
        clear hp
        rcases Int.lt_or_le most 0 with hneg | hpos
        · have hz : most.toNat = 0 := by omega
          rw [hz] at hlong
          clear hz
          go_enter Try.func27, Try.ntmps27
          go_wp2_with (first
            | (go_at_call 26; refine hnum.mono ?_; rintro e w1 ⟨rfl, h2⟩; obtain ⟨v2, hs2, h3⟩ := reader_open h2; obtain ⟨A2, c2, rfl⟩ := hs2.form (hF _ h3.right); have hc1 := h3.cell 0; have hf1 := h3.free 0)
            | (go_at_call 29; refine (rraw_ok st R0 F hF p r n _ h2 (by omega)).mono ?_; rintro e w2 ⟨A3, c3, rfl, hs3, h4⟩))
          go_ret
          exact HP.out _ _ ⟨A3, c3, rfl, hs3, h4⟩
        · obtain ⟨m, rfl⟩ : ∃ m : Nat, most = m := ⟨most.toNat, by omega⟩
          rw [Int.toNat_natCast] at hlong
          go_enter Try.func27, Try.ntmps27
          go_wp2_with (first
            | (go_at_call 26; refine hnum.mono ?_; rintro e w1 ⟨rfl, h2⟩; obtain ⟨v2, hs2, h3⟩ := reader_open h2; obtain ⟨A2, c2, rfl⟩ := hs2.form (hF _ h3.right); have hc1 := h3.cell 0; have hf1 := h3.free 0)
            | (go_at_call 29; refine (rraw_ok st R0 F hF p r n _ h2 (by omega)).mono ?_; rintro e w2 ⟨A3, c3, rfl, hs3, h4⟩))
          go_ret
          exact HP.out _ _ ⟨A3, c3, rfl, hs3, h4⟩

/-- behind Text -/
def RText (st : World) (R0 F : HProp) (p : Nat) (l : List UInt8) (most : Int) (e : Ending) (w' : World) : Prop :=
  match rget l most with
  | .error c => e = thrown c ∧ Has st (sep (reader st R0 p l) F) w'
  | .ok (x, rest) => e = .returned (.string ⟨x.toArray⟩) ∧ Has st (sep (reader st R0 p rest) F) w'

set_option maxHeartbeats 400000 in
theorem rtext_any (st : World) (R0 F : HProp) (hF : ∀ w, Has st F w → Has st R0 w) (p : Nat) (l : List UInt8) (most : Int) (w : World) (h : Has st (sep (reader st R0 p l) F) w) (hm : most ≤ 9223372036854775807) :
    Calls Try.prog 28 #[.pointer (some ⟨p, 0, none⟩), .int .i64 most] w (RText st R0 F p l most) := by
  have hb := rbytes_any st R0 F hF p l most w h hm
  cases hr : rget l most with
  | error c =>
    have hb' : Calls Try.prog 27 #[.pointer (some ⟨p, 0, none⟩), .int .i64 most] w fun e w' => e = thrown c ∧ Has st (sep (reader st R0 p l) F) w' := by
      refine hb.mono fun e w' h' => ?_; unfold RGet at h'; rw [hr] at h'; exact h'
    have hp : ∀ w', Has st (sep (reader st R0 p l) F) w' → RText st R0 F p l most (thrown c) w' := fun w' h' => by unfold RText; rw [hr]; exact ⟨rfl, h'⟩
    have HP := Lib.hid hp
    clear hp hr hb
    go_enter Try.func28, Try.ntmps28
    go_wp2_with (go_at_call 27; refine hb'.mono ?_; rintro e w' ⟨rfl, h1⟩)
    exact ⟨rfl, HP.out _ h1⟩
  | ok q =>
    obtain ⟨x, rest⟩ := q
    have hb' : Calls Try.prog 27 #[.pointer (some ⟨p, 0, none⟩), .int .i64 most] w fun e w' => ∃ A c, e = .returned (.slice A x.length c) ∧ Sees st R0 1 (.slice A x.length c) x.length (bcells x) ∧ Has st (sep (reader st R0 p rest) F) w' := by
      refine hb.mono fun e w' h' => ?_; unfold RGet at h'; rw [hr] at h'; exact h'
    have hp : ∀ w', Has st (sep (reader st R0 p rest) F) w' → RText st R0 F p l most (.returned (.string ⟨x.toArray⟩)) w' := fun w' h' => by unfold RText; rw [hr]; exact ⟨rfl, h'⟩
    have HP := Lib.hid hp
    clear hp hr hb
    go_enter Try.func28, Try.ntmps28
    go_wp2_with (first
      | (go_at_call 27; refine hb'.mono ?_; rintro e w' ⟨A, c, rfl, hs, h1⟩)
      | (refine wp_string rfl 25 9 5 _ rfl Try.underlying25 Try.underlying5 Try.underlying9 rfl (hs _ (hF _ h1.right)) ?_))
    go_ret
    exact HP.out _ h1
end Go.Proofs.Ytkmhopnpkilhiaa
