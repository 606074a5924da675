/-
  The contracts of package code's Reader.
-/
import Derived.Test.YtbiacehmfbopfaaCode
namespace Go.Proofs.Ytbiacehmfbopfaa
open Go.RowKit Go.Sl
set_option linter.unusedVariables false
set_option linter.unusedSimpArgs false

theorem sizeB : (Try.prog.info? 5).map (·.size) = some 1 := by kernel_rfl

/-- what guard.Must throws -/
abbrev thrown (n : Int) : Ending := .panicked [{ v := .iface 24 (.int .i64 n), recovered := false }]

set_option maxHeartbeats 400000 in
theorem must_ok (w : World) : Calls Try.prog 37 #[.int .i64 0] w fun e w' => e = .returned (.tuple #[]) ∧ w = w' := by
  go_enter Try.func37, Try.ntmps37
  go_wp2
  go_end0
  exact ⟨rfl, rfl⟩
set_option maxHeartbeats 400000 in
theorem must_no (n : Int) (hn : (n == 0) = false) (w : World) : Calls Try.prog 37 #[.int .i64 n] w fun e w' => e = thrown n ∧ w = w' := by
  go_enter Try.func37, Try.ntmps37
  go_wp2
  exact ⟨rfl, rfl, rfl⟩

/-- a Reader at block p over the bytes l, which lie in R0 -/
def reader (st : World) (R0 : HProp) (p : Nat) (l : List UInt8) : HProp := ex fun v => sep (pure (Sees st R0 1 v l.length (bcells l))) (blk p (.cells #[v] 61 (0, 0)))
theorem reader_open {st : World} {R0 R : HProp} {p : Nat} {l : List UInt8} {w : World} (h : Has st (sep (reader st R0 p l) R) w) : ∃ v, Sees st R0 1 v l.length (bcells l) ∧ Has st (sep (blk p (.cells #[v] 61 (0, 0))) R) w := by
  obtain ⟨v, h⟩ := h.exL
  obtain ⟨h1, h2⟩ := h.assoc.pureL
  exact ⟨v, h1, h2⟩
theorem reader_shut {st : World} {R0 R : HProp} {p : Nat} {l : List UInt8} {w : World} (v : Value) (hs : Sees st R0 1 v l.length (bcells l)) (h : Has st (sep (blk p (.cells #[v] 61 (0, 0))) R) w) : Has st (sep (reader st R0 p l) R) w :=
  Has.ofEx v (Has.ofPure hs h).unassoc
set_option maxHeartbeats 400000 in
theorem left_any (st : World) (R0 F : HProp) (hF : ∀ w, Has st F w → Has st R0 w) (p : Nat) (l : List UInt8) (w : World) (h : Has st (sep (reader st R0 p l) F) w) :
    Calls Try.prog 32 #[.pointer (some ⟨p, 0, none⟩)] w fun e w' => e = .returned (.int .i64 l.length) ∧ w = w' := by
  obtain ⟨v, hs, h1⟩ := reader_open h
  obtain ⟨A, c, rfl⟩ := hs.form (hF _ h1.right)
  have hc := h1.cell 0
  go_enter Try.func32, Try.ntmps32
  go_wp2
  go_ret
  exact ⟨rfl, rfl⟩

/-- the number of bytes that Raw reads -/
def cnt (n : Int) : Nat := n.toNat

theorem part_bytes (l : List UInt8) (L H : Nat) : ((bcells l).drop (L * 1)).take ((H - L) * 1) = bcells ((l.drop L).take (H - L)) := by
  simp [bcells, List.map_take, List.map_drop]

set_option maxHeartbeats 400000 in
/-- Raw, as many as there are -/
theorem rraw_ok (st : World) (R0 F : HProp) (hF : ∀ w, Has st F w → Has st R0 w) (p : Nat) (l : List UInt8) (n : Nat) (w : World) (h : Has st (sep (reader st R0 p l) F) w) (hn : n ≤ l.length) :
    Calls Try.prog 31 #[.pointer (some ⟨p, 0, none⟩), .int .i64 n] w fun e w' =>
      ∃ A c, e = .returned (.slice A n c) ∧ Sees st R0 1 (.slice A n c) n (bcells (l.take n)) ∧ Has st (sep (reader st R0 p (l.drop n)) F) w' := by
  obtain ⟨v, hs, h1⟩ := reader_open h
  obtain ⟨A, c, rfl⟩ := hs.form (hF _ h1.right)
  have hc := h1.cell 0
  have hf := h1.free 0
  have hr := hs w (hF _ h1.right)
  have hcap : l.length ≤ c := by obtain ⟨_, A', c', e, h, _⟩ := hr; injection e; omega
  have hmax : c ≤ maxLen := by obtain ⟨_, A', c', e, _, h, _⟩ := hr; injection e; omega
  unfold maxLen at hmax
  go_enter Try.func31, Try.ntmps31
  go_wp2_with (first
    | (refine wp_slice rfl 22 5 1 (.tmp 19) none (some (.tmp 20)) (some (.tmp 21)) rfl Try.underlying22 sizeB (by decide) rfl hr 0 n n (SlB.out 0) (SlB.at .i64 n _) (SlB.at .i64 n _) (by simp) (Nat.zero_le _) hn (Nat.le_refl _) (by omega) ?_; intro A1 c1 hA1)
    | (refine wp_slice rfl 22 5 1 (.tmp 27) (some (.tmp 28)) none none rfl Try.underlying22 sizeB (by decide) rfl hr n l.length c (SlB.at .i64 n 0) (SlB.out _) (SlB.out _) (by simp) hn (Nat.le_refl _) hcap (Nat.le_refl _) ?_; intro A2 c2 hA2))
  go_ret
  refine ⟨A1, c1, rfl, fun w' hw' => ?_, reader_shut (.slice A2 (l.length - n) c2) (fun w' hw' => ?_) (h1.set 0 (.slice A2 (l.length - n) c2))⟩
  · have := hA1 w' (hs w' hw')
    simpa [part_bytes, bcells, List.map_take] using this
  · have := hA2 w' (hs w' hw')
    rw [part_bytes] at this
    rw [List.length_drop]
    rwa [show List.take (l.length - n) (l.drop n) = l.drop n from List.take_of_length_le (by simp)] at this

set_option maxHeartbeats 400000 in
/-- Raw, too many -/
theorem rraw_no (st : World) (R0 F : HProp) (hF : ∀ w, Has st F w → Has st R0 w) (p : Nat) (l : List UInt8) (n : Nat) (w : World) (h : Has st (sep (reader st R0 p l) F) w) (hn : l.length < n) :
    Calls Try.prog 31 #[.pointer (some ⟨p, 0, none⟩), .int .i64 n] w fun e w' => e = thrown 20 ∧ w = w' := by
  obtain ⟨v, hs, h1⟩ := reader_open h
  obtain ⟨A, c, rfl⟩ := hs.form (hF _ h1.right)
  have hc := h1.cell 0
  go_enter Try.func31, Try.ntmps31
  go_wp2_with (go_at_call 37; refine (must_no 20 (by decide) _).mono ?_; rintro e w' ⟨rfl, rfl⟩)
  exact ⟨rfl, rfl, rfl⟩

/-- a number's value out of its bytes, the lowest first -/
def unle : List UInt8 → Nat
  | [] => 0
  | c :: l => c.toNat + 256 * unle l
theorem unle_lt (l : List UInt8) : unle l < 256 ^ l.length := by
  induction l with
  | nil => simp [unle]
  | cons c l ih =>
    have := c.toNat_lt
    simp only [unle, List.length_cons, Nat.pow_succ]
    omega
theorem unle_snoc (l : List UInt8) (c : UInt8) : unle (l ++ [c]) = unle l + c.toNat * 256 ^ l.length := by
  induction l with
  | nil => simp [unle]
  | cons d l ih => simp only [List.cons_append, unle, ih, List.length_cons, Nat.pow_succ]; rw [Nat.mul_add, Nat.add_assoc]; congr 2; ac_rfl

theorem pow256 (i : Nat) : 256 ^ i = 2 ^ (8 * i) := by rw [Nat.pow_mul]
theorem pow256_le {i : Nat} (hi : i < 8) : 256 ^ i * 256 ≤ 18446744073709551616 := by
  have : 256 ^ (i + 1) ≤ 256 ^ 8 := Nat.pow_le_pow_right (by decide) (by omega)
  rw [Nat.pow_succ] at this
  exact Nat.le_trans this (by decide)
theorem or_place (n c i : Nat) (hn : n < 256 ^ i) (hi : i < 8) (hc : c < 256) : bits .or .u64 (n : Int) (IntKind.u64.wrap (IntKind.u64.wrap (c : Int) * 2 ^ (8 * i))) = ((n + c * 256 ^ i : Nat) : Int) := by
  have hp := pow256_le hi
  have h1 : c * 256 ^ i + 256 ^ i ≤ 18446744073709551616 := by
    have : (c + 1) * 256 ^ i ≤ 256 * 256 ^ i := Nat.mul_le_mul_right _ (by omega)
    rw [Nat.add_mul, Nat.one_mul] at this
    omega
  have h0 : 0 < 256 ^ i := Nat.pow_pos (by decide)
  have e1 : IntKind.u64.wrap (c : Int) = (c : Int) := IntWalk.u64_in _ ⟨by omega, by omega⟩
  have e2 : (c : Int) * 2 ^ (8 * i) = ((c * 256 ^ i : Nat) : Int) := by rw [pow256]; simp
  rw [e1, e2, IntWalk.u64_in _ ⟨by omega, by omega⟩, u64_or_nat _ _ (by omega) (by omega)]
  congr 1
  rw [Nat.or_comm, pow256, ← Nat.shiftLeft_eq, ← Nat.shiftLeft_add_eq_or_of_lt (by rw [← pow256]; exact hn)]
  exact Nat.add_comm _ _

set_option maxHeartbeats 400000 in
/-- Num, as many bytes as there are -/
theorem rnum_ok (st : World) (R0 F : HProp) (hF : ∀ w, Has st F w → Has st R0 w) (p : Nat) (l : List UInt8) (size : Int) (w : World) (h : Has st (sep (reader st R0 p l) F) w) (hn : held size ≤ l.length) :
    Calls Try.prog 38 #[.pointer (some ⟨p, 0, none⟩), .int .i64 size] w fun e w' =>
      e = .returned (.int .u64 (unle (l.take (held size)))) ∧ Has st (sep (reader st R0 p (l.drop (held size))) F) w' := by
  have hh := held_pos size
  generalize hk : held size = k at hh hn
  have HK := Lib.hid hk
  clear hk
  go_enter Try.func38, Try.ntmps38
  go_wp2_with (first
    | (go_at_call 33; refine (held_any size _).mono ?_; rintro e w' ⟨rfl, rfl⟩; rw [HK.out])
    | (go_at_call 31; refine (rraw_ok st R0 F hF p l k _ h hn).mono ?_; rintro e w1 ⟨A, c, rfl, hs, h1⟩))
  go_loop [5, 6, 7, 13] (fun v5 v6 v7 v13 => ∃ (i n : Nat), i ≤ k ∧ v13 = .int .i64 i ∧ v5 = .int .u64 n ∧ Hid (n = unle (l.take i))) (fun _ _ _ v13 => k - (intOf v13).toNat)
  case atStart => exact ⟨0, 0, Nat.zero_le _, rfl, rfl, by simp [unle, Hid]⟩
  case round =>
    obtain ⟨i, n, hi, rfl, rfl, HE⟩ := hrel
    by_cases hlt : i < k
    · obtain ⟨b, off, cap, e, hc⟩ := Rd.open (hs w1 (hF _ h1.right)) (by omega)
      have hcell := hc.2.2 i _ (bcells_get (by simp; omega))
      injection e with e1 e2 e3
      subst e1
      go_wp2
      go_round
      case rel =>
        have hlt' := unle_lt (l.take i)
        rw [← HE.out, List.length_take, Nat.min_eq_left (by omega)] at hlt'
        refine ⟨i + 1, n + l[i].toNat * 256 ^ i, by omega, by go_num, ?_, ?_⟩
        · rw [or_place n _ i hlt' (by omega) l[i].toNat_lt]
        · show _ = _
          rw [List.take_succ_eq_append_getElem (by omega), unle_snoc, ← HE.out, List.length_take, Nat.min_eq_left (by omega)]
      case measure => simp [intOf]; omega
    · go_wp2
      go_ret
      obtain rfl : i = k := by omega
      exact ⟨by rw [HE.out]; rfl, h1⟩

set_option maxHeartbeats 400000 in
/-- Num, too many -/
theorem rnum_no (st : World) (R0 F : HProp) (hF : ∀ w, Has st F w → Has st R0 w) (p : Nat) (l : List UInt8) (size : Int) (w : World) (h : Has st (sep (reader st R0 p l) F) w) (hn : l.length < held size) :
    Calls Try.prog 38 #[.pointer (some ⟨p, 0, none⟩), .int .i64 size] w fun e w' => e = thrown 20 ∧ w = w' := by
  go_enter Try.func38, Try.ntmps38
  go_wp2_with (first
    | (go_at_call 33; refine (held_any size _).mono ?_; rintro e w' ⟨rfl, rfl⟩)
    | (go_at_call 31; refine (rraw_no st R0 F hF p l _ _ h hn).mono ?_; rintro e w1 ⟨rfl, rfl⟩))
  exact ⟨rfl, rfl, rfl⟩

/-- what Bytes and Text read: an error, or the bytes and what is left -/
def rget (l : List UInt8) (most : Int) : Except Int (List UInt8 × List UInt8) :=
  if l.length < 4 then .error 20
  else if most.toNat < unle (l.take 4) then .error 2
  else if (l.drop 4).length < unle (l.take 4) then .error 20
  else .ok ((l.drop 4).take (unle (l.take 4)), (l.drop 4).drop (unle (l.take 4)))
/-- behind Bytes -/
def RGet (st : World) (R0 F : HProp) (p : Nat) (l : List UInt8) (most : Int) (e : Ending) (w' : World) : Prop :=
  match rget l most with
  | .error c => e = thrown c ∧ Has st (sep (reader st R0 p l) F) w'
  | .ok (x, rest) => ∃ A c, e = .returned (.slice A x.length c) ∧ Sees st R0 1 (.slice A x.length c) x.length (bcells x) ∧ Has st (sep (reader st R0 p rest) F) w'

theorem max_toNat (most : Int) : max most 0 = (most.toNat : Int) := by omega

































































































/-- behind Text -/
def RText (st : World) (R0 F : HProp) (p : Nat) (l : List UInt8) (most : Int) (e : Ending) (w' : World) : Prop :=
  match rget l most with
  | .error c => e = thrown c ∧ Has st (sep (reader st R0 p l) F) w'
  | .ok (x, rest) => e = .returned (.string ⟨x.toArray⟩) ∧ Has st (sep (reader st R0 p rest) F) w'




























end Go.Proofs.Ytbiacehmfbopfaa
