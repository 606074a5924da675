/-
  The contracts of the references' helpers: rows of bytes, numbers' bytes.
-/
import Derived.Test.YtbiacehmfbopfaaGuard
namespace Go.Proofs.Ytbiacehmfbopfaa
open Go.RowKit Go.Sl
set_option linter.unusedVariables false
set_option linter.unusedSimpArgs false

def clamp (n lo hi : Int) : Int := let m := if hi < n then hi else n; if m < lo then lo else m
theorem clamp_held (n : Int) : clamp n 1 8 = held n := by unfold clamp held; simp only; split <;> split <;> (try split) <;> (try split) <;> omega

set_option maxHeartbeats 400000 in
theorem refHeld_any (n lo hi : Int) (w : World) : Calls Try.prog 34 #[.int .i64 n, .int .i64 lo, .int .i64 hi] w fun e w' => e = .returned (.int .i64 (clamp n lo hi)) ∧ w = w' := by
  obtain ⟨m, hm⟩ : ∃ m, m = clamp n lo hi := ⟨_, rfl⟩
  rw [← hm]
  unfold clamp at hm
  by_cases h1 : hi < n
  · by_cases h2 : hi < lo
    all_goals
      simp only [if_pos h1, if_pos, if_neg, h2, if_true, if_false] at hm
      subst hm
      go_enter Try.func34, Try.ntmps34
      go_wp2
      go_ret
      exact ⟨rfl, rfl⟩
  · by_cases h2 : n < lo
    all_goals
      simp only [if_neg h1, if_pos, if_neg, h2, if_true, if_false] at hm
      subst hm
      go_enter Try.func34, Try.ntmps34
      go_wp2
      go_ret
      exact ⟨rfl, rfl⟩

set_option maxHeartbeats 400000 in
theorem refNum_any (st : World) (R : HProp) (n : Nat) (size : Int) (w : World) (hn : n ≤ 18446744073709551615) (h : Has st R w) :
    Calls Try.prog 26 #[.int .u64 n, .int .i64 size] w fun e w' => ∃ A c, e = .returned (.slice A (le n (held size)).length c) ∧ Has st (sep (row 5 1 (.slice A (le n (held size)).length c) (le n (held size)).length (bcells (le n (held size)))) R) w' := by
  have hh := held_pos size
  have hheld := fun w => refHeld_any size 1 8 w
  rw [clamp_held] at hheld
  generalize hk : held size = k at hh hheld
  clear hk
  have HH := Lib.hid hheld
  clear hheld
  rw [le_length]
  go_enter Try.func26, Try.ntmps26
  go_wp2_with (fail)
  go_loopw [0, 5, 6] (fun v0 v5 v6 wr => ∃ (i m c : Nat) (A : Option Addr) (li : List UInt8), i ≤ k ∧ m ≤ 18446744073709551615 ∧ v6 = .int .i64 i ∧ v0 = .int .u64 m ∧ v5 = .slice A i c ∧ Hid (li = le n i ∧ m = n / 256 ^ i) ∧ Has st (sep (row 5 1 (.slice A i c) i (bcells li)) R) wr) (fun _ _ v6 _ => k - (intOf v6).toNat)
  case atStart => exact ⟨0, n, 0, some ⟨w.heap.size, 0, none⟩, [], Nat.zero_le _, hn, rfl, rfl, rfl, ⟨by simp [le], by simp⟩, h.row_empty _ _⟩
  case round =>
    obtain ⟨i, m, c, A, li, hi, hm, rfl, rfl, rfl, HE, h⟩ := hrel
    by_cases hlt : i < k
    · go_wp2_with (first
        | (go_at_call 34; refine (HH.out _).mono ?_; rintro e w' ⟨rfl, rfl⟩)
        | (refine wp_append (v := .slice A i c) rfl _ _ 22 5 1 1 (.int .u8 0) rfl Try.underlying22 infoB rfl (by decide) rfl rfl (h.alloc' _) (Rd.one _ _ _) (by simp; rfl) (by unfold maxLen; omega) (by omega) ?_; intro A' c' w' h3 _))
      go_roundw
      case rel =>
        refine ⟨i + 1, m / 256, c', A', li ++ [UInt8.ofNat m], by omega, by omega, by go_num, by go_num, rfl, ⟨by rw [HE.out.1, le_succ, ← HE.out.2], by rw [HE.out.2, Nat.div_div_eq_div_mul, Nat.pow_succ]⟩, ?_⟩
        have e1 : Value.int .u8 ((m : Int) % 256 % 256) = bcell (UInt8.ofNat m) := by rw [← bcell_mod]; congr 1; omega
        simpa [bcells, ← e1] using h3
      case measure => simp [intOf]; omega
    · go_wp2_with (go_at_call 34; refine (HH.out _).mono ?_; rintro e w' ⟨rfl, rfl⟩)
      go_ret
      obtain rfl : i = k := by omega
      exact ⟨A, c, rfl, HE.out.1 ▸ h⟩

set_option maxHeartbeats 400000 in
theorem same_any (l m : List UInt8) (n k : Nat) (u v : Value) (w : World) (hu : Rd 1 w u n (bcells l)) (hv : Rd 1 w v k (bcells m)) :
    Calls Try.prog 15 #[u, v] w fun e w' => e = .returned (.bool (l == m)) ∧ w = w' := by
  obtain ⟨_, A, c, rfl, _⟩ := id hu
  obtain ⟨_, B, d, rfl, _⟩ := id hv
  go_enter Try.func15, Try.ntmps15
  go_wp2_with (first
    | (refine wp_string rfl 22 9 5 (.tmp 5) rfl Try.underlying22 Try.underlying5 Try.underlying9 rfl hu ?_)
    | (refine wp_string rfl 22 9 5 (.tmp 7) rfl Try.underlying22 Try.underlying5 Try.underlying9 rfl hv ?_))
  go_ret
  exact ⟨rfl, rfl⟩

/-- v is a slice of slices of bytes that read ls -/
def SeesL (s : World) (R : HProp) (v : Value) (ls : List (List UInt8)) : Prop :=
  ∃ vs, Sees s R 1 v ls.length vs ∧ ∀ (i : Nat) (h : i < ls.length), ∃ A c, vs[i]? = some (.slice A (ls[i]).length c) ∧ Sees s R 1 (.slice A (ls[i]).length c) (ls[i]).length (bcells ls[i])
def total (ls : List (List UInt8)) : Nat := ls.flatten.length
theorem flatten_take_succ (ls : List (List UInt8)) (i : Nat) (h : i < ls.length) : (ls.take (i + 1)).flatten = (ls.take i).flatten ++ ls[i] := by
  rw [List.take_succ_eq_append_getElem h, List.flatten_append]; simp
theorem flatten_take_le (ls : List (List UInt8)) (i : Nat) : ((ls.take i).flatten).length ≤ ls.flatten.length := by
  conv => rhs; rw [← List.take_append_drop i ls, List.flatten_append, List.length_append]
  omega

def JoinRel (st : World) (R : HProp) (ls : List (List UInt8)) (v3 v4 : Value) (wr : World) : Prop :=
  ∃ (i n c : Nat) (A : Option Addr) (li : List UInt8), i ≤ ls.length ∧ v4 = .int .i64 i ∧ v3 = .slice A n c ∧ Hid (li = (ls.take i).flatten ∧ n = li.length) ∧ Has st (sep (row 5 1 (.slice A n c) n (bcells li)) R) wr
set_option maxHeartbeats 400000 in
theorem join_any (st : World) (R : HProp) (v : Value) (ls : List (List UInt8)) (w : World) (h : Has st R w) (hs : SeesL st R v ls) (hb : ls.flatten.length ≤ 140737488355328) :
    Calls Try.prog 25 #[v] w fun e w' => ∃ A c, e = .returned (.slice A ls.flatten.length c) ∧ Has st (sep (row 5 1 (.slice A ls.flatten.length c) ls.flatten.length (bcells ls.flatten)) R) w' := by
  obtain ⟨vs, hv, hall⟩ := hs
  obtain ⟨_, V, k, rfl, hk1, hk2, _⟩ := hv w h
  unfold maxLen at hk2
  have HV := Lib.hid hv
  have HALL := Lib.hid hall
  clear hv hall
  go_enter Try.func25, Try.ntmps25
  go_wp2_with (fail)
  go_loopw [3, 4] (fun v3 v4 wr => JoinRel st R ls v3 v4 wr) (fun _ v4 _ => ls.length - (intOf v4).toNat)
  case atStart => exact ⟨0, 0, 0, some ⟨w.heap.size, 0, none⟩, [], Nat.zero_le _, rfl, rfl, ⟨by simp, by simp⟩, h.row_empty _ _⟩
  case round =>
    obtain ⟨i, n, c, A, li, hi, rfl, rfl, HE, h⟩ := hrel
    by_cases hlt : i < ls.length
    · obtain ⟨B, d, hvi, hsr⟩ := HALL.out i hlt
      have hr := hsr wr h.right
      obtain ⟨b, off, cap, e, hc1, hc2, hc⟩ := (HV.out wr h.right).open (by omega)
      injection e with e1 e2 e3
      subst e1
      have hcell := hc i _ hvi
      obtain ⟨m, hm⟩ : ∃ m, m = ls[i] := ⟨_, rfl⟩
      rw [← hm] at hcell hr
      clear hsr
      have HM := Lib.hid hm
      have hle : n + m.length ≤ 140737488355328 := by
        have h1 := flatten_take_le ls (i + 1)
        rw [flatten_take_succ ls i hlt, ← hm, List.length_append, ← HE.out.1, ← HE.out.2] at h1
        omega
      clear hm hc
      go_wp2_with (refine wp_append (v := .slice A n c) rfl _ _ 22 5 1 1 (.int .u8 0) rfl Try.underlying22 infoB rfl (by decide) rfl rfl h hr (bcells_one m) (by unfold maxLen; omega) (by omega) ?_; intro A' c' w' h3 _)
      go_roundw
      case rel =>
        refine ⟨i + 1, n + m.length, c', A', li ++ m, by omega, by go_num, rfl, ⟨by rw [HE.out.1, flatten_take_succ ls i hlt, ← HM.out], by rw [HE.out.2, List.length_append]⟩, ?_⟩
        rw [← bcells_append]; exact h3
      case measure => simp [intOf]; omega
    · go_wp2_with (fail)
      go_ret
      obtain rfl : i = ls.length := by omega
      have e1 : li = ls.flatten := by rw [HE.out.1, List.take_length]
      have e2 : n = ls.flatten.length := by rw [HE.out.2, e1]
      subst e1 e2
      exact ⟨A, c, rfl, h⟩
end Go.Proofs.Ytbiacehmfbopfaa
