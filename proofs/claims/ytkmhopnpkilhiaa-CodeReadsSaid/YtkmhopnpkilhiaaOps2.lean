/-
  The fields that the statements of layer 2 are given, read in memory; few; write.
-/
import Derived.Test.YtkmhopnpkilhiaaAlive2
namespace Go.Proofs.Ytkmhopnpkilhiaa
open Go.RowKit Go.Sl
set_option linter.unusedVariables false
set_option linter.unusedSimpArgs false

structure OpV where
  kind : Int
  size : Int
  n : Nat
  b : List UInt8

/-- v is a slice of fields that read ops -/
def SeesOps (s : World) (R : HProp) (v : Value) (ops : List OpV) : Prop :=
  ∃ vs, Sees s R 4 v ops.length vs ∧ ∀ (i : Nat) (h : i < ops.length), ∃ A c, vs[i * 4]? = some (.int .i64 ops[i].kind) ∧ vs[i * 4 + 1]? = some (.int .i64 ops[i].size) ∧ vs[i * 4 + 2]? = some (.int .u64 ops[i].n) ∧
    vs[i * 4 + 3]? = some (.slice A ops[i].b.length c) ∧ Sees s R 1 (.slice A ops[i].b.length c) ops[i].b.length (bcells ops[i].b)

/-- the facts that a round asks for -/
theorem ops_at {s : World} {R : HProp} {w : World} {A0 : Option Addr} {cap : Nat} {ops : List OpV} (h : SeesOps s R (.slice A0 ops.length cap) ops) (hw : Has s R w) {i : Nat} (hi : i < ops.length) : ∃ b off A c, A0 = some ⟨b, off, none⟩ ∧
    w.cell? ⟨b, off + i * 4, none⟩ = some (.int .i64 ops[i].kind) ∧ w.cell? ⟨b, off + i * 4 + 1, none⟩ = some (.int .i64 ops[i].size) ∧ w.cell? ⟨b, off + i * 4 + 2, none⟩ = some (.int .u64 ops[i].n) ∧
    w.cell? ⟨b, off + i * 4 + 3, none⟩ = some (.slice A ops[i].b.length c) ∧ Sees s R 1 (.slice A ops[i].b.length c) ops[i].b.length (bcells ops[i].b) := by
  obtain ⟨vs, hv, hall⟩ := h
  obtain ⟨A, c, h0, h1, h2, h3, hr⟩ := hall i hi
  obtain ⟨b, off, cap', e, _, _, hc⟩ := (hv w hw).open (by omega)
  injection e with e _ _
  exact ⟨b, off, A, c, e, hc _ _ h0, by have := hc _ _ h1; rwa [← Nat.add_assoc] at this, by have := hc _ _ h2; rwa [← Nat.add_assoc] at this, by have := hc _ _ h3; rwa [← Nat.add_assoc] at this, hr⟩
theorem ops_form {s : World} {R : HProp} {w : World} {v : Value} {ops : List OpV} (h : SeesOps s R v ops) (hw : Has s R w) : ∃ A c, v = .slice A ops.length c ∧ ops.length ≤ 9223372036854775807 := by
  obtain ⟨vs, hv, _⟩ := h
  obtain ⟨_, A, c, e, h1, h2, _⟩ := hv w hw
  unfold maxLen at h2
  exact ⟨A, c, e, by omega⟩

def fewB (ops : List OpV) : Bool := ops.all (fun o => decide (o.b.length ≤ 60)) && decide (ops.length ≤ 40)
theorem few_false {ops : List OpV} {i : Nat} (hi : i < ops.length) (h : 60 < ops[i].b.length) : fewB ops = false := by
  unfold fewB
  rw [Bool.and_eq_false_iff, List.all_eq_false]
  exact .inl ⟨ops[i], List.getElem_mem hi, by simpa using h⟩
theorem few_all {ops : List OpV} (h : ∀ o ∈ ops, o.b.length ≤ 60) : fewB ops = decide (ops.length ≤ 40) := by
  unfold fewB
  rw [show ops.all (fun o => decide (o.b.length ≤ 60)) = true by rw [List.all_eq_true]; intro o ho; simpa using h o ho, Bool.true_and]
def FewRel (st : World) (R : HProp) (ops : List OpV) (v7 : Value) (wr : World) : Prop :=
  ∃ i : Nat, i ≤ ops.length ∧ v7 = .int .i64 i ∧ Hid (∀ o ∈ ops.take i, o.b.length ≤ 60) ∧ Has st R wr

set_option maxHeartbeats 400000 in
theorem few_any (st : World) (R : HProp) (v : Value) (ops : List OpV) (hs : SeesOps st R v ops) (w : World) (h : Has st R w) :
    Calls Try.prog 10 #[v] w fun e w' => e = .returned (.bool (fewB ops)) ∧ Has st R w' := by
  obtain ⟨A, c, rfl, hlen⟩ := ops_form hs h
  have HS := Lib.hid hs
  clear hs
  go_enter Try.func10, Try.ntmps10
  go_wp2
  go_loopw [4, 7] (fun _ v7 wr => FewRel st R ops v7 wr) (fun _ v7 _ => ops.length - (intOf v7).toNat)
  case atStart => exact ⟨0, Nat.zero_le _, rfl, by simp [Hid], h⟩
  case round =>
    obtain ⟨i, hi, rfl, HA, h⟩ := hrel
    by_cases hlt : i < ops.length
    · obtain ⟨b, off, B, d, rfl, c0, c1, c2, c3, hsb⟩ := ops_at HS.out h hlt
      clear hsb
      by_cases hlong : 60 < ops[i].b.length
      · go_wp2
        go_ret
        exact ⟨by rw [few_false hlt hlong]; rfl, h.alloc' _⟩
      · go_wp2
        go_roundw
        case rel =>
          refine ⟨i + 1, by omega, by go_num, ?_, h.alloc' _⟩
          intro o ho
          rw [List.take_succ_eq_append_getElem hlt, List.mem_append, List.mem_singleton] at ho
          rcases ho with ho | rfl
          · exact HA.out o ho
          · omega
        case measure => simp [intOf]; omega
    · go_wp2
      go_ret
      obtain rfl : i = ops.length := by omega
      refine ⟨?_, h⟩
      rw [few_all (by have := HA.out; rwa [List.take_length] at this)]
      simp
      omega

/-- what a field writes -/
def opW (o : OpV) : List UInt8 := if o.kind == 0 then le o.n (held o.size) else if o.kind == 1 then le o.n (held o.size) else if o.kind == 2 then le o.b.length 4 ++ o.b else if o.kind == 3 then le o.b.length 4 ++ o.b else if o.kind == 4 then o.b else []
theorem opW_0 (o : OpV) (h : (o.kind == 0) = true) : opW o = le o.n (held o.size) := by unfold opW; rw [if_pos h]
theorem opW_1 (o : OpV) (h0 : (o.kind == 0) = false) (h : (o.kind == 1) = true) : opW o = le o.n (held o.size) := by unfold opW; simp only [h0, h]; rfl
theorem opW_2 (o : OpV) (h0 : (o.kind == 0) = false) (h1 : (o.kind == 1) = false) (h : (o.kind == 2) = true) : opW o = le o.b.length 4 ++ o.b := by unfold opW; simp only [h0, h1, h]; rfl
theorem opW_3 (o : OpV) (h0 : (o.kind == 0) = false) (h1 : (o.kind == 1) = false) (h2 : (o.kind == 2) = false) (h : (o.kind == 3) = true) : opW o = le o.b.length 4 ++ o.b := by unfold opW; simp only [h0, h1, h2, h]; rfl
theorem opW_4 (o : OpV) (h0 : (o.kind == 0) = false) (h1 : (o.kind == 1) = false) (h2 : (o.kind == 2) = false) (h3 : (o.kind == 3) = false) (h : (o.kind == 4) = true) : opW o = o.b := by unfold opW; simp only [h0, h1, h2, h3, h]; rfl
theorem opW_5 (o : OpV) (h0 : (o.kind == 0) = false) (h1 : (o.kind == 1) = false) (h2 : (o.kind == 2) = false) (h3 : (o.kind == 3) = false) (h4 : (o.kind == 4) = false) : opW o = [] := by unfold opW; simp only [h0, h1, h2, h3, h4]; rfl
def opsW (ops : List OpV) : List UInt8 := (ops.map opW).flatten
theorem opsW_take_succ (ops : List OpV) (i : Nat) (h : i < ops.length) : opsW (ops.take (i + 1)) = opsW (ops.take i) ++ opW ops[i] := by
  unfold opsW
  rw [List.take_succ_eq_append_getElem h, List.map_append, List.flatten_append]
  simp
theorem opW_length (o : OpV) (h : o.b.length ≤ 60) : (opW o).length ≤ 64 := by
  unfold opW
  have := held_pos o.size
  repeat' split
  all_goals simp [le_length]
  all_goals omega
theorem opsW_length (ops : List OpV) (h : ∀ o ∈ ops, o.b.length ≤ 60) : (opsW ops).length ≤ 64 * ops.length := by
  induction ops with
  | nil => simp [opsW]
  | cons o l ih =>
    have h1 := opW_length o (h o (by simp))
    have h2 := ih fun o ho => h o (by simp [ho])
    unfold opsW at h2 ⊢
    simp only [List.map_cons, List.flatten_cons, List.length_append, List.length_cons]
    omega
theorem few_true {ops : List OpV} (h : fewB ops = true) : (∀ o ∈ ops, o.b.length ≤ 60) ∧ ops.length ≤ 40 := by
  unfold fewB at h
  rw [Bool.and_eq_true, List.all_eq_true] at h
  exact ⟨fun o ho => by simpa using h.1 o ho, by simpa using h.2⟩

def WriteRel (st : World) (R : HProp) (p : Nat) (ops : List OpV) (v8 : Value) (wr : World) : Prop :=
  ∃ (i : Nat) (li : List UInt8), i ≤ ops.length ∧ v8 = .int .i64 i ∧ Hid (li = opsW (ops.take i)) ∧ Has st (sep (writer p li) R) wr

set_option maxHeartbeats 1000000 in
theorem write_any (st : World) (R : HProp) (v : Value) (ops : List OpV) (hs : SeesOps st R v ops) (hk : ∀ o ∈ ops, o.n ≤ 18446744073709551615) (hf : fewB ops = true) (w : World) (h : Has st R w) :
    Calls Try.prog 14 #[v] w fun e w' => ∃ A c, e = .returned (.slice A (opsW ops).length c) ∧ Has st (sep (row 5 1 (.slice A (opsW ops).length c) (opsW ops).length (bcells (opsW ops))) R) w' := by
  obtain ⟨A, c, rfl, hlen⟩ := ops_form hs h
  have HS := Lib.hid hs
  obtain ⟨hb, h40⟩ := few_true hf
  have HB := Lib.hid hb
  clear hs hb hf
  have HK := Lib.hid hk
  clear hk
  go_enter Try.func14, Try.ntmps14
  go_wp2_with (fail)
  go_loopw [5, 8] (fun _ v8 wr => WriteRel st R w.heap.size ops v8 wr) (fun _ v8 _ => ops.length - (intOf v8).toNat)
  case atStart => exact ⟨0, [], Nat.zero_le _, rfl, by simp [Hid, opsW], writer_new h⟩
  case round =>
    obtain ⟨i, li, hi, rfl, HA, h⟩ := hrel
    have hli : li.length ≤ 64 * 40 := by
      rw [HA.out]
      have := opsW_length (ops.take i) fun o ho => HB.out o (List.mem_of_mem_take ho)
      rw [List.length_take] at this
      omega
    by_cases hlt : i < ops.length
    · obtain ⟨b, off, B, d, rfl, c0, c1, c2, c3, hsb⟩ := ops_at HS.out h.right hlt
      have hn := HK.out ops[i] (List.getElem_mem hlt)
      have hb := HB.out ops[i] (List.getElem_mem hlt)
      have HSB := Lib.hid hsb
      clear hsb
      go_wp2_with (first
        | (go_at_call 30; have HX := Lib.hid (show opW ops[i] = le ops[i].n (held ops[i].size) from by first | exact opW_0 _ (by assumption) | exact opW_1 _ (by assumption) (by assumption)); refine (num_any st R _ li ops[i].n ops[i].size _ (h.alloc' _) (by omega)).mono ?_; rintro e w1 ⟨rfl, h3⟩)
        | (go_at_call 32; have HX := Lib.hid (show opW ops[i] = le ops[i].b.length 4 ++ ops[i].b from opW_2 _ (by assumption) (by assumption) (by assumption)); refine (bytes_any st R _ li ops[i].b _ _ (h.alloc' _) HSB.out (by omega)).mono ?_; rintro e w1 ⟨rfl, h3⟩; rw [List.append_assoc] at h3)
        | (refine wp_string rfl 25 9 5 _ rfl Try.underlying25 Try.underlying5 Try.underlying9 rfl (HSB.out _ (h.alloc' _).right) ?_)
        | (go_at_call 31; have HX := Lib.hid (show opW ops[i] = le ops[i].b.length 4 ++ ops[i].b from opW_3 _ (by assumption) (by assumption) (by assumption) (by assumption)); refine (text_any st R _ li ⟨ops[i].b.toArray⟩ _ (h.alloc' _) (by show li.length + ops[i].b.toArray.size ≤ _; simp; omega)).mono ?_; rintro e w1 ⟨rfl, h3⟩; rw [List.append_assoc] at h3)
        | (go_at_call 34; have HX := Lib.hid (show opW ops[i] = ops[i].b from opW_4 _ (by assumption) (by assumption) (by assumption) (by assumption) (by assumption)); refine (raw_any st R _ li ops[i].b _ _ (h.alloc' _) HSB.out (by omega)).mono ?_; rintro e w1 ⟨rfl, h3⟩))
      all_goals
        go_roundw
        case measure => simp [intOf]; omega
      all_goals
        first
        | exact ⟨i + 1, li ++ opW ops[i], by omega, by go_num, by show _ = _; rw [HA.out, opsW_take_succ ops i hlt], by rw [HX.out]; exact h3⟩
        | exact ⟨i + 1, li, by omega, by go_num, by show _ = _; rw [HA.out, opsW_take_succ ops i hlt, opW_5 ops[i] (by assumption) (by assumption) (by assumption) (by assumption) (by assumption), List.append_nil], h.alloc' _⟩
    · obtain rfl : i = ops.length := by omega
      have e1 : li = opsW ops := by rw [HA.out, List.take_length]
      subst e1
      go_wp2_with (go_at_call 33; refine (done_any st R _ _ _ h (by omega)).mono ?_; rintro e w1 ⟨A', c', rfl, h3⟩)
      go_ret
      exact ⟨A', c', rfl, h3.second.right⟩
end Go.Proofs.Ytkmhopnpkilhiaa
