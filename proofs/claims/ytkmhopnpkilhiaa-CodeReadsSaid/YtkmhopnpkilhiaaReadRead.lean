/-
  CodeReads: read.
-/
import Derived.Test.YtkmhopnpkilhiaaReadOne
namespace Go.Proofs.Ytkmhopnpkilhiaa
open Go.RowKit Go.Sl
set_option linter.unusedVariables false
set_option linter.unusedSimpArgs false

set_option maxHeartbeats 400000 in
theorem rraw_neg (st : World) (R0 F : HProp) (hF : ∀ w, Has st F w → Has st R0 w) (p : Nat) (l : List UInt8) (n : Int) (hn : n < 0) (w : World) (h : Has st (sep (reader st R0 p l) F) w) :
    Calls Try.prog 29 #[.pointer (some ⟨p, 0, none⟩), .int .i64 n] w fun e w' =>
      ∃ A c, e = .returned (.slice A 0 c) ∧ Sees st R0 1 (.slice A 0 c) 0 (bcells []) ∧ Has st (sep (reader st R0 p l) F) w' := by
  obtain ⟨v, hs, h1⟩ := reader_open h
  obtain ⟨A, c, rfl⟩ := hs.form (hF _ h1.right)
  have hc := h1.cell 0
  have hf := h1.free 0
  have hr := hs w (hF _ h1.right)
  obtain ⟨hcap, hmax⟩ := hr.le_cap
  unfold maxLen at hmax
  have HS := Lib.hid hs
  clear hs
  go_enter Try.func29, Try.ntmps29
  go_wp2_with (first
    | (refine wp_slice rfl 25 5 1 (.tmp 19) none (some (.tmp 20)) (some (.tmp 21)) rfl Try.underlying25 sizeB (by decide) rfl hr 0 0 0 (SlB.out 0) (SlB.at .i64 0 _) (SlB.at .i64 0 _) (by simp) (Nat.zero_le _) (Nat.zero_le _) (Nat.le_refl _) (by omega) ?_; intro A1 c1 hA1)
    | (refine wp_slice rfl 25 5 1 (.tmp 27) (some (.tmp 28)) none none rfl Try.underlying25 sizeB (by decide) rfl hr 0 l.length c (SlB.at .i64 0 0) (SlB.out _) (SlB.out _) (by simp) (Nat.zero_le _) (Nat.le_refl _) hcap (Nat.le_refl _) ?_; intro A2 c2 hA2))
  go_ret
  refine ⟨A1, c1, rfl, fun w' hw' => ?_, reader_shut (.slice A2 (l.length - 0) c2) (fun w' hw' => ?_) (h1.set 0 (.slice A2 (l.length - 0) c2))⟩
  · have := hA1 w' (HS.out w' hw')
    simpa [part_bytes, bcells, List.map_take] using this
  · have := hA2 w' (HS.out w' hw')
    rw [part_bytes] at this
    rwa [show List.take (l.length - 0) (l.drop 0) = l from by simp] at this

theorem stepc_def (o : OpV) (l : List UInt8) : stepc o l =
  if o.kind == 0 then (if l.length < held o.size then .error 20 else .ok (l.drop (held o.size)))
  else if o.kind == 1 then (if l.length < held o.size then .error 20 else .ok (l.drop (held o.size)))
  else if o.kind == 2 then (match rget l ((o.n % 128 : Nat) : Int) with | .error c => .error c | .ok q => .ok q.2)
  else if o.kind == 3 then (match rget l ((o.n % 128 : Nat) : Int) with | .error c => .error c | .ok q => .ok q.2)
  else if o.kind == 4 then (if l.length < o.size.toNat then .error 20 else .ok (l.drop o.size.toNat))
  else .ok l := rfl

theorem string_of (src dst e : TypeId) {P : Program} (hs : P.underlying src = some (.slice e)) (he : P.underlying e = some (.int .u8)) (hd : P.underlying dst = some .string)
    {v : Value} {n : Nat} {l : List UInt8} {w : World} (hr : Rd 1 w v n (bcells l)) : (convert src dst v).run P w = .ok (.string ⟨l.toArray⟩) w := by
  obtain ⟨hl, A, cap, rfl, hnc, hcm, ⟨rfl, rfl⟩ | ⟨ad, rfl, hc⟩⟩ := hr
  · obtain rfl : n = 0 := by omega
    have : l = [] := List.eq_nil_of_length_eq_zero (by rw [bcells_length] at hl; omega)
    subst this
    rw [run_convert_bytes_string w src dst e none 0 0 hs he hd]
    rfl
  · have hn : n = l.length := by rw [bcells_length] at hl; omega
    subst hn
    exact run_convert_bytes_back w src dst e ad cap l hs he hd fun j hj => by obtain ⟨b, off, sp⟩ := ad; obtain ⟨h2, h3⟩ := hc j _ (bcells_get hj); simp only at h2; subst h2; rw [addr_add]; exact h3
theorem no_call {P : Program} {f : FuncId} {args : Array Value} {w : World} (hf : Hid False) (v : Value) : Calls P f args w fun e w' => e = .returned v ∧ w = w' := hf.out.elim
theorem or_else {P : Program} {f : FuncId} {args : Array Value} {w : World} {post : Ending → World → Prop} (h : Calls P f args w post) (v : Value) :
    Calls P f args w fun e w' => post e w' ∨ (Hid False ∧ e = .returned v ∧ w = w') := h.mono fun _ _ h => .inl h

/-- behind read -/
def RPost (st : World) (R F : HProp) (p pg : Nat) (l : List UInt8) (o : OpV) (e : Ending) (w' : World) : Prop :=
  match stepc o l with
  | .error x => e = thrown x ∧ Has st (sep (reader st R p l) (sep (blk pg (.cells #[.bool true] 4)) F)) w'
  | .ok r => ∃ A2 c2, e = .returned (.agg #[.slice A2 r.length c2, .int .i64 0]) ∧ Sees st R 1 (.slice A2 r.length c2) r.length (bcells r) ∧ Has st (sep (reader st R p r) (sep (blk pg (.cells #[.bool true] 4)) F)) w'

set_option maxHeartbeats 8000000 in
theorem read_any (st : World) (R F : HProp) (hF : ∀ w, Has st F w → Has st R w) (p pg : Nat) (l : List UInt8) (A : Option Addr) (c : Nat) (hs : Sees st R 1 (.slice A l.length c) l.length (bcells l)) (o : OpV) (hn : o.n ≤ 18446744073709551615) (B : Option Addr) (d : Nat) (w : World) (h : Has st (sep (reader st R p l) (sep (blk pg (.cells #[.bool true] 4)) F)) w) :
    Calls Try.prog 20 #[.pointer (some ⟨p, 0, none⟩), .agg #[.slice A l.length c, .int .i64 0], .agg #[.int .i64 o.kind, .int .i64 o.size, .int .u64 o.n, .slice B o.b.length d], .pointer (some ⟨pg, 0, none⟩)] w (RPost st R F p pg l o) := by
  have hll : l.length ≤ 9223372036854775807 := by have := (hs w (hF w h.right.right)).le_cap; unfold maxLen at this; omega
  have hpg := h.second.lt
  have h1 := ((h.alloc (.cells #[.slice A l.length c, .int .i64 0] 36)).alloc (.cells #[.int .i64 o.kind, .int .i64 o.size, .int .u64 o.n, .slice B o.b.length d] 28)).alloc (.cells #[.slice none 0 0, .int .i64 0] 36)
  simp only [World.size_alloc] at h1
  have hE := ((h.alloc (.cells #[.slice A l.length c, .int .i64 0] 36)).alloc (.cells #[.int .i64 o.kind, .int .i64 o.size, .int .u64 o.n, .slice B o.b.length d] 28)).alloc (.cells #[.slice A l.length c, .int .i64 0] 36)
  simp only [World.size_alloc] at hE
  have HE := Lib.hid hE
  clear hE
  obtain ⟨q, hq⟩ : ∃ q, q = o.n % 128 := ⟨_, rfl⟩
  have hq127 : q ≤ 127 := by omega
  have hand : bits .and .u64 (o.n : Int) 127 = (q : Int) := by rw [u64_and127 o.n hn, hq]
  have h0 : Has st (sep (reader st R p l) (sep (blk (w.heap.size + 1 + 1) (.cells #[.slice none 0 0, .int .i64 0] 36)) (sep (blk (w.heap.size + 1) (.cells #[.int .i64 o.kind, .int .i64 o.size, .int .u64 o.n, .slice B o.b.length d] 28)) (sep (blk w.heap.size (.cells #[.slice A l.length c, .int .i64 0] 36)) (sep (blk pg (.cells #[.bool true] 4)) F))))) _ := h1.cast (by ac_rfl)
  have hF1 : ∀ w', Has st (sep (blk (w.heap.size + 1 + 1) (.cells #[.slice none 0 0, .int .i64 0] 36)) (sep (blk (w.heap.size + 1) (.cells #[.int .i64 o.kind, .int .i64 o.size, .int .u64 o.n, .slice B o.b.length d] 28)) (sep (blk w.heap.size (.cells #[.slice A l.length c, .int .i64 0] 36)) (sep (blk pg (.cells #[.bool true] 4)) F)))) w' → Has st R w' := fun w' h => hF _ h.right.right.right.right
  have hF2 : ∀ w' x, Has st (sep (reader st R p x) (sep (blk (w.heap.size + 1 + 1) (.cells #[.slice none 0 0, .int .i64 0] 36)) (sep (blk (w.heap.size + 1) (.cells #[.int .i64 o.kind, .int .i64 o.size, .int .u64 o.n, .slice B o.b.length d] 28)) (sep (blk w.heap.size (.cells #[.slice A l.length c, .int .i64 0] 36)) (sep (blk pg (.cells #[.bool true] 4)) F))))) w' → Has st R w' := fun w' x h => hF1 _ h.right
  -- the end of a way that has read
  have fin : ∀ (w2 : World) (r : List UInt8) (A2 : Option Addr) (c2 : Nat), stepc o l = .ok r → Sees st R 1 (.slice A2 r.length c2) r.length (bcells r) → Has st (sep (reader st R p r) (sep (blk (w.heap.size + 1 + 1) (.cells #[.slice none 0 0, .int .i64 0] 36)) (sep (blk (w.heap.size + 1) (.cells #[.int .i64 o.kind, .int .i64 o.size, .int .u64 o.n, .slice B o.b.length d] 28)) (sep (blk w.heap.size (.cells #[.slice A l.length c, .int .i64 0] 36)) (sep (blk pg (.cells #[.bool true] 4)) F))))) w2 → ∀ (obj : Obj), 
      RPost st R F p pg l o (.returned (.agg #[.slice A2 r.length c2, .int .i64 0])) ((((w2.setCell ⟨pg, 0, none⟩ (.bool true)).setCell ⟨w.heap.size + 1 + 1, 0, none⟩ (.slice A2 r.length c2)).setCell ⟨w.heap.size + 1 + 1, 1, none⟩ (.int .i64 0)).alloc obj) ∧
      ((((w2.setCell ⟨pg, 0, none⟩ (.bool true)).setCell ⟨w.heap.size + 1 + 1, 0, none⟩ (.slice A2 r.length c2)).setCell ⟨w.heap.size + 1 + 1, 1, none⟩ (.int .i64 0)).alloc obj).cell? ⟨w.heap.size + 1 + 1, 0, none⟩ = some (.slice A2 r.length c2) ∧
      ((((w2.setCell ⟨pg, 0, none⟩ (.bool true)).setCell ⟨w.heap.size + 1 + 1, 0, none⟩ (.slice A2 r.length c2)).setCell ⟨w.heap.size + 1 + 1, 1, none⟩ (.int .i64 0)).alloc obj).cell? ⟨w.heap.size + 1 + 1, 1, none⟩ = some (.int .i64 0) := by
    intro w2 r A2 c2 hst hs2 h2 obj
    have h3 : Has st (sep (blk pg (.cells #[.bool true] 4)) (sep (blk (w.heap.size + 1 + 1) (.cells #[.slice none 0 0, .int .i64 0] 36)) (sep (blk (w.heap.size + 1) (.cells #[.int .i64 o.kind, .int .i64 o.size, .int .u64 o.n, .slice B o.b.length d] 28)) (sep (blk w.heap.size (.cells #[.slice A l.length c, .int .i64 0] 36)) (sep (reader st R p r) F))))) w2 := h2.cast (by ac_rfl)
    have h4 := ((((h3.set 0 (.bool true)).second.set 0 (.slice A2 r.length c2)).set 1 (.int .i64 0))).alloc obj
    simp only [List.setIfInBounds_toArray, List.set_cons_zero, List.set_cons_succ] at h4
    refine ⟨?_, h4.second.cell 0, h4.second.cell 1⟩
    unfold RPost
    rw [hst]
    exact ⟨A2, c2, rfl, hs2, (h4.right.right.cast (by ac_rfl) : Has st (sep (blk (w.heap.size + 1) (.cells #[.int .i64 o.kind, .int .i64 o.size, .int .u64 o.n, .slice B o.b.length d] 28)) (sep (blk w.heap.size (.cells #[.slice A l.length c, .int .i64 0] 36)) (sep (reader st R p r) (sep (blk pg (.cells #[.bool true] 4)) F)))) _).right.right⟩
  have HFin := Lib.hid fin
  clear fin
  have FailW : ∀ (w2 : World) (x : Int), stepc o l = .error x → Has st (sep (reader st R p l) (sep (blk (w.heap.size + 1 + 1) (.cells #[.slice none 0 0, .int .i64 0] 36)) (sep (blk (w.heap.size + 1) (.cells #[.int .i64 o.kind, .int .i64 o.size, .int .u64 o.n, .slice B o.b.length d] 28)) (sep (blk w.heap.size (.cells #[.slice A l.length c, .int .i64 0] 36)) (sep (blk pg (.cells #[.bool true] 4)) F))))) w2 → RPost st R F p pg l o (thrown x) w2 := by
    intro w2 x hst h2
    unfold RPost
    rw [hst]
    exact ⟨rfl, (h2.cast (by ac_rfl) : Has st (sep (blk (w.heap.size + 1 + 1) (.cells #[.slice none 0 0, .int .i64 0] 36)) (sep (blk (w.heap.size + 1) (.cells #[.int .i64 o.kind, .int .i64 o.size, .int .u64 o.n, .slice B o.b.length d] 28)) (sep (blk w.heap.size (.cells #[.slice A l.length c, .int .i64 0] 36)) (sep (reader st R p l) (sep (blk pg (.cells #[.bool true] 4)) F))))) _).right.right.right⟩
  have HFail := Lib.hid FailW
  have HF1 := Lib.hid hF1
  have HF2 := Lib.hid hF2
  have HS := Lib.hid hs
  clear FailW hF1 hF2 hs hF h1 h
  have e0 := stepc_def o l
  rw [← hq] at e0
  have HQ := Lib.hid hq
  clear hq
  rcases Decidable.em ((o.kind == 0) = true) with k0 | k0
  · have e0 := e0.trans (if_pos k0)
    have e1 : stepc o l = if l.length < held o.size then .error 20 else .ok (l.drop (held o.size)) := e0.trans rfl
    clear e0
    by_cases hlt : l.length < held o.size
    · rw [if_pos hlt] at e1
      have HC := Lib.hid (rnum_no st R _ HF1.out p l o.size _ h0 hlt)
      have HT := Lib.hid (HFail.out _ _ e1 h0)
      clear e1 h0
      go_enter Try.func20, Try.ntmps20
      go_wp2_with (fail)
      refine HC.out.mono ?_
      rintro e w1 ⟨rfl, rfl⟩
      exact ⟨rfl, HT.out⟩
    · rw [if_neg hlt] at e1
      have hk : held o.size ≤ l.length := by omega
      have HC := Lib.hid (rnum_ok st R _ HF1.out p l o.size _ h0 hk)
      have HD := Lib.hid (fun w1 hw => refget_ok st R _ (fun w h => HF2.out w _ h) l A c HS.out o.size hk w1 (hw : Has st (sep (reader st R p (l.drop (held o.size))) (sep (blk (w.heap.size + 1 + 1) (.cells #[.slice none 0 0, .int .i64 0] 36)) (sep (blk (w.heap.size + 1) (.cells #[.int .i64 o.kind, .int .i64 o.size, .int .u64 o.n, .slice B o.b.length d] 28)) (sep (blk w.heap.size (.cells #[.slice A l.length c, .int .i64 0] 36)) (sep (blk pg (.cells #[.bool true] 4)) F))))) w1))
      obtain ⟨r, hr⟩ : ∃ r, r = l.drop (held o.size) := ⟨_, rfl⟩
      have hrl : l.length - held o.size = r.length := by rw [hr, List.length_drop]
      obtain ⟨u, hu⟩ : ∃ u, u = unle (l.take (held o.size)) := ⟨_, rfl⟩
      rw [← hr, ← hu] at HC
      rw [hrl, ← hr, ← hu] at HD
      rw [← hr] at e1
      have HST := Lib.hid e1
      clear e1 hr hu hrl hk hlt
      have i0 := h0.fourth.cell 0
      clear h0
      go_enter Try.func20, Try.ntmps20
      go_wp2_with (fail)
      refine HC.out.mono ?_
      rintro e w1 ⟨rfl, h2⟩
      have hx0 := h2.fourth.cell 0
      have hx1 := h2.fourth.cell 1
      have ho1 := h2.third.cell 1
      go_wp2_with (fail)
      refine (HD.out _ h2).mono ?_
      rintro e w2 ⟨A2, c2, rfl, hs2, h3⟩
      have HS2 := Lib.hid hs2
      clear hs2
      have hp0 := h3.second.cell 0
      have hp1 := h3.second.cell 1
      have fp0 := h3.second.free 0
      have fp1 := h3.second.free 1
      have hg0 := h3.fifth.cell 0
      have gf0 := h3.fifth.free 0
      have lp := h3.second.lt
      have lg := h3.fifth.lt

      go_wp2
      obtain ⟨h5, hd0, hd1⟩ := HFin.out _ _ A2 c2 HST.out HS2.out h3 (.cells #[.slice A2 r.length c2, .int .i64 0] 36)
      show bodyPost _ _ _ _ _ _
      exact ⟨rfl, .agg #[.slice A2 r.length c2, .int .i64 0], by simp [results, Try.results20, go_sem, hd0, hd1], h5⟩
  · have e0 := e0.trans (if_neg k0)
    have k0 := Bool.not_eq_true _ ▸ k0
    rcases Decidable.em ((o.kind == 1) = true) with k1 | k1
    · have e0 := e0.trans (if_pos k1)
      have e1 : stepc o l = if l.length < held o.size then .error 20 else .ok (l.drop (held o.size)) := e0.trans rfl
      clear e0
      by_cases hlt : l.length < held o.size
      · rw [if_pos hlt] at e1
        have HC := Lib.hid (rnum_no st R _ HF1.out p l o.size _ h0 hlt)
        have HT := Lib.hid (HFail.out _ _ e1 h0)
        clear e1 h0
        go_enter Try.func20, Try.ntmps20
        go_wp2_with (fail)
        refine HC.out.mono ?_
        rintro e w1 ⟨rfl, rfl⟩
        exact ⟨rfl, HT.out⟩
      · rw [if_neg hlt] at e1
        have hk : held o.size ≤ l.length := by omega
        have HC := Lib.hid (rnum_ok st R _ HF1.out p l o.size _ h0 hk)
        have HD := Lib.hid (fun w1 hw => refget_ok st R _ (fun w h => HF2.out w _ h) l A c HS.out o.size hk w1 (hw : Has st (sep (reader st R p (l.drop (held o.size))) (sep (blk (w.heap.size + 1 + 1) (.cells #[.slice none 0 0, .int .i64 0] 36)) (sep (blk (w.heap.size + 1) (.cells #[.int .i64 o.kind, .int .i64 o.size, .int .u64 o.n, .slice B o.b.length d] 28)) (sep (blk w.heap.size (.cells #[.slice A l.length c, .int .i64 0] 36)) (sep (blk pg (.cells #[.bool true] 4)) F))))) w1))
        obtain ⟨r, hr⟩ : ∃ r, r = l.drop (held o.size) := ⟨_, rfl⟩
        have hrl : l.length - held o.size = r.length := by rw [hr, List.length_drop]
        obtain ⟨u, hu⟩ : ∃ u, u = unle (l.take (held o.size)) := ⟨_, rfl⟩
        rw [← hr, ← hu] at HC
        rw [hrl, ← hr, ← hu] at HD
        rw [← hr] at e1
        have HST := Lib.hid e1
        clear e1 hr hu hrl hk hlt
        have i0 := h0.fourth.cell 0
        clear h0
        go_enter Try.func20, Try.ntmps20
        go_wp2_with (fail)
        refine HC.out.mono ?_
        rintro e w1 ⟨rfl, h2⟩
        have hx0 := h2.fourth.cell 0
        have hx1 := h2.fourth.cell 1
        have ho1 := h2.third.cell 1
        go_wp2_with (fail)
        refine (HD.out _ h2).mono ?_
        rintro e w2 ⟨A2, c2, rfl, hs2, h3⟩
        have HS2 := Lib.hid hs2
        clear hs2
        have hp0 := h3.second.cell 0
        have hp1 := h3.second.cell 1
        have fp0 := h3.second.free 0
        have fp1 := h3.second.free 1
        have hg0 := h3.fifth.cell 0
        have gf0 := h3.fifth.free 0
        have lp := h3.second.lt
        have lg := h3.fifth.lt

        go_wp2
        obtain ⟨h5, hd0, hd1⟩ := HFin.out _ _ A2 c2 HST.out HS2.out h3 (.cells #[.slice A2 r.length c2, .int .i64 0] 36)
        show bodyPost _ _ _ _ _ _
        exact ⟨rfl, .agg #[.slice A2 r.length c2, .int .i64 0], by simp [results, Try.results20, go_sem, hd0, hd1], h5⟩
    · have e0 := e0.trans (if_neg k1)
      have k1 := Bool.not_eq_true _ ▸ k1
      rcases Decidable.em ((o.kind == 2) = true) with k2 | k2
      · have e0 := e0.trans (if_pos k2)
        have e1 : stepc o l = (match rget l (q : Int) with | .error c => .error c | .ok q => .ok q.2) := e0.trans rfl
        clear e0
        have HD := Lib.hid (fun r w1 hw => refsome_any st R _ (fun w h => HF2.out w _ h) l A c HS.out (q : Int) (by omega) w1 (hw : Has st (sep (reader st R p r) (sep (blk (w.heap.size + 1 + 1) (.cells #[.slice none 0 0, .int .i64 0] 36)) (sep (blk (w.heap.size + 1) (.cells #[.int .i64 o.kind, .int .i64 o.size, .int .u64 o.n, .slice B o.b.length d] 28)) (sep (blk w.heap.size (.cells #[.slice A l.length c, .int .i64 0] 36)) (sep (blk pg (.cells #[.bool true] 4)) F))))) w1))
        cases hr : rget l (q : Int) with
        | error x =>
          rw [hr] at e1
          have HC : Hid (Calls Try.prog 27 #[.pointer (some ⟨p, 0, none⟩), .int .i64 q] _ fun e w' => e = thrown x ∧ Has st (sep (reader st R p l) (sep (blk (w.heap.size + 1 + 1) (.cells #[.slice none 0 0, .int .i64 0] 36)) (sep (blk (w.heap.size + 1) (.cells #[.int .i64 o.kind, .int .i64 o.size, .int .u64 o.n, .slice B o.b.length d] 28)) (sep (blk w.heap.size (.cells #[.slice A l.length c, .int .i64 0] 36)) (sep (blk pg (.cells #[.bool true] 4)) F))))) w') := (rbytes_any st R _ HF1.out p l q _ h0 (by omega)).mono fun e w' h' => by unfold RGet at h'; rw [hr] at h'; exact h'
          have HE1 := Lib.hid e1
          clear e1 h0 hr
          go_enter Try.func20, Try.ntmps20
          go_wp2_with (fail)
          refine HC.out.mono ?_
          rintro e w1 ⟨rfl, h2⟩
          exact ⟨rfl, HFail.out _ _ HE1.out h2⟩
        | ok pr =>
          obtain ⟨xx, r⟩ := pr
          rw [hr] at e1
          have HC : Hid (Calls Try.prog 27 #[.pointer (some ⟨p, 0, none⟩), .int .i64 q] _ fun e w' => ∃ A9 c9, e = .returned (.slice A9 xx.length c9) ∧ Sees st R 1 (.slice A9 xx.length c9) xx.length (bcells xx) ∧ Has st (sep (reader st R p r) (sep (blk (w.heap.size + 1 + 1) (.cells #[.slice none 0 0, .int .i64 0] 36)) (sep (blk (w.heap.size + 1) (.cells #[.int .i64 o.kind, .int .i64 o.size, .int .u64 o.n, .slice B o.b.length d] 28)) (sep (blk w.heap.size (.cells #[.slice A l.length c, .int .i64 0] 36)) (sep (blk pg (.cells #[.bool true] 4)) F))))) w') := (rbytes_any st R _ HF1.out p l q _ h0 (by omega)).mono fun e w' h' => by unfold RGet at h'; rw [hr] at h'; exact h'
          have HST := Lib.hid e1
          have HR := Lib.hid hr
          clear e1 h0 hr
          go_enter Try.func20, Try.ntmps20
          go_wp2_with (fail)
          refine HC.out.mono ?_
          rintro e w1 ⟨A1, d1, rfl, hx, h2⟩
          have HX1 := Lib.hid hx
          clear hx
          have hx0 := h2.fourth.cell 0
          have hx1 := h2.fourth.cell 1
          have ho1 := h2.third.cell 1
          go_wp2_with (fail)
          refine (HD.out _ _ h2).mono ?_
          intro e w2 h'
          unfold RefSome at h'
          rw [HR.out] at h'
          obtain ⟨A3, c3, A2, c2, rfl, hx2, hs2, h3⟩ := h'
          have HX2 := Lib.hid hx2
          have HS2 := Lib.hid hs2
          clear hx2 hs2
          have hp0 := h3.second.cell 0
          have hp1 := h3.second.cell 1
          have fp0 := h3.second.free 0
          have fp1 := h3.second.free 1
          have hg0 := h3.fifth.cell 0
          have gf0 := h3.fifth.free 0
          have lp := h3.second.lt
          have lg := h3.fifth.lt

          go_wp2_with (go_at_call 13; refine (same_self xx _ _ _ _ _ (HX1.out _ (HF1.out _ (h3.alloc' _).right)) (HX2.out _ (HF1.out _ (h3.alloc' _).right))).mono ?_; rintro e w4 ⟨rfl, rfl⟩)
          obtain ⟨h5, hd0, hd1⟩ := HFin.out _ _ A2 c2 HST.out HS2.out h3 (.cells #[.slice A2 r.length c2, .int .i64 0] 36)
          show bodyPost _ _ _ _ _ _
          exact ⟨rfl, .agg #[.slice A2 r.length c2, .int .i64 0], by simp [results, Try.results20, go_sem, hd0, hd1], h5⟩
      · have e0 := e0.trans (if_neg k2)
        have k2 := Bool.not_eq_true _ ▸ k2
        rcases Decidable.em ((o.kind == 3) = true) with k3 | k3
        · have e0 := e0.trans (if_pos k3)
          have e1 : stepc o l = (match rget l (q : Int) with | .error c => .error c | .ok q => .ok q.2) := e0.trans rfl
          clear e0
          have HD := Lib.hid (fun r w1 hw => refsome_any st R _ (fun w h => HF2.out w _ h) l A c HS.out (q : Int) (by omega) w1 (hw : Has st (sep (reader st R p r) (sep (blk (w.heap.size + 1 + 1) (.cells #[.slice none 0 0, .int .i64 0] 36)) (sep (blk (w.heap.size + 1) (.cells #[.int .i64 o.kind, .int .i64 o.size, .int .u64 o.n, .slice B o.b.length d] 28)) (sep (blk w.heap.size (.cells #[.slice A l.length c, .int .i64 0] 36)) (sep (blk pg (.cells #[.bool true] 4)) F))))) w1))
          cases hr : rget l (q : Int) with
          | error x =>
            rw [hr] at e1
            have HC : Hid (Calls Try.prog 28 #[.pointer (some ⟨p, 0, none⟩), .int .i64 q] _ fun e w' => e = thrown x ∧ Has st (sep (reader st R p l) (sep (blk (w.heap.size + 1 + 1) (.cells #[.slice none 0 0, .int .i64 0] 36)) (sep (blk (w.heap.size + 1) (.cells #[.int .i64 o.kind, .int .i64 o.size, .int .u64 o.n, .slice B o.b.length d] 28)) (sep (blk w.heap.size (.cells #[.slice A l.length c, .int .i64 0] 36)) (sep (blk pg (.cells #[.bool true] 4)) F))))) w') := (rtext_any st R _ HF1.out p l q _ h0 (by omega)).mono fun e w' h' => by unfold RText at h'; rw [hr] at h'; exact h'
            have HE1 := Lib.hid e1
            clear e1 h0 hr
            go_enter Try.func20, Try.ntmps20
            go_wp2_with (fail)
            refine HC.out.mono ?_
            rintro e w1 ⟨rfl, h2⟩
            exact ⟨rfl, HFail.out _ _ HE1.out h2⟩
          | ok pr =>
            obtain ⟨xx, r⟩ := pr
            rw [hr] at e1
            have HC : Hid (Calls Try.prog 28 #[.pointer (some ⟨p, 0, none⟩), .int .i64 q] _ fun e w' => e = .returned (.string ⟨xx.toArray⟩) ∧ Has st (sep (reader st R p r) (sep (blk (w.heap.size + 1 + 1) (.cells #[.slice none 0 0, .int .i64 0] 36)) (sep (blk (w.heap.size + 1) (.cells #[.int .i64 o.kind, .int .i64 o.size, .int .u64 o.n, .slice B o.b.length d] 28)) (sep (blk w.heap.size (.cells #[.slice A l.length c, .int .i64 0] 36)) (sep (blk pg (.cells #[.bool true] 4)) F))))) w') := (rtext_any st R _ HF1.out p l q _ h0 (by omega)).mono fun e w' h' => by unfold RText at h'; rw [hr] at h'; exact h'
            have HST := Lib.hid e1
            have HR := Lib.hid hr
            clear e1 h0 hr
            go_enter Try.func20, Try.ntmps20
            go_wp2_with (fail)
            refine HC.out.mono ?_
            rintro e w1 ⟨rfl, h2⟩
            have hx0 := h2.fourth.cell 0
            have hx1 := h2.fourth.cell 1
            have ho1 := h2.third.cell 1
            go_wp2_with (fail)
            refine (HD.out _ _ h2).mono ?_
            intro e w2 h'
            unfold RefSome at h'
            rw [HR.out] at h'
            obtain ⟨A3, c3, A2, c2, rfl, hx2, hs2, h3⟩ := h'
            have HX2 := Lib.hid hx2
            have HS2 := Lib.hid hs2
            clear hx2 hs2
            have hp0 := h3.second.cell 0
            have hp1 := h3.second.cell 1
            have fp0 := h3.second.free 0
            have fp1 := h3.second.free 1
            have hg0 := h3.fifth.cell 0
            have gf0 := h3.fifth.free 0
            have lp := h3.second.lt
            have lg := h3.fifth.lt
            have E2 := fun obj => (string_of 25 9 5 Try.underlying25 Try.underlying5 Try.underlying9 (HX2.out _ (HF1.out _ (h3.alloc' obj).right)))
            go_wp2
            obtain ⟨h5, hd0, hd1⟩ := HFin.out _ _ A2 c2 HST.out HS2.out h3 (.cells #[.slice A2 r.length c2, .int .i64 0] 36)
            show bodyPost _ _ _ _ _ _
            exact ⟨rfl, .agg #[.slice A2 r.length c2, .int .i64 0], by simp [results, Try.results20, go_sem, hd0, hd1], h5⟩
        · have e0 := e0.trans (if_neg k3)
          have k3 := Bool.not_eq_true _ ▸ k3
          rcases Decidable.em ((o.kind == 4) = true) with k4 | k4
          · have e0 := e0.trans (if_pos k4)
            have e1 : stepc o l = if l.length < o.size.toNat then .error 20 else .ok (l.drop o.size.toNat) := e0.trans rfl
            clear e0
            by_cases hlt : l.length < o.size.toNat
            · rw [if_pos hlt] at e1
              have hsz : o.size = ((o.size.toNat : Nat) : Int) := by omega
              have hc := rraw_no st R _ HF1.out p l o.size.toNat _ h0 hlt
              rw [← hsz] at hc
              have HC := Lib.hid hc
              have HT := Lib.hid (HFail.out _ _ e1 h0)
              clear e1 h0 hc hsz hlt
              go_enter Try.func20, Try.ntmps20
              go_wp2_with (fail)
              refine HC.out.mono ?_
              rintro e w1 ⟨rfl, rfl⟩
              exact ⟨rfl, HT.out⟩
            · rw [if_neg hlt] at e1
              obtain ⟨k, hk⟩ : ∃ k, k = o.size.toNat := ⟨_, rfl⟩
              rw [← hk] at e1 hlt
              have hkl : k ≤ l.length := by omega
              have HC : Hid (∀ w0, Has st (sep (reader st R p l) (sep (blk (w.heap.size + 1 + 1) (.cells #[.slice none 0 0, .int .i64 0] 36)) (sep (blk (w.heap.size + 1) (.cells #[.int .i64 o.kind, .int .i64 o.size, .int .u64 o.n, .slice B o.b.length d] 28)) (sep (blk w.heap.size (.cells #[.slice A l.length c, .int .i64 0] 36)) (sep (blk pg (.cells #[.bool true] 4)) F))))) w0 → Calls Try.prog 29 #[.pointer (some ⟨p, 0, none⟩), .int .i64 o.size] w0 fun e w' => ∃ A9 c9, e = .returned (.slice A9 k c9) ∧ Sees st R 1 (.slice A9 k c9) k (bcells (l.take k)) ∧ Has st (sep (reader st R p (l.drop k)) (sep (blk (w.heap.size + 1 + 1) (.cells #[.slice none 0 0, .int .i64 0] 36)) (sep (blk (w.heap.size + 1) (.cells #[.int .i64 o.kind, .int .i64 o.size, .int .u64 o.n, .slice B o.b.length d] 28)) (sep (blk w.heap.size (.cells #[.slice A l.length c, .int .i64 0] 36)) (sep (blk pg (.cells #[.bool true] 4)) F))))) w') := by
                intro w0 h0
                by_cases hneg : o.size < 0
                · obtain rfl : k = 0 := by omega
                  exact rraw_neg st R _ HF1.out p l o.size hneg _ h0
                · have := rraw_ok st R _ HF1.out p l k _ h0 hkl
                  rw [show ((k : Nat) : Int) = o.size by omega] at this
                  exact this
              have HD := Lib.hid (fun w1 hw => refraw_ok st R _ (fun w h => HF2.out w _ h) l A c HS.out o.size k hk.symm hkl w1 (hw : Has st (sep (reader st R p (l.drop k)) (sep (blk (w.heap.size + 1 + 1) (.cells #[.slice none 0 0, .int .i64 0] 36)) (sep (blk (w.heap.size + 1) (.cells #[.int .i64 o.kind, .int .i64 o.size, .int .u64 o.n, .slice B o.b.length d] 28)) (sep (blk w.heap.size (.cells #[.slice A l.length c, .int .i64 0] 36)) (sep (blk pg (.cells #[.bool true] 4)) F))))) w1))
              obtain ⟨r, hr⟩ : ∃ r, r = l.drop k := ⟨_, rfl⟩
              obtain ⟨xx, hxx⟩ : ∃ xx, xx = l.take k := ⟨_, rfl⟩
              have hrl : l.length - k = r.length := by rw [hr, List.length_drop]
              rw [← hr, ← hxx] at HC
              rw [hrl, ← hr, ← hxx] at HD
              rw [← hr] at e1
              have HST := Lib.hid e1
              have HC := Lib.hid (HC.out _ h0)
              clear e1 hr hrl hk hlt h0 hkl hxx
              go_enter Try.func20, Try.ntmps20
              go_wp2_with (fail)
              refine HC.out.mono ?_
              rintro e w1 ⟨A1, d1, rfl, hx, h2⟩
              have HX1 := Lib.hid hx
              clear hx
              have hx0 := h2.fourth.cell 0
              have hx1 := h2.fourth.cell 1
              have ho1 := h2.third.cell 1
              go_wp2_with (fail)
              refine (HD.out _ h2).mono ?_
              rintro e w2 ⟨A3, c3, A2, c2, rfl, hx2, hs2, h3⟩
              have HX2 := Lib.hid hx2
              have HS2 := Lib.hid hs2
              clear hx2 hs2
              have hp0 := h3.second.cell 0
              have hp1 := h3.second.cell 1
              have fp0 := h3.second.free 0
              have fp1 := h3.second.free 1
              have hg0 := h3.fifth.cell 0
              have gf0 := h3.fifth.free 0
              have lp := h3.second.lt
              have lg := h3.fifth.lt

              go_wp2_with (go_at_call 13; refine (same_self xx _ _ _ _ _ (HX1.out _ (HF1.out _ (h3.alloc' _).right)) (HX2.out _ (HF1.out _ (h3.alloc' _).right))).mono ?_; rintro e w4 ⟨rfl, rfl⟩)
              obtain ⟨h5, hd0, hd1⟩ := HFin.out _ _ A2 c2 HST.out HS2.out h3 (.cells #[.slice A2 r.length c2, .int .i64 0] 36)
              show bodyPost _ _ _ _ _ _
              exact ⟨rfl, .agg #[.slice A2 r.length c2, .int .i64 0], by simp [results, Try.results20, go_sem, hd0, hd1], h5⟩
          · have e0 := e0.trans (if_neg k4)
            have k4 := Bool.not_eq_true _ ▸ k4
            have e1 : stepc o l = .ok l := e0.trans rfl
            clear e0
            have HST := Lib.hid e1
            clear e1 h0
            go_enter Try.func20, Try.ntmps20
            go_wp2_with (fail)
            have hd0 := HE.out.cell 0
            have hd1 := HE.out.cell 1
            show bodyPost _ _ _ _ _ _
            refine ⟨rfl, .agg #[.slice A l.length c, .int .i64 0], by simp [results, Try.results20, go_sem, hd0, hd1], ?_⟩
            unfold RPost
            rw [HST.out]
            exact ⟨A, c, rfl, HS.out, HE.out.right.right.right⟩
end Go.Proofs.Ytkmhopnpkilhiaa
