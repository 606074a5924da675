/-
  Less of both packages.
-/
import Derived.Test.YtijcjjinafpomaaDoorShaCmp
namespace Go.Sl
open Go Go.RowKit
set_option linter.unusedVariables false
set_option linter.unusedSimpArgs false
section
variable {P : Program} {o : Oper} {a : Act} {w : World} {K : Act → World → Prop} {Q : Exit → Act → World → Prop} {st : World}
/-- arr[:] -/
theorem opw_sliceArr (T e : TypeId) (n : Nat) (x : Operand) (ho : o.op = .slice T x none none none) (hu : P.underlying T = some (.array n e)) (hsz : (P.info? e).map (·.size) = some 1) (hn : 0 < n) (g off : Nat) (hx : a.eval x = .pointer (some ⟨g, off, none⟩))
    (hK : K (a.put o.dst (.slice (some ⟨g, off, none⟩) n n)) w) : o.wp P a w K Q := by
  refine opw_run (.slice (some ⟨g, off, none⟩) n n) ?_ hK
  obtain ⟨i, hi0, hi1⟩ : ∃ i, P.info? e = some i ∧ i.size = 1 := by
    cases hp : P.info? e with
    | none => rw [hp] at hsz; cases hsz
    | some i => rw [hp] at hsz; simp at hsz; exact ⟨i, rfl, hsz⟩
  have hne : ¬ n = 0 := by omega
  unfold execOp
  simp only [ho, hx, Option.map_none, Instr.sliceAt, Sem.run_bind, run_underlying hu, Result.andThen_ok, Instr.sureAddr, Sem.run_pure]
  simp [Instr.sliceBounds, Instr.sliceBound, sizeOf, typeInfo, hi0, hi1, go_sem, addr_add, hne]
end
end Go.Sl
namespace Go.Proofs.YtijcjjinafpomaaDoor
open Go.RowKit Go.Sl Go.Sha
set_option linter.unusedVariables false
set_option linter.unusedSimpArgs false
def lessB (a b : List UInt8) : Bool := decide (Lib.compareBytes a b < 0)
theorem rd_blk {st : World} {R : HProp} {w : World} {g : Nat} {l : List UInt8} {t : TypeId} {fr : Nat × Nat} (h : Has st (sep (blk g (.cells (bcells l).toArray t fr)) R) w) (hl : l.length ≤ maxLen) : Rd 1 w (.slice (some ⟨g, 0, none⟩) l.length l.length) l.length (bcells l) :=
  ⟨by simp [bcells_length], _, l.length, rfl, Nat.le_refl _, hl, .inr ⟨_, rfl, fun j u hu => ⟨rfl, by rw [Nat.zero_add, h.cell, List.getElem?_toArray]; exact hu⟩⟩⟩
theorem rd_blk32 {st : World} {R : HProp} {w : World} {g : Nat} {l : List UInt8} {t : TypeId} {fr : Nat × Nat} (hl : l.length = 32) (h : Has st (sep (blk g (.cells (bcells l).toArray t fr)) R) w) : Rd 1 w (.slice (some ⟨g, 0, none⟩) 32 32) l.length (bcells l) := by
  have := rd_blk h (by rw [hl]; decide)
  rw [hl] at this ⊢
  exact this
set_option maxRecDepth 100000 in
set_option maxHeartbeats 1000000 in
theorem less_any (st : World) (R : HProp) (x y : List UInt8) (hx : x.length = 32) (hy : y.length = 32) (w : World) (h : Has st R w) :
    Calls Tryd.prog 12 #[.agg (bcells x).toArray, .agg (bcells y).toArray] w fun e w' => e = .returned (.bool (lessB x y)) ∧ Has st R w' := by
  have HA := Lib.hid hx
  have HB := Lib.hid hy
  have HH := Lib.hid h
  clear hx hy h
  go_enter Tryd.func12, Tryd.ntmps12
  go_wp2_with ((with_reducible refine wpList_plain rfl ?_); intro _ hk; (first
    | (refine opw_box 24 (.agg (bcells x).toArray) (bcells x).toArray rfl rfl rfl HH.out (fun p w1 hp h1 => hk _ _ ?_); clear hp; have H1 := Lib.hid h1; clear h1)
    | (refine opw_box 24 (.agg (bcells y).toArray) (bcells y).toArray rfl rfl rfl H1.out (fun q w2 hp h2 => hk _ _ ?_); clear hp; have H2 := Lib.hid h2; clear h2)); simp only [Act.put, List.setIfInBounds_toArray, List.set_cons_zero, List.set_cons_succ])
  refine wp_region_inv2 (fun L u w' => Slots (fun kk => ([some (.slice (some ⟨p, 0, none⟩) 32 32), some (.slice (some ⟨q, 0, none⟩) 32 32), some (.int .i64 (Lib.compareBytes x y)), some (.bool (lessB x y)), some (.bool (lessB x y))] : List (Option Value)).getD kk none) L u ∧
    Has st (sep (blk q (.cells (bcells y).toArray 24 (0, 0))) (sep (blk p (.cells (bcells x).toArray 24 (0, 0))) R)) w') (by kernel_rfl) (by decide +kernel) (by decide +kernel) (by kernel_rfl) (fun u => ⟨Slots.start _ u, H2.out.drew⟩) ?_ ?_
  · refine ⟨?_, ?_, ?_, ?_, ?_, trivial⟩
    all_goals (refine RegStep2.plain rfl ?_; rintro L u w1 b hL hW hD hU ⟨hS, hH⟩ hin hout)
    · exact opw_sliceArr _ _ _ _ rfl Tryd.underlying24 infosz (by decide) p 0 ((hout 2 (by kernel_rfl)).trans (by kernel_rfl)) ⟨_, rfl, hS.step 0 _ (.inr rfl), hH⟩
    · exact opw_sliceArr _ _ _ _ rfl Tryd.underlying24 infosz (by decide) q 0 ((hout 3 (by kernel_rfl)).trans (by kernel_rfl)) ⟨_, rfl, hS.step 1 _ (.inr rfl), hH⟩
    · exact opw_call_ret _ _ _ [.slice (some ⟨p, 0, none⟩) 32 32, .slice (some ⟨q, 0, none⟩) 32 32] rfl (by kernel_rfl) (list2 ((hin 0 5 rfl).trans (hS 0 _ rfl (hW.of 0 (by decide)))) (list2 ((hin 1 6 rfl).trans (hS 1 _ rfl (hW.of 1 (by decide)))) rfl)) (bcompare_any x y _ _ w1 (rd_blk32 HA.out hH.second) (rd_blk32 HB.out hH))
        (fun e w2 he => by obtain ⟨rfl, rfl⟩ := he; exact ⟨_, rfl, _, rfl, hS.step 2 _ (.inr rfl), hH⟩)
    · exact opw_cmp .lss _ _ _ _ .i64 _ _ _ rfl ((hin 2 7 rfl).trans (hS 2 _ rfl (hW.of 2 (by decide)))) rfl rfl ⟨_, rfl, hS.step 3 _ (.inr rfl), hH⟩
    · exact opw_move _ _ (.inr rfl) ((hin 3 8 rfl).trans (hS 3 _ rfl (hW.of 3 (by decide)))) ⟨_, rfl, hS.step 4 _ (.inr rfl), hH⟩
  intro L u w3 hL ⟨hS, hH⟩
  have E := hS 4 _ rfl (hL 4 (by decide))
  simp only [frame_cons, frame_nil, E]
  have H3 := Lib.hid hH
  clear hL hS hH E
  go_wp2
  go_ret
  exact ⟨rfl, H3.out.right.right⟩

/-- till place i the two are alike -/
theorem cmp_same : ∀ (x y : List UInt8) (i : Nat), (∀ j, j < i → x.getD j 0 = y.getD j 0) → i ≤ x.length → i ≤ y.length → Lib.compareBytes x y = Lib.compareBytes (x.drop i) (y.drop i) := by
  intro x y i
  induction i generalizing x y with
  | zero => intro _ _ _; rfl
  | succ i ih =>
    intro h hx hy
    cases x with
    | nil => simp at hx
    | cons a x =>
      cases y with
      | nil => simp at hy
      | cons b y =>
        have h0 := h 0 (by omega)
        simp at h0
        subst h0
        have hlt : ¬ a < a := UInt8.lt_irrefl a
        rw [Lib.compareBytes, if_neg hlt, if_neg hlt, ih x y (fun j hj => by simpa using h (j + 1) (by omega)) (by simpa using hx) (by simpa using hy)]
        rfl
theorem less_at (x y : List UInt8) (i : Nat) (hs : ∀ j, j < i → x.getD j 0 = y.getD j 0) (hx : i < x.length) (hy : i < y.length) (hne : x.getD i 0 ≠ y.getD i 0) : lessB x y = decide (x.getD i 0 < y.getD i 0) := by
  unfold lessB
  rw [cmp_same x y i hs (by omega) (by omega)]
  rw [List.drop_eq_getElem_cons hx, List.drop_eq_getElem_cons hy]
  have ex : x.getD i 0 = x[i] := by rw [List.getD_eq_getElem?_getD, List.getElem?_eq_getElem hx]; rfl
  have ey : y.getD i 0 = y[i] := by rw [List.getD_eq_getElem?_getD, List.getElem?_eq_getElem hy]; rfl
  rw [ex, ey] at hne ⊢
  unfold Lib.compareBytes
  by_cases h : x[i] < y[i]
  · simp [h]
  · have : y[i] < x[i] := UInt8.lt_of_le_of_ne (UInt8.not_lt.1 h) (Ne.symm hne)
    simp [h, this]
theorem less_all (x y : List UInt8) (hs : ∀ j, j < x.length → x.getD j 0 = y.getD j 0) (hl : x.length = y.length) : lessB x y = false := by
  unfold lessB
  rw [cmp_same x y x.length hs (Nat.le_refl _) (by omega), List.drop_eq_nil_of_le (Nat.le_refl _), List.drop_eq_nil_of_le (by omega)]
  decide
end Go.Proofs.YtijcjjinafpomaaDoor
