/-
  What Unchain's closure reads.
-/
import Derived.Test.YtbiacehmfbopfaaNext
namespace Go.Proofs.Ytbiacehmfbopfaa
open Go.RowKit Go.Sl Go.Crc
set_option linter.unusedVariables false
set_option linter.unusedSimpArgs false
theorem next_some {st : World} {R0 F : HProp} {p : Nat} {l x q : List UInt8} {e : Ending} {w : World} (hp : parse1 l = some (x, q)) (h : NextR st R0 F p l e w) : ∃ A c, e = .returned (.slice A x.length c) ∧ Sees st R0 1 (.slice A x.length c) x.length (bcells x) ∧ Has st (sep (reader st R0 p q) F) w := by
  unfold NextR at h; rw [hp] at h; exact h
theorem next_no {st : World} {R0 F : HProp} {p : Nat} {l : List UInt8} {e : Ending} {w : World} (hp : parse1 l = none) (h : NextR st R0 F p l e w) : ∃ c l', (c == 0) = false ∧ e = thrown c ∧ Has st (sep (reader st R0 p l') F) w := by
  unfold NextR at h; rw [hp] at h; exact h
def OneOk (st : World) (R RB : HProp) (l : List UInt8) (x : Value × Value) : Prop :=
  ∃ y q A c B d, parse1 l = some (y, q) ∧ x.1 = .slice A y.length c ∧ x.2 = .slice B q.length d ∧ Sees st (sep RB R) 1 (.slice A y.length c) y.length (bcells y) ∧ Sees st (sep RB R) 1 (.slice B q.length d) q.length (bcells q)
def two (p6 p7 : Nat) (x y : Value) : HProp := sep (blk p6 (.cells #[x] 22 (0, 0))) (blk p7 (.cells #[y] 22 (0, 0)))
def UQok (st : World) (R : HProp) (p6 p7 : Nat) (l : List UInt8) (RB : HProp) (l' : List UInt8) : HProp := ex fun x : Value × Value => sep (pure (l' = [] ∧ OneOk st R RB l x)) (two p6 p7 x.1 x.2)
def UQerr (p6 p7 : Nat) (l : List UInt8) (RB : HProp) (c : Int) : HProp := sep (pure (parse1 l = none)) (two p6 p7 (.slice none 0 0) (.slice none 0 0))
set_option maxRecDepth 100000 in
set_option maxHeartbeats 2000000 in
theorem un_reads (st : World) (R : HProp) (p6 p7 : Nat) (l : List UInt8) : Reads st 29 #[.pointer (some ⟨p6, 0, none⟩), .pointer (some ⟨p7, 0, none⟩)] l (two p6 p7 (.slice none 0 0) (.slice none 0 0)) R (UQok st R p6 p7 l) (UQerr p6 p7 l) := by
  intro RB X p w h
  have hnx := next_any st (sep RB R) (sep (two p6 p7 (.slice none 0 0) (.slice none 0 0)) (sep X (sep RB R))) (fun w h => h.right.right) p l w h.second
  have HNX := Lib.hid hnx
  clear hnx h
  cases hp : parse1 l with
  | none =>
    have HP := Lib.hid hp
    clear hp
    go_enter Try.func29, Try.ntmps29
    go_wp2_with (go_at_call 30; refine HNX.out.mono ?_; intro e w1 hr; obtain ⟨c, l', hc, rfl, h1⟩ := next_no HP.out hr; have H1 := Lib.hid h1; have HCC := Lib.hid hc; clear hr h1 hc)
    refine ⟨rfl, .inr ⟨c, HCC.out, rfl, ?_⟩⟩
    unfold UQerr
    exact (Has.ofPure HP.out H1.out.right).unassoc
  | some xq =>
    obtain ⟨x, q⟩ := xq
    have HP := Lib.hid hp
    have HRW : Hid (∀ P w', Has st (sep (reader st (sep RB R) p q) (sep P (sep RB R))) w' → Calls Try.prog 31 #[.pointer (some ⟨p, 0, none⟩), .int .i64 (q.length : Int)] w' fun e w'' => ∃ A c, e = .returned (.slice A q.length c) ∧ Sees st (sep RB R) 1 (.slice A q.length c) q.length (bcells q) ∧ Has st (sep (reader st (sep RB R) p []) (sep P (sep RB R))) w'') := Lib.hid fun P w' h' => by
      have := rraw_ok st (sep RB R) _ (fun w h => h.right) p q q.length w' h' (Nat.le_refl _)
      rw [List.take_of_length_le (Nat.le_refl _), List.drop_length] at this
      exact this
    have HLF : Hid (∀ P w', Has st (sep (reader st (sep RB R) p q) (sep P (sep RB R))) w' → Calls Try.prog 32 #[.pointer (some ⟨p, 0, none⟩)] w' fun e w'' => e = .returned (.int .i64 (q.length : Int)) ∧ w' = w'') := Lib.hid fun P w' h' => left_any st (sep RB R) _ (fun w h => h.right) p q w' h'
    clear hp
    go_enter Try.func29, Try.ntmps29
    go_wp2_with (first
      | (go_at_call 30; refine HNX.out.mono ?_; intro e w1 hr; obtain ⟨A1, c1, rfl, hs1, h1⟩ := next_some HP.out hr; have H1 : Hid (Has st (sep (blk p6 (.cells #[.slice none 0 0] 22 (0, 0))) (sep (blk p7 (.cells #[.slice none 0 0] 22 (0, 0))) (sep (reader st (sep RB R) p q) (sep X (sep RB R))))) w1) := Lib.hid (h1.cast (by unfold two; ac_rfl)); have HS1 := Lib.hid hs1; clear hr h1 hs1)
      | (go_at_call 32; refine (HLF.out _ _ (H2.out.cast (show _ = sep (reader st (sep RB R) p q) (sep (sep (blk p6 (.cells #[.slice A1 x.length c1] 22 (0, 0))) (sep (blk p7 (.cells #[.slice none 0 0] 22 (0, 0))) X)) (sep RB R)) by ac_rfl))).mono ?_; rintro e w2' ⟨rfl, rfl⟩)
      | (go_at_call 31; refine (HRW.out _ _ (H2.out.cast (show _ = sep (reader st (sep RB R) p q) (sep (sep (blk p6 (.cells #[.slice A1 x.length c1] 22 (0, 0))) (sep (blk p7 (.cells #[.slice none 0 0] 22 (0, 0))) X)) (sep RB R)) by ac_rfl))).mono ?_; rintro e w3 ⟨A3, c3, rfl, hs3, h3⟩; have H3 : Hid (Has st (sep (blk p7 (.cells #[.slice none 0 0] 22 (0, 0))) (sep (blk p6 (.cells #[.slice A1 x.length c1] 22 (0, 0))) (sep (reader st (sep RB R) p []) (sep X (sep RB R))))) w3) := Lib.hid (h3.cast (by ac_rfl)); have HS3 := Lib.hid hs3; clear h3 hs3)
      | ((with_reducible refine wpList_plain rfl ?_); intro _ hk; (first
        | (refine opw_store1 22 _ _ rfl infoS p6 0 (.slice A1 x.length c1) rfl rfl rfl H1.out (by show 0 < 1; decide) (fun w2 h2 => hk _ _ ?_); have H2 := Lib.hid h2; clear h2)
        | (refine opw_store1 22 _ _ rfl infoS p7 0 (.slice A3 q.length c3) rfl rfl rfl H3.out (by show 0 < 1; decide) (fun w4 h4 => hk _ _ ?_); have H4 := Lib.hid h4; clear h4)); simp only [Act.put, List.setIfInBounds_toArray, List.set_cons_zero, List.set_cons_succ]))
    go_end0
    refine .inl ⟨[], rfl, ?_⟩
    have h5 : Has st (sep (sep (pure (([] : List UInt8) = [] ∧ OneOk st R RB l (.slice A1 x.length c1, .slice A3 q.length c3))) (two p6 p7 (.slice A1 x.length c1) (.slice A3 q.length c3))) (sep (reader st (sep RB R) p []) (sep X (sep RB R)))) w4 :=
      (Has.ofPure ⟨rfl, x, q, A1, c1, A3, c3, HP.out, rfl, rfl, HS1.out, HS3.out⟩ (H4.out.cast (show _ = sep (two p6 p7 (.slice A1 x.length c1) (.slice A3 q.length c3)) (sep (reader st (sep RB R) p []) (sep X (sep RB R))) by unfold two; simp only [List.setIfInBounds_toArray, List.set_cons_zero]; ac_rfl))).unassoc
    exact Has.ofEx (p := fun y : Value × Value => sep (pure (([] : List UInt8) = [] ∧ OneOk st R RB l y)) (two p6 p7 y.1 y.2)) (.slice A1 x.length c1, .slice A3 q.length c3) h5
end Go.Proofs.Ytbiacehmfbopfaa
