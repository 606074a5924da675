/-
  CodeMosts returns true.
-/
import Derived.Test.YtkmhopnpkilhiaaBackLaw
import Derived.Test.YtkmhopnpkilhiaaWrites
namespace Go.Proofs.Ytkmhopnpkilhiaa
open Go.RowKit Go.Sl
set_option linter.unusedVariables false
set_option linter.unusedSimpArgs false

def rcode (l : List UInt8) (most : Int) : Int := match rget l most with | .error c => c | .ok _ => 0
def rrest (l : List UInt8) (most : Int) : List UInt8 := match rget l most with | .error _ => l | .ok (_, r) => r
def rgot (l : List UInt8) (most : Int) : Option (List UInt8) := match rget l most with | .error _ => none | .ok (x, _) => some x
theorem rget_code {l : List UInt8} {most c : Int} (h : rget l most = .error c) : (c == 0) = false := by
  unfold rget at h
  repeat' split at h
  all_goals first | (injection h with h; subst h; rfl) | cases h

theorem call_f37 (caps : Array Value) (W : World) : (callFunc 37 caps).run Try.prog W = .ok (.enter 37 caps) W := by kernel_rfl
theorem call_f38 (caps : Array Value) (W : World) : (callFunc 38 caps).run Try.prog W = .ok (.enter 38 caps) W := by kernel_rfl
theorem call_f36 (caps : Array Value) (W : World) : (callFunc 36 caps).run Try.prog W = .ok (.enter 36 caps) W := by kernel_rfl

/-- the reader under CodeMosts' inner closures -/
def inner (st : World) (R0 : HProp) (a p : Nat) (l : List UInt8) : HProp := sep (blk a (.cells #[.pointer (some ⟨p, 0, none⟩)] 39 (0, 0))) (reader st R0 p l)

set_option maxHeartbeats 400000 in
theorem first_any (st : World) (R0 R1 : HProp) (hR : ∀ w, Has st R1 w → Has st R0 w) (a pm p : Nat) (l : List UInt8) (most : Int) (hm : most ≤ 9223372036854775807) (w : World)
    (h : Has st (sep (sep (blk pm (.cells #[.int .i64 most] 3 (0, 0))) (inner st R0 a p l)) R1) w) :
    Calls Try.prog 18 #[.func (.func 37) #[] #[.pointer (some ⟨a, 0, none⟩), .pointer (some ⟨pm, 0, none⟩)]] w fun e w' =>
      e = .returned (.int .i64 (rcode l most)) ∧ Has st (sep (sep (blk pm (.cells #[.int .i64 most] 3 (0, 0))) (inner st R0 a p (rrest l most))) R1) w' := by
  refine (run_any st 37 _ _ R1 (fun c => sep (pure (c = rcode l most)) (sep (blk pm (.cells #[.int .i64 most] 3 (0, 0))) (inner st R0 a p (rrest l most)))) (fun W => call_f37 _ W) ?_ w h).mono ?_
  · intro X w h
    have h1 : Has st (sep (reader st R0 p l) (sep (blk a (.cells #[.pointer (some ⟨p, 0, none⟩)] 39 (0, 0))) (sep (blk pm (.cells #[.int .i64 most] 3 (0, 0))) (sep X R1)))) w := h.cast (by unfold inner; ac_rfl)
    have ca := h1.second.cell 0
    have cm := h1.third.cell 0
    have hb := rbytes_any st R0 _ (fun w h => hR w h.right.right.right) p l most w h1 hm
    have HBy := Lib.hid hb
    clear hb h1 h
    go_enter Try.func37, Try.ntmps37
    go_wp2_with (fail)
    cases hr : rget l most with
    | error c =>
      refine HBy.out.mono fun e w' h' => ?_
      unfold RGet at h'
      rw [hr] at h'
      obtain ⟨rfl, h2⟩ := h'
      refine ⟨rfl, .inr ⟨c, rget_code hr, rfl, ?_⟩⟩
      have e1 : rcode l most = c := by unfold rcode; rw [hr]
      have e2 : rrest l most = l := by unfold rrest; rw [hr]
      rw [e1, e2]
      exact (Has.ofPure (φ := c = c) rfl (h2.cast (by unfold inner; ac_rfl) : Has st (sep (sep (blk pm (.cells #[.int .i64 most] 3 (0, 0))) (inner st R0 a p l)) (sep X R1)) w')).unassoc
    | ok q =>
      obtain ⟨x, r⟩ := q
      refine HBy.out.mono fun e w' h' => ?_
      unfold RGet at h'
      rw [hr] at h'
      obtain ⟨A, c, rfl, hs, h2⟩ := h'
      go_wp2
      go_end0
      refine .inl ⟨rfl, ?_⟩
      have e1 : rcode l most = 0 := by unfold rcode; rw [hr]
      have e2 : rrest l most = r := by unfold rrest; rw [hr]
      rw [e1, e2]
      exact (Has.ofPure (φ := (0 : Int) = 0) rfl (h2.cast (by unfold inner; ac_rfl) : Has st (sep (sep (blk pm (.cells #[.int .i64 most] 3 (0, 0))) (inner st R0 a p r)) (sep X R1)) w')).unassoc
  · rintro e w' ⟨c, rfl, h1⟩
    obtain ⟨rfl, h2⟩ := h1.assoc.pureL
    exact ⟨rfl, h2⟩

/-- the variable that the second closure sets -/
def gotP (st : World) (R0 : HProp) (p9 : Nat) (o : Option (List UInt8)) : HProp :=
  match o with
  | none => blk p9 (.cells #[.slice none 0 0] 25 (0, 0))
  | some x => ex fun A : Option Addr => ex fun c : Nat => sep (pure (Sees st R0 1 (.slice A x.length c) x.length (bcells x))) (blk p9 (.cells #[.slice A x.length c] 25 (0, 0)))

set_option maxHeartbeats 400000 in
theorem second_any (st : World) (R0 R1 : HProp) (hR : ∀ w, Has st R1 w → Has st R0 w) (a p3 p9 p : Nat) (l : List UInt8) (B : Option Addr) (n d : Nat) (hn : n ≤ 9223372036854775807) (w : World)
    (h : Has st (sep (sep (blk p3 (.cells #[.slice B n d] 25 (0, 0))) (sep (blk p9 (.cells #[.slice none 0 0] 25 (0, 0))) (inner st R0 a p l))) R1) w) :
    Calls Try.prog 18 #[.func (.func 38) #[] #[.pointer (some ⟨a, 0, none⟩), .pointer (some ⟨p3, 0, none⟩), .pointer (some ⟨p9, 0, none⟩)]] w fun e w' =>
      e = .returned (.int .i64 (rcode l n)) ∧ Has st (sep (sep (blk p3 (.cells #[.slice B n d] 25 (0, 0))) (sep (gotP st R0 p9 (rgot l n)) (inner st R0 a p (rrest l n)))) R1) w' := by
  refine (run_any st 38 _ _ R1 (fun c => sep (pure (c = rcode l n)) (sep (blk p3 (.cells #[.slice B n d] 25 (0, 0))) (sep (gotP st R0 p9 (rgot l n)) (inner st R0 a p (rrest l n))))) (fun W => call_f38 _ W) ?_ w h).mono ?_
  · intro X w h
    have h1 : Has st (sep (reader st R0 p l) (sep (blk a (.cells #[.pointer (some ⟨p, 0, none⟩)] 39 (0, 0))) (sep (blk p3 (.cells #[.slice B n d] 25 (0, 0))) (sep (blk p9 (.cells #[.slice none 0 0] 25 (0, 0))) (sep X R1))))) w := h.cast (by unfold inner; ac_rfl)
    have ca := h1.second.cell 0
    have cm := h1.third.cell 0
    have hb := rbytes_any st R0 _ (fun w h => hR w h.right.right.right.right) p l n w h1 (by omega)
    have HBy := Lib.hid hb
    clear hb h1 h
    go_enter Try.func38, Try.ntmps38
    go_wp2_with (fail)
    cases hr : rget l n with
    | error c =>
      refine HBy.out.mono fun e w' h' => ?_
      unfold RGet at h'
      rw [hr] at h'
      obtain ⟨rfl, h2⟩ := h'
      refine ⟨rfl, .inr ⟨c, rget_code hr, rfl, ?_⟩⟩
      have e1 : rcode l n = c := by unfold rcode; rw [hr]
      have e2 : rrest l n = l := by unfold rrest; rw [hr]
      have e3 : rgot l n = none := by unfold rgot; rw [hr]
      rw [e1, e2, e3]
      exact (Has.ofPure (φ := c = c) rfl (h2.cast (by unfold inner gotP; ac_rfl) : Has st (sep (sep (blk p3 (.cells #[.slice B n d] 25 (0, 0))) (sep (gotP st R0 p9 none) (inner st R0 a p l))) (sep X R1)) w')).unassoc
    | ok q =>
      obtain ⟨x, r⟩ := q
      refine HBy.out.mono fun e w' h' => ?_
      unfold RGet at h'
      rw [hr] at h'
      obtain ⟨A, c, rfl, hs, h2⟩ := h'
      have cg := h2.fourth.cell 0
      have fg := h2.fourth.free 0
      have HS := Lib.hid hs
      clear hs
      go_wp2
      go_end0
      refine .inl ⟨rfl, ?_⟩
      have e1 : rcode l n = 0 := by unfold rcode; rw [hr]
      have e2 : rrest l n = r := by unfold rrest; rw [hr]
      have e3 : rgot l n = some x := by unfold rgot; rw [hr]
      rw [e1, e2, e3]
      have h3 := h2.fourth.set 0 (.slice A x.length c)
      have h4 : Has st (sep (gotP st R0 p9 (some x)) (sep (reader st R0 p r) (sep (blk a (.cells #[.pointer (some ⟨p, 0, none⟩)] 39 (0, 0))) (sep (blk p3 (.cells #[.slice B n d] 25 (0, 0))) (sep X R1))))) _ :=
        Has.ofEx A (Has.ofEx c (Has.ofPure HS.out h3).unassoc)
      exact (Has.ofPure (φ := (0 : Int) = 0) rfl (h4.cast (by unfold inner; ac_rfl) : Has st (sep (sep (blk p3 (.cells #[.slice B n d] 25 (0, 0))) (sep (gotP st R0 p9 (some x)) (inner st R0 a p r))) (sep X R1)) _)).unassoc
  · rintro e w' ⟨c, rfl, h1⟩
    obtain ⟨rfl, h2⟩ := h1.assoc.pureL
    exact ⟨rfl, h2⟩

def mosts (p4 p10 p3 p11 : Nat) (most c1 c2 : Int) (vb : Value) : HProp :=
  sep (blk p4 (.cells #[.int .i64 most] 3 (0, 0))) (sep (blk p10 (.cells #[.int .i64 c1] 37 (0, 0))) (sep (blk p3 (.cells #[vb] 25 (0, 0))) (blk p11 (.cells #[.int .i64 c2] 37 (0, 0)))))

set_option maxHeartbeats 1000000 in
theorem mosts_reads (st : World) (R : HProp) (p4 p10 p3 p9 p11 : Nat) (most : Int) (hm : most ≤ 9223372036854775807) (B : Option Addr) (n d : Nat) (hn : n ≤ 9223372036854775807) (l : List UInt8) :
    Reads st 36 #[.pointer (some ⟨p4, 0, none⟩), .pointer (some ⟨p10, 0, none⟩), .pointer (some ⟨p3, 0, none⟩), .pointer (some ⟨p9, 0, none⟩), .pointer (some ⟨p11, 0, none⟩)] l
      (sep (mosts p4 p10 p3 p11 most 0 0 (.slice B n d)) (blk p9 (.cells #[.slice none 0 0] 25 (0, 0)))) R
      (fun RB _ => sep (mosts p4 p10 p3 p11 most (rcode l most) (rcode (rrest l most) n) (.slice B n d)) (gotP st (sep RB R) p9 (rgot (rrest l most) n)))
      (fun _ _ => pure False) := by
  intro RB X p w h
  have hmf := run_makeFunc
  obtain ⟨RR, hRR⟩ : ∃ RR, RR = sep RB R := ⟨_, rfl⟩
  rw [← hRR] at h
  have HRR := Lib.hid hRR
  clear hRR
  have h0 : Has st (sep (blk p10 (.cells #[.int .i64 0] 37 (0, 0))) (sep (blk p11 (.cells #[.int .i64 0] 37 (0, 0))) (sep (sep (blk p4 (.cells #[.int .i64 most] 3 (0, 0))) (sep (reader st RR p l) (sep (blk p3 (.cells #[.slice B n d] 25 (0, 0))) (blk p9 (.cells #[.slice none 0 0] 25 (0, 0)))))) (sep X RR)))) w := h.cast (by unfold mosts; ac_rfl)
  clear h
  have h1 : Has st (sep (sep (blk p4 (.cells #[.int .i64 most] 3 (0, 0))) (inner st RR w.heap.size p l)) (sep (blk p10 (.cells #[.int .i64 0] 37 (0, 0))) (sep (blk p11 (.cells #[.int .i64 0] 37 (0, 0))) (sep (blk p3 (.cells #[.slice B n d] 25 (0, 0))) (sep (blk p9 (.cells #[.slice none 0 0] 25 (0, 0))) (sep X RR)))))) _ := (h0.alloc (.cells #[.pointer (some ⟨p, 0, none⟩)] 39 (0, 0))).cast (by unfold inner; ac_rfl)
  have HF := Lib.hid (first_any st RR _ (fun w h => h.right.right.right.right.right) w.heap.size p4 p l most hm _ h1)
  generalize hl2 : rrest l most = l2 at HF ⊢
  clear hl2 h1
  obtain ⟨c1, hc1⟩ : ∃ c1, c1 = rcode l most := ⟨_, rfl⟩
  rw [← hc1] at HF ⊢
  obtain ⟨c2, hc2⟩ : ∃ c2, c2 = rcode l2 n := ⟨_, rfl⟩
  rw [← hc2]
  have HC2 := Lib.hid hc2
  clear hc1 hc2
  show Calls Try.prog 36 #[.pointer (some ⟨p, 0, none⟩), .pointer (some ⟨p4, 0, none⟩), .pointer (some ⟨p10, 0, none⟩), .pointer (some ⟨p3, 0, none⟩), .pointer (some ⟨p9, 0, none⟩), .pointer (some ⟨p11, 0, none⟩)] w _
  go_enter Try.func36, Try.ntmps36
  go_wp2_with (fail)
  refine HF.out.mono ?_
  rintro e w2 ⟨rfl, h2⟩
  have c10 := h2.second.cell 0
  have f10 := h2.second.free 0
  have h3 := h2.second.set 0 (.int .i64 c1)
  have h4 : Has st (sep (sep (blk p3 (.cells #[.slice B n d] 25 (0, 0))) (sep (blk p9 (.cells #[.slice none 0 0] 25 (0, 0))) (inner st RR w.heap.size p l2))) (sep (blk p11 (.cells #[.int .i64 0] 37 (0, 0))) (sep (blk p10 (.cells #[.int .i64 c1] 37 (0, 0))) (sep (blk p4 (.cells #[.int .i64 most] 3 (0, 0))) (sep X RR))))) _ := h3.cast (by simp only [List.setIfInBounds_toArray, List.set_cons_zero]; ac_rfl)
  have HG := Lib.hid (second_any st RR _ (fun w h => h.right.right.right.right) w.heap.size p3 p9 p l2 B n d hn _ h4)
  rw [← HC2.out] at HG
  clear h3 h4
  go_wp2_with (fail)
  refine HG.out.mono ?_
  rintro e w3 ⟨rfl, h5⟩
  have c11 := h5.second.cell 0
  have f11 := h5.second.free 0
  go_wp2
  go_end0
  have h6 := h5.second.set 0 (.int .i64 c2)
  refine .inl ⟨rrest l2 n, rfl, ?_⟩
  have h7 : Has st (sep (blk w.heap.size (.cells #[.pointer (some ⟨p, 0, none⟩)] 39 (0, 0))) (sep (sep (mosts p4 p10 p3 p11 most c1 c2 (.slice B n d)) (gotP st RR p9 (rgot l2 n))) (sep (reader st RR p (rrest l2 n)) (sep X RR)))) _ := h6.cast (by unfold mosts inner; simp only [List.setIfInBounds_toArray, List.set_cons_zero]; ac_rfl)
  rw [HRR.out] at h7
  exact h7.right
end Go.Proofs.Ytkmhopnpkilhiaa
