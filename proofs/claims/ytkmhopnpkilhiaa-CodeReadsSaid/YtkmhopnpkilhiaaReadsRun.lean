/-
  CodeReads: the inner run.
-/
import Derived.Test.YtkmhopnpkilhiaaReadRead
namespace Go.Proofs.Ytkmhopnpkilhiaa
open Go.RowKit Go.Sl
set_option linter.unusedVariables false
set_option linter.unusedSimpArgs false

def scode (o : OpV) (l : List UInt8) : Int := match stepc o l with | .error c => c | .ok _ => 0
def srest (o : OpV) (l : List UInt8) : List UInt8 := match stepc o l with | .error _ => l | .ok r => r
theorem rget_code2 {l : List UInt8} {most c : Int} (h : rget l most = .error c) : (c == 0) = false := by
  unfold rget at h
  repeat' split at h
  all_goals first | (injection h with h; subst h; rfl) | cases h
theorem stepc_code {o : OpV} {l : List UInt8} {c : Int} (h : stepc o l = .error c) : (c == 0) = false := by
  rw [stepc_def] at h
  repeat' split at h
  all_goals first
    | (injection h with h; subst h; rfl)
    | (injection h with h; subst h; exact rget_code2 (by assumption))
    | cases h

/-- the reference's reader in a variable, its bytes in R0 -/
def xP (st : World) (R0 : HProp) (px : Nat) (l : List UInt8) : HProp :=
  ex fun A : Option Addr => ex fun c : Nat => sep (pure (Sees st R0 1 (.slice A l.length c) l.length (bcells l))) (blk px (.cells #[.slice A l.length c, .int .i64 0] 36 (0, 0)))
theorem xP_open {st : World} {R0 R : HProp} {px : Nat} {l : List UInt8} {w : World} (h : Has st (sep (xP st R0 px l) R) w) : ∃ A c, Sees st R0 1 (.slice A l.length c) l.length (bcells l) ∧ Has st (sep (blk px (.cells #[.slice A l.length c, .int .i64 0] 36 (0, 0))) R) w := by
  obtain ⟨A, h⟩ := h.exL
  obtain ⟨c, h⟩ := h.exL
  obtain ⟨h1, h2⟩ := h.assoc.pureL
  exact ⟨A, c, h1, h2⟩
theorem xP_shut {st : World} {R0 R : HProp} {px : Nat} {l : List UInt8} {w : World} (A : Option Addr) (c : Nat) (hs : Sees st R0 1 (.slice A l.length c) l.length (bcells l)) (h : Has st (sep (blk px (.cells #[.slice A l.length c, .int .i64 0] 36 (0, 0))) R) w) : Has st (sep (xP st R0 px l) R) w :=
  Has.ofEx A (Has.ofEx c (Has.ofPure hs h).unassoc)

def rd4 (st : World) (R0 : HProp) (a px po pg p : Nat) (o : OpV) (B : Option Addr) (d : Nat) (l : List UInt8) : HProp :=
  sep (xP st R0 px l) (sep (blk a (.cells #[.pointer (some ⟨p, 0, none⟩)] 39 (0, 0))) (sep (blk po (.cells #[.int .i64 o.kind, .int .i64 o.size, .int .u64 o.n, .slice B o.b.length d] 28 (0, 0))) (sep (blk pg (.cells #[.bool true] 4 (0, 0))) (reader st R0 p l))))

theorem call_f19 (caps : Array Value) (W : World) : (callFunc 19 caps).run Try.prog W = .ok (.enter 19 caps) W := by kernel_rfl

set_option maxHeartbeats 1000000 in
theorem inner_any (st : World) (R0 R1 : HProp) (hR : ∀ w, Has st R1 w → Has st R0 w) (a px po pg p : Nat) (o : OpV) (hn : o.n ≤ 18446744073709551615) (B : Option Addr) (d : Nat) (l : List UInt8) (w : World) (h : Has st (sep (rd4 st R0 a px po pg p o B d l) R1) w) :
    Calls Try.prog 18 #[.func (.func 19) #[] #[.pointer (some ⟨a, 0, none⟩), .pointer (some ⟨px, 0, none⟩), .pointer (some ⟨po, 0, none⟩), .pointer (some ⟨pg, 0, none⟩)]] w fun e w' =>
      e = .returned (.int .i64 (scode o l)) ∧ Has st (sep (rd4 st R0 a px po pg p o B d (srest o l)) R1) w' := by
  refine (run_any st 19 _ _ R1 (fun c => sep (pure (c = scode o l)) (rd4 st R0 a px po pg p o B d (srest o l))) (fun W => call_f19 _ W) ?_ w h).mono ?_
  · intro X w h
    obtain ⟨A, c, hs, h1⟩ := xP_open (h.cast (by unfold rd4; ac_rfl) : Has st (sep (xP st R0 px l) (sep (blk a (.cells #[.pointer (some ⟨p, 0, none⟩)] 39 (0, 0))) (sep (blk po (.cells #[.int .i64 o.kind, .int .i64 o.size, .int .u64 o.n, .slice B o.b.length d] 28 (0, 0))) (sep (blk pg (.cells #[.bool true] 4 (0, 0))) (sep (reader st R0 p l) (sep X R1)))))) w)
    have cx0 := h1.cell 0
    have cx1 := h1.cell 1
    have ca := h1.second.cell 0
    have co0 := h1.third.cell 0
    have co1 := h1.third.cell 1
    have co2 := h1.third.cell 2
    have co3 := h1.third.cell 3
    have h2 : Has st (sep (reader st R0 p l) (sep (blk pg (.cells #[.bool true] 4)) (sep (blk px (.cells #[.slice A l.length c, .int .i64 0] 36 (0, 0))) (sep (blk a (.cells #[.pointer (some ⟨p, 0, none⟩)] 39 (0, 0))) (sep (blk po (.cells #[.int .i64 o.kind, .int .i64 o.size, .int .u64 o.n, .slice B o.b.length d] 28 (0, 0))) (sep X R1)))))) w := h1.cast (by ac_rfl)
    have HC := Lib.hid (read_any st R0 _ (fun w h => hR w h.right.right.right.right) p pg l A c hs o hn B d w h2)
    have HS := Lib.hid hs
    clear h1 h2 h hs
    go_enter Try.func19, Try.ntmps19
    go_wp2_with (fail)
    cases hst : stepc o l with
    | error x =>
      refine HC.out.mono fun e w' h' => ?_
      unfold RPost at h'
      rw [hst] at h'
      obtain ⟨rfl, h3⟩ := h'
      refine ⟨rfl, .inr ⟨x, stepc_code hst, rfl, ?_⟩⟩
      have e1 : scode o l = x := by unfold scode; rw [hst]
      have e2 : srest o l = l := by unfold srest; rw [hst]
      rw [e1, e2]
      have h4 := xP_shut A c HS.out h3.third
      exact (Has.ofPure (φ := x = x) rfl (h4.cast (by unfold rd4; ac_rfl) : Has st (sep (rd4 st R0 a px po pg p o B d l) (sep X R1)) w')).unassoc
    | ok r =>
      refine HC.out.mono fun e w' h' => ?_
      unfold RPost at h'
      rw [hst] at h'
      obtain ⟨A2, c2, rfl, hs2, h3⟩ := h'
      have dx0 := h3.third.cell 0
      have dx1 := h3.third.cell 1
      have fx0 := h3.third.free 0
      have fx1 := h3.third.free 1
      have HS2 := Lib.hid hs2
      clear hs2
      go_wp2
      go_end0
      refine .inl ⟨rfl, ?_⟩
      have e1 : scode o l = 0 := by unfold scode; rw [hst]
      have e2 : srest o l = r := by unfold srest; rw [hst]
      rw [e1, e2]
      have h4 := (h3.third.set 0 (.slice A2 r.length c2)).set 1 (.int .i64 0)
      simp only [List.setIfInBounds_toArray, List.set_cons_zero, List.set_cons_succ] at h4
      have h5 := xP_shut A2 c2 HS2.out h4
      exact (Has.ofPure (φ := (0 : Int) = 0) rfl (h5.cast (by unfold rd4; ac_rfl) : Has st (sep (rd4 st R0 a px po pg p o B d r) (sep X R1)) _)).unassoc
  · rintro e w' ⟨c, rfl, h1⟩
    obtain ⟨rfl, h2⟩ := h1.assoc.pureL
    exact ⟨rfl, h2⟩
end Go.Proofs.Ytkmhopnpkilhiaa
