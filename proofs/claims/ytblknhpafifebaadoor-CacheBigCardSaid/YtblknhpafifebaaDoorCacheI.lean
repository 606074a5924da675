/-
  cache: the contracts as they are used in a walk.
-/
import Derived.Test.YtblknhpafifebaaDoorCacheH
namespace Go.Proofs.YtblknhpafifebaaDoor
open Go Go.RowKit Go.Sl Go.Sha
set_option linter.unusedVariables false
set_option linter.unusedSimpArgs false
set_option maxRecDepth 100000

/-- Put of b turns L to L', and hands back S -/
def PutC (st : World) (R : HProp) (lim : Int) (L L' : CL) (b S : List UInt8) : Prop := ∀ p F v w, (∀ w, Has st F w → Has st R w) → Sees st F 1 v b.length (bcells b) → Has st (sep (cacheA p L lim) F) w →
  Calls Tryd.prog 13 #[.pointer (some ⟨p, 0, none⟩), v] w fun e w' => e = .returned (.agg (bcells S).toArray) ∧ Has st (sep (cacheA p L' lim) F) w'
theorem putC {st : World} {R : HProp} {lim : Int} {L L' : CL} {b S : List UInt8} (hk : Keys st R) (hst : Start st R) (hS : S = sha b) (hL : L' = putL lim L S b) (hlen : L.length ≤ 100000) (htot : totL L ≤ 100000000) (hb : b.length ≤ 100000000) (hlim : 0 ≤ lim) : PutC st R lim L L' b S := by
  intro p F v w hF hs h
  subst hS hL
  exact putA_any st F p L lim b v w h (fun w h => hk w (hF w h)) (fun w h => hst w (hF w h)) hs hlen htot hb hlim
def GetC (st : World) (R : HProp) (lim : Int) (L : CL) (id : List UInt8) (L' : CL) (g : List UInt8) (ok : Bool) : Prop := ∀ p F w, (∀ w, Has st F w → Has st R w) → Has st (sep (cacheA p L lim) F) w →
  Calls Tryd.prog 15 #[.pointer (some ⟨p, 0, none⟩), .agg (bcells id).toArray] w fun e w' => ∃ A c, e = .returned (.tuple #[.slice A g.length c, .bool ok]) ∧ Has st (sep (row 5 1 (.slice A g.length c) g.length (bcells g)) (sep (cacheA p L' lim) F)) w'
theorem getC {st : World} {R : HProp} {lim : Int} {L L' : CL} {id g : List UInt8} {ok : Bool} (hk : Keys st R) (hst : Start st R) (hid : id.length = 32) (hg : getL id L = (L', g, ok)) (hlen : L.length ≤ 100000) (htot : totL L ≤ 100000000) : GetC st R lim L id L' g ok := by
  intro p F w hF h
  have := getA_any st F p L lim id w h (fun w h => hk w (hF w h)) (fun w h => hst w (hF w h)) hid hlen htot
  rw [hg] at this
  refine this.mono fun e w' ⟨V, e1, h1⟩ => ?_
  obtain ⟨A, c, rfl⟩ := h1.row_slice
  exact ⟨A, c, e1, h1⟩
def SpoilC (st : World) (lim : Int) (L : CL) (id : List UInt8) (bit : Int) (L' : CL) (ok : Bool) : Prop := ∀ p F w, Has st (sep (cacheA p L lim) F) w →
  Calls Tryd.prog 18 #[.pointer (some ⟨p, 0, none⟩), .agg (bcells id).toArray, .int .i64 bit] w fun e w' => e = .returned (.bool ok) ∧ Has st (sep (cacheA p L' lim) F) w'
theorem spoilC {st : World} {lim : Int} {L L' : CL} {id : List UInt8} {bit : Int} {ok : Bool} (hid : id.length = 32) (hg : spoilL id bit L = (L', ok)) (hlen : L.length ≤ 100000) (htot : totL L ≤ 100000000) : SpoilC st lim L id bit L' ok := by
  intro p F w h
  have := spoilA_any st F p L lim id bit w h hid hlen htot
  rw [hg] at this
  exact this
def LenC (st : World) (lim : Int) (L : CL) (n : Nat) : Prop := ∀ p F w, Has st (sep (cacheA p L lim) F) w →
  Calls Tryd.prog 22 #[.pointer (some ⟨p, 0, none⟩)] w fun e w' => e = .returned (.int .i64 (n : Int)) ∧ Has st (sep (cacheA p L lim) F) w'
theorem lenC {st : World} {lim : Int} {L : CL} {n : Nat} (hn : n = L.length) : LenC st lim L n := fun p F w h => by rw [hn]; exact lenA_any st F p L lim w h
def SizeC (st : World) (lim : Int) (L : CL) (n : Nat) : Prop := ∀ p F w, Has st (sep (cacheA p L lim) F) w →
  Calls Tryd.prog 23 #[.pointer (some ⟨p, 0, none⟩)] w fun e w' => e = .returned (.int .i64 (n : Int)) ∧ Has st (sep (cacheA p L lim) F) w'
theorem sizeC {st : World} {lim : Int} {L : CL} {n : Nat} (hn : n = totL L) : SizeC st lim L n := fun p F w h => by rw [hn]; exact sizeA_any st F p L lim w h
def WipeC (st : World) (lim : Int) (L : CL) : Prop := ∀ p F w, Has st (sep (cacheA p L lim) F) w →
  Calls Tryd.prog 19 #[.pointer (some ⟨p, 0, none⟩)] w fun e w' => e = .returned (.tuple #[]) ∧ Has st (sep (cacheA p [] lim) F) w'
theorem wipeC {st : World} {lim : Int} {L : CL} : WipeC st lim L := fun p F w h => wipeA_any st F p L lim w h
def AllC (st : World) (lim : Int) (L : CL) (most : Int) (T : List (List UInt8)) : Prop := ∀ p F w, Has st (sep (cacheA p L lim) F) w →
  Calls Tryd.prog 21 #[.pointer (some ⟨p, 0, none⟩), .int .i64 most] w fun e w' => ∃ A c, e = .returned (.slice A T.length c) ∧ Has st (sep (row 34 32 (.slice A T.length c) T.length (idsC T)) (sep (cacheA p L lim) F)) w'
theorem allC {st : World} {lim : Int} {L : CL} {most : Int} {T : List (List UInt8)} (hT : T = topL L most) (hlen : L.length ≤ 100000) : AllC st lim L most T := fun p F w h => by rw [hT]; exact allA_any st F p L lim most w h hlen
def NewC (st : World) (R : HProp) (lim l2 : Int) : Prop := ∀ w, Has st R w → Calls Tryd.prog 10 #[.int .i64 lim] w fun e w' => ∃ p, e = .returned (.pointer (some ⟨p, 0, none⟩)) ∧ Has st (sep (cacheA p [] l2) R) w'
theorem newC {st : World} {R : HProp} {lim l2 : Int} (h2 : l2 = max lim 0) (hl : -9223372036854775808 ≤ lim ∧ lim ≤ 9223372036854775807) : NewC st R lim l2 := fun w h => by rw [h2]; exact newA_any st R lim w h hl

/-! the example -/
abbrev eAB : List UInt8 := [97, 98]
abbrev eC : List UInt8 := [99]
abbrev eD : List UInt8 := [100]
theorem live_ab_c : (sha eAB == sha eC) = false := by decide +kernel
theorem live_ab_d : (sha eAB == sha eD) = false := by decide +kernel
theorem live_c_d : (sha eC == sha eD) = false := by decide +kernel
theorem live_spoilt : (sha [108] == sha eD) = false := by decide +kernel
end Go.Proofs.YtblknhpafifebaaDoor
