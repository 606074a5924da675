/-
  Layer 4: Seal, link.
-/
import Derived.Test.YtbiacehmfbopfaaSealSum
import Derived.Test.YtbiacehmfbopfaaKeep
namespace Go.Sl
open Go Go.RowKit
theorem rd_bytes {st : World} {R : HProp} {w : World} {g : Nat} {l : List UInt8} {t : TypeId} {fr : Nat × Nat} (h : Has st (sep (blk g (.cells (bcells l).toArray t fr)) R) w) (hl : l.length ≤ maxLen) : Rd 1 w (.slice (some ⟨g, 0, none⟩) l.length l.length) l.length (bcells l) :=
  ⟨by simp [bcells_length], _, l.length, rfl, Nat.le_refl _, hl, .inr ⟨_, rfl, fun j u hu => ⟨rfl, by rw [Nat.zero_add, h.cell, List.getElem?_toArray]; exact hu⟩⟩⟩
theorem conv_64 (X : UInt32) : IntKind.u64.wrap (X.toNat : Int) = (X.toNat : Int) := by
  have := X.toNat_lt
  simp [IntKind.wrap, IntKind.signed, IntKind.bits]; omega
end Go.Sl
namespace Go.Proofs.Ytbiacehmfbopfaa
open Go.RowKit Go.Sl Go.Crc
set_option linter.unusedVariables false
set_option linter.unusedSimpArgs false
theorem zeroWriter : (Try.prog.info? 46).map (·.zero) = some (some (.agg #[.slice none 0 0])) := by kernel_rfl
theorem writer_of {st : World} {R : HProp} {p : Nat} {w : World} (h : Has st (sep (blk p (.cells #[.slice none 0 0] 46 (0, 0))) R) w) : Has st (sep (writer p []) R) w :=
  Has.ofEx (.slice none 0 0) ((h.row_nil 5 1).second.unassoc)
/-- what is sealed -/
def sealB (k : UInt8) (l : List UInt8) : List UInt8 := k :: l ++ le (crc (k :: l)).toNat 4
theorem sealB_length (k : UInt8) (l : List UInt8) : (sealB k l).length = l.length + 5 := by simp [sealB, le_length]
set_option maxRecDepth 100000 in
set_option maxHeartbeats 2000000 in
theorem seal_any (st : World) (R : HProp) (k : UInt8) (l : List UInt8) (v : Value) (w : World) (h : Has st R w) (hs : Sees st R 1 v l.length (bcells l)) (hb : l.length ≤ 140737488355000) :
    Calls Try.prog 12 #[.int .u8 (k.toNat : Int), v] w fun e w' => ∃ A c, e = .returned (.slice A (sealB k l).length c) ∧ Has st (sep (row 5 1 (.slice A (sealB k l).length c) (sealB k l).length (bcells (sealB k l))) R) w' := by
  obtain ⟨X, hX⟩ : ∃ X, X = crc (k :: l) := ⟨_, rfl⟩
  have HS := Lib.hid hs
  have HH := Lib.hid h
  have hc64 := conv_64 X
  have HC := Lib.hid hc64
  have hsl : sealB k l = k :: l ++ le X.toNat (held 4) := by rw [hX]; rfl
  have HSL := Lib.hid hsl
  have HX := Lib.hid hX
  clear hs h hc64 hsl hX
  go_enter Try.func12, Try.ntmps12
  go_wp2_with (first
    | (have _k := H3; go_at_call 22; refine (raw_any st (sep (blk q (.cells (bcells [k]).toArray 5 (0, 0))) R) p [k] l _ _ H3.out HS.out.right (by simp; omega)).mono ?_; rintro e w4 ⟨rfl, h4⟩; have H4 := Lib.hid h4; clear h4)
    | (go_at_call 22; refine (raw_any st (sep (blk q (.cells (bcells [k]).toArray 5 (0, 0))) R) p [] [k] _ _ H2.out.second (fun w hw => rd_bytes (l := [k]) hw (by show 1 ≤ _; decide)) (by simp)).mono ?_; rintro e w3 ⟨rfl, h3⟩; have H3 := Lib.hid h3; clear h3)
    | (have _k := H6; go_at_call 24; refine (done_any st _ p _ _ H6.out (by rw [List.length_append, le_length]; have := held_pos 4; simp; omega)).mono ?_; rintro e w7 ⟨A7, c7, rfl, h7⟩; have H7 := Lib.hid h7; clear h7)
    | (go_at_call 24; refine (done_any st (sep (blk q (.cells (bcells [k]).toArray 5 (0, 0))) R) p (k :: l) _ H4.out (by simp; omega)).mono ?_; rintro e w5 ⟨A5, c5, rfl, h5⟩; have H5 := Lib.hid h5; clear h5)
    | (go_at_call 13; refine (crc_any (k :: l) _ _ (sees_row st _ 1 _ _ _ _ _ H5.out)).mono ?_; rintro e w6 ⟨rfl, rfl⟩; rw [← HX.out])
    | (go_at_call 23; refine (num_any st _ p (k :: l) X.toNat 4 _ H5.out.second (by simp; omega)).mono ?_; rintro e w6 ⟨rfl, h6⟩; have H6 := Lib.hid h6; clear h6)
    | ((with_reducible refine wpList_plain rfl ?_); intro _ hk; (first
      | (refine opw_alloc 46 (.agg #[.slice none 0 0]) #[.slice none 0 0] rfl zeroWriter rfl HH.out (fun p w1 hp h1 => hk _ _ ?_); clear hp; have H1 := Lib.hid (writer_of h1); clear h1)
      | (refine opw_lit 22 1 _ [(0, .int .u8 (k.toNat : Int))] 5 (bcells [k]).toArray rfl rfl (by kernel_rfl) H1.out (fun q w2 h2 => hk _ _ ?_); have H2 := Lib.hid h2; clear h2)
      | (refine opw_conv _ _ _ .u32 .u64 (X.toNat : Int) (X.toNat : Int) rfl Try.underlying30 Try.underlying49 rfl HC.out (hk _ _ ?_))); simp only [Act.put, List.setIfInBounds_toArray, List.set_cons_zero, List.set_cons_succ]))
  go_ret
  refine ⟨A7, c7, ?_, ?_⟩
  · rw [HSL.out]; simp
  · rw [HSL.out]
    exact (H7.out.cast (show _ = sep (row 5 1 (.slice A7 (k :: l ++ le X.toNat (held 4)).length c7) (k :: l ++ le X.toNat (held 4)).length (bcells (k :: l ++ le X.toNat (held 4)))) (sep (sep (writer p (k :: l ++ le X.toNat (held 4))) (sep (row 5 1 (.slice A5 (k :: l).length c5) (k :: l).length (bcells (k :: l))) (blk q (.cells (bcells [k]).toArray 5 (0, 0))))) R) by ac_rfl)).drop2
end Go.Proofs.Ytbiacehmfbopfaa
