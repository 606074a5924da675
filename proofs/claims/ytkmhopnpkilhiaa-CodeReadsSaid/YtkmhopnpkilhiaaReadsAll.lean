/-
  CodeReads: the closure.
-/
import Derived.Test.YtkmhopnpkilhiaaReadsLaw
import Derived.Deep.RegionHeld3
namespace Go.Proofs.Ytkmhopnpkilhiaa
open Go.RowKit Go.Sl
set_option linter.unusedVariables false
set_option linter.unusedSimpArgs false

def Rel1 (st : World) (REST : HProp) (A : Option Addr) (n c : Nat) (v : Value) (wr : World) : Prop :=
  ∃ (i : Nat) (l' : List UInt8), i ≤ n ∧ v = .int .i64 i ∧ Hid (l'.length = n) ∧ Has st (sep (row 5 1 (.slice A n c) n (bcells l')) REST) wr
def Rel2 (st : World) (RR X : HProp) (a pops px pg p : Nat) (vs : Value) (len : Nat) (v : Value) (wr : World) : Prop :=
  ∃ (i : Nat) (r : List UInt8), i ≤ len ∧ v = .int .i64 i ∧ Has st (sep (blk a (.cells #[.pointer (some ⟨p, 0, none⟩)] 39 (0, 0))) (sep (blk pops (.cells #[vs] 22 (0, 0))) (sep (xP st RR px r) (sep (blk pg (.cells #[.bool true] 4 (0, 0))) (sep (reader st RR p r) (sep X RR)))))) wr

set_option maxHeartbeats 2000000 in
theorem reads_reads (st : World) (R : HProp) (pw pops px pg : Nat) (Ao : Option Addr) (n co : Nat) (hno : n ≤ 9223372036854775807) (bl l : List UInt8) (hbl : bl.length = n) (A : Option Addr) (c : Nat) (ops : List OpV) (hs : SeesOps st R (.slice A ops.length c) ops) (hk : ∀ o ∈ ops, o.n ≤ 18446744073709551615) :
    Reads st 17 #[.pointer (some ⟨pw, 0, none⟩), .pointer (some ⟨pops, 0, none⟩), .pointer (some ⟨px, 0, none⟩), .pointer (some ⟨pg, 0, none⟩)] l
      (sep (blk pw (.cells #[.slice Ao n co] 25 (0, 0))) (sep (row 5 1 (.slice Ao n co) n (bcells bl)) (sep (blk pops (.cells #[.slice A ops.length c] 22 (0, 0))) (sep (xP st R px l) (blk pg (.cells #[.bool true] 4 (0, 0))))))) R
      (fun RB l' => sep (xP st (sep RB R) px l') (blk pg (.cells #[.bool true] 4 (0, 0))))
      (fun _ _ => pure False) := by
  intro RB X p w h
  have hs' : SeesOps st (sep RB R) (.slice A ops.length c) ops := by
    obtain ⟨vs, hv, hall⟩ := hs
    exact ⟨vs, hv.right, fun i hi => let ⟨A, c, h0, h1, h2, h3, hr⟩ := hall i hi; ⟨A, c, h0, h1, h2, h3, hr.right⟩⟩
  obtain ⟨Ax, cx, hsx, hx⟩ := xP_open (h.cast (by ac_rfl) : Has st (sep (xP st R px l) (sep (sep (blk pw (.cells #[.slice Ao n co] 25 (0, 0))) (sep (row 5 1 (.slice Ao n co) n (bcells bl)) (sep (blk pops (.cells #[.slice A ops.length c] 22 (0, 0))) (blk pg (.cells #[.bool true] 4 (0, 0)))))) (sep (reader st (sep RB R) p l) (sep X (sep RB R))))) w)
  have h0 := xP_shut (R0 := sep RB R) Ax cx hsx.right hx
  obtain ⟨RR, hRR⟩ : ∃ RR, RR = sep RB R := ⟨_, rfl⟩
  rw [← hRR] at h0 hs'
  have HRR := Lib.hid hRR
  have HS := Lib.hid hs'
  have HK := Lib.hid hk
  have HBL := Lib.hid hbl
  clear hRR hs' hk hbl hs hsx hx h
  have h1 : Has st (sep (row 5 1 (.slice Ao n co) n (bcells bl)) (sep (blk w.heap.size (.cells #[.pointer (some ⟨p, 0, none⟩)] 39 (0, 0))) (sep (blk pw (.cells #[.slice Ao n co] 25 (0, 0))) (sep (blk pops (.cells #[.slice A ops.length c] 22 (0, 0))) (sep (xP st RR px l) (sep (blk pg (.cells #[.bool true] 4 (0, 0))) (sep (reader st RR p l) (sep X RR)))))))) _ := (h0.alloc (.cells #[.pointer (some ⟨p, 0, none⟩)] 39 (0, 0))).cast (by ac_rfl)
  have hlw := (h0.cast (by ac_rfl) : Has st (sep (blk pw (.cells #[.slice Ao n co] 25 (0, 0))) (sep (xP st RR px l) (sep (sep (row 5 1 (.slice Ao n co) n (bcells bl)) (sep (blk pops (.cells #[.slice A ops.length c] 22 (0, 0))) (blk pg (.cells #[.bool true] 4 (0, 0))))) (sep (reader st RR p l) (sep X RR))))) w)
  have cw := hlw.cell 0
  have lw := hlw.lt
  obtain ⟨_, _, _, hlen⟩ := ops_form HS.out h1.right.right.right.right.right.right.right.right
  clear h0 hlw
  show Calls Try.prog 17 #[.pointer (some ⟨p, 0, none⟩), .pointer (some ⟨pw, 0, none⟩), .pointer (some ⟨pops, 0, none⟩), .pointer (some ⟨px, 0, none⟩), .pointer (some ⟨pg, 0, none⟩)] w _
  go_enter Try.func17, Try.ntmps17
  go_wp2_with (fail)
  go_loopw [13] (fun v13 wr => Rel1 st (sep (blk w.heap.size (.cells #[.pointer (some ⟨p, 0, none⟩)] 39 (0, 0))) (sep (blk pw (.cells #[.slice Ao n co] 25 (0, 0))) (sep (blk pops (.cells #[.slice A ops.length c] 22 (0, 0))) (sep (xP st RR px l) (sep (blk pg (.cells #[.bool true] 4 (0, 0))) (sep (reader st RR p l) (sep X RR))))))) Ao n co v13 wr) (fun v13 _ => n - (intOf v13).toNat)
  case atStart => exact ⟨0, bl, Nat.zero_le _, rfl, HBL.out, h1⟩
  case round =>
    clear h1 cw lw
    obtain ⟨i, l', hi, rfl, HL, h⟩ := hrel
    have cw := h.third.cell 0
    by_cases hlt : i < n
    · obtain ⟨g, rfl⟩ := h.row_at (by omega)
      obtain ⟨x, hx⟩ : ∃ x, x = l'[i]'(by rw [HL.out]; exact hlt) := ⟨_, rfl⟩
      have hcell := (sees_row st 5 1 _ _ _ _ _ h).cell (j := i) (bcells_get (by rw [HL.out]; exact hlt))
      rw [← hx, Nat.zero_add] at hcell
      have hfree := h.row_free i
      obtain ⟨y, hy⟩ := byte_xor x
      clear hx
      have hset := h.row_set i (.int .u8 y.toNat)
      have HSet := Lib.hid hset
      clear hset h
      go_wp2_with (fail)
      go_roundw
      case rel => exact ⟨i + 1, l'.set i y, by omega, by go_num, by show _ = _; rw [List.length_set, HL.out], by
        have := HSet.out
        rwa [show (bcells l').set i (.int .u8 y.toNat) = bcells (l'.set i y) from by simp [bcells, bcell, List.map_set]] at this⟩
      case measure => simp [intOf]; omega
    · obtain rfl : i = n := by omega
      have h2 : Has st (sep (blk w.heap.size (.cells #[.pointer (some ⟨p, 0, none⟩)] 39 (0, 0))) (sep (blk pops (.cells #[.slice A ops.length c] 22 (0, 0))) (sep (xP st RR px l) (sep (blk pg (.cells #[.bool true] 4 (0, 0))) (sep (reader st RR p l) (sep X RR)))))) wr := h.right.second.right
      have cp := h2.second.cell 0
      clear h hlt hi HL HBL
      generalize hz : w.heap.size = a at *
      clear hz
      go_wp2_with (fail)
      go_loopw [25] (fun v25 wr => Rel2 st RR X a pops px pg p (.slice A ops.length c) ops.length v25 wr) (fun v25 _ => ops.length - (intOf v25).toNat)
      case atStart => exact ⟨0, l, Nat.zero_le _, rfl, h2⟩
      case round =>
        clear h2 cp cw
        obtain ⟨i, r, hi, rfl, h⟩ := hrel
        have cp := h.second.cell 0
        by_cases hlt : i < ops.length
        · obtain ⟨b, off, B, d, rfl, c0, c1, c2, c3, hsb⟩ := ops_at HS.out h.right.right.right.right.right.right hlt
          have hn := HK.out ops[i] (List.getElem_mem hlt)
          clear hsb
          have h3 : Has st (sep (rd4 st RR a px wr.heap.size pg p ops[i] B d r) (sep (blk pops (.cells #[.slice (some ⟨b, off, none⟩) ops.length c] 22 (0, 0))) (sep X RR))) _ := (h.alloc (.cells #[.int .i64 ops[i].kind, .int .i64 ops[i].size, .int .u64 ops[i].n, .slice B ops[i].b.length d] 28 (0, 0))).cast (by unfold rd4; ac_rfl)
          have HI := Lib.hid (inner_any st RR _ (fun w h => h.right.right) a px wr.heap.size pg p ops[i] hn B d r _ h3)
          clear h3
          generalize hz : wr.heap.size = z at *
          cases hst : stepc ops[i] r with
          | ok r' =>
            rw [show scode ops[i] r = 0 from by unfold scode; rw [hst], show srest ops[i] r = r' from by unfold srest; rw [hst]] at HI
            clear hst
            go_wp2_with (fail)
            refine HI.out.mono ?_
            rintro e w1 ⟨rfl, h4⟩
            obtain ⟨A2, c2', hs2, h5⟩ := xP_open (h4.cast (by unfold rd4; ac_rfl) : Has st (sep (xP st RR px r') (sep (blk a (.cells #[.pointer (some ⟨p, 0, none⟩)] 39 (0, 0))) (sep (blk pg (.cells #[.bool true] 4 (0, 0))) (sep (reader st RR p r') (sep (blk z (.cells #[.int .i64 ops[i].kind, .int .i64 ops[i].size, .int .u64 ops[i].n, .slice B ops[i].b.length d] 28 (0, 0))) (sep (blk pops (.cells #[.slice (some ⟨b, off, none⟩) ops.length c] 22 (0, 0))) (sep X RR))))))) w1)
            clear h4
            have HS2 := Lib.hid hs2
            clear hs2
            have cg := h5.third.cell 0
            have fg := h5.third.free 0
            have ca := h5.second.cell 0
            have cx0 := h5.cell 0
            have h6 := h5.drew.third.set 0 (.bool true)
            simp only [List.setIfInBounds_toArray, List.set_cons_zero] at h6
            have HLeft := Lib.hid (left_any st RR _ (fun w h => h.right.right.right.right.right.right) p r' _ h5.drew.fourth)
            go_wp2_with (fail)
            go_region_held3 (fun w' => w'.cell? ⟨pg, 0, none⟩ = some (.bool true) ∧ w'.cell? ⟨a, 0, none⟩ = some (.pointer (some ⟨p, 0, none⟩)) ∧ w'.cell? ⟨px, 0, none⟩ = some (.slice A2 r'.length c2')) (first | exact ⟨cg, ca, cx0⟩ | exact ⟨h6.cell 0, h6.third.cell 0, h6.second.cell 0⟩)
              (first | (go_at_call 22; refine HLeft.out.mono ?_; rintro e w4 ⟨rfl, rfl⟩))
            all_goals go_wp2
            all_goals
              go_roundw
              case rel => exact ⟨i + 1, r', by omega, by go_num, ((xP_shut A2 c2' HS2.out h6.second).cast (by ac_rfl) : Has st (sep (blk z (.cells #[.int .i64 ops[i].kind, .int .i64 ops[i].size, .int .u64 ops[i].n, .slice B ops[i].b.length d] 28 (0, 0))) (sep (blk a (.cells #[.pointer (some ⟨p, 0, none⟩)] 39 (0, 0))) (sep (blk pops (.cells #[.slice (some ⟨b, off, none⟩) ops.length c] 22 (0, 0))) (sep (xP st RR px r') (sep (blk pg (.cells #[.bool true] 4 (0, 0))) (sep (reader st RR p r') (sep X RR))))))) _).right⟩
              case measure => simp [intOf]; omega
          | error x =>
            have hx0 := stepc_code hst
            rw [show scode ops[i] r = x from by unfold scode; rw [hst], show srest ops[i] r = r from by unfold srest; rw [hst]] at HI
            have HST := Lib.hid hst
            clear hst
            go_wp2_with (fail)
            refine HI.out.mono ?_
            rintro e w1 ⟨rfl, h4⟩
            obtain ⟨A2, c2', hs2, h5⟩ := xP_open (h4.cast (by unfold rd4; ac_rfl) : Has st (sep (xP st RR px r) (sep (blk a (.cells #[.pointer (some ⟨p, 0, none⟩)] 39 (0, 0))) (sep (blk pg (.cells #[.bool true] 4 (0, 0))) (sep (reader st RR p r) (sep (blk z (.cells #[.int .i64 ops[i].kind, .int .i64 ops[i].size, .int .u64 ops[i].n, .slice B ops[i].b.length d] 28 (0, 0))) (sep (blk pops (.cells #[.slice (some ⟨b, off, none⟩) ops.length c] 22 (0, 0))) (sep X RR))))))) w1)
            have HS2 := Lib.hid hs2
            clear h4 hs2
            have cx0 := h5.cell 0
            have cx1 := h5.cell 1
            have cz0 := h5.fifth.cell 0
            have cz1 := h5.fifth.cell 1
            have cz2 := h5.fifth.cell 2
            have cz3 := h5.fifth.cell 3
            have lz := h5.fifth.lt
            have lx := h5.lt
            go_wp2_with (fail)
            refine (one_any st RR _ (fun w h => h.right.right.right.right.right.right.right.right) r A2 c2' HS2.out ops[i] hn B d x HST.out _ (h5.alloc _)).mono ?_
            rintro e w2 ⟨rfl, h7⟩
            clear cx0 cx1 cz0 cz1 cz2 cz3 lz lx
            have cx0 := h7.second.cell 0
            have cx1 := h7.second.cell 1
            have fx0 := h7.second.free 0
            have fx1 := h7.second.free 1
            have cg := h7.fourth.cell 0
            have fg := h7.fourth.free 0
            have hxg : px ≠ pg := h7.second.drop2.drop2.ne
            go_wp2_with (fail)
            have h8 := (((h7.second.set 0 (.slice A2 r.length c2')).set 1 (.int .i64 x)).fourth.set 0 (.bool true)).second.set 1 (.int .i64 0)
            simp only [List.setIfInBounds_toArray, List.set_cons_zero, List.set_cons_succ] at h8
            generalize ((((w2.setCell ⟨px, 0, none⟩ (.slice A2 r.length c2')).setCell ⟨px, 1, none⟩ (.int .i64 x)).setCell ⟨pg, 0, none⟩ (.bool true)).setCell ⟨px, 1, none⟩ (.int .i64 0)) = w5 at h8 ⊢
            have h9 := (h8.cast (by ac_rfl) : Has st (sep (blk w1.heap.size (.cells #[.slice A2 r.length c2', .int .i64 0] 36 (0, 0))) (sep (blk px (.cells #[.slice A2 r.length c2', .int .i64 0] 36 (0, 0))) (sep (blk a (.cells #[.pointer (some ⟨p, 0, none⟩)] 39 (0, 0))) (sep (blk pg (.cells #[.bool true] 4 (0, 0))) (sep (reader st RR p r) (sep (blk z (.cells #[.int .i64 ops[i].kind, .int .i64 ops[i].size, .int .u64 ops[i].n, .slice B ops[i].b.length d] 28 (0, 0))) (sep (blk pops (.cells #[.slice (some ⟨b, off, none⟩) ops.length c] 22 (0, 0))) (sep X RR)))))))) w5).right
            clear h8 h7 h5 cx0 cx1 fx0 fx1 cg fg
            have cg := h9.third.cell 0
            have fg := h9.third.free 0
            have ca := h9.second.cell 0
            have cx0 := h9.cell 0
            have h6 := h9.drew.third.set 0 (.bool true)
            simp only [List.setIfInBounds_toArray, List.set_cons_zero] at h6
            have HLeft := Lib.hid (left_any st RR _ (fun w h => h.right.right.right.right.right.right) p r _ h9.drew.fourth)
            go_region_held3 (fun w' => w'.cell? ⟨pg, 0, none⟩ = some (.bool true) ∧ w'.cell? ⟨a, 0, none⟩ = some (.pointer (some ⟨p, 0, none⟩)) ∧ w'.cell? ⟨px, 0, none⟩ = some (.slice A2 r.length c2')) (first | exact ⟨cg, ca, cx0⟩ | exact ⟨h6.cell 0, h6.third.cell 0, h6.second.cell 0⟩)
              (first | (go_at_call 22; refine HLeft.out.mono ?_; rintro e w4 ⟨rfl, rfl⟩))
            all_goals go_wp2
            all_goals
              go_roundw
              case rel => exact ⟨i + 1, r, by omega, by go_num, ((xP_shut A2 c2' HS2.out h6.second).cast (by ac_rfl) : Has st (sep (blk z (.cells #[.int .i64 ops[i].kind, .int .i64 ops[i].size, .int .u64 ops[i].n, .slice B ops[i].b.length d] 28 (0, 0))) (sep (blk a (.cells #[.pointer (some ⟨p, 0, none⟩)] 39 (0, 0))) (sep (blk pops (.cells #[.slice (some ⟨b, off, none⟩) ops.length c] 22 (0, 0))) (sep (xP st RR px r) (sep (blk pg (.cells #[.bool true] 4 (0, 0))) (sep (reader st RR p r) (sep X RR))))))) _).right⟩
              case measure => simp [intOf]; omega
        · obtain rfl : i = ops.length := by omega
          go_wp2_with (fail)
          go_end0
          refine .inl ⟨r, rfl, ?_⟩
          rw [← HRR.out]
          exact (h.right.right.cast (by ac_rfl) : Has st (sep (sep (xP st RR px r) (blk pg (.cells #[.bool true] 4 (0, 0)))) (sep (reader st RR p r) (sep X RR))) _)
end Go.Proofs.Ytkmhopnpkilhiaa
