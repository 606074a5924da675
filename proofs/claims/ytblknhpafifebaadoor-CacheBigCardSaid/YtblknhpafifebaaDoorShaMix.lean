/-
  sha.mix.
-/
import Derived.Test.YtblknhpafifebaaDoorShaWords
import Derived.Deep.DeepCutAuto
import Derived.Test.YtblknhpafifebaaDoorOpl
import Derived.Outline
namespace Go.Proofs.YtblknhpafifebaaDoor
open Go.RowKit Go.Sl Go.Sha
set_option linter.unusedVariables false
set_option linter.unusedSimpArgs false

/-- the rounds' numbers lie where they were laid -/
def Keys (st : World) (R : HProp) : Prop := ∀ w, Has st R w → ∃ T fr, w.heap[1]? = some (.cells (wcells keyList).toArray T fr)

theorem info8 : (Tryd.prog.info? 84).map (·.size) = some 8 := by kernel_rfl
theorem zero8 : (Tryd.prog.info? 84).map (·.zero) = some (some (.agg (wcells (List.replicate 8 0)).toArray)) := by kernel_rfl
theorem info1 : (Tryd.prog.info? 70).map (·.size) = some 1 := by kernel_rfl
theorem zero64 : (Tryd.prog.info? 96).map (·.zero) = some (some (.agg (wcells (List.replicate 64 0)).toArray)) := by kernel_rfl
def plusN (s t : List UInt32) : Nat → List UInt32
  | 0 => s
  | i + 1 => (plusN s t i).set i ((plusN s t i).getD i 0 + t.getD i 0)
theorem plusN_length (s t : List UInt32) (i : Nat) : (plusN s t i).length = s.length := by
  induction i with
  | zero => rfl
  | succ i ih => rw [plusN, List.length_set, ih]
theorem wcells_getD {l : List UInt32} {j : Nat} (hj : j < l.length) : (wcells l).toArray[j]? = some (.int .u32 ((l.getD j 0).toNat : Int)) := by
  rw [List.getElem?_toArray, wcells_get hj, List.getD_eq_getElem?_getD, List.getElem?_eq_getElem hj]; rfl
theorem cells8 {st : World} {R : HProp} {b : Nat} {t : TypeId} {s : S8} {w : World} (h : Has st (sep (wblk b t s.list) R) w) :
    w.cell? ⟨b, 0, none⟩ = some (.int .u32 s.a.toNat) ∧ w.cell? ⟨b, 1, none⟩ = some (.int .u32 s.b.toNat) ∧ w.cell? ⟨b, 2, none⟩ = some (.int .u32 s.c.toNat) ∧ w.cell? ⟨b, 3, none⟩ = some (.int .u32 s.d.toNat) ∧
    w.cell? ⟨b, 4, none⟩ = some (.int .u32 s.e.toNat) ∧ w.cell? ⟨b, 5, none⟩ = some (.int .u32 s.f.toNat) ∧ w.cell? ⟨b, 6, none⟩ = some (.int .u32 s.g.toNat) ∧ w.cell? ⟨b, 7, none⟩ = some (.int .u32 s.h.toNat) :=
  ⟨h.cell 0, h.cell 1, h.cell 2, h.cell 3, h.cell 4, h.cell 5, h.cell 6, h.cell 7⟩

def MixI (st : World) (R : HProp) (A : Option Addr) (l : List UInt8) (s : S8) (c n : Nat) (L : Nat → Bool) (u : Nat → Value) (w' : World) : Prop :=
  Slots (fun i => if i = 0 then some (.slice A l.length c) else if i = 1 then some (.agg (wcells (words l 64)).toArray) else if i = 2 then some (.agg (wcells s.list).toArray) else none) L u ∧
    Has st (sep (var (L 3) (u 3) (wcells (if L 5 then words l 64 else List.replicate 64 0)).toArray 96) (sep (var (L 4) (u 4) (wcells (if L 6 then s.list else List.replicate 8 0)).toArray 84)
      (sep (wblk (n + 1) 84 (List.replicate 8 0)) (sep (wblk n 84 s.list) R)))) w'

set_option maxRecDepth 100000 in
set_option maxHeartbeats 8000000 in
theorem mix_any (st : World) (R : HProp) (s : S8) (l : List UInt8) (A : Option Addr) (c : Nat) (hs : Sees st R 1 (.slice A l.length c) l.length (bcells l)) (h64 : 64 ≤ l.length) (hk : Keys st R) (w : World) (h : Has st R w) :
    Calls Tryd.prog 44 #[.agg (wcells s.list).toArray, .slice A l.length c] w fun e w' => e = .returned (.agg (wcells (mix s l).list).toArray) ∧ Has st R w' := by
  have HS := Lib.hid hs
  have HKeys := Lib.hid hk
  have HI64 : Hid ((Tryd.prog.info? 96).map (·.size) = some (wcells (words l 64)).toArray.size) := Lib.hid (by rw [show (wcells (words l 64)).toArray.size = 64 by simp [wcells_length, words_length]]; exact info64)
  clear hs hk
  go_enter Tryd.func44, Tryd.ntmps44
  go_wp2_with (fail)
  have h2 := (h.alloc (.cells (wcells s.list).toArray 84)).alloc (.cells (wcells (List.replicate 8 0)).toArray 84)
  rw [World.size_alloc] at h2
  refine wp_region_inv (MixI st R A l s c w.heap.size) (by kernel_rfl) (by decide +kernel) (by decide +kernel) ?_ ?_ ?_
  · intro u
    refine ⟨Slots.start _ u, ?_⟩
    simp only [var_false, emp_sep]
    exact h2.drew
  · clear h h2
    refine ⟨?_, ?_, ?_, ?_, ?_, ?_, ?_, trivial⟩
    all_goals (refine RegStep.plain rfl ?_; rintro L u w1 hL hW hD ⟨hS, hH⟩ b hb)
    · exact opw_move _ _ (.inl rfl) (by rw [hb]; kernel_rfl) ⟨_, rfl, hS.step 0 _ (.inr rfl), hH⟩
    · have e0 : b.eval (.tmp 11) = .slice A l.length c := (show _ = u 0 by rw [hb]; kernel_rfl).trans (hS 0 _ rfl (hW.of 0 (by decide)))
      refine opw_call_ret _ _ _ [.slice A l.length c] rfl (by kernel_rfl) (congrArg (fun x => [x]) e0) (schedule_any st _ l A c HS.out.right.right.right.right h64 _ hH) ?_
      rintro e w2 ⟨rfl, h3⟩
      exact ⟨_, rfl, _, rfl, hS.step 1 _ (.inr rfl), h3⟩
    · exact opw_loadRow _ _ rfl w.heap.size (by rw [hb]; kernel_rfl) _ (wcells s.list).toArray _ _ Tryd.underlying84 rfl info8 hH.fourth ⟨_, rfl, hS.step 2 _ (.inr rfl), hH⟩
    · refine opw_alloc _ _ (wcells (List.replicate 64 0)).toArray rfl zero64 (by kernel_rfl) hH ?_
      rintro p w2 _ h3
      rw [hL, var_false, emp_sep] at h3
      refine ⟨_, rfl, hS.step 3 _ (.inl rfl), ?_⟩
      show Has st (sep (var true _ (wcells (if L 5 then words l 64 else List.replicate 64 0)).toArray 96) _) _
      rw [hD.not 5 3 hL (by decide)]
      exact h3.ofVar
    · refine opw_alloc _ _ (wcells (List.replicate 8 0)).toArray rfl zero8 (by kernel_rfl) hH ?_
      rintro p w2 _ h3
      rw [hL, var_false, emp_sep] at h3
      refine ⟨_, rfl, hS.step 4 _ (.inl rfl), Has.second ?_⟩
      show Has st (sep (var true _ (wcells (if L 6 then s.list else List.replicate 8 0)).toArray 84) _) _
      rw [hD.not 6 4 hL (by decide)]
      exact h3.ofVar
    · rw [hW.of 3 (by decide), hL] at hH
      obtain ⟨p, e3, h3⟩ := hH.openVar
      refine opw_storeRow _ _ _ rfl p _ ((show _ = u 3 by rw [hb]; kernel_rfl).trans e3) ((show _ = u 1 by rw [hb]; kernel_rfl).trans (hS 1 _ rfl (hW.of 1 (by decide)))) _ _ (HI64.out) (by simp [wcells_length, words_length]) (wcells_all _) h3 ?_
      intro w2 h4
      refine ⟨_, rfl, hS.step 5 _ (.inl rfl), ?_⟩
      show Has st (sep (var (L 3) (u 3) (wcells (words l 64)).toArray 96) _) _
      rw [hW.of 3 (by decide), e3]
      exact h4.ofVar
    · rw [hW.of 4 (by decide), hL] at hH
      obtain ⟨p, e3, h3⟩ := hH.second.openVar
      refine opw_storeRow _ _ _ rfl p _ ((show _ = u 4 by rw [hb]; kernel_rfl).trans e3) ((show _ = u 2 by rw [hb]; kernel_rfl).trans (hS 2 _ rfl (hW.of 2 (by decide)))) _ (wcells (List.replicate 8 0)).toArray info8 rfl (wcells_all _) h3 ?_
      intro w2 h4
      refine ⟨_, rfl, hS.step 6 _ (.inl rfl), Has.second ?_⟩
      show Has st (sep (var (L 4) (u 4) (wcells s.list).toArray 84) _) _
      rw [hW.of 4 (by decide), e3]
      exact h4.ofVar
  · intro L u w1 hL ⟨hS, hH⟩
    have E0 := hS 0 _ rfl (hL 0 (by decide))
    have E1 := hS 1 _ rfl (hL 1 (by decide))
    have E2 := hS 2 _ rfl (hL 2 (by decide))
    rw [hL 3 (by decide), hL 4 (by decide), hL 5 (by decide), hL 6 (by decide)] at hH
    obtain ⟨p, E3, h3⟩ := hH.openVar
    obtain ⟨q, E4, h4⟩ := h3.second.openVar
    clear hL hS hH h3 h2 h
    simp only [frame_cons, frame_nil, E0, E1, E2, E3, E4]
    have H4 := Lib.hid h4
    clear E0 E1 E2 E3 E4 h4
    go_wp2_with (fail)
    go_loopw [14] (fun v14 wr => ∃ i : Nat, i ≤ 64 ∧ v14 = .int .i64 i ∧ Has st (sep (wblk q 84 (turns l s i).list) (sep (wblk p 96 (words l 64)) (sep (wblk (w.heap.size + 1) 84 (List.replicate 8 0)) (sep (wblk w.heap.size 84 s.list) R)))) wr) (fun v14 _ => 64 - (intOf v14).toNat)
    case atStart => exact ⟨0, Nat.zero_le _, rfl, H4.out⟩
    case round =>
      obtain ⟨i, hi, rfl, h2⟩ := hrel
      clear H4
      by_cases hlt : i < 64
      · generalize hT : turns l s i = T at h2
        obtain ⟨ta, tb, tc, td, te, tf, tg, th⟩ := T
        obtain ⟨wi, hwi⟩ : ∃ wi, wi = (words l 64).getD i 0 := ⟨_, rfl⟩
        obtain ⟨ki, hki⟩ : ∃ ki, ki = keyList.getD i 0 := ⟨_, rfl⟩
        have gw : (wcells (words l 64)).toArray[i]? = some (.int .u32 (wi.toNat : Int)) := by
          rw [hwi, List.getElem?_toArray, wcells_get (by rw [words_length]; exact hlt), List.getD_eq_getElem?_getD, List.getElem?_eq_getElem (by rw [words_length]; exact hlt)]; rfl
        have gk : (wcells keyList).toArray[i]? = some (.int .u32 (ki.toNat : Int)) := by
          rw [hki, List.getElem?_toArray, wcells_get (show i < keyList.length from hlt), List.getD_eq_getElem?_getD, List.getElem?_eq_getElem (show i < keyList.length from hlt)]; rfl
        have HC : Hid (∀ w', Has st (sep (wblk q 84 [ta, tb, tc, td, te, tf, tg, th]) (sep (wblk p 96 (words l 64)) (sep (wblk (w.heap.size + 1) 84 (List.replicate 8 0)) (sep (wblk w.heap.size 84 s.list) R)))) w' → w'.cell? ⟨q, 0, none⟩ = some (.int .u32 (ta.toNat : Int)) ∧ w'.cell? ⟨q, 1, none⟩ = some (.int .u32 (tb.toNat : Int)) ∧ w'.cell? ⟨q, 2, none⟩ = some (.int .u32 (tc.toNat : Int)) ∧
            w'.cell? ⟨q, 3, none⟩ = some (.int .u32 (td.toNat : Int)) ∧ w'.cell? ⟨q, 4, none⟩ = some (.int .u32 (te.toNat : Int)) ∧ w'.cell? ⟨q, 5, none⟩ = some (.int .u32 (tf.toNat : Int)) ∧ w'.cell? ⟨q, 6, none⟩ = some (.int .u32 (tg.toNat : Int)) ∧
            w'.cell? ⟨q, 7, none⟩ = some (.int .u32 (th.toNat : Int)) ∧ w'.cell? ⟨p, i, none⟩ = some (.int .u32 (wi.toNat : Int)) ∧ w'.cell? ⟨1, i, none⟩ = some (.int .u32 (ki.toNat : Int))) := Lib.hid fun w' h' => by
          obtain ⟨T, fr, hk⟩ := HKeys.out w' h'.right.right.right.right
          exact ⟨h'.cell 0, h'.cell 1, h'.cell 2, h'.cell 3, h'.cell 4, h'.cell 5, h'.cell 6, h'.cell 7, (h'.second.cell i).trans gw, (cell_of_row _ _ _ _ _ _ hk).trans gk⟩
        have pi : (0 : Int) ≤ (i : Int) ∧ (i : Int) < 64 := by omega
        have H2 := Lib.hid h2
        have HT := Lib.hid hT
        have HW := Lib.hid hwi
        have HK := Lib.hid hki
        clear h2 hT hwi hki gw gk
        go_wp2_with (fail)
        refine wp_region_inv (fun L u w' => Slots (fun kk => ([some (.pointer (some ⟨q, 7, none⟩)), some (.int .u32 ((th).toNat : Int)), some (.pointer (some ⟨q, 4, none⟩)), some (.int .u32 ((te).toNat : Int)), some (.int .u32 ((rr te 6).toNat : Int)), some (.pointer (some ⟨q, 4, none⟩)), some (.int .u32 ((te).toNat : Int)), some (.int .u32 ((rr te 11).toNat : Int)), some (.int .u32 (((rr te 6 ^^^ rr te 11)).toNat : Int)), some (.pointer (some ⟨q, 4, none⟩)), some (.int .u32 ((te).toNat : Int)), some (.int .u32 ((rr te 25).toNat : Int)), some (.int .u32 ((((rr te 6 ^^^ rr te 11) ^^^ rr te 25)).toNat : Int)), some (.int .u32 (((th + ((rr te 6 ^^^ rr te 11) ^^^ rr te 25))).toNat : Int)), some (.pointer (some ⟨q, 4, none⟩)), some (.int .u32 ((te).toNat : Int)), some (.pointer (some ⟨q, 5, none⟩)), some (.int .u32 ((tf).toNat : Int)), some (.int .u32 (((te &&& tf)).toNat : Int)), some (.pointer (some ⟨q, 4, none⟩)), some (.int .u32 ((te).toNat : Int)), some (.int .u32 (((~~~ te)).toNat : Int)), some (.pointer (some ⟨q, 6, none⟩)), some (.int .u32 ((tg).toNat : Int)), some (.int .u32 ((((~~~ te) &&& tg)).toNat : Int)), some (.int .u32 ((((te &&& tf) ^^^ ((~~~ te) &&& tg))).toNat : Int)), some (.int .u32 ((((th + ((rr te 6 ^^^ rr te 11) ^^^ rr te 25)) + ((te &&& tf) ^^^ ((~~~ te) &&& tg)))).toNat : Int)), some (.int .i64 ((i : Nat) : Int)), some (.pointer (some ⟨1, 0 + i, none⟩)), some (.int .u32 ((ki).toNat : Int)), some (.int .u32 (((((th + ((rr te 6 ^^^ rr te 11) ^^^ rr te 25)) + ((te &&& tf) ^^^ ((~~~ te) &&& tg))) + ki)).toNat : Int)), some (.int .i64 ((i : Nat) : Int)), some (.pointer (some ⟨p, 0 + i, none⟩)), some (.int .u32 ((wi).toNat : Int)), some (.int .u32 ((((((th + ((rr te 6 ^^^ rr te 11) ^^^ rr te 25)) + ((te &&& tf) ^^^ ((~~~ te) &&& tg))) + ki) + wi)).toNat : Int)), some (.int .u32 ((tx te tf tg th ki wi).toNat : Int))] : List (Option Value)).getD kk none) L u ∧ Has st (sep (wblk q 84 [ta, tb, tc, td, te, tf, tg, th]) (sep (wblk p 96 (words l 64)) (sep (wblk (w.heap.size + 1) 84 (List.replicate 8 0)) (sep (wblk w.heap.size 84 s.list) R)))) w') (by kernel_rfl) (by decide +kernel) (by decide +kernel) (fun u => ⟨Slots.start _ u, H2.out.drew⟩) ?_ ?_
        · refine ⟨?_, ?_, ?_, ?_, ?_, ?_, ?_, ?_, ?_, ?_, ?_, ?_, ?_, ?_, ?_, ?_, ?_, ?_, ?_, ?_, ?_, ?_, ?_, ?_, ?_, ?_, ?_, ?_, ?_, ?_, ?_, ?_, ?_, ?_, ?_, ?_, trivial⟩
          all_goals (refine RegStep.plain rfl ?_; rintro L u w1 hL hW hD ⟨hS, hH⟩ b hb)
          · exact opw_indexArr _ _ _ _ _ rfl Tryd.underlying84 info1 (q) (0) (7) (by rw [hb]; kernel_rfl) _ rfl (by decide) ⟨_, rfl, hS.step 0 _ (.inr rfl), hH⟩
          · exact opw_load1 _ _ rfl _ Tryd.underlying70 rfl _ _ ((show _ = u 0 by rw [hb]; kernel_rfl).trans (hS 0 _ rfl (hW.of 0 (by decide)))) ((HC.out _ hH).2.2.2.2.2.2.2.1) ⟨_, rfl, hS.step 1 _ (.inr rfl), hH⟩
          · exact opw_indexArr _ _ _ _ _ rfl Tryd.underlying84 info1 (q) (0) (4) (by rw [hb]; kernel_rfl) _ rfl (by decide) ⟨_, rfl, hS.step 2 _ (.inr rfl), hH⟩
          · exact opw_load1 _ _ rfl _ Tryd.underlying70 rfl _ _ ((show _ = u 2 by rw [hb]; kernel_rfl).trans (hS 2 _ rfl (hW.of 2 (by decide)))) ((HC.out _ hH).2.2.2.2.1) ⟨_, rfl, hS.step 3 _ (.inr rfl), hH⟩
          · exact opw_call_ret _ _ _ [(.int .u32 ((te).toNat : Int)), (.int .i64 ((6 : Nat) : Int))] rfl (by kernel_rfl) (list2 ((show _ = u 3 by rw [hb]; kernel_rfl).trans (hS 3 _ rfl (hW.of 3 (by decide)))) (list2 rfl rfl)) (ror_any te 6 (by decide) w1) (fun e w2 he => by obtain ⟨rfl, rfl⟩ := he; exact ⟨_, rfl, _, rfl, hS.step 4 _ (.inr rfl), hH⟩)
          · exact opw_indexArr _ _ _ _ _ rfl Tryd.underlying84 info1 (q) (0) (4) (by rw [hb]; kernel_rfl) _ rfl (by decide) ⟨_, rfl, hS.step 5 _ (.inr rfl), hH⟩
          · exact opw_load1 _ _ rfl _ Tryd.underlying70 rfl _ _ ((show _ = u 5 by rw [hb]; kernel_rfl).trans (hS 5 _ rfl (hW.of 5 (by decide)))) ((HC.out _ hH).2.2.2.2.1) ⟨_, rfl, hS.step 6 _ (.inr rfl), hH⟩
          · exact opw_call_ret _ _ _ [(.int .u32 ((te).toNat : Int)), (.int .i64 ((11 : Nat) : Int))] rfl (by kernel_rfl) (list2 ((show _ = u 6 by rw [hb]; kernel_rfl).trans (hS 6 _ rfl (hW.of 6 (by decide)))) (list2 rfl rfl)) (ror_any te 11 (by decide) w1) (fun e w2 he => by obtain ⟨rfl, rfl⟩ := he; exact ⟨_, rfl, _, rfl, hS.step 7 _ (.inr rfl), hH⟩)
          · exact opw_bin32 _ _ _ _ _ _ _ (rr te 6 ^^^ rr te 11) rfl ((show _ = u 4 by rw [hb]; kernel_rfl).trans (hS 4 _ rfl (hW.of 4 (by decide)))) ((show _ = u 7 by rw [hb]; kernel_rfl).trans (hS 7 _ rfl (hW.of 7 (by decide)))) (.inr (.inl ⟨rfl, rfl⟩)) ⟨_, rfl, hS.step 8 _ (.inr rfl), hH⟩
          · exact opw_indexArr _ _ _ _ _ rfl Tryd.underlying84 info1 (q) (0) (4) (by rw [hb]; kernel_rfl) _ rfl (by decide) ⟨_, rfl, hS.step 9 _ (.inr rfl), hH⟩
          · exact opw_load1 _ _ rfl _ Tryd.underlying70 rfl _ _ ((show _ = u 9 by rw [hb]; kernel_rfl).trans (hS 9 _ rfl (hW.of 9 (by decide)))) ((HC.out _ hH).2.2.2.2.1) ⟨_, rfl, hS.step 10 _ (.inr rfl), hH⟩
          · exact opw_call_ret _ _ _ [(.int .u32 ((te).toNat : Int)), (.int .i64 ((25 : Nat) : Int))] rfl (by kernel_rfl) (list2 ((show _ = u 10 by rw [hb]; kernel_rfl).trans (hS 10 _ rfl (hW.of 10 (by decide)))) (list2 rfl rfl)) (ror_any te 25 (by decide) w1) (fun e w2 he => by obtain ⟨rfl, rfl⟩ := he; exact ⟨_, rfl, _, rfl, hS.step 11 _ (.inr rfl), hH⟩)
          · exact opw_bin32 _ _ _ _ _ _ _ ((rr te 6 ^^^ rr te 11) ^^^ rr te 25) rfl ((show _ = u 8 by rw [hb]; kernel_rfl).trans (hS 8 _ rfl (hW.of 8 (by decide)))) ((show _ = u 11 by rw [hb]; kernel_rfl).trans (hS 11 _ rfl (hW.of 11 (by decide)))) (.inr (.inl ⟨rfl, rfl⟩)) ⟨_, rfl, hS.step 12 _ (.inr rfl), hH⟩
          · exact opw_bin32 _ _ _ _ _ _ _ (th + ((rr te 6 ^^^ rr te 11) ^^^ rr te 25)) rfl ((show _ = u 1 by rw [hb]; kernel_rfl).trans (hS 1 _ rfl (hW.of 1 (by decide)))) ((show _ = u 12 by rw [hb]; kernel_rfl).trans (hS 12 _ rfl (hW.of 12 (by decide)))) (.inl ⟨rfl, rfl⟩) ⟨_, rfl, hS.step 13 _ (.inr rfl), hH⟩
          · exact opw_indexArr _ _ _ _ _ rfl Tryd.underlying84 info1 (q) (0) (4) (by rw [hb]; kernel_rfl) _ rfl (by decide) ⟨_, rfl, hS.step 14 _ (.inr rfl), hH⟩
          · exact opw_load1 _ _ rfl _ Tryd.underlying70 rfl _ _ ((show _ = u 14 by rw [hb]; kernel_rfl).trans (hS 14 _ rfl (hW.of 14 (by decide)))) ((HC.out _ hH).2.2.2.2.1) ⟨_, rfl, hS.step 15 _ (.inr rfl), hH⟩
          · exact opw_indexArr _ _ _ _ _ rfl Tryd.underlying84 info1 (q) (0) (5) (by rw [hb]; kernel_rfl) _ rfl (by decide) ⟨_, rfl, hS.step 16 _ (.inr rfl), hH⟩
          · exact opw_load1 _ _ rfl _ Tryd.underlying70 rfl _ _ ((show _ = u 16 by rw [hb]; kernel_rfl).trans (hS 16 _ rfl (hW.of 16 (by decide)))) ((HC.out _ hH).2.2.2.2.2.1) ⟨_, rfl, hS.step 17 _ (.inr rfl), hH⟩
          · exact opw_bin32 _ _ _ _ _ _ _ (te &&& tf) rfl ((show _ = u 15 by rw [hb]; kernel_rfl).trans (hS 15 _ rfl (hW.of 15 (by decide)))) ((show _ = u 17 by rw [hb]; kernel_rfl).trans (hS 17 _ rfl (hW.of 17 (by decide)))) (.inr (.inr (.inl ⟨rfl, rfl⟩))) ⟨_, rfl, hS.step 18 _ (.inr rfl), hH⟩
          · exact opw_indexArr _ _ _ _ _ rfl Tryd.underlying84 info1 (q) (0) (4) (by rw [hb]; kernel_rfl) _ rfl (by decide) ⟨_, rfl, hS.step 19 _ (.inr rfl), hH⟩
          · exact opw_load1 _ _ rfl _ Tryd.underlying70 rfl _ _ ((show _ = u 19 by rw [hb]; kernel_rfl).trans (hS 19 _ rfl (hW.of 19 (by decide)))) ((HC.out _ hH).2.2.2.2.1) ⟨_, rfl, hS.step 20 _ (.inr rfl), hH⟩
          · exact opw_not32 _ _ _ rfl ((show _ = u 20 by rw [hb]; kernel_rfl).trans (hS 20 _ rfl (hW.of 20 (by decide)))) ⟨_, rfl, hS.step 21 _ (.inr rfl), hH⟩
          · exact opw_indexArr _ _ _ _ _ rfl Tryd.underlying84 info1 (q) (0) (6) (by rw [hb]; kernel_rfl) _ rfl (by decide) ⟨_, rfl, hS.step 22 _ (.inr rfl), hH⟩
          · exact opw_load1 _ _ rfl _ Tryd.underlying70 rfl _ _ ((show _ = u 22 by rw [hb]; kernel_rfl).trans (hS 22 _ rfl (hW.of 22 (by decide)))) ((HC.out _ hH).2.2.2.2.2.2.1) ⟨_, rfl, hS.step 23 _ (.inr rfl), hH⟩
          · exact opw_bin32 _ _ _ _ _ _ _ ((~~~ te) &&& tg) rfl ((show _ = u 21 by rw [hb]; kernel_rfl).trans (hS 21 _ rfl (hW.of 21 (by decide)))) ((show _ = u 23 by rw [hb]; kernel_rfl).trans (hS 23 _ rfl (hW.of 23 (by decide)))) (.inr (.inr (.inl ⟨rfl, rfl⟩))) ⟨_, rfl, hS.step 24 _ (.inr rfl), hH⟩
          · exact opw_bin32 _ _ _ _ _ _ _ ((te &&& tf) ^^^ ((~~~ te) &&& tg)) rfl ((show _ = u 18 by rw [hb]; kernel_rfl).trans (hS 18 _ rfl (hW.of 18 (by decide)))) ((show _ = u 24 by rw [hb]; kernel_rfl).trans (hS 24 _ rfl (hW.of 24 (by decide)))) (.inr (.inl ⟨rfl, rfl⟩)) ⟨_, rfl, hS.step 25 _ (.inr rfl), hH⟩
          · exact opw_bin32 _ _ _ _ _ _ _ ((th + ((rr te 6 ^^^ rr te 11) ^^^ rr te 25)) + ((te &&& tf) ^^^ ((~~~ te) &&& tg))) rfl ((show _ = u 13 by rw [hb]; kernel_rfl).trans (hS 13 _ rfl (hW.of 13 (by decide)))) ((show _ = u 25 by rw [hb]; kernel_rfl).trans (hS 25 _ rfl (hW.of 25 (by decide)))) (.inl ⟨rfl, rfl⟩) ⟨_, rfl, hS.step 26 _ (.inr rfl), hH⟩
          · exact opw_move _ _ (.inl rfl) (by rw [hb]; kernel_rfl) ⟨_, rfl, hS.step 27 _ (.inr rfl), hH⟩
          · exact opw_indexArr _ _ _ _ _ rfl Tryd.underlying96 info1 (1) (0) (i) rfl _ ((show _ = u 27 by rw [hb]; kernel_rfl).trans (hS 27 _ rfl (hW.of 27 (by decide)))) hlt ⟨_, rfl, hS.step 28 _ (.inr rfl), hH⟩
          · exact opw_load1 _ _ rfl _ Tryd.underlying70 rfl _ _ ((show _ = u 28 by rw [hb]; kernel_rfl).trans (hS 28 _ rfl (hW.of 28 (by decide)))) ((Nat.zero_add i).symm ▸ (HC.out _ hH).2.2.2.2.2.2.2.2.2) ⟨_, rfl, hS.step 29 _ (.inr rfl), hH⟩
          · exact opw_bin32 _ _ _ _ _ _ _ (((th + ((rr te 6 ^^^ rr te 11) ^^^ rr te 25)) + ((te &&& tf) ^^^ ((~~~ te) &&& tg))) + ki) rfl ((show _ = u 26 by rw [hb]; kernel_rfl).trans (hS 26 _ rfl (hW.of 26 (by decide)))) ((show _ = u 29 by rw [hb]; kernel_rfl).trans (hS 29 _ rfl (hW.of 29 (by decide)))) (.inl ⟨rfl, rfl⟩) ⟨_, rfl, hS.step 30 _ (.inr rfl), hH⟩
          · exact opw_move _ _ (.inl rfl) (by rw [hb]; kernel_rfl) ⟨_, rfl, hS.step 31 _ (.inr rfl), hH⟩
          · exact opw_indexArr _ _ _ _ _ rfl Tryd.underlying96 info1 (p) (0) (i) (by rw [hb]; kernel_rfl) _ ((show _ = u 31 by rw [hb]; kernel_rfl).trans (hS 31 _ rfl (hW.of 31 (by decide)))) hlt ⟨_, rfl, hS.step 32 _ (.inr rfl), hH⟩
          · exact opw_load1 _ _ rfl _ Tryd.underlying70 rfl _ _ ((show _ = u 32 by rw [hb]; kernel_rfl).trans (hS 32 _ rfl (hW.of 32 (by decide)))) ((Nat.zero_add i).symm ▸ (HC.out _ hH).2.2.2.2.2.2.2.2.1) ⟨_, rfl, hS.step 33 _ (.inr rfl), hH⟩
          · exact opw_bin32 _ _ _ _ _ _ _ ((((th + ((rr te 6 ^^^ rr te 11) ^^^ rr te 25)) + ((te &&& tf) ^^^ ((~~~ te) &&& tg))) + ki) + wi) rfl ((show _ = u 30 by rw [hb]; kernel_rfl).trans (hS 30 _ rfl (hW.of 30 (by decide)))) ((show _ = u 33 by rw [hb]; kernel_rfl).trans (hS 33 _ rfl (hW.of 33 (by decide)))) (.inl ⟨rfl, rfl⟩) ⟨_, rfl, hS.step 34 _ (.inr rfl), hH⟩
          · exact opw_move _ _ (.inr rfl) ((show _ = u 34 by rw [hb]; kernel_rfl).trans (hS 34 _ rfl (hW.of 34 (by decide)))) ⟨_, rfl, hS.step 35 _ (.inr rfl), hH⟩
        intro L u w3 hL ⟨hS, hH⟩
        have E := hS 35 _ rfl (hL 35 (by decide))
        simp only [frame_cons, frame_nil, E]
        generalize hX : tx te tf tg th ki wi = X
        have HX := Lib.hid hX
        have H3 := Lib.hid hH
        clear hL hS hH E hX H2
        go_wp2_with (fail)
        refine wp_region_inv (fun L u w' => Slots (fun kk => ([some (.pointer (some ⟨q, 0, none⟩)), some (.int .u32 ((ta).toNat : Int)), some (.int .u32 ((rr ta 2).toNat : Int)), some (.pointer (some ⟨q, 0, none⟩)), some (.int .u32 ((ta).toNat : Int)), some (.int .u32 ((rr ta 13).toNat : Int)), some (.int .u32 (((rr ta 2 ^^^ rr ta 13)).toNat : Int)), some (.pointer (some ⟨q, 0, none⟩)), some (.int .u32 ((ta).toNat : Int)), some (.int .u32 ((rr ta 22).toNat : Int)), some (.int .u32 ((((rr ta 2 ^^^ rr ta 13) ^^^ rr ta 22)).toNat : Int)), some (.pointer (some ⟨q, 0, none⟩)), some (.int .u32 ((ta).toNat : Int)), some (.pointer (some ⟨q, 1, none⟩)), some (.int .u32 ((tb).toNat : Int)), some (.int .u32 (((ta &&& tb)).toNat : Int)), some (.pointer (some ⟨q, 0, none⟩)), some (.int .u32 ((ta).toNat : Int)), some (.pointer (some ⟨q, 2, none⟩)), some (.int .u32 ((tc).toNat : Int)), some (.int .u32 (((ta &&& tc)).toNat : Int)), some (.int .u32 ((((ta &&& tb) ^^^ (ta &&& tc))).toNat : Int)), some (.pointer (some ⟨q, 1, none⟩)), some (.int .u32 ((tb).toNat : Int)), some (.pointer (some ⟨q, 2, none⟩)), some (.int .u32 ((tc).toNat : Int)), some (.int .u32 (((tb &&& tc)).toNat : Int)), some (.int .u32 (((((ta &&& tb) ^^^ (ta &&& tc)) ^^^ (tb &&& tc))).toNat : Int)), some (.int .u32 (((((rr ta 2 ^^^ rr ta 13) ^^^ rr ta 22) + (((ta &&& tb) ^^^ (ta &&& tc)) ^^^ (tb &&& tc)))).toNat : Int)), some (.int .u32 ((ty ta tb tc).toNat : Int))] : List (Option Value)).getD kk none) L u ∧ Has st (sep (wblk q 84 [ta, tb, tc, td, te, tf, tg, th]) (sep (wblk p 96 (words l 64)) (sep (wblk (w.heap.size + 1) 84 (List.replicate 8 0)) (sep (wblk w.heap.size 84 s.list) R)))) w') (by kernel_rfl) (by decide +kernel) (by decide +kernel) (fun u => ⟨Slots.start _ u, H3.out.drew⟩) ?_ ?_
        · refine ⟨?_, ?_, ?_, ?_, ?_, ?_, ?_, ?_, ?_, ?_, ?_, ?_, ?_, ?_, ?_, ?_, ?_, ?_, ?_, ?_, ?_, ?_, ?_, ?_, ?_, ?_, ?_, ?_, ?_, ?_, trivial⟩
          all_goals (refine RegStep.plain rfl ?_; rintro L u w1 hL hW hD ⟨hS, hH⟩ b hb)
          · exact opw_indexArr _ _ _ _ _ rfl Tryd.underlying84 info1 (q) (0) (0) (by rw [hb]; kernel_rfl) _ rfl (by decide) ⟨_, rfl, hS.step 0 _ (.inr rfl), hH⟩
          · exact opw_load1 _ _ rfl _ Tryd.underlying70 rfl _ _ ((show _ = u 0 by rw [hb]; kernel_rfl).trans (hS 0 _ rfl (hW.of 0 (by decide)))) ((HC.out _ hH).1) ⟨_, rfl, hS.step 1 _ (.inr rfl), hH⟩
          · exact opw_call_ret _ _ _ [(.int .u32 ((ta).toNat : Int)), (.int .i64 ((2 : Nat) : Int))] rfl (by kernel_rfl) (list2 ((show _ = u 1 by rw [hb]; kernel_rfl).trans (hS 1 _ rfl (hW.of 1 (by decide)))) (list2 rfl rfl)) (ror_any ta 2 (by decide) w1) (fun e w2 he => by obtain ⟨rfl, rfl⟩ := he; exact ⟨_, rfl, _, rfl, hS.step 2 _ (.inr rfl), hH⟩)
          · exact opw_indexArr _ _ _ _ _ rfl Tryd.underlying84 info1 (q) (0) (0) (by rw [hb]; kernel_rfl) _ rfl (by decide) ⟨_, rfl, hS.step 3 _ (.inr rfl), hH⟩
          · exact opw_load1 _ _ rfl _ Tryd.underlying70 rfl _ _ ((show _ = u 3 by rw [hb]; kernel_rfl).trans (hS 3 _ rfl (hW.of 3 (by decide)))) ((HC.out _ hH).1) ⟨_, rfl, hS.step 4 _ (.inr rfl), hH⟩
          · exact opw_call_ret _ _ _ [(.int .u32 ((ta).toNat : Int)), (.int .i64 ((13 : Nat) : Int))] rfl (by kernel_rfl) (list2 ((show _ = u 4 by rw [hb]; kernel_rfl).trans (hS 4 _ rfl (hW.of 4 (by decide)))) (list2 rfl rfl)) (ror_any ta 13 (by decide) w1) (fun e w2 he => by obtain ⟨rfl, rfl⟩ := he; exact ⟨_, rfl, _, rfl, hS.step 5 _ (.inr rfl), hH⟩)
          · exact opw_bin32 _ _ _ _ _ _ _ (rr ta 2 ^^^ rr ta 13) rfl ((show _ = u 2 by rw [hb]; kernel_rfl).trans (hS 2 _ rfl (hW.of 2 (by decide)))) ((show _ = u 5 by rw [hb]; kernel_rfl).trans (hS 5 _ rfl (hW.of 5 (by decide)))) (.inr (.inl ⟨rfl, rfl⟩)) ⟨_, rfl, hS.step 6 _ (.inr rfl), hH⟩
          · exact opw_indexArr _ _ _ _ _ rfl Tryd.underlying84 info1 (q) (0) (0) (by rw [hb]; kernel_rfl) _ rfl (by decide) ⟨_, rfl, hS.step 7 _ (.inr rfl), hH⟩
          · exact opw_load1 _ _ rfl _ Tryd.underlying70 rfl _ _ ((show _ = u 7 by rw [hb]; kernel_rfl).trans (hS 7 _ rfl (hW.of 7 (by decide)))) ((HC.out _ hH).1) ⟨_, rfl, hS.step 8 _ (.inr rfl), hH⟩
          · exact opw_call_ret _ _ _ [(.int .u32 ((ta).toNat : Int)), (.int .i64 ((22 : Nat) : Int))] rfl (by kernel_rfl) (list2 ((show _ = u 8 by rw [hb]; kernel_rfl).trans (hS 8 _ rfl (hW.of 8 (by decide)))) (list2 rfl rfl)) (ror_any ta 22 (by decide) w1) (fun e w2 he => by obtain ⟨rfl, rfl⟩ := he; exact ⟨_, rfl, _, rfl, hS.step 9 _ (.inr rfl), hH⟩)
          · exact opw_bin32 _ _ _ _ _ _ _ ((rr ta 2 ^^^ rr ta 13) ^^^ rr ta 22) rfl ((show _ = u 6 by rw [hb]; kernel_rfl).trans (hS 6 _ rfl (hW.of 6 (by decide)))) ((show _ = u 9 by rw [hb]; kernel_rfl).trans (hS 9 _ rfl (hW.of 9 (by decide)))) (.inr (.inl ⟨rfl, rfl⟩)) ⟨_, rfl, hS.step 10 _ (.inr rfl), hH⟩
          · exact opw_indexArr _ _ _ _ _ rfl Tryd.underlying84 info1 (q) (0) (0) (by rw [hb]; kernel_rfl) _ rfl (by decide) ⟨_, rfl, hS.step 11 _ (.inr rfl), hH⟩
          · exact opw_load1 _ _ rfl _ Tryd.underlying70 rfl _ _ ((show _ = u 11 by rw [hb]; kernel_rfl).trans (hS 11 _ rfl (hW.of 11 (by decide)))) ((HC.out _ hH).1) ⟨_, rfl, hS.step 12 _ (.inr rfl), hH⟩
          · exact opw_indexArr _ _ _ _ _ rfl Tryd.underlying84 info1 (q) (0) (1) (by rw [hb]; kernel_rfl) _ rfl (by decide) ⟨_, rfl, hS.step 13 _ (.inr rfl), hH⟩
          · exact opw_load1 _ _ rfl _ Tryd.underlying70 rfl _ _ ((show _ = u 13 by rw [hb]; kernel_rfl).trans (hS 13 _ rfl (hW.of 13 (by decide)))) ((HC.out _ hH).2.1) ⟨_, rfl, hS.step 14 _ (.inr rfl), hH⟩
          · exact opw_bin32 _ _ _ _ _ _ _ (ta &&& tb) rfl ((show _ = u 12 by rw [hb]; kernel_rfl).trans (hS 12 _ rfl (hW.of 12 (by decide)))) ((show _ = u 14 by rw [hb]; kernel_rfl).trans (hS 14 _ rfl (hW.of 14 (by decide)))) (.inr (.inr (.inl ⟨rfl, rfl⟩))) ⟨_, rfl, hS.step 15 _ (.inr rfl), hH⟩
          · exact opw_indexArr _ _ _ _ _ rfl Tryd.underlying84 info1 (q) (0) (0) (by rw [hb]; kernel_rfl) _ rfl (by decide) ⟨_, rfl, hS.step 16 _ (.inr rfl), hH⟩
          · exact opw_load1 _ _ rfl _ Tryd.underlying70 rfl _ _ ((show _ = u 16 by rw [hb]; kernel_rfl).trans (hS 16 _ rfl (hW.of 16 (by decide)))) ((HC.out _ hH).1) ⟨_, rfl, hS.step 17 _ (.inr rfl), hH⟩
          · exact opw_indexArr _ _ _ _ _ rfl Tryd.underlying84 info1 (q) (0) (2) (by rw [hb]; kernel_rfl) _ rfl (by decide) ⟨_, rfl, hS.step 18 _ (.inr rfl), hH⟩
          · exact opw_load1 _ _ rfl _ Tryd.underlying70 rfl _ _ ((show _ = u 18 by rw [hb]; kernel_rfl).trans (hS 18 _ rfl (hW.of 18 (by decide)))) ((HC.out _ hH).2.2.1) ⟨_, rfl, hS.step 19 _ (.inr rfl), hH⟩
          · exact opw_bin32 _ _ _ _ _ _ _ (ta &&& tc) rfl ((show _ = u 17 by rw [hb]; kernel_rfl).trans (hS 17 _ rfl (hW.of 17 (by decide)))) ((show _ = u 19 by rw [hb]; kernel_rfl).trans (hS 19 _ rfl (hW.of 19 (by decide)))) (.inr (.inr (.inl ⟨rfl, rfl⟩))) ⟨_, rfl, hS.step 20 _ (.inr rfl), hH⟩
          · exact opw_bin32 _ _ _ _ _ _ _ ((ta &&& tb) ^^^ (ta &&& tc)) rfl ((show _ = u 15 by rw [hb]; kernel_rfl).trans (hS 15 _ rfl (hW.of 15 (by decide)))) ((show _ = u 20 by rw [hb]; kernel_rfl).trans (hS 20 _ rfl (hW.of 20 (by decide)))) (.inr (.inl ⟨rfl, rfl⟩)) ⟨_, rfl, hS.step 21 _ (.inr rfl), hH⟩
          · exact opw_indexArr _ _ _ _ _ rfl Tryd.underlying84 info1 (q) (0) (1) (by rw [hb]; kernel_rfl) _ rfl (by decide) ⟨_, rfl, hS.step 22 _ (.inr rfl), hH⟩
          · exact opw_load1 _ _ rfl _ Tryd.underlying70 rfl _ _ ((show _ = u 22 by rw [hb]; kernel_rfl).trans (hS 22 _ rfl (hW.of 22 (by decide)))) ((HC.out _ hH).2.1) ⟨_, rfl, hS.step 23 _ (.inr rfl), hH⟩
          · exact opw_indexArr _ _ _ _ _ rfl Tryd.underlying84 info1 (q) (0) (2) (by rw [hb]; kernel_rfl) _ rfl (by decide) ⟨_, rfl, hS.step 24 _ (.inr rfl), hH⟩
          · exact opw_load1 _ _ rfl _ Tryd.underlying70 rfl _ _ ((show _ = u 24 by rw [hb]; kernel_rfl).trans (hS 24 _ rfl (hW.of 24 (by decide)))) ((HC.out _ hH).2.2.1) ⟨_, rfl, hS.step 25 _ (.inr rfl), hH⟩
          · exact opw_bin32 _ _ _ _ _ _ _ (tb &&& tc) rfl ((show _ = u 23 by rw [hb]; kernel_rfl).trans (hS 23 _ rfl (hW.of 23 (by decide)))) ((show _ = u 25 by rw [hb]; kernel_rfl).trans (hS 25 _ rfl (hW.of 25 (by decide)))) (.inr (.inr (.inl ⟨rfl, rfl⟩))) ⟨_, rfl, hS.step 26 _ (.inr rfl), hH⟩
          · exact opw_bin32 _ _ _ _ _ _ _ (((ta &&& tb) ^^^ (ta &&& tc)) ^^^ (tb &&& tc)) rfl ((show _ = u 21 by rw [hb]; kernel_rfl).trans (hS 21 _ rfl (hW.of 21 (by decide)))) ((show _ = u 26 by rw [hb]; kernel_rfl).trans (hS 26 _ rfl (hW.of 26 (by decide)))) (.inr (.inl ⟨rfl, rfl⟩)) ⟨_, rfl, hS.step 27 _ (.inr rfl), hH⟩
          · exact opw_bin32 _ _ _ _ _ _ _ (((rr ta 2 ^^^ rr ta 13) ^^^ rr ta 22) + (((ta &&& tb) ^^^ (ta &&& tc)) ^^^ (tb &&& tc))) rfl ((show _ = u 10 by rw [hb]; kernel_rfl).trans (hS 10 _ rfl (hW.of 10 (by decide)))) ((show _ = u 27 by rw [hb]; kernel_rfl).trans (hS 27 _ rfl (hW.of 27 (by decide)))) (.inl ⟨rfl, rfl⟩) ⟨_, rfl, hS.step 28 _ (.inr rfl), hH⟩
          · exact opw_move _ _ (.inr rfl) ((show _ = u 28 by rw [hb]; kernel_rfl).trans (hS 28 _ rfl (hW.of 28 (by decide)))) ⟨_, rfl, hS.step 29 _ (.inr rfl), hH⟩
        intro L2 u2 w4 hL ⟨hS, hH⟩
        have E := hS 29 _ rfl (hL 29 (by decide))
        simp only [frame_cons, frame_nil, E]
        generalize hY : ty ta tb tc = Y
        have HY := Lib.hid hY
        have H4 := Lib.hid hH
        clear hL hS E hY H3
        obtain ⟨g0, g1, g2, g3, g4, g5, g6, g7, _, _⟩ := HC.out _ hH
        clear hH
        have e1 := sum2 X Y
        have e2 := sum2 td X
        go_wp2_with (first
          | (refine wpl_build rfl _ _ [(0, .int .u32 ((X + Y).toNat : Int)), (1, .int .u32 (ta.toNat : Int)), (2, .int .u32 (tb.toNat : Int)), (3, .int .u32 (tc.toNat : Int)), (4, .int .u32 ((td + X).toNat : Int)), (5, .int .u32 (te.toNat : Int)), (6, .int .u32 (tf.toNat : Int)), (7, .int .u32 (tg.toNat : Int))] (wcells [X + Y, ta, tb, tc, td + X, te, tf, tg]).toArray rfl rfl (by kernel_rfl) ?_; clear e1 e2 g0 g1 g2 g3 g4 g5 g6 g7)
          | (refine wpList_store_row rfl 84 _ _ rfl q (wcells [X + Y, ta, tb, tc, td + X, te, tf, tg]).toArray rfl rfl 84 _ H4.out.blk info8 rfl (wcells_all _) ?_))
        go_wp2
        go_roundw
        case rel =>
          have h5 := H4.out.setRow (wcells [X + Y, ta, tb, tc, td + X, te, tf, tg]).toArray
          refine ⟨i + 1, by omega, by go_num, ?_⟩
          rw [show turns l s (i + 1) = ⟨X + Y, ta, tb, tc, td + X, te, tf, tg⟩ by
            rw [← HX.out, ← HY.out, HW.out, HK.out]
            show turn (turns l s i) _ _ = _
            rw [HT.out]
            rfl]
          exact h5
        case measure => simp [intOf]; omega
      · obtain rfl : i = 64 := by omega
        have H2 := Lib.hid h2
        clear h2
        go_wp2_with (fail)
        go_loopw [102] (fun v102 wr => ∃ i : Nat, i ≤ 8 ∧ v102 = .int .i64 i ∧ Has st (sep (wblk w.heap.size 84 (plusN s.list (turns l s 64).list i)) (sep (wblk q 84 (turns l s 64).list) (sep (wblk (w.heap.size + 1) 84 (List.replicate 8 0)) (sep (wblk p 96 (words l 64)) R)))) wr) (fun v102 _ => 8 - (intOf v102).toNat)
        case atStart => exact ⟨0, Nat.zero_le _, rfl, H2.out.cast (by simp only [plusN]; ac_rfl)⟩
        case round =>
          obtain ⟨i, hi, rfl, h2⟩ := hrel
          clear H2
          by_cases hlt : i < 8
          · generalize hPL : plusN s.list (turns l s 64).list i = PL at h2
            obtain ⟨xi, hxi⟩ : ∃ xi, xi = PL.getD i 0 := ⟨_, rfl⟩
            obtain ⟨yi, hyi⟩ : ∃ yi, yi = (turns l s 64).list.getD i 0 := ⟨_, rfl⟩
            have hlen : PL.length = 8 := by rw [← hPL, plusN_length]; rfl
            have HPL := Lib.hid hlen
            have HC : Hid (∀ w', Has st (sep (wblk w.heap.size 84 PL) (sep (wblk q 84 (turns l s 64).list) (sep (wblk (w.heap.size + 1) 84 (List.replicate 8 0)) (sep (wblk p 96 (words l 64)) R)))) w' →
                w'.cell? ⟨w.heap.size, i, none⟩ = some (.int .u32 (xi.toNat : Int)) ∧ w'.cell? ⟨q, i, none⟩ = some (.int .u32 (yi.toNat : Int))) := Lib.hid fun w' h' =>
              ⟨(h'.cell i).trans (by rw [hxi]; exact wcells_getD (by omega)), (h'.second.cell i).trans (by rw [hyi]; exact wcells_getD hlt)⟩
            have HST : Hid (∀ w', Has st (sep (Sl.blk w.heap.size (.cells ((wcells PL).toArray.setIfInBounds (0 + i) (.int .u32 ((xi + yi).toNat : Int))) 84 (0, 0))) (sep (wblk q 84 (turns l s 64).list) (sep (wblk (w.heap.size + 1) 84 (List.replicate 8 0)) (sep (wblk p 96 (words l 64)) R)))) w' →
                Has st (sep (wblk w.heap.size 84 (PL.set i (xi + yi))) (sep (wblk q 84 (turns l s 64).list) (sep (wblk (w.heap.size + 1) 84 (List.replicate 8 0)) (sep (wblk p 96 (words l 64)) R)))) w') := Lib.hid fun w' h' => by
              rw [Nat.zero_add, List.setIfInBounds_toArray, wcells_set] at h'
              exact h'
            have HN : Hid (PL.set i (xi + yi) = plusN s.list (turns l s 64).list (i + 1)) := Lib.hid (by rw [hxi, hyi, ← hPL]; rfl)
            have pi : (0 : Int) ≤ (i : Int) ∧ (i : Int) < 8 := by omega
            have H2 := Lib.hid h2
            clear h2 hxi hyi hPL hlen
            go_wp2_with (fail)
            refine wp_region_inv (fun L u w' => Slots (fun kk => ([some (.int .i64 ((i : Nat) : Int)), some (.pointer (some ⟨w.heap.size, 0 + i, none⟩)), some (.int .u32 ((xi).toNat : Int)), some (.int .i64 ((i : Nat) : Int)), some (.pointer (some ⟨q, 0 + i, none⟩)), some (.int .u32 ((yi).toNat : Int)), some (.int .u32 (((xi + yi)).toNat : Int)), some (.pointer (some ⟨w.heap.size, 0 + i, none⟩)), none] : List (Option Value)).getD kk none) L u ∧ Has st (sep (wblk w.heap.size 84 (if L 8 then PL.set i (xi + yi) else PL)) (sep (wblk q 84 (turns l s 64).list) (sep (wblk (w.heap.size + 1) 84 (List.replicate 8 0)) (sep (wblk p 96 (words l 64)) R)))) w') (by kernel_rfl) (by decide +kernel) (by decide +kernel) (fun u => ⟨Slots.start _ u, H2.out.drew⟩) ?_ ?_
            · refine ⟨?_, ?_, ?_, ?_, ?_, ?_, ?_, ?_, ?_, trivial⟩
              all_goals (refine RegStep.plain rfl ?_; rintro L u w1 hL hW hD ⟨hS, hH⟩ b hb)
              · exact opw_move _ _ (.inl rfl) (by rw [hb]; kernel_rfl) ⟨_, rfl, hS.step 0 _ (.inr rfl), hH⟩
              · exact opw_indexArr _ _ _ _ _ rfl Tryd.underlying84 info1 (w.heap.size) (0) (i) (by rw [hb]; kernel_rfl) _ ((show _ = u 0 by rw [hb]; kernel_rfl).trans (hS 0 _ rfl (hW.of 0 (by decide)))) hlt ⟨_, rfl, hS.step 1 _ (.inr rfl), hH⟩
              · exact opw_load1 _ _ rfl _ Tryd.underlying70 rfl _ _ ((show _ = u 1 by rw [hb]; kernel_rfl).trans (hS 1 _ rfl (hW.of 1 (by decide)))) ((Nat.zero_add i).symm ▸ (by rw [hD.not 8 2 hL (by decide)] at hH; exact (HC.out _ hH).1)) ⟨_, rfl, hS.step 2 _ (.inr rfl), hH⟩
              · exact opw_move _ _ (.inl rfl) (by rw [hb]; kernel_rfl) ⟨_, rfl, hS.step 3 _ (.inr rfl), hH⟩
              · exact opw_indexArr _ _ _ _ _ rfl Tryd.underlying84 info1 (q) (0) (i) (by rw [hb]; kernel_rfl) _ ((show _ = u 3 by rw [hb]; kernel_rfl).trans (hS 3 _ rfl (hW.of 3 (by decide)))) hlt ⟨_, rfl, hS.step 4 _ (.inr rfl), hH⟩
              · exact opw_load1 _ _ rfl _ Tryd.underlying70 rfl _ _ ((show _ = u 4 by rw [hb]; kernel_rfl).trans (hS 4 _ rfl (hW.of 4 (by decide)))) ((Nat.zero_add i).symm ▸ (by rw [hD.not 8 5 hL (by decide)] at hH; exact (HC.out _ hH).2)) ⟨_, rfl, hS.step 5 _ (.inr rfl), hH⟩
              · exact opw_bin32 _ _ _ _ _ _ _ (xi + yi) rfl ((show _ = u 2 by rw [hb]; kernel_rfl).trans (hS 2 _ rfl (hW.of 2 (by decide)))) ((show _ = u 5 by rw [hb]; kernel_rfl).trans (hS 5 _ rfl (hW.of 5 (by decide)))) (.inl ⟨rfl, rfl⟩) ⟨_, rfl, hS.step 6 _ (.inr rfl), hH⟩
              · exact opw_indexArr _ _ _ _ _ rfl Tryd.underlying84 info1 (w.heap.size) (0) (i) (by rw [hb]; kernel_rfl) _ ((show _ = u 0 by rw [hb]; kernel_rfl).trans (hS 0 _ rfl (hW.of 0 (by decide)))) hlt ⟨_, rfl, hS.step 7 _ (.inr rfl), hH⟩
              · (rw [hL] at hH; exact opw_store1 _ _ _ rfl info1 w.heap.size (0 + i) (.int .u32 ((xi + yi).toNat : Int)) ((show _ = u 7 by rw [hb]; kernel_rfl).trans (hS 7 _ rfl (hW.of 7 (by decide)))) ((show _ = u 6 by rw [hb]; kernel_rfl).trans (hS 6 _ rfl (hW.of 6 (by decide)))) rfl hH (by rw [Nat.zero_add]; simp only [Bool.false_eq_true, if_false, List.size_toArray, wcells_length, HPL.out]; exact hlt) (fun w2 h2 => ⟨_, rfl, hS.step 8 _ (.inl rfl), (HST.out w2 h2)⟩))
            intro L w1 w3 hL ⟨hS, hH⟩
            rw [hL 8 (by decide)] at hH
            simp only [frame_cons, frame_nil]
            have H3 := Lib.hid hH
            clear hL hS hH H2
            go_wp2
            go_roundw
            case rel => exact ⟨i + 1, by omega, by go_num, HN.out ▸ H3.out⟩
            case measure => simp [intOf]; omega
          · obtain rfl : i = 8 := by omega
            rw [show plusN s.list (turns l s 64).list 8 = (mix s l).list from rfl] at h2
            have H3 := Lib.hid ((h2.third.setRow (wcells (mix s l).list).toArray))
            go_wp2_with (first
              | (refine wpList_load_row rfl 84 _ rfl _ rfl 84 _ _ _ h2.blk Tryd.underlying84 rfl info8 ?_)
              | (refine wpList_store_row rfl 84 _ _ rfl _ _ rfl rfl 84 _ h2.third.blk info8 (by simp [wcells_length]; rfl) (wcells_all _) ?_))
            refine bodyPost_ret (results_cell_row Tryd.results44 _ _ _ 84 _ _ _ rfl H3.out.blk Tryd.underlying84 rfl info8) rfl ?_
            exact ⟨rfl, H3.out.right.right.right.right⟩
end Go.Proofs.YtblknhpafifebaaDoor
