/-
  Several texts of this proof in one: ShaMix, ShaRun, ShaHash, ShaWrite.
-/
import Derived.Test.YtblknhpafifebaaDoorM2
import Derived.Deep.DeepCutAuto
import Derived.Test.YtblknhpafifebaaDoorM1
import Derived.Outline
import Derived.WalkSpells
import Derived.WalkLawsBesides
/-
  sha.mix.
-/
namespace Go.Proofs.YtblknhpafifebaaDoor
open Go.RowKit Go.Sl Go.Sha
set_option linter.unusedVariables false
set_option linter.unusedSimpArgs false

/-- the rounds' numbers lie where they were laid -/
def Keys (st : World) (R : HProp) : Prop := ∀ w, Has st R w → ∃ T fr, w.heap[1]? = some (.cells (wcells keyList).toArray T fr)

theorem info8 : (Tryd.prog.info? 84).map (·.size) = some 8 := by kernel_rfl
theorem zero8 : (Tryd.prog.info? 84).map (·.zero) = some (some (.agg (wcells (List.replicate 8 0)).toArray)) := by kernel_rfl
theorem info1 : (Tryd.prog.info? 70).map (·.size) = some 1 := by kernel_rfl
theorem zero64 : (Tryd.prog.info? 96).map (·.zero) = some (some (.agg (wcells (List.replicate 64 0)).toArray)) := by kernel_rfl
def plusN (s t : List UInt32) : Nat → List UInt32
  | 0 => s
  | i + 1 => (plusN s t i).set i ((plusN s t i).getD i 0 + t.getD i 0)
theorem plusN_length (s t : List UInt32) (i : Nat) : (plusN s t i).length = s.length := by
  induction i with
  | zero => rfl
  | succ i ih => rw [plusN, List.length_set, ih]
theorem wcells_getD {l : List UInt32} {j : Nat} (hj : j < l.length) : (wcells l).toArray[j]? = some (.int .u32 ((l.getD j 0).toNat : Int)) := by
  rw [List.getElem?_toArray, wcells_get hj, List.getD_eq_getElem?_getD, List.getElem?_eq_getElem hj]; rfl
theorem cells8 {st : World} {R : HProp} {b : Nat} {t : TypeId} {s : S8} {w : World} (h : Has st (sep (wblk b t s.list) R) w) :
    w.cell? ⟨b, 0, none⟩ = some (.int .u32 s.a.toNat) ∧ w.cell? ⟨b, 1, none⟩ = some (.int .u32 s.b.toNat) ∧ w.cell? ⟨b, 2, none⟩ = some (.int .u32 s.c.toNat) ∧ w.cell? ⟨b, 3, none⟩ = some (.int .u32 s.d.toNat) ∧
    w.cell? ⟨b, 4, none⟩ = some (.int .u32 s.e.toNat) ∧ w.cell? ⟨b, 5, none⟩ = some (.int .u32 s.f.toNat) ∧ w.cell? ⟨b, 6, none⟩ = some (.int .u32 s.g.toNat) ∧ w.cell? ⟨b, 7, none⟩ = some (.int .u32 s.h.toNat) :=
  ⟨h.cell 0, h.cell 1, h.cell 2, h.cell 3, h.cell 4, h.cell 5, h.cell 6, h.cell 7⟩

def MixI (st : World) (R : HProp) (A : Option Addr) (l : List UInt8) (s : S8) (c n : Nat) (L : Nat → Bool) (u : Nat → Value) (w' : World) : Prop :=
  Slots (fun i => if i = 0 then some (.slice A l.length c) else if i = 1 then some (.agg (wcells (words l 64)).toArray) else if i = 2 then some (.agg (wcells s.list).toArray) else none) L u ∧
    Has st (sep (var (L 3) (u 3) (wcells (if L 5 then words l 64 else List.replicate 64 0)).toArray 96) (sep (var (L 4) (u 4) (wcells (if L 6 then s.list else List.replicate 8 0)).toArray 84)
      (sep (wblk (n + 1) 84 (List.replicate 8 0)) (sep (wblk n 84 s.list) R)))) w'

set_option maxRecDepth 100000 in
set_option maxHeartbeats 8000000 in
theorem mix_any (st : World) (R : HProp) (s : S8) (l : List UInt8) (A : Option Addr) (c : Nat) (hs : Sees st R 1 (.slice A l.length c) l.length (bcells l)) (h64 : 64 ≤ l.length) (hk : Keys st R) (w : World) (h : Has st R w) :
    Calls Tryd.prog 44 #[.agg (wcells s.list).toArray, .slice A l.length c] w fun e w' => e = .returned (.agg (wcells (mix s l).list).toArray) ∧ Has st R w' := by
  have HS := Lib.hid hs
  have HKeys := Lib.hid hk
  have HI64 : Hid ((Tryd.prog.info? 96).map (·.size) = some (wcells (words l 64)).toArray.size) := Lib.hid (by rw [show (wcells (words l 64)).toArray.size = 64 by simp [wcells_length, words_length]]; exact info64)
  clear hs hk
  go_enter Tryd.func44, Tryd.ntmps44
  go_wp2_with (fail)
  have h2 := (h.alloc (.cells (wcells s.list).toArray 84)).alloc (.cells (wcells (List.replicate 8 0)).toArray 84)
  rw [World.size_alloc] at h2
  refine wp_region_inv (MixI st R A l s c w.heap.size) (by kernel_rfl) (by decide +kernel) (by decide +kernel) ?_ ?_ ?_
  · intro u
    refine ⟨Slots.start _ u, ?_⟩
    simp only [var_false, emp_sep]
    exact h2.drew
  · clear h h2
    refine ⟨?_, ?_, ?_, ?_, ?_, ?_, ?_, trivial⟩
    all_goals (refine RegStep.plain rfl ?_; rintro L u w1 hL hW hD ⟨hS, hH⟩ b hb)
    · exact opw_move _ _ (.inl rfl) (by rw [hb]; kernel_rfl) ⟨_, rfl, hS.step 0 _ (.inr rfl), hH⟩
    · have e0 : b.eval (.tmp 11) = .slice A l.length c := (show _ = u 0 by rw [hb]; kernel_rfl).trans (hS 0 _ rfl (hW.of 0 (by decide)))
      refine opw_call_ret _ _ _ [.slice A l.length c] rfl (by kernel_rfl) (congrArg (fun x => [x]) e0) (schedule_any st _ l A c HS.out.right.right.right.right h64 _ hH) ?_
      rintro e w2 ⟨rfl, h3⟩
      exact ⟨_, rfl, _, rfl, hS.step 1 _ (.inr rfl), h3⟩
    · exact opw_loadRow _ _ rfl w.heap.size (by rw [hb]; kernel_rfl) _ (wcells s.list).toArray _ _ Tryd.underlying84 rfl info8 hH.fourth ⟨_, rfl, hS.step 2 _ (.inr rfl), hH⟩
    · refine opw_alloc _ _ (wcells (List.replicate 64 0)).toArray rfl zero64 (by kernel_rfl) hH ?_
      rintro p w2 _ h3
      rw [hL, var_false, emp_sep] at h3
      refine ⟨_, rfl, hS.step 3 _ (.inl rfl), ?_⟩
      show Has st (sep (var true _ (wcells (if L 5 then words l 64 else List.replicate 64 0)).toArray 96) _) _
      rw [hD.not 5 3 hL (by decide)]
      exact h3.ofVar
    · refine opw_alloc _ _ (wcells (List.replicate 8 0)).toArray rfl zero8 (by kernel_rfl) hH ?_
      rintro p w2 _ h3
      rw [hL, var_false, emp_sep] at h3
      refine ⟨_, rfl, hS.step 4 _ (.inl rfl), Has.second ?_⟩
      show Has st (sep (var true _ (wcells (if L 6 then s.list else List.replicate 8 0)).toArray 84) _) _
      rw [hD.not 6 4 hL (by decide)]
      exact h3.ofVar
    · rw [hW.of 3 (by decide), hL] at hH
      obtain ⟨p, e3, h3⟩ := hH.openVar
      refine opw_storeRow _ _ _ rfl p _ ((show _ = u 3 by rw [hb]; kernel_rfl).trans e3) ((show _ = u 1 by rw [hb]; kernel_rfl).trans (hS 1 _ rfl (hW.of 1 (by decide)))) _ _ (HI64.out) (by simp [wcells_length, words_length]) (wcells_all _) h3 ?_
      intro w2 h4
      refine ⟨_, rfl, hS.step 5 _ (.inl rfl), ?_⟩
      show Has st (sep (var (L 3) (u 3) (wcells (words l 64)).toArray 96) _) _
      rw [hW.of 3 (by decide), e3]
      exact h4.ofVar
    · rw [hW.of 4 (by decide), hL] at hH
      obtain ⟨p, e3, h3⟩ := hH.second.openVar
      refine opw_storeRow _ _ _ rfl p _ ((show _ = u 4 by rw [hb]; kernel_rfl).trans e3) ((show _ = u 2 by rw [hb]; kernel_rfl).trans (hS 2 _ rfl (hW.of 2 (by decide)))) _ (wcells (List.replicate 8 0)).toArray info8 rfl (wcells_all _) h3 ?_
      intro w2 h4
      refine ⟨_, rfl, hS.step 6 _ (.inl rfl), Has.second ?_⟩
      show Has st (sep (var (L 4) (u 4) (wcells s.list).toArray 84) _) _
      rw [hW.of 4 (by decide), e3]
      exact h4.ofVar
  · intro L u w1 hL ⟨hS, hH⟩
    have E0 := hS 0 _ rfl (hL 0 (by decide))
    have E1 := hS 1 _ rfl (hL 1 (by decide))
    have E2 := hS 2 _ rfl (hL 2 (by decide))
    rw [hL 3 (by decide), hL 4 (by decide), hL 5 (by decide), hL 6 (by decide)] at hH
    obtain ⟨p, E3, h3⟩ := hH.openVar
    obtain ⟨q, E4, h4⟩ := h3.second.openVar
    clear hL hS hH h3 h2 h
    simp only [frame_cons, frame_nil, E0, E1, E2, E3, E4]
    have H4 := Lib.hid h4
    clear E0 E1 E2 E3 E4 h4
    go_wp2_with (fail)
    go_loopw [14] (fun v14 wr => ∃ i : Nat, i ≤ 64 ∧ v14 = .int .i64 i ∧ Has st (sep (wblk q 84 (turns l s i).list) (sep (wblk p 96 (words l 64)) (sep (wblk (w.heap.size + 1) 84 (List.replicate 8 0)) (sep (wblk w.heap.size 84 s.list) R)))) wr) (fun v14 _ => 64 - (intOf v14).toNat)
    case atStart => exact ⟨0, Nat.zero_le _, rfl, H4.out⟩
    case round =>
      obtain ⟨i, hi, rfl, h2⟩ := hrel
      clear H4
      by_cases hlt : i < 64
      · generalize hT : turns l s i = T at h2
        obtain ⟨ta, tb, tc, td, te, tf, tg, th⟩ := T
        obtain ⟨wi, hwi⟩ : ∃ wi, wi = (words l 64).getD i 0 := ⟨_, rfl⟩
        obtain ⟨ki, hki⟩ : ∃ ki, ki = keyList.getD i 0 := ⟨_, rfl⟩
        have gw : (wcells (words l 64)).toArray[i]? = some (.int .u32 (wi.toNat : Int)) := by
          rw [hwi, List.getElem?_toArray, wcells_get (by rw [words_length]; exact hlt), List.getD_eq_getElem?_getD, List.getElem?_eq_getElem (by rw [words_length]; exact hlt)]; rfl
        have gk : (wcells keyList).toArray[i]? = some (.int .u32 (ki.toNat : Int)) := by
          rw [hki, List.getElem?_toArray, wcells_get (show i < keyList.length from hlt), List.getD_eq_getElem?_getD, List.getElem?_eq_getElem (show i < keyList.length from hlt)]; rfl
        have HC : Hid (∀ w', Has st (sep (wblk q 84 [ta, tb, tc, td, te, tf, tg, th]) (sep (wblk p 96 (words l 64)) (sep (wblk (w.heap.size + 1) 84 (List.replicate 8 0)) (sep (wblk w.heap.size 84 s.list) R)))) w' → w'.cell? ⟨q, 0, none⟩ = some (.int .u32 (ta.toNat : Int)) ∧ w'.cell? ⟨q, 1, none⟩ = some (.int .u32 (tb.toNat : Int)) ∧ w'.cell? ⟨q, 2, none⟩ = some (.int .u32 (tc.toNat : Int)) ∧
            w'.cell? ⟨q, 3, none⟩ = some (.int .u32 (td.toNat : Int)) ∧ w'.cell? ⟨q, 4, none⟩ = some (.int .u32 (te.toNat : Int)) ∧ w'.cell? ⟨q, 5, none⟩ = some (.int .u32 (tf.toNat : Int)) ∧ w'.cell? ⟨q, 6, none⟩ = some (.int .u32 (tg.toNat : Int)) ∧
            w'.cell? ⟨q, 7, none⟩ = some (.int .u32 (th.toNat : Int)) ∧ w'.cell? ⟨p, i, none⟩ = some (.int .u32 (wi.toNat : Int)) ∧ w'.cell? ⟨1, i, none⟩ = some (.int .u32 (ki.toNat : Int))) := Lib.hid fun w' h' => by
          obtain ⟨T, fr, hk⟩ := HKeys.out w' h'.right.right.right.right
          exact ⟨h'.cell 0, h'.cell 1, h'.cell 2, h'.cell 3, h'.cell 4, h'.cell 5, h'.cell 6, h'.cell 7, (h'.second.cell i).trans gw, (cell_of_row _ _ _ _ _ _ hk).trans gk⟩
        have pi : (0 : Int) ≤ (i : Int) ∧ (i : Int) < 64 := by omega
        have H2 := Lib.hid h2
        have HT := Lib.hid hT
        have HW := Lib.hid hwi
        have HK := Lib.hid hki
        clear h2 hT hwi hki gw gk
        go_wp2_with (fail)
        refine wp_region_inv (fun L u w' => Slots (fun kk => ([some (.pointer (some ⟨q, 7, none⟩)), some (.int .u32 ((th).toNat : Int)), some (.pointer (some ⟨q, 4, none⟩)), some (.int .u32 ((te).toNat : Int)), some (.int .u32 ((rr te 6).toNat : Int)), some (.pointer (some ⟨q, 4, none⟩)), some (.int .u32 ((te).toNat : Int)), some (.int .u32 ((rr te 11).toNat : Int)), some (.int .u32 (((rr te 6 ^^^ rr te 11)).toNat : Int)), some (.pointer (some ⟨q, 4, none⟩)), some (.int .u32 ((te).toNat : Int)), some (.int .u32 ((rr te 25).toNat : Int)), some (.int .u32 ((((rr te 6 ^^^ rr te 11) ^^^ rr te 25)).toNat : Int)), some (.int .u32 (((th + ((rr te 6 ^^^ rr te 11) ^^^ rr te 25))).toNat : Int)), some (.pointer (some ⟨q, 4, none⟩)), some (.int .u32 ((te).toNat : Int)), some (.pointer (some ⟨q, 5, none⟩)), some (.int .u32 ((tf).toNat : Int)), some (.int .u32 (((te &&& tf)).toNat : Int)), some (.pointer (some ⟨q, 4, none⟩)), some (.int .u32 ((te).toNat : Int)), some (.int .u32 (((~~~ te)).toNat : Int)), some (.pointer (some ⟨q, 6, none⟩)), some (.int .u32 ((tg).toNat : Int)), some (.int .u32 ((((~~~ te) &&& tg)).toNat : Int)), some (.int .u32 ((((te &&& tf) ^^^ ((~~~ te) &&& tg))).toNat : Int)), some (.int .u32 ((((th + ((rr te 6 ^^^ rr te 11) ^^^ rr te 25)) + ((te &&& tf) ^^^ ((~~~ te) &&& tg)))).toNat : Int)), some (.int .i64 ((i : Nat) : Int)), some (.pointer (some ⟨1, 0 + i, none⟩)), some (.int .u32 ((ki).toNat : Int)), some (.int .u32 (((((th + ((rr te 6 ^^^ rr te 11) ^^^ rr te 25)) + ((te &&& tf) ^^^ ((~~~ te) &&& tg))) + ki)).toNat : Int)), some (.int .i64 ((i : Nat) : Int)), some (.pointer (some ⟨p, 0 + i, none⟩)), some (.int .u32 ((wi).toNat : Int)), some (.int .u32 ((((((th + ((rr te 6 ^^^ rr te 11) ^^^ rr te 25)) + ((te &&& tf) ^^^ ((~~~ te) &&& tg))) + ki) + wi)).toNat : Int)), some (.int .u32 ((tx te tf tg th ki wi).toNat : Int))] : List (Option Value)).getD kk none) L u ∧ Has st (sep (wblk q 84 [ta, tb, tc, td, te, tf, tg, th]) (sep (wblk p 96 (words l 64)) (sep (wblk (w.heap.size + 1) 84 (List.replicate 8 0)) (sep (wblk w.heap.size 84 s.list) R)))) w') (by kernel_rfl) (by decide +kernel) (by decide +kernel) (fun u => ⟨Slots.start _ u, H2.out.drew⟩) ?_ ?_
        · refine ⟨?_, ?_, ?_, ?_, ?_, ?_, ?_, ?_, ?_, ?_, ?_, ?_, ?_, ?_, ?_, ?_, ?_, ?_, ?_, ?_, ?_, ?_, ?_, ?_, ?_, ?_, ?_, ?_, ?_, ?_, ?_, ?_, ?_, ?_, ?_, ?_, trivial⟩
          all_goals (refine RegStep.plain rfl ?_; rintro L u w1 hL hW hD ⟨hS, hH⟩ b hb)
          · exact opw_indexArr _ _ _ _ _ rfl Tryd.underlying84 info1 (q) (0) (7) (by rw [hb]; kernel_rfl) _ rfl (by decide) ⟨_, rfl, hS.step 0 _ (.inr rfl), hH⟩
          · exact opw_load1 _ _ rfl _ Tryd.underlying70 rfl _ _ ((show _ = u 0 by rw [hb]; kernel_rfl).trans (hS 0 _ rfl (hW.of 0 (by decide)))) ((HC.out _ hH).2.2.2.2.2.2.2.1) ⟨_, rfl, hS.step 1 _ (.inr rfl), hH⟩
          · exact opw_indexArr _ _ _ _ _ rfl Tryd.underlying84 info1 (q) (0) (4) (by rw [hb]; kernel_rfl) _ rfl (by decide) ⟨_, rfl, hS.step 2 _ (.inr rfl), hH⟩
          · exact opw_load1 _ _ rfl _ Tryd.underlying70 rfl _ _ ((show _ = u 2 by rw [hb]; kernel_rfl).trans (hS 2 _ rfl (hW.of 2 (by decide)))) ((HC.out _ hH).2.2.2.2.1) ⟨_, rfl, hS.step 3 _ (.inr rfl), hH⟩
          · exact opw_call_ret _ _ _ [(.int .u32 ((te).toNat : Int)), (.int .i64 ((6 : Nat) : Int))] rfl (by kernel_rfl) (list2 ((show _ = u 3 by rw [hb]; kernel_rfl).trans (hS 3 _ rfl (hW.of 3 (by decide)))) (list2 rfl rfl)) (ror_any te 6 (by decide) w1) (fun e w2 he => by obtain ⟨rfl, rfl⟩ := he; exact ⟨_, rfl, _, rfl, hS.step 4 _ (.inr rfl), hH⟩)
          · exact opw_indexArr _ _ _ _ _ rfl Tryd.underlying84 info1 (q) (0) (4) (by rw [hb]; kernel_rfl) _ rfl (by decide) ⟨_, rfl, hS.step 5 _ (.inr rfl), hH⟩
          · exact opw_load1 _ _ rfl _ Tryd.underlying70 rfl _ _ ((show _ = u 5 by rw [hb]; kernel_rfl).trans (hS 5 _ rfl (hW.of 5 (by decide)))) ((HC.out _ hH).2.2.2.2.1) ⟨_, rfl, hS.step 6 _ (.inr rfl), hH⟩
          · exact opw_call_ret _ _ _ [(.int .u32 ((te).toNat : Int)), (.int .i64 ((11 : Nat) : Int))] rfl (by kernel_rfl) (list2 ((show _ = u 6 by rw [hb]; kernel_rfl).trans (hS 6 _ rfl (hW.of 6 (by decide)))) (list2 rfl rfl)) (ror_any te 11 (by decide) w1) (fun e w2 he => by obtain ⟨rfl, rfl⟩ := he; exact ⟨_, rfl, _, rfl, hS.step 7 _ (.inr rfl), hH⟩)
          · exact opw_bin32 _ _ _ _ _ _ _ (rr te 6 ^^^ rr te 11) rfl ((show _ = u 4 by rw [hb]; kernel_rfl).trans (hS 4 _ rfl (hW.of 4 (by decide)))) ((show _ = u 7 by rw [hb]; kernel_rfl).trans (hS 7 _ rfl (hW.of 7 (by decide)))) (.inr (.inl ⟨rfl, rfl⟩)) ⟨_, rfl, hS.step 8 _ (.inr rfl), hH⟩
          · exact opw_indexArr _ _ _ _ _ rfl Tryd.underlying84 info1 (q) (0) (4) (by rw [hb]; kernel_rfl) _ rfl (by decide) ⟨_, rfl, hS.step 9 _ (.inr rfl), hH⟩
          · exact opw_load1 _ _ rfl _ Tryd.underlying70 rfl _ _ ((show _ = u 9 by rw [hb]; kernel_rfl).trans (hS 9 _ rfl (hW.of 9 (by decide)))) ((HC.out _ hH).2.2.2.2.1) ⟨_, rfl, hS.step 10 _ (.inr rfl), hH⟩
          · exact opw_call_ret _ _ _ [(.int .u32 ((te).toNat : Int)), (.int .i64 ((25 : Nat) : Int))] rfl (by kernel_rfl) (list2 ((show _ = u 10 by rw [hb]; kernel_rfl).trans (hS 10 _ rfl (hW.of 10 (by decide)))) (list2 rfl rfl)) (ror_any te 25 (by decide) w1) (fun e w2 he => by obtain ⟨rfl, rfl⟩ := he; exact ⟨_, rfl, _, rfl, hS.step 11 _ (.inr rfl), hH⟩)
          · exact opw_bin32 _ _ _ _ _ _ _ ((rr te 6 ^^^ rr te 11) ^^^ rr te 25) rfl ((show _ = u 8 by rw [hb]; kernel_rfl).trans (hS 8 _ rfl (hW.of 8 (by decide)))) ((show _ = u 11 by rw [hb]; kernel_rfl).trans (hS 11 _ rfl (hW.of 11 (by decide)))) (.inr (.inl ⟨rfl, rfl⟩)) ⟨_, rfl, hS.step 12 _ (.inr rfl), hH⟩
          · exact opw_bin32 _ _ _ _ _ _ _ (th + ((rr te 6 ^^^ rr te 11) ^^^ rr te 25)) rfl ((show _ = u 1 by rw [hb]; kernel_rfl).trans (hS 1 _ rfl (hW.of 1 (by decide)))) ((show _ = u 12 by rw [hb]; kernel_rfl).trans (hS 12 _ rfl (hW.of 12 (by decide)))) (.inl ⟨rfl, rfl⟩) ⟨_, rfl, hS.step 13 _ (.inr rfl), hH⟩
          · exact opw_indexArr _ _ _ _ _ rfl Tryd.underlying84 info1 (q) (0) (4) (by rw [hb]; kernel_rfl) _ rfl (by decide) ⟨_, rfl, hS.step 14 _ (.inr rfl), hH⟩
          · exact opw_load1 _ _ rfl _ Tryd.underlying70 rfl _ _ ((show _ = u 14 by rw [hb]; kernel_rfl).trans (hS 14 _ rfl (hW.of 14 (by decide)))) ((HC.out _ hH).2.2.2.2.1) ⟨_, rfl, hS.step 15 _ (.inr rfl), hH⟩
          · exact opw_indexArr _ _ _ _ _ rfl Tryd.underlying84 info1 (q) (0) (5) (by rw [hb]; kernel_rfl) _ rfl (by decide) ⟨_, rfl, hS.step 16 _ (.inr rfl), hH⟩
          · exact opw_load1 _ _ rfl _ Tryd.underlying70 rfl _ _ ((show _ = u 16 by rw [hb]; kernel_rfl).trans (hS 16 _ rfl (hW.of 16 (by decide)))) ((HC.out _ hH).2.2.2.2.2.1) ⟨_, rfl, hS.step 17 _ (.inr rfl), hH⟩
          · exact opw_bin32 _ _ _ _ _ _ _ (te &&& tf) rfl ((show _ = u 15 by rw [hb]; kernel_rfl).trans (hS 15 _ rfl (hW.of 15 (by decide)))) ((show _ = u 17 by rw [hb]; kernel_rfl).trans (hS 17 _ rfl (hW.of 17 (by decide)))) (.inr (.inr (.inl ⟨rfl, rfl⟩))) ⟨_, rfl, hS.step 18 _ (.inr rfl), hH⟩
          · exact opw_indexArr _ _ _ _ _ rfl Tryd.underlying84 info1 (q) (0) (4) (by rw [hb]; kernel_rfl) _ rfl (by decide) ⟨_, rfl, hS.step 19 _ (.inr rfl), hH⟩
          · exact opw_load1 _ _ rfl _ Tryd.underlying70 rfl _ _ ((show _ = u 19 by rw [hb]; kernel_rfl).trans (hS 19 _ rfl (hW.of 19 (by decide)))) ((HC.out _ hH).2.2.2.2.1) ⟨_, rfl, hS.step 20 _ (.inr rfl), hH⟩
          · exact opw_not32 _ _ _ rfl ((show _ = u 20 by rw [hb]; kernel_rfl).trans (hS 20 _ rfl (hW.of 20 (by decide)))) ⟨_, rfl, hS.step 21 _ (.inr rfl), hH⟩
          · exact opw_indexArr _ _ _ _ _ rfl Tryd.underlying84 info1 (q) (0) (6) (by rw [hb]; kernel_rfl) _ rfl (by decide) ⟨_, rfl, hS.step 22 _ (.inr rfl), hH⟩
          · exact opw_load1 _ _ rfl _ Tryd.underlying70 rfl _ _ ((show _ = u 22 by rw [hb]; kernel_rfl).trans (hS 22 _ rfl (hW.of 22 (by decide)))) ((HC.out _ hH).2.2.2.2.2.2.1) ⟨_, rfl, hS.step 23 _ (.inr rfl), hH⟩
          · exact opw_bin32 _ _ _ _ _ _ _ ((~~~ te) &&& tg) rfl ((show _ = u 21 by rw [hb]; kernel_rfl).trans (hS 21 _ rfl (hW.of 21 (by decide)))) ((show _ = u 23 by rw [hb]; kernel_rfl).trans (hS 23 _ rfl (hW.of 23 (by decide)))) (.inr (.inr (.inl ⟨rfl, rfl⟩))) ⟨_, rfl, hS.step 24 _ (.inr rfl), hH⟩
          · exact opw_bin32 _ _ _ _ _ _ _ ((te &&& tf) ^^^ ((~~~ te) &&& tg)) rfl ((show _ = u 18 by rw [hb]; kernel_rfl).trans (hS 18 _ rfl (hW.of 18 (by decide)))) ((show _ = u 24 by rw [hb]; kernel_rfl).trans (hS 24 _ rfl (hW.of 24 (by decide)))) (.inr (.inl ⟨rfl, rfl⟩)) ⟨_, rfl, hS.step 25 _ (.inr rfl), hH⟩
          · exact opw_bin32 _ _ _ _ _ _ _ ((th + ((rr te 6 ^^^ rr te 11) ^^^ rr te 25)) + ((te &&& tf) ^^^ ((~~~ te) &&& tg))) rfl ((show _ = u 13 by rw [hb]; kernel_rfl).trans (hS 13 _ rfl (hW.of 13 (by decide)))) ((show _ = u 25 by rw [hb]; kernel_rfl).trans (hS 25 _ rfl (hW.of 25 (by decide)))) (.inl ⟨rfl, rfl⟩) ⟨_, rfl, hS.step 26 _ (.inr rfl), hH⟩
          · exact opw_move _ _ (.inl rfl) (by rw [hb]; kernel_rfl) ⟨_, rfl, hS.step 27 _ (.inr rfl), hH⟩
          · exact opw_indexArr _ _ _ _ _ rfl Tryd.underlying96 info1 (1) (0) (i) rfl _ ((show _ = u 27 by rw [hb]; kernel_rfl).trans (hS 27 _ rfl (hW.of 27 (by decide)))) hlt ⟨_, rfl, hS.step 28 _ (.inr rfl), hH⟩
          · exact opw_load1 _ _ rfl _ Tryd.underlying70 rfl _ _ ((show _ = u 28 by rw [hb]; kernel_rfl).trans (hS 28 _ rfl (hW.of 28 (by decide)))) ((Nat.zero_add i).symm ▸ (HC.out _ hH).2.2.2.2.2.2.2.2.2) ⟨_, rfl, hS.step 29 _ (.inr rfl), hH⟩
          · exact opw_bin32 _ _ _ _ _ _ _ (((th + ((rr te 6 ^^^ rr te 11) ^^^ rr te 25)) + ((te &&& tf) ^^^ ((~~~ te) &&& tg))) + ki) rfl ((show _ = u 26 by rw [hb]; kernel_rfl).trans (hS 26 _ rfl (hW.of 26 (by decide)))) ((show _ = u 29 by rw [hb]; kernel_rfl).trans (hS 29 _ rfl (hW.of 29 (by decide)))) (.inl ⟨rfl, rfl⟩) ⟨_, rfl, hS.step 30 _ (.inr rfl), hH⟩
          · exact opw_move _ _ (.inl rfl) (by rw [hb]; kernel_rfl) ⟨_, rfl, hS.step 31 _ (.inr rfl), hH⟩
          · exact opw_indexArr _ _ _ _ _ rfl Tryd.underlying96 info1 (p) (0) (i) (by rw [hb]; kernel_rfl) _ ((show _ = u 31 by rw [hb]; kernel_rfl).trans (hS 31 _ rfl (hW.of 31 (by decide)))) hlt ⟨_, rfl, hS.step 32 _ (.inr rfl), hH⟩
          · exact opw_load1 _ _ rfl _ Tryd.underlying70 rfl _ _ ((show _ = u 32 by rw [hb]; kernel_rfl).trans (hS 32 _ rfl (hW.of 32 (by decide)))) ((Nat.zero_add i).symm ▸ (HC.out _ hH).2.2.2.2.2.2.2.2.1) ⟨_, rfl, hS.step 33 _ (.inr rfl), hH⟩
          · exact opw_bin32 _ _ _ _ _ _ _ ((((th + ((rr te 6 ^^^ rr te 11) ^^^ rr te 25)) + ((te &&& tf) ^^^ ((~~~ te) &&& tg))) + ki) + wi) rfl ((show _ = u 30 by rw [hb]; kernel_rfl).trans (hS 30 _ rfl (hW.of 30 (by decide)))) ((show _ = u 33 by rw [hb]; kernel_rfl).trans (hS 33 _ rfl (hW.of 33 (by decide)))) (.inl ⟨rfl, rfl⟩) ⟨_, rfl, hS.step 34 _ (.inr rfl), hH⟩
          · exact opw_move _ _ (.inr rfl) ((show _ = u 34 by rw [hb]; kernel_rfl).trans (hS 34 _ rfl (hW.of 34 (by decide)))) ⟨_, rfl, hS.step 35 _ (.inr rfl), hH⟩
        intro L u w3 hL ⟨hS, hH⟩
        have E := hS 35 _ rfl (hL 35 (by decide))
        simp only [frame_cons, frame_nil, E]
        generalize hX : tx te tf tg th ki wi = X
        have HX := Lib.hid hX
        have H3 := Lib.hid hH
        clear hL hS hH E hX H2
        go_wp2_with (fail)
        refine wp_region_inv (fun L u w' => Slots (fun kk => ([some (.pointer (some ⟨q, 0, none⟩)), some (.int .u32 ((ta).toNat : Int)), some (.int .u32 ((rr ta 2).toNat : Int)), some (.pointer (some ⟨q, 0, none⟩)), some (.int .u32 ((ta).toNat : Int)), some (.int .u32 ((rr ta 13).toNat : Int)), some (.int .u32 (((rr ta 2 ^^^ rr ta 13)).toNat : Int)), some (.pointer (some ⟨q, 0, none⟩)), some (.int .u32 ((ta).toNat : Int)), some (.int .u32 ((rr ta 22).toNat : Int)), some (.int .u32 ((((rr ta 2 ^^^ rr ta 13) ^^^ rr ta 22)).toNat : Int)), some (.pointer (some ⟨q, 0, none⟩)), some (.int .u32 ((ta).toNat : Int)), some (.pointer (some ⟨q, 1, none⟩)), some (.int .u32 ((tb).toNat : Int)), some (.int .u32 (((ta &&& tb)).toNat : Int)), some (.pointer (some ⟨q, 0, none⟩)), some (.int .u32 ((ta).toNat : Int)), some (.pointer (some ⟨q, 2, none⟩)), some (.int .u32 ((tc).toNat : Int)), some (.int .u32 (((ta &&& tc)).toNat : Int)), some (.int .u32 ((((ta &&& tb) ^^^ (ta &&& tc))).toNat : Int)), some (.pointer (some ⟨q, 1, none⟩)), some (.int .u32 ((tb).toNat : Int)), some (.pointer (some ⟨q, 2, none⟩)), some (.int .u32 ((tc).toNat : Int)), some (.int .u32 (((tb &&& tc)).toNat : Int)), some (.int .u32 (((((ta &&& tb) ^^^ (ta &&& tc)) ^^^ (tb &&& tc))).toNat : Int)), some (.int .u32 (((((rr ta 2 ^^^ rr ta 13) ^^^ rr ta 22) + (((ta &&& tb) ^^^ (ta &&& tc)) ^^^ (tb &&& tc)))).toNat : Int)), some (.int .u32 ((ty ta tb tc).toNat : Int))] : List (Option Value)).getD kk none) L u ∧ Has st (sep (wblk q 84 [ta, tb, tc, td, te, tf, tg, th]) (sep (wblk p 96 (words l 64)) (sep (wblk (w.heap.size + 1) 84 (List.replicate 8 0)) (sep (wblk w.heap.size 84 s.list) R)))) w') (by kernel_rfl) (by decide +kernel) (by decide +kernel) (fun u => ⟨Slots.start _ u, H3.out.drew⟩) ?_ ?_
        · refine ⟨?_, ?_, ?_, ?_, ?_, ?_, ?_, ?_, ?_, ?_, ?_, ?_, ?_, ?_, ?_, ?_, ?_, ?_, ?_, ?_, ?_, ?_, ?_, ?_, ?_, ?_, ?_, ?_, ?_, ?_, trivial⟩
          all_goals (refine RegStep.plain rfl ?_; rintro L u w1 hL hW hD ⟨hS, hH⟩ b hb)
          · exact opw_indexArr _ _ _ _ _ rfl Tryd.underlying84 info1 (q) (0) (0) (by rw [hb]; kernel_rfl) _ rfl (by decide) ⟨_, rfl, hS.step 0 _ (.inr rfl), hH⟩
          · exact opw_load1 _ _ rfl _ Tryd.underlying70 rfl _ _ ((show _ = u 0 by rw [hb]; kernel_rfl).trans (hS 0 _ rfl (hW.of 0 (by decide)))) ((HC.out _ hH).1) ⟨_, rfl, hS.step 1 _ (.inr rfl), hH⟩
          · exact opw_call_ret _ _ _ [(.int .u32 ((ta).toNat : Int)), (.int .i64 ((2 : Nat) : Int))] rfl (by kernel_rfl) (list2 ((show _ = u 1 by rw [hb]; kernel_rfl).trans (hS 1 _ rfl (hW.of 1 (by decide)))) (list2 rfl rfl)) (ror_any ta 2 (by decide) w1) (fun e w2 he => by obtain ⟨rfl, rfl⟩ := he; exact ⟨_, rfl, _, rfl, hS.step 2 _ (.inr rfl), hH⟩)
          · exact opw_indexArr _ _ _ _ _ rfl Tryd.underlying84 info1 (q) (0) (0) (by rw [hb]; kernel_rfl) _ rfl (by decide) ⟨_, rfl, hS.step 3 _ (.inr rfl), hH⟩
          · exact opw_load1 _ _ rfl _ Tryd.underlying70 rfl _ _ ((show _ = u 3 by rw [hb]; kernel_rfl).trans (hS 3 _ rfl (hW.of 3 (by decide)))) ((HC.out _ hH).1) ⟨_, rfl, hS.step 4 _ (.inr rfl), hH⟩
          · exact opw_call_ret _ _ _ [(.int .u32 ((ta).toNat : Int)), (.int .i64 ((13 : Nat) : Int))] rfl (by kernel_rfl) (list2 ((show _ = u 4 by rw [hb]; kernel_rfl).trans (hS 4 _ rfl (hW.of 4 (by decide)))) (list2 rfl rfl)) (ror_any ta 13 (by decide) w1) (fun e w2 he => by obtain ⟨rfl, rfl⟩ := he; exact ⟨_, rfl, _, rfl, hS.step 5 _ (.inr rfl), hH⟩)
          · exact opw_bin32 _ _ _ _ _ _ _ (rr ta 2 ^^^ rr ta 13) rfl ((show _ = u 2 by rw [hb]; kernel_rfl).trans (hS 2 _ rfl (hW.of 2 (by decide)))) ((show _ = u 5 by rw [hb]; kernel_rfl).trans (hS 5 _ rfl (hW.of 5 (by decide)))) (.inr (.inl ⟨rfl, rfl⟩)) ⟨_, rfl, hS.step 6 _ (.inr rfl), hH⟩
          · exact opw_indexArr _ _ _ _ _ rfl Tryd.underlying84 info1 (q) (0) (0) (by rw [hb]; kernel_rfl) _ rfl (by decide) ⟨_, rfl, hS.step 7 _ (.inr rfl), hH⟩
          · exact opw_load1 _ _ rfl _ Tryd.underlying70 rfl _ _ ((show _ = u 7 by rw [hb]; kernel_rfl).trans (hS 7 _ rfl (hW.of 7 (by decide)))) ((HC.out _ hH).1) ⟨_, rfl, hS.step 8 _ (.inr rfl), hH⟩
          · exact opw_call_ret _ _ _ [(.int .u32 ((ta).toNat : Int)), (.int .i64 ((22 : Nat) : Int))] rfl (by kernel_rfl) (list2 ((show _ = u 8 by rw [hb]; kernel_rfl).trans (hS 8 _ rfl (hW.of 8 (by decide)))) (list2 rfl rfl)) (ror_any ta 22 (by decide) w1) (fun e w2 he => by obtain ⟨rfl, rfl⟩ := he; exact ⟨_, rfl, _, rfl, hS.step 9 _ (.inr rfl), hH⟩)
          · exact opw_bin32 _ _ _ _ _ _ _ ((rr ta 2 ^^^ rr ta 13) ^^^ rr ta 22) rfl ((show _ = u 6 by rw [hb]; kernel_rfl).trans (hS 6 _ rfl (hW.of 6 (by decide)))) ((show _ = u 9 by rw [hb]; kernel_rfl).trans (hS 9 _ rfl (hW.of 9 (by decide)))) (.inr (.inl ⟨rfl, rfl⟩)) ⟨_, rfl, hS.step 10 _ (.inr rfl), hH⟩
          · exact opw_indexArr _ _ _ _ _ rfl Tryd.underlying84 info1 (q) (0) (0) (by rw [hb]; kernel_rfl) _ rfl (by decide) ⟨_, rfl, hS.step 11 _ (.inr rfl), hH⟩
          · exact opw_load1 _ _ rfl _ Tryd.underlying70 rfl _ _ ((show _ = u 11 by rw [hb]; kernel_rfl).trans (hS 11 _ rfl (hW.of 11 (by decide)))) ((HC.out _ hH).1) ⟨_, rfl, hS.step 12 _ (.inr rfl), hH⟩
          · exact opw_indexArr _ _ _ _ _ rfl Tryd.underlying84 info1 (q) (0) (1) (by rw [hb]; kernel_rfl) _ rfl (by decide) ⟨_, rfl, hS.step 13 _ (.inr rfl), hH⟩
          · exact opw_load1 _ _ rfl _ Tryd.underlying70 rfl _ _ ((show _ = u 13 by rw [hb]; kernel_rfl).trans (hS 13 _ rfl (hW.of 13 (by decide)))) ((HC.out _ hH).2.1) ⟨_, rfl, hS.step 14 _ (.inr rfl), hH⟩
          · exact opw_bin32 _ _ _ _ _ _ _ (ta &&& tb) rfl ((show _ = u 12 by rw [hb]; kernel_rfl).trans (hS 12 _ rfl (hW.of 12 (by decide)))) ((show _ = u 14 by rw [hb]; kernel_rfl).trans (hS 14 _ rfl (hW.of 14 (by decide)))) (.inr (.inr (.inl ⟨rfl, rfl⟩))) ⟨_, rfl, hS.step 15 _ (.inr rfl), hH⟩
          · exact opw_indexArr _ _ _ _ _ rfl Tryd.underlying84 info1 (q) (0) (0) (by rw [hb]; kernel_rfl) _ rfl (by decide) ⟨_, rfl, hS.step 16 _ (.inr rfl), hH⟩
          · exact opw_load1 _ _ rfl _ Tryd.underlying70 rfl _ _ ((show _ = u 16 by rw [hb]; kernel_rfl).trans (hS 16 _ rfl (hW.of 16 (by decide)))) ((HC.out _ hH).1) ⟨_, rfl, hS.step 17 _ (.inr rfl), hH⟩
          · exact opw_indexArr _ _ _ _ _ rfl Tryd.underlying84 info1 (q) (0) (2) (by rw [hb]; kernel_rfl) _ rfl (by decide) ⟨_, rfl, hS.step 18 _ (.inr rfl), hH⟩
          · exact opw_load1 _ _ rfl _ Tryd.underlying70 rfl _ _ ((show _ = u 18 by rw [hb]; kernel_rfl).trans (hS 18 _ rfl (hW.of 18 (by decide)))) ((HC.out _ hH).2.2.1) ⟨_, rfl, hS.step 19 _ (.inr rfl), hH⟩
          · exact opw_bin32 _ _ _ _ _ _ _ (ta &&& tc) rfl ((show _ = u 17 by rw [hb]; kernel_rfl).trans (hS 17 _ rfl (hW.of 17 (by decide)))) ((show _ = u 19 by rw [hb]; kernel_rfl).trans (hS 19 _ rfl (hW.of 19 (by decide)))) (.inr (.inr (.inl ⟨rfl, rfl⟩))) ⟨_, rfl, hS.step 20 _ (.inr rfl), hH⟩
          · exact opw_bin32 _ _ _ _ _ _ _ ((ta &&& tb) ^^^ (ta &&& tc)) rfl ((show _ = u 15 by rw [hb]; kernel_rfl).trans (hS 15 _ rfl (hW.of 15 (by decide)))) ((show _ = u 20 by rw [hb]; kernel_rfl).trans (hS 20 _ rfl (hW.of 20 (by decide)))) (.inr (.inl ⟨rfl, rfl⟩)) ⟨_, rfl, hS.step 21 _ (.inr rfl), hH⟩
          · exact opw_indexArr _ _ _ _ _ rfl Tryd.underlying84 info1 (q) (0) (1) (by rw [hb]; kernel_rfl) _ rfl (by decide) ⟨_, rfl, hS.step 22 _ (.inr rfl), hH⟩
          · exact opw_load1 _ _ rfl _ Tryd.underlying70 rfl _ _ ((show _ = u 22 by rw [hb]; kernel_rfl).trans (hS 22 _ rfl (hW.of 22 (by decide)))) ((HC.out _ hH).2.1) ⟨_, rfl, hS.step 23 _ (.inr rfl), hH⟩
          · exact opw_indexArr _ _ _ _ _ rfl Tryd.underlying84 info1 (q) (0) (2) (by rw [hb]; kernel_rfl) _ rfl (by decide) ⟨_, rfl, hS.step 24 _ (.inr rfl), hH⟩
          · exact opw_load1 _ _ rfl _ Tryd.underlying70 rfl _ _ ((show _ = u 24 by rw [hb]; kernel_rfl).trans (hS 24 _ rfl (hW.of 24 (by decide)))) ((HC.out _ hH).2.2.1) ⟨_, rfl, hS.step 25 _ (.inr rfl), hH⟩
          · exact opw_bin32 _ _ _ _ _ _ _ (tb &&& tc) rfl ((show _ = u 23 by rw [hb]; kernel_rfl).trans (hS 23 _ rfl (hW.of 23 (by decide)))) ((show _ = u 25 by rw [hb]; kernel_rfl).trans (hS 25 _ rfl (hW.of 25 (by decide)))) (.inr (.inr (.inl ⟨rfl, rfl⟩))) ⟨_, rfl, hS.step 26 _ (.inr rfl), hH⟩
          · exact opw_bin32 _ _ _ _ _ _ _ (((ta &&& tb) ^^^ (ta &&& tc)) ^^^ (tb &&& tc)) rfl ((show _ = u 21 by rw [hb]; kernel_rfl).trans (hS 21 _ rfl (hW.of 21 (by decide)))) ((show _ = u 26 by rw [hb]; kernel_rfl).trans (hS 26 _ rfl (hW.of 26 (by decide)))) (.inr (.inl ⟨rfl, rfl⟩)) ⟨_, rfl, hS.step 27 _ (.inr rfl), hH⟩
          · exact opw_bin32 _ _ _ _ _ _ _ (((rr ta 2 ^^^ rr ta 13) ^^^ rr ta 22) + (((ta &&& tb) ^^^ (ta &&& tc)) ^^^ (tb &&& tc))) rfl ((show _ = u 10 by rw [hb]; kernel_rfl).trans (hS 10 _ rfl (hW.of 10 (by decide)))) ((show _ = u 27 by rw [hb]; kernel_rfl).trans (hS 27 _ rfl (hW.of 27 (by decide)))) (.inl ⟨rfl, rfl⟩) ⟨_, rfl, hS.step 28 _ (.inr rfl), hH⟩
          · exact opw_move _ _ (.inr rfl) ((show _ = u 28 by rw [hb]; kernel_rfl).trans (hS 28 _ rfl (hW.of 28 (by decide)))) ⟨_, rfl, hS.step 29 _ (.inr rfl), hH⟩
        intro L2 u2 w4 hL ⟨hS, hH⟩
        have E := hS 29 _ rfl (hL 29 (by decide))
        simp only [frame_cons, frame_nil, E]
        generalize hY : ty ta tb tc = Y
        have HY := Lib.hid hY
        have H4 := Lib.hid hH
        clear hL hS E hY H3
        obtain ⟨g0, g1, g2, g3, g4, g5, g6, g7, _, _⟩ := HC.out _ hH
        clear hH
        have e1 := sum2 X Y
        have e2 := sum2 td X
        go_wp2_with (first
          | (refine wpl_build rfl _ _ [(0, .int .u32 ((X + Y).toNat : Int)), (1, .int .u32 (ta.toNat : Int)), (2, .int .u32 (tb.toNat : Int)), (3, .int .u32 (tc.toNat : Int)), (4, .int .u32 ((td + X).toNat : Int)), (5, .int .u32 (te.toNat : Int)), (6, .int .u32 (tf.toNat : Int)), (7, .int .u32 (tg.toNat : Int))] (wcells [X + Y, ta, tb, tc, td + X, te, tf, tg]).toArray rfl rfl (by kernel_rfl) ?_; clear e1 e2 g0 g1 g2 g3 g4 g5 g6 g7)
          | (refine wpList_store_row rfl 84 _ _ rfl q (wcells [X + Y, ta, tb, tc, td + X, te, tf, tg]).toArray rfl rfl 84 _ H4.out.blk info8 rfl (wcells_all _) ?_))
        go_wp2
        go_roundw
        case rel =>
          have h5 := H4.out.setRow (wcells [X + Y, ta, tb, tc, td + X, te, tf, tg]).toArray
          refine ⟨i + 1, by omega, by go_num, ?_⟩
          rw [show turns l s (i + 1) = ⟨X + Y, ta, tb, tc, td + X, te, tf, tg⟩ by
            rw [← HX.out, ← HY.out, HW.out, HK.out]
            show turn (turns l s i) _ _ = _
            rw [HT.out]
            rfl]
          exact h5
        case measure => simp [intOf]; omega
      · obtain rfl : i = 64 := by omega
        have H2 := Lib.hid h2
        clear h2
        go_wp2_with (fail)
        go_loopw [102] (fun v102 wr => ∃ i : Nat, i ≤ 8 ∧ v102 = .int .i64 i ∧ Has st (sep (wblk w.heap.size 84 (plusN s.list (turns l s 64).list i)) (sep (wblk q 84 (turns l s 64).list) (sep (wblk (w.heap.size + 1) 84 (List.replicate 8 0)) (sep (wblk p 96 (words l 64)) R)))) wr) (fun v102 _ => 8 - (intOf v102).toNat)
        case atStart => exact ⟨0, Nat.zero_le _, rfl, H2.out.cast (by simp only [plusN]; ac_rfl)⟩
        case round =>
          obtain ⟨i, hi, rfl, h2⟩ := hrel
          clear H2
          by_cases hlt : i < 8
          · generalize hPL : plusN s.list (turns l s 64).list i = PL at h2
            obtain ⟨xi, hxi⟩ : ∃ xi, xi = PL.getD i 0 := ⟨_, rfl⟩
            obtain ⟨yi, hyi⟩ : ∃ yi, yi = (turns l s 64).list.getD i 0 := ⟨_, rfl⟩
            have hlen : PL.length = 8 := by rw [← hPL, plusN_length]; rfl
            have HPL := Lib.hid hlen
            have HC : Hid (∀ w', Has st (sep (wblk w.heap.size 84 PL) (sep (wblk q 84 (turns l s 64).list) (sep (wblk (w.heap.size + 1) 84 (List.replicate 8 0)) (sep (wblk p 96 (words l 64)) R)))) w' →
                w'.cell? ⟨w.heap.size, i, none⟩ = some (.int .u32 (xi.toNat : Int)) ∧ w'.cell? ⟨q, i, none⟩ = some (.int .u32 (yi.toNat : Int))) := Lib.hid fun w' h' =>
              ⟨(h'.cell i).trans (by rw [hxi]; exact wcells_getD (by omega)), (h'.second.cell i).trans (by rw [hyi]; exact wcells_getD hlt)⟩
            have HST : Hid (∀ w', Has st (sep (Sl.blk w.heap.size (.cells ((wcells PL).toArray.setIfInBounds (0 + i) (.int .u32 ((xi + yi).toNat : Int))) 84 (0, 0))) (sep (wblk q 84 (turns l s 64).list) (sep (wblk (w.heap.size + 1) 84 (List.replicate 8 0)) (sep (wblk p 96 (words l 64)) R)))) w' →
                Has st (sep (wblk w.heap.size 84 (PL.set i (xi + yi))) (sep (wblk q 84 (turns l s 64).list) (sep (wblk (w.heap.size + 1) 84 (List.replicate 8 0)) (sep (wblk p 96 (words l 64)) R)))) w') := Lib.hid fun w' h' => by
              rw [Nat.zero_add, List.setIfInBounds_toArray, wcells_set] at h'
              exact h'
            have HN : Hid (PL.set i (xi + yi) = plusN s.list (turns l s 64).list (i + 1)) := Lib.hid (by rw [hxi, hyi, ← hPL]; rfl)
            have pi : (0 : Int) ≤ (i : Int) ∧ (i : Int) < 8 := by omega
            have H2 := Lib.hid h2
            clear h2 hxi hyi hPL hlen
            go_wp2_with (fail)
            refine wp_region_inv (fun L u w' => Slots (fun kk => ([some (.int .i64 ((i : Nat) : Int)), some (.pointer (some ⟨w.heap.size, 0 + i, none⟩)), some (.int .u32 ((xi).toNat : Int)), some (.int .i64 ((i : Nat) : Int)), some (.pointer (some ⟨q, 0 + i, none⟩)), some (.int .u32 ((yi).toNat : Int)), some (.int .u32 (((xi + yi)).toNat : Int)), some (.pointer (some ⟨w.heap.size, 0 + i, none⟩)), none] : List (Option Value)).getD kk none) L u ∧ Has st (sep (wblk w.heap.size 84 (if L 8 then PL.set i (xi + yi) else PL)) (sep (wblk q 84 (turns l s 64).list) (sep (wblk (w.heap.size + 1) 84 (List.replicate 8 0)) (sep (wblk p 96 (words l 64)) R)))) w') (by kernel_rfl) (by decide +kernel) (by decide +kernel) (fun u => ⟨Slots.start _ u, H2.out.drew⟩) ?_ ?_
            · refine ⟨?_, ?_, ?_, ?_, ?_, ?_, ?_, ?_, ?_, trivial⟩
              all_goals (refine RegStep.plain rfl ?_; rintro L u w1 hL hW hD ⟨hS, hH⟩ b hb)
              · exact opw_move _ _ (.inl rfl) (by rw [hb]; kernel_rfl) ⟨_, rfl, hS.step 0 _ (.inr rfl), hH⟩
              · exact opw_indexArr _ _ _ _ _ rfl Tryd.underlying84 info1 (w.heap.size) (0) (i) (by rw [hb]; kernel_rfl) _ ((show _ = u 0 by rw [hb]; kernel_rfl).trans (hS 0 _ rfl (hW.of 0 (by decide)))) hlt ⟨_, rfl, hS.step 1 _ (.inr rfl), hH⟩
              · exact opw_load1 _ _ rfl _ Tryd.underlying70 rfl _ _ ((show _ = u 1 by rw [hb]; kernel_rfl).trans (hS 1 _ rfl (hW.of 1 (by decide)))) ((Nat.zero_add i).symm ▸ (by rw [hD.not 8 2 hL (by decide)] at hH; exact (HC.out _ hH).1)) ⟨_, rfl, hS.step 2 _ (.inr rfl), hH⟩
              · exact opw_move _ _ (.inl rfl) (by rw [hb]; kernel_rfl) ⟨_, rfl, hS.step 3 _ (.inr rfl), hH⟩
              · exact opw_indexArr _ _ _ _ _ rfl Tryd.underlying84 info1 (q) (0) (i) (by rw [hb]; kernel_rfl) _ ((show _ = u 3 by rw [hb]; kernel_rfl).trans (hS 3 _ rfl (hW.of 3 (by decide)))) hlt ⟨_, rfl, hS.step 4 _ (.inr rfl), hH⟩
              · exact opw_load1 _ _ rfl _ Tryd.underlying70 rfl _ _ ((show _ = u 4 by rw [hb]; kernel_rfl).trans (hS 4 _ rfl (hW.of 4 (by decide)))) ((Nat.zero_add i).symm ▸ (by rw [hD.not 8 5 hL (by decide)] at hH; exact (HC.out _ hH).2)) ⟨_, rfl, hS.step 5 _ (.inr rfl), hH⟩
              · exact opw_bin32 _ _ _ _ _ _ _ (xi + yi) rfl ((show _ = u 2 by rw [hb]; kernel_rfl).trans (hS 2 _ rfl (hW.of 2 (by decide)))) ((show _ = u 5 by rw [hb]; kernel_rfl).trans (hS 5 _ rfl (hW.of 5 (by decide)))) (.inl ⟨rfl, rfl⟩) ⟨_, rfl, hS.step 6 _ (.inr rfl), hH⟩
              · exact opw_indexArr _ _ _ _ _ rfl Tryd.underlying84 info1 (w.heap.size) (0) (i) (by rw [hb]; kernel_rfl) _ ((show _ = u 0 by rw [hb]; kernel_rfl).trans (hS 0 _ rfl (hW.of 0 (by decide)))) hlt ⟨_, rfl, hS.step 7 _ (.inr rfl), hH⟩
              · (rw [hL] at hH; exact opw_store1 _ _ _ rfl info1 w.heap.size (0 + i) (.int .u32 ((xi + yi).toNat : Int)) ((show _ = u 7 by rw [hb]; kernel_rfl).trans (hS 7 _ rfl (hW.of 7 (by decide)))) ((show _ = u 6 by rw [hb]; kernel_rfl).trans (hS 6 _ rfl (hW.of 6 (by decide)))) rfl hH (by rw [Nat.zero_add]; simp only [Bool.false_eq_true, if_false, List.size_toArray, wcells_length, HPL.out]; exact hlt) (fun w2 h2 => ⟨_, rfl, hS.step 8 _ (.inl rfl), (HST.out w2 h2)⟩))
            intro L w1 w3 hL ⟨hS, hH⟩
            rw [hL 8 (by decide)] at hH
            simp only [frame_cons, frame_nil]
            have H3 := Lib.hid hH
            clear hL hS hH H2
            go_wp2
            go_roundw
            case rel => exact ⟨i + 1, by omega, by go_num, HN.out ▸ H3.out⟩
            case measure => simp [intOf]; omega
          · obtain rfl : i = 8 := by omega
            rw [show plusN s.list (turns l s 64).list 8 = (mix s l).list from rfl] at h2
            have H3 := Lib.hid ((h2.third.setRow (wcells (mix s l).list).toArray))
            go_wp2_with (first
              | (refine wpList_load_row rfl 84 _ rfl _ rfl 84 _ _ _ h2.blk Tryd.underlying84 rfl info8 ?_)
              | (refine wpList_store_row rfl 84 _ _ rfl _ _ rfl rfl 84 _ h2.third.blk info8 (by simp [wcells_length]; rfl) (wcells_all _) ?_))
            refine bodyPost_ret (results_cell_row Tryd.results44 _ _ _ 84 _ _ _ rfl H3.out.blk Tryd.underlying84 rfl info8) rfl ?_
            exact ⟨rfl, H3.out.right.right.right.right⟩
end Go.Proofs.YtblknhpafifebaaDoor

/-
  SHA-256 in plain Lean: blocks in a row, the end, the sum.
-/
namespace Go.Sha
set_option linter.unusedVariables false
set_option linter.unusedSimpArgs false

theorem word_take (b : List UInt8) (i : Nat) (hi : i < 16) : word (b.take 64) i = word b i := by
  have h : ∀ j, j < 64 → (b.take 64).getD j 0 = b.getD j 0 := fun j hj => by
    simp only [List.getD_eq_getElem?_getD, List.getElem?_take_of_lt hj]
  unfold word
  rw [h _ (by omega), h _ (by omega), h _ (by omega), h _ (by omega)]
theorem words_take (b : List UInt8) (i : Nat) : words (b.take 64) i = words b i := by
  induction i with
  | zero => rfl
  | succ i ih =>
    simp only [words, ih]
    by_cases h : i < 16
    · rw [if_pos h, if_pos h, word_take b i h]
    · rw [if_neg h, if_neg h]
theorem turns_take (b : List UInt8) (s : S8) (i : Nat) : turns (b.take 64) s i = turns b s i := by
  induction i with
  | zero => rfl
  | succ i ih => simp only [turns, ih, words_take]
theorem mix_take (s : S8) (b : List UInt8) : mix s (b.take 64) = mix s b := by unfold mix; rw [turns_take]
theorem mix_congr (s : S8) (b c : List UInt8) (h : b.take 64 = c.take 64) : mix s b = mix s c := by rw [← mix_take s b, ← mix_take s c, h]

/-- blocks in a row -/
def run (s : S8) (l : List UInt8) : Nat → S8
  | 0 => s
  | k + 1 => mix (run s l k) (l.drop (64 * k))
theorem run_add (s : S8) (l : List UInt8) (k j : Nat) : run s l (k + j) = run (run s l k) (l.drop (64 * k)) j := by
  induction j with
  | zero => rfl
  | succ j ih =>
    rw [← Nat.add_assoc]
    show mix (run s l (k + j)) _ = mix (run (run s l k) (l.drop (64 * k)) j) _
    rw [ih, List.drop_drop]
    congr 2
    omega
theorem run_append (s : S8) (m b : List UInt8) (k : Nat) (h : 64 * k ≤ m.length) : run s (m ++ b) k = run s m k := by
  induction k with
  | zero => rfl
  | succ k ih =>
    show mix (run s (m ++ b) k) _ = mix (run s m k) _
    rw [ih (by omega)]
    refine mix_congr _ _ _ ?_
    rw [List.drop_append_of_le_length (by omega), List.take_append_of_le_length (by rw [List.length_drop]; omega)]
/-- the state behind bytes' whole blocks, and the bytes that are left -/
def state (m : List UInt8) : S8 := run start m (m.length / 64)
def left (m : List UInt8) : List UInt8 := m.drop (64 * (m.length / 64))
theorem left_length (m : List UInt8) : (left m).length = m.length % 64 := by unfold left; rw [List.length_drop]; omega
theorem state_append (m b : List UInt8) : state (m ++ b) = run (state m) (left m ++ b) ((left m ++ b).length / 64) := by
  have hl := left_length m
  unfold state
  rw [show (m ++ b).length / 64 = m.length / 64 + (left m ++ b).length / 64 by rw [List.length_append, List.length_append, hl]; omega, run_add, run_append _ _ _ _ (by omega)]
  congr 1
  unfold left
  rw [List.drop_append_of_le_length (by omega)]
theorem left_append (m b : List UInt8) : left (m ++ b) = (left m ++ b).drop (64 * ((left m ++ b).length / 64)) := by
  have hl := left_length m
  have : left m ++ b = (m ++ b).drop (64 * (m.length / 64)) := by
    unfold left; rw [List.drop_append_of_le_length (by omega)]
  rw [this, List.drop_drop]
  unfold left
  congr 1
  rw [List.length_drop]
  have := Nat.div_add_mod m.length 64
  rw [List.length_append]
  omega
/-- eight bytes of a number, the highest first -/
def be8 (n : Nat) : List UInt8 := (List.range 8).map fun i => UInt8.ofNat (n / 256 ^ (7 - i))
def tail (n : Nat) : List UInt8 := 128 :: (List.replicate ((119 - n % 64) % 64) 0 ++ be8 (8 * n))
def bytes (s : S8) : List UInt8 := (List.range 32).map fun i => UInt8.ofNat ((s.list.getD (i / 4) 0).toNat / 2 ^ (24 - 8 * (i % 4)))
/-- the sum -/
def sha (m : List UInt8) : List UInt8 := bytes (state (m ++ tail m.length))
theorem bytes_length (s : S8) : (bytes s).length = 32 := by simp [bytes]
theorem sha_length (m : List UInt8) : (sha m).length = 32 := bytes_length _
theorem tail_length (n : Nat) : (n + (tail n).length) % 64 = 0 := by
  simp [tail, be8]; omega
theorem left_tail (m : List UInt8) : (left m ++ tail m.length).length % 64 = 0 := by
  have := tail_length m.length
  rw [List.length_append, left_length]; omega
end Go.Sha

/-
  sha.Hash: now, Len, and bytes.Clone.
-/
namespace Go.Proofs.YtblknhpafifebaaDoor
open Go.RowKit Go.Sl Go.Sha
set_option linter.unusedVariables false
set_option linter.unusedSimpArgs false

theorem infoB : (Tryd.prog.info? 5).map (fun i => (i.zero, i.size, i.bytes)) = some (some (.int .u8 0), 1, 1) := by kernel_rfl

set_option maxHeartbeats 400000 in
theorem bclone_any (st : World) (R : HProp) (m : List UInt8) (v : Value) (w : World) (h : Has st R w) (hs : Sees st R 1 v m.length (bcells m)) (hb : m.length ≤ 140737488355328) :
    Calls Tryd.prog 43 #[v] w fun e w' => ∃ A c, e = .returned (.slice A m.length c) ∧ Has st (sep (row 5 1 (.slice A m.length c) m.length (bcells m)) R) w' := by
  have hr := hs w h
  obtain ⟨_, A, c, rfl, _, _, ⟨rfl, rfl⟩ | ⟨ad, rfl, _⟩⟩ := hs w h
  · obtain rfl : m = [] := List.eq_nil_of_length_eq_zero (by have := (hs w h).1; obtain ⟨_, _, e, h', _⟩ := (hs w h).2; injection e; omega)
    have he := fun (W : World) => Lib.run_eql_slice_nil (P := Tryd.prog) W 30 5 none 0 0 0 0 Tryd.underlying30
    go_enter Tryd.func43, Tryd.ntmps43
    go_wp2
    go_ret
    exact ⟨none, 0, rfl, h.row_nil _ _⟩
  · have he := fun (W : World) (n k : Nat) => Lib.run_eql_slice_nil (P := Tryd.prog) W 30 5 (some ad) n k 0 0 Tryd.underlying30
    go_enter Tryd.func43, Tryd.ntmps43
    go_wp2_with (refine wp_append rfl _ _ 30 5 1 1 (.int .u8 0) rfl Tryd.underlying30 infoB rfl (by decide) rfl rfl (h.row_empty 5 1) (hs _ (h.alloc' _)) (bcells_one m) (by unfold maxLen; omega) (by omega) ?_; intro A' c' w' h3 _)
    go_ret
    exact ⟨A', c', rfl, by simpa using h3⟩

/-- a Hash's cells -/
def hcells (b : Bool) (s : S8) (v : Value) (n : Nat) : Array Value := #[.bool b, .int .u32 s.a.toNat, .int .u32 s.b.toNat, .int .u32 s.c.toNat, .int .u32 s.d.toNat, .int .u32 s.e.toNat, .int .u32 s.f.toNat, .int .u32 s.g.toNat, .int .u32 s.h.toNat, v, .int .i64 n]
structure HashV where
  b : Bool
  s : S8
  v : Value
def hashOk (m : List UInt8) (x : HashV) : Prop := x.b = false ∧ m = [] ∨ x.b = true ∧ x.s = state m
def hashBlk (p : Nat) (m : List UInt8) (x : HashV) : HProp := blk p (.cells (hcells x.b x.s x.v m.length) 86 (0, 0))
/-- a Hash at block p that was written m -/
def hash (p : Nat) (m : List UInt8) : HProp := ex fun x : HashV => sep (pure (hashOk m x)) (sep (hashBlk p m x) (seenP 1 x.v (left m).length (bcells (left m))))
theorem openHash {st : World} {R : HProp} {w : World} {p : Nat} {m : List UInt8} (h : Has st (sep (hash p m) R) w) : ∃ x : HashV, hashOk m x ∧ Has st (sep (hashBlk p m x) (sep (seenP 1 x.v (left m).length (bcells (left m))) R)) w := by
  obtain ⟨x, h⟩ := h.exL
  obtain ⟨hx, h⟩ := h.assoc.pureL
  exact ⟨x, hx, h.assoc⟩
theorem toHash {st : World} {R : HProp} {w : World} {p : Nat} {m : List UInt8} (x : HashV) (hx : hashOk m x) (h : Has st (sep (hashBlk p m x) (sep (seenP 1 x.v (left m).length (bcells (left m))) R)) w) : Has st (sep (hash p m) R) w :=
  Has.ofEx (p := fun x : HashV => sep (pure (hashOk m x)) (sep (hashBlk p m x) (seenP 1 x.v (left m).length (bcells (left m))))) x ((Has.ofPure hx h.unassoc).unassoc)

/-- the first state lies where it was laid -/
def Start (st : World) (R : HProp) : Prop := ∀ w, Has st R w → ∃ T fr, w.heap[0]? = some (.cells (wcells Sha.start.list).toArray T fr)

set_option maxHeartbeats 1000000 in
theorem now_any (st : World) (R : HProp) (p : Nat) (m : List UInt8) (hst : Start st R) (w : World) (h : Has st (sep (hash p m) R) w) :
    Calls Tryd.prog 42 #[.pointer (some ⟨p, 0, none⟩)] w fun e w' => e = .returned (.agg (wcells (state m).list).toArray) ∧ Has st (sep (hash p m) R) w' := by
  obtain ⟨x, hx, h1⟩ := openHash h
  have HST := Lib.hid hst
  clear hst
  have HX := Lib.hid hx
  obtain ⟨b, s, v⟩ := x
  rcases hx with ⟨e1, e2⟩ | ⟨e1, e2⟩
  · simp only at e1
    subst e1 e2
    have h2 : Has st (sep (Sl.blk w.heap.size (.cells (wcells (List.replicate 8 0)).toArray 84)) _) (w.alloc (.cells #[.int .u32 0, .int .u32 0, .int .u32 0, .int .u32 0, .int .u32 0, .int .u32 0, .int .u32 0, .int .u32 0] 84)) := h1.alloc _
    obtain ⟨T, fr, hst2⟩ := HST.out _ h2.right.right.right
    obtain ⟨S, hS⟩ : ∃ S, S = state [] := ⟨_, rfl⟩
    rw [show Sha.start = S from hS.symm] at hst2
    rw [← hS]
    clear hS
    have HK := Lib.hid hst2
    have c0 : (w.alloc (.cells #[.int .u32 0, .int .u32 0, .int .u32 0, .int .u32 0, .int .u32 0, .int .u32 0, .int .u32 0, .int .u32 0] 84)).cell? ⟨p, 0, none⟩ = some (.bool false) := h2.second.cell 0
    clear hst2
    have H2 := Lib.hid h2
    clear h2
    go_enter Tryd.func42, Tryd.ntmps42
    go_wp2_with (first
      | (refine wpList_load_row rfl 84 _ rfl 0 rfl T (wcells S.list).toArray _ _ HK.out Tryd.underlying84 rfl info8 ?_)
      | (refine wpl_storeRow rfl 84 _ _ rfl w.heap.size (wcells S.list).toArray rfl rfl 84 (wcells (List.replicate 8 0)).toArray info8 rfl (wcells_all _) H2.out ?_; intro w3 h3))
    (try simp only [Exit.inBlock, Exit.then])
    refine bodyPost_ret (results_cell_row Tryd.results42 _ _ _ 84 _ _ _ rfl h3.blk Tryd.underlying84 rfl info8) rfl ?_
    exact ⟨rfl, toHash _ HX.out h3.right⟩
  · simp only at e1 e2
    subst e1 e2
    have h2 : Has st (sep (Sl.blk w.heap.size (.cells (wcells (List.replicate 8 0)).toArray 84)) _) (w.alloc (.cells #[.int .u32 0, .int .u32 0, .int .u32 0, .int .u32 0, .int .u32 0, .int .u32 0, .int .u32 0, .int .u32 0] 84)) := h1.alloc _
    have c0 : (w.alloc (.cells #[.int .u32 0, .int .u32 0, .int .u32 0, .int .u32 0, .int .u32 0, .int .u32 0, .int .u32 0, .int .u32 0] 84)).cell? ⟨p, 0, none⟩ = some (.bool true) := h2.second.cell 0
    have H2 := Lib.hid h2
    clear h2
    go_enter Tryd.func42, Tryd.ntmps42
    go_wp2_with (first
      | (refine wpl_loadMid rfl 84 _ rfl p 1 rfl (wcells (state m).list) _ Tryd.underlying84 rfl info8 H2.out.second rfl ?_)
      | (refine wpl_storeRow rfl 84 _ _ rfl w.heap.size (wcells (state m).list).toArray rfl rfl 84 (wcells (List.replicate 8 0)).toArray info8 rfl (wcells_all _) H2.out ?_; intro w3 h3))
    (try simp only [Exit.inBlock, Exit.then])
    refine bodyPost_ret (results_cell_row Tryd.results42 _ _ _ 84 _ _ _ rfl h3.blk Tryd.underlying84 rfl info8) rfl ?_
    exact ⟨rfl, toHash _ HX.out h3.right⟩

end Go.Proofs.YtblknhpafifebaaDoor

/-
  (*sha.Hash).Write.
-/
namespace Go.Proofs.YtblknhpafifebaaDoor
open Go.RowKit Go.Sl Go.Sha
set_option linter.unusedVariables false
set_option linter.unusedSimpArgs false

theorem infosz : (Tryd.prog.info? 5).map (·.size) = some 1 := by kernel_rfl
theorem infob : (Tryd.prog.info? 4).map (·.size) = some 1 := by kernel_rfl
theorem infosl : (Tryd.prog.info? 30).map (·.size) = some 1 := by kernel_rfl
theorem infoi : (Tryd.prog.info? 3).map (·.size) = some 1 := by kernel_rfl

/-- the loop over whole blocks -/
def WrAt (st : World) (R : HProp) (q : Nat) (S : S8) (X : List UInt8) (V : Value) (v5 : Value) (wr : World) : Prop :=
  ∃ j A c, v5 = .slice A (X.length - 64 * j) c ∧ 64 * j ≤ X.length ∧ (∀ w', Rd 1 w' V X.length (bcells X) → Rd 1 w' v5 (X.length - 64 * j) (bcells (X.drop (64 * j)))) ∧
    Has st (sep (wblk q 84 (run S X j).list) (sep (row 5 1 V X.length (bcells X)) R)) wr
def lenOf : Value → Nat
  | .slice _ n _ => n
  | _ => 0

set_option maxRecDepth 100000 in
set_option maxHeartbeats 4000000 in
theorem write_any (st : World) (R : HProp) (p : Nat) (m b : List UInt8) (v : Value) (hk : Keys st R) (hst : Start st R) (w : World) (h : Has st (sep (hash p m) R) w) (hs : Sees st R 1 v b.length (bcells b)) (hmb : m.length + b.length ≤ 140737488355000) :
    Calls Tryd.prog 36 #[.pointer (some ⟨p, 0, none⟩), v] w fun e w' => e = .returned (.tuple #[]) ∧ Has st (sep (hash p (m ++ b)) R) w' := by
  obtain ⟨Ab, cb, rfl⟩ := hs.form h.right
  have HS := Lib.hid hs
  have HKeys := Lib.hid hk
  have HST := Lib.hid hst
  clear hs hk hst
  have hll := left_length m
  have HLL : (left m).length < 64 := by omega
  clear hll
  have hXl : (left m ++ b).length = (left m).length + b.length := List.length_append
  obtain ⟨X, hX⟩ : ∃ X, X = left m ++ b := ⟨_, rfl⟩
  rw [← hX] at hXl
  have HX := Lib.hid hX
  have HXL := Lib.hid hXl
  clear hX hXl
  go_enter Tryd.func36, Tryd.ntmps36
  go_wp2_with (first
    | (go_at_call 42; refine (now_any st R p m HST.out _ h).mono ?_; rintro e w1 ⟨rfl, h1⟩)
    | (refine wpl_storeRow rfl 84 _ _ rfl w1.heap.size (wcells (state m).list).toArray rfl rfl 84 (wcells (List.replicate 8 0)).toArray info8 rfl (wcells_all _) (h1.alloc _) ?_; intro w2 h2; obtain ⟨x, hx, h3⟩ := openHash h2.second; obtain ⟨Al, cl, hv⟩ := (sees_seen st 1 x.v (left m).length (bcells (left m)) _).form h3.right; have c9 : w2.cell? ⟨p, 9, none⟩ = some (.slice Al (left m).length cl) := (h3.cell 9).trans (by rw [← hv]; rfl); have HV := Lib.hid hv; have HHX := Lib.hid hx; have H3 := Lib.hid h3; clear hv hx h2 h3)
    | (go_at_call 43; refine (bclone_any st _ (left m) _ _ H3.out (by rw [← HV.out]; exact (sees_seen st 1 x.v (left m).length (bcells (left m)) _).right) (by omega)).mono ?_; rintro e w4 ⟨A4, c4, rfl, h4⟩; have H4 := Lib.hid h4; clear h4 c9)
    | (refine wp_append (v := .slice A4 (left m).length c4) rfl _ _ 30 5 1 1 (.int .u8 0) rfl Tryd.underlying30 infoB rfl (by decide) rfl rfl H4.out (HS.out _ H4.out.right.right.right.right) (bcells_one b) (by unfold maxLen; omega) (by omega) ?_; intro A6 c6 w6 h6 hnil; clear hnil; rw [bcells_append, ← HX.out, ← HXL.out] at h6; have H6 := Lib.hid h6; clear h6))
  generalize hq : w1.heap.size = q at H3 H4 H6 ⊢
  rw [← HXL.out]
  clear hq
  go_loopw [5] (WrAt st (sep (hashBlk p m x) (sep (seenP 1 x.v (left m).length (bcells (left m))) R)) q (state m) X (.slice A6 X.length c6)) (fun v _ => lenOf v)
  case atStart => exact ⟨0, A6, c6, rfl, Nat.zero_le _, fun w' h => h, H6.out.cast (by simp only [run, wblk]; ac_rfl)⟩
  case round =>
    obtain ⟨j, A, c, rfl, hj, hR, h7⟩ := hrel
    have HR := Lib.hid hR
    have hlen : (X.drop (64 * j)).length = X.length - 64 * j := List.length_drop
    have hXL := HXL.out
    obtain ⟨n, hn⟩ : ∃ n, n = X.length - 64 * j := ⟨_, rfl⟩
    obtain ⟨S5, hS5⟩ : ∃ S5, S5 = run (state m) X j := ⟨_, rfl⟩
    rw [← hn] at hlen ⊢
    rw [← hS5] at h7
    have hnb : n ≤ 140737488355100 := by omega
    have HN := Lib.hid hn
    have HLen := Lib.hid hlen
    have HS5 := Lib.hid hS5
    clear hR hn hlen hS5 hXL H3 H4 H6
    by_cases h64 : 64 ≤ n
    · obtain ⟨M, hM⟩ : ∃ M, M = mix S5 (X.drop (64 * j)) := ⟨_, rfl⟩
      have HM : Hid (∀ w', Has st (sep (row 5 1 (.slice A6 X.length c6) X.length (bcells X)) (sep (wblk q 84 S5.list) (sep (hashBlk p m x) (sep (seenP 1 x.v (left m).length (bcells (left m))) R)))) w' →
          Calls Tryd.prog 44 #[.agg (wcells S5.list).toArray, .slice A n c] w' fun e w'' => e = .returned (.agg (wcells M.list).toArray) ∧ Has st (sep (row 5 1 (.slice A6 X.length c6) X.length (bcells X)) (sep (wblk q 84 S5.list) (sep (hashBlk p m x) (sep (seenP 1 x.v (left m).length (bcells (left m))) R)))) w'') := Lib.hid fun w' h' => by
        have hsee : Sees st (sep (row 5 1 (.slice A6 X.length c6) X.length (bcells X)) (sep (wblk q 84 S5.list) (sep (hashBlk p m x) (sep (seenP 1 x.v (left m).length (bcells (left m))) R)))) 1 (.slice A n c) n (bcells (X.drop (64 * j))) := fun w2 h2 => by
          have := HR.out w2 (sees_row st _ 1 _ _ _ _ w2 h2)
          rwa [← HN.out] at this
        have hl := HLen.out
        have := mix_any st _ S5 (X.drop (64 * j)) A c (by rw [hl]; exact hsee) (by omega) (fun w2 h2 => HKeys.out w2 h2.right.right.right.right) w' h'
        rw [hl, ← hM] at this
        exact this
      have HMM := Lib.hid hM
      clear hM
      have H7 := Lib.hid h7
      have hcap := (HR.out wr (sees_row st _ 1 _ _ _ _ wr h7.right)).le_cap
      rw [← HN.out] at hcap
      clear h7
      go_wp2_with (first
        | (refine wpl_loadRow rfl 84 _ rfl q rfl 84 (wcells S5.list).toArray _ _ Tryd.underlying84 rfl info8 H7.out ?_)
        | (go_at_call 44; refine (HM.out _ H7.out.second).mono ?_; rintro e w8 ⟨rfl, h8⟩; have H8 := Lib.hid h8.second; clear h8)
        | (refine wpl_storeRow rfl 84 _ _ rfl q (wcells M.list).toArray rfl rfl 84 (wcells S5.list).toArray info8 rfl (wcells_all _) H8.out ?_; intro w9 h9; have H9 := Lib.hid h9; clear h9)
        | (refine wp_slice rfl 30 5 1 _ _ _ _ rfl Tryd.underlying30 infosz (by decide) (A := A) (n := n) (cap := c) (xs := bcells (X.drop (64 * j))) rfl (by rw [HN.out]; exact HR.out _ (sees_row st _ 1 _ _ _ _ _ H9.out.second)) 64 n c (SlB.at .i64 64 0) (SlB.out n) (SlB.out c) (fun h => absurd rfl h) h64 (Nat.le_refl _) hcap.1 (Nat.le_refl _) ?_; intro A' c' hR2; have HR2 := Lib.hid hR2; clear hR2))
      have hn := HN.out
      have e1 : X.length - 64 * (j + 1) = n - 64 := by omega
      have hj2 : 64 * (j + 1) ≤ X.length := by omega
      go_roundw
      case rel =>
        refine ⟨j + 1, A', c', by rw [e1], hj2, fun w' hw => ?_, ?_⟩
        · have := HR2.out w' (by have := HR.out w' hw; rwa [← hn] at this)
          rw [e1]
          simp only [Nat.mul_one] at this
          rw [bcells_drop, List.drop_drop, bcells_take, List.take_of_length_le (by rw [List.length_drop]; omega)] at this
          exact this
        · have := H9.out
          rw [HMM.out, HS5.out] at this
          exact this.cast (by simp only [run, wblk] <;> ac_rfl)
      case measure => (simp [lenOf] <;> omega)
    · have hn := HN.out
      have hj3 : j = X.length / 64 := by omega
      have HS6 : Hid (S5 = state (m ++ b)) := Lib.hid (by rw [HS5.out, state_append, ← HX.out, hj3])
      have HL6 : Hid (X.drop (64 * j) = left (m ++ b)) := Lib.hid (by rw [left_append, ← HX.out, hj3])
      clear hn hj3
      obtain ⟨A5, hA5⟩ : ∃ A5, A5 = A := ⟨_, rfl⟩
      obtain ⟨n5, hn5⟩ : ∃ n5, n5 = n := ⟨_, rfl⟩
      obtain ⟨c5, hc5⟩ : ∃ c5, c5 = c := ⟨_, rfl⟩
      subst hA5 hn5 hc5
      have H5 := Lib.hid (h7.cast (by simp only [wblk]; ac_rfl) : Has st (sep (hashBlk p m x) (sep (wblk q 84 S5.list) (sep (row 5 1 (.slice A6 X.length c6) X.length (bcells X)) (sep (seenP 1 x.v (left m).length (bcells (left m))) R)))) wr)
      clear h7
      go_wp2_with (fail)
      refine wp_region_inv (fun L u w' => Slots (fun kk => ([some (.pointer (some ⟨p, 0, none⟩)), some (.pointer (some ⟨p, 0, none⟩)), some (.pointer (some ⟨p, 0, none⟩)), some (.pointer (some ⟨p, 0, none⟩)), some (.agg (wcells S5.list).toArray), some (.slice A5 n5 c5), some (.pointer (some ⟨p, 0, none⟩)), some (.pointer (some ⟨p, 0, none⟩)), some (.pointer (some ⟨p, 10, none⟩)), some (.int .i64 ((m.length : Nat) : Int)), some (.slice Ab b.length cb), some (.int .i64 ((b.length : Nat) : Int)), some (.int .i64 ((m.length + b.length : Nat) : Int)), some (.pointer (some ⟨p, 0, none⟩)), some (.pointer (some ⟨p, 0, none⟩)), none, some (.pointer (some ⟨p, 0, none⟩)), some (.pointer (some ⟨p, 1, none⟩)), none, some (.pointer (some ⟨p, 0, none⟩)), some (.pointer (some ⟨p, 9, none⟩)), none, some (.pointer (some ⟨p, 0, none⟩)), some (.pointer (some ⟨p, 10, none⟩)), none] : List (Option Value)).getD kk none) L u ∧ Has st (sep (blk p (.cells (hcells (if L 15 then true else x.b) (if L 18 then S5 else x.s) (if L 21 then .slice A5 n5 c5 else x.v) (if L 24 then m.length + b.length else m.length)) 86 (0, 0))) (sep (wblk q 84 S5.list) (sep (row 5 1 (.slice A6 X.length c6) X.length (bcells X)) (sep (seenP 1 x.v (left m).length (bcells (left m))) R)))) w') (by kernel_rfl) (by decide +kernel) (by decide +kernel) (fun u => ⟨Slots.start _ u, H5.out.drew⟩) ?_ ?_
      · refine ⟨?_, ?_, ?_, ?_, ?_, ?_, ?_, ?_, ?_, ?_, ?_, ?_, ?_, ?_, ?_, ?_, ?_, ?_, ?_, ?_, ?_, ?_, ?_, ?_, ?_, trivial⟩
        all_goals (refine RegStep.plain rfl ?_; rintro L u w1 hL hW hD ⟨hS, hH⟩ b0 hb)
        · exact opw_move _ _ (.inl rfl) (by rw [hb]; kernel_rfl) ⟨_, rfl, hS.step 0 _ (.inr rfl), hH⟩
        · exact opw_move _ _ (.inl rfl) (by rw [hb]; kernel_rfl) ⟨_, rfl, hS.step 1 _ (.inr rfl), hH⟩
        · exact opw_move _ _ (.inl rfl) (by rw [hb]; kernel_rfl) ⟨_, rfl, hS.step 2 _ (.inr rfl), hH⟩
        · exact opw_move _ _ (.inl rfl) (by rw [hb]; kernel_rfl) ⟨_, rfl, hS.step 3 _ (.inr rfl), hH⟩
        · exact opw_loadRow _ _ rfl q (by rw [hb]; kernel_rfl) _ (wcells S5.list).toArray _ _ Tryd.underlying84 rfl info8 hH.right ⟨_, rfl, hS.step 4 _ (.inr rfl), hH⟩
        · exact opw_move _ _ (.inl rfl) (by rw [hb]; kernel_rfl) ⟨_, rfl, hS.step 5 _ (.inr rfl), hH⟩
        · exact opw_move _ _ (.inl rfl) (by rw [hb]; kernel_rfl) ⟨_, rfl, hS.step 6 _ (.inr rfl), hH⟩
        · exact opw_nilCheck _ _ rfl ((show _ = u 6 by rw [hb]; kernel_rfl).trans (hS 6 _ rfl (hW.of 6 (by decide)))) ⟨_, rfl, hS.step 7 _ (.inr rfl), hH⟩
        · exact opw_field _ _ _ 10 rfl (by kernel_rfl) (p) (0) ((show _ = u 7 by rw [hb]; kernel_rfl).trans (hS 7 _ rfl (hW.of 7 (by decide)))) ⟨_, rfl, hS.step 8 _ (.inr rfl), hH⟩
        · exact opw_load1 _ _ rfl _ Tryd.underlying3 rfl _ _ ((show _ = u 8 by rw [hb]; kernel_rfl).trans (hS 8 _ rfl (hW.of 8 (by decide)))) (by have hn := hD.not 24 9 hL (by decide); simp only [hn] at hH; exact hH.cell 10) ⟨_, rfl, hS.step 9 _ (.inr rfl), hH⟩
        · exact opw_move _ _ (.inl rfl) (by rw [hb]; kernel_rfl) ⟨_, rfl, hS.step 10 _ (.inr rfl), hH⟩
        · exact opw_len _ _ _ Tryd.underlying30 Ab b.length cb rfl ((show _ = u 10 by rw [hb]; kernel_rfl).trans (hS 10 _ rfl (hW.of 10 (by decide)))) ⟨_, rfl, hS.step 11 _ (.inr rfl), hH⟩
        · exact opw_addNat _ _ _ _ (m.length) (b.length) rfl ((show _ = u 9 by rw [hb]; kernel_rfl).trans (hS 9 _ rfl (hW.of 9 (by decide)))) ((show _ = u 11 by rw [hb]; kernel_rfl).trans (hS 11 _ rfl (hW.of 11 (by decide)))) (by omega) ⟨_, rfl, hS.step 12 _ (.inr rfl), hH⟩
        · exact opw_nilCheck _ _ rfl ((show _ = u 0 by rw [hb]; kernel_rfl).trans (hS 0 _ rfl (hW.of 0 (by decide)))) ⟨_, rfl, hS.step 13 _ (.inr rfl), hH⟩
        · exact opw_field _ _ _ 0 rfl (by kernel_rfl) (p) (0) ((show _ = u 13 by rw [hb]; kernel_rfl).trans (hS 13 _ rfl (hW.of 13 (by decide)))) ⟨_, rfl, hS.step 14 _ (.inr rfl), hH⟩
        · (simp only [hL] at hH; exact opw_store1 _ _ _ rfl infob p 0 (.bool true) ((show _ = u 14 by rw [hb]; kernel_rfl).trans (hS 14 _ rfl (hW.of 14 (by decide)))) rfl rfl hH (by show 0 < 11; decide) (fun w2 h2 => ⟨_, rfl, hS.step 15 _ (.inl rfl), h2⟩))
        · exact opw_nilCheck _ _ rfl ((show _ = u 1 by rw [hb]; kernel_rfl).trans (hS 1 _ rfl (hW.of 1 (by decide)))) ⟨_, rfl, hS.step 16 _ (.inr rfl), hH⟩
        · exact opw_field _ _ _ 1 rfl (by kernel_rfl) (p) (0) ((show _ = u 16 by rw [hb]; kernel_rfl).trans (hS 16 _ rfl (hW.of 16 (by decide)))) ⟨_, rfl, hS.step 17 _ (.inr rfl), hH⟩
        · (simp only [hL] at hH; exact opw_storeMid _ _ _ rfl p 1 (wcells S5.list) ((show _ = u 17 by rw [hb]; kernel_rfl).trans (hS 17 _ rfl (hW.of 17 (by decide)))) ((show _ = u 4 by rw [hb]; kernel_rfl).trans (hS 4 _ rfl (hW.of 4 (by decide)))) info8 (wcells_one _) hH (by show 9 ≤ 11; decide) (fun w2 h2 => ⟨_, rfl, hS.step 18 _ (.inl rfl), h2⟩))
        · exact opw_nilCheck _ _ rfl ((show _ = u 2 by rw [hb]; kernel_rfl).trans (hS 2 _ rfl (hW.of 2 (by decide)))) ⟨_, rfl, hS.step 19 _ (.inr rfl), hH⟩
        · exact opw_field _ _ _ 9 rfl (by kernel_rfl) (p) (0) ((show _ = u 19 by rw [hb]; kernel_rfl).trans (hS 19 _ rfl (hW.of 19 (by decide)))) ⟨_, rfl, hS.step 20 _ (.inr rfl), hH⟩
        · (simp only [hL] at hH; exact opw_store1 _ _ _ rfl infosl p 9 (.slice A5 n5 c5) ((show _ = u 20 by rw [hb]; kernel_rfl).trans (hS 20 _ rfl (hW.of 20 (by decide)))) ((show _ = u 5 by rw [hb]; kernel_rfl).trans (hS 5 _ rfl (hW.of 5 (by decide)))) rfl hH (by show 9 < 11; decide) (fun w2 h2 => ⟨_, rfl, hS.step 21 _ (.inl rfl), h2⟩))
        · exact opw_nilCheck _ _ rfl ((show _ = u 3 by rw [hb]; kernel_rfl).trans (hS 3 _ rfl (hW.of 3 (by decide)))) ⟨_, rfl, hS.step 22 _ (.inr rfl), hH⟩
        · exact opw_field _ _ _ 10 rfl (by kernel_rfl) (p) (0) ((show _ = u 22 by rw [hb]; kernel_rfl).trans (hS 22 _ rfl (hW.of 22 (by decide)))) ⟨_, rfl, hS.step 23 _ (.inr rfl), hH⟩
        · (simp only [hL] at hH; exact opw_store1 _ _ _ rfl infoi p 10 (.int .i64 ((m.length + b.length : Nat) : Int)) ((show _ = u 23 by rw [hb]; kernel_rfl).trans (hS 23 _ rfl (hW.of 23 (by decide)))) ((show _ = u 12 by rw [hb]; kernel_rfl).trans (hS 12 _ rfl (hW.of 12 (by decide)))) rfl hH (by show 10 < 11; decide) (fun w2 h2 => ⟨_, rfl, hS.step 24 _ (.inl rfl), h2⟩))
      intro L u w3 hL ⟨hS, hH⟩
      rw [hL 15 (by decide), hL 18 (by decide), hL 21 (by decide), hL 24 (by decide)] at hH
      simp only [if_true] at hH
      simp only [frame_cons, frame_nil]
      have H8 := Lib.hid hH
      clear hL hS hH H5
      go_end0
      refine ⟨rfl, ?_⟩
      have h9 := (H8.out.cast (show _ = sep (row 5 1 (.slice A6 X.length c6) X.length (bcells X)) (sep (blk p (.cells (hcells true S5 (.slice A5 n5 c5) (m.length + b.length)) 86 (0, 0))) (sep (wblk q 84 S5.list) (sep (seenP 1 x.v (left m).length (bcells (left m))) R))) by ac_rfl)).row_seen
      have h10 := h9.seen_part (v' := .slice A5 n5 c5) (n' := n5) (xs' := bcells (X.drop (64 * j))) (fun w' hw => by have := HR.out w' hw; rwa [← HN.out] at this)
      have hl5 : n5 = (left (m ++ b)).length := by rw [← HL6.out, HLen.out]
      rw [HL6.out, hl5] at h10
      refine toHash ⟨true, S5, .slice A5 (left (m ++ b)).length c5⟩ (.inr ⟨rfl, HS6.out⟩) ?_
      have hml : (m ++ b).length = m.length + b.length := List.length_append
      unfold hashBlk
      rw [hml]
      have h11 := (h10.cast (show _ = sep (wblk q 84 S5.list) (sep (seenP 1 x.v (left m).length (bcells (left m))) (sep (blk p (.cells (hcells true S5 (.slice A5 (left (m ++ b)).length c5) (m.length + b.length)) 86 (0, 0))) (sep (seenP 1 (.slice A5 (left (m ++ b)).length c5) (left (m ++ b)).length (bcells (left (m ++ b)))) R))) by simp only [wblk]; ac_rfl)).right.right
      exact h11
end Go.Proofs.YtblknhpafifebaaDoor
