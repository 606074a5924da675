/-
  coldstorelaw14.all.
-/
import Derived.Test.YtblknhpafifebaaDoorAllA
namespace Go.Proofs.YtblknhpafifebaaDoor
open Go Go.RowKit Go.Sl Go.Sha Go.Shelf
set_option linter.unusedVariables false
set_option linter.unusedSimpArgs false
set_option maxRecDepth 100000
attribute [local go_sem] Oper.semAt_some

set_option maxHeartbeats 1000000 in
theorem allv_in (F : Fence) (n : Nat) (h34 : F.fn 34) (hro : F.round = none) (p : Nat) (w : World) :
    CallsIn F n Tryd.prog 34 #[.pointer (some ⟨p, 0, none⟩)] w fun e w' => e = .returned (.func (.func 41) #[] #[.pointer (some ⟨w.heap.size, 0, none⟩)]) ∧ w' = w.alloc (.cells #[.pointer (some ⟨p, 0, none⟩)] 25) := by
  refine callsIn_of_wp Tryd.func34 rfl h34 ?_ hro
  simp only [Tryd.ntmps34, List.size_toArray, List.length_cons, List.length_nil, Nat.reduceAdd, Nat.reduceSub, Array.replicate_succ, Array.replicate_zero, List.push_toArray, List.append_toArray, List.nil_append, List.cons_append]
  gi_wp2
  go_ret
  exact ⟨rfl, rfl⟩

/-- the cells of sums -/
def idcs (L : List Id32) : List Value := L.flatMap fun x => bcells x.1
theorem idcs_snoc (L : List Id32) (x : Id32) : idcs (L ++ [x]) = idcs L ++ bcells x.1 := by simp [idcs]
theorem infoIDs : (Tryd.prog.info? 46).map (·.size) = some 1 := by kernel_rfl
theorem zeroIDs : (Tryd.prog.info? 46).map (·.zero) = some (some (.slice none 0 0)) := by kernel_rfl
theorem infoID3 : (Tryd.prog.info? 34).map (fun i => (i.zero, i.size, i.bytes)) = some (some (.agg (bcells (List.replicate 32 0)).toArray), 32, 32) := by kernel_rfl
theorem infoID2 : (Tryd.prog.info? 34).map (fun i => (i.zero, i.size)) = some (some (.agg (bcells (List.replicate 32 0)).toArray), 32) := by kernel_rfl

/-- what `all` holds: the row, the cells of out, of the result, of most -/
def AllP (o r m : Nat) (most : Int) (rv : Value → Value) (L : List Id32) : HProp := ex fun v => sep (blk o (.cells #[v] 46 (0, 0))) (sep (row 34 32 v L.length (idcs L)) (sep (blk r (.cells #[rv v] 46 (0, 0))) (blk m (.cells #[.int .i64 most] 3 (0, 0)))))
theorem cellish_all (o r m : Nat) (most : Int) (rv : Value → Value) (L : List Id32) : Cellish (AllP o r m most rv L) :=
  cellish_ex fun v => cellish_sep (cellish_blk _ _ _ _) (cellish_sep (cellish_row _ _ _ _ _) (cellish_sep (cellish_blk _ _ _ _) (cellish_blk _ _ _ _)))
theorem openAll {st w : World} {R : HProp} {o r m : Nat} {most : Int} {rv : Value → Value} {L : List Id32} (h : Has st (sep (AllP o r m most rv L) R) w) :
    ∃ A c, Has st (sep (blk o (.cells #[.slice A L.length c] 46 (0, 0))) (sep (row 34 32 (.slice A L.length c) L.length (idcs L)) (sep (blk r (.cells #[rv (.slice A L.length c)] 46 (0, 0))) (sep (blk m (.cells #[.int .i64 most] 3 (0, 0))) R)))) w := by
  obtain ⟨v, h1⟩ := h.exL
  have h2 := h1.flat4
  obtain ⟨A, c, rfl⟩ := h2.second.row_slice
  exact ⟨A, c, h2⟩
theorem toAll {st w : World} {R : HProp} {o r m : Nat} {most : Int} {rv : Value → Value} {L : List Id32} (v : Value) (h : Has st (sep (blk o (.cells #[v] 46 (0, 0))) (sep (row 34 32 v L.length (idcs L)) (sep (blk r (.cells #[rv v] 46 (0, 0))) (sep (blk m (.cells #[.int .i64 most] 3 (0, 0))) R)))) w) :
    Has st (sep (AllP o r m most rv L) R) w := Has.ofEx v (h.cast (by ac_rfl))
theorem fold1 (t : Array Value) (p : Nat) (v : Value) : ((#[p] : Array Nat).zip #[v]).foldl (fun t (p, v) => t.setIfInBounds p v) t = t.setIfInBounds p v := by simp
/-- the sums that `all` hands back -/
def allIds (K : List Kp) (h : ∀ k ∈ K, k.ok) (most : Int) : List Id32 := (idsOf K h).take most.toNat

set_option maxHeartbeats 4000000 in
theorem allL_any (st : World) (R : HProp) (p : Nat) (K : List Kp) (lim most : Int) (w : World) (h : Has st (sep (cacheP p K lim) R) w) (hok : ∀ k ∈ K, k.ok) (hlen : K.length ≤ 100000) :
    Calls Tryd.prog 21 #[.pointer (some ⟨p, 0, none⟩), .int .i64 most] w fun e w' => ∃ v, e = .returned v ∧ Has st (sep (row 34 32 v (allIds K hok most).length (idcs (allIds K hok most))) (sep (cacheP p K lim) R)) w' := by
  obtain ⟨Ac, cc, hoc⟩ := openCache h
  have hc0 : w.cell? ⟨p, 0, none⟩ = some (.slice Ac K.length cc) := hoc.cell 0
  have hpw : p < w.heap.size := hoc.lt
  have hsee : Sees w (old w) 33 (.slice Ac K.length cc) K.length (kcs K) := sees_old (Rd.of_row hoc.second.ownsRow)
  have HC0 := Lib.hid hc0
  have HSE := Lib.hid hsee
  have HFIN : Hid (∀ W v (L : List Id32), Has w (sep (row 34 32 v L.length (idcs L)) (old w)) W → Has st (sep (row 34 32 v L.length (idcs L)) (sep (cacheP p K lim) R)) W) := Lib.hid fun W v L hw => hw.of_old h
  have HO := Lib.hid (Has.old_start w)
  have HOK := Lib.hid hok
  clear h hoc hc0 hsee
  refine (callsIn_wide (n := 10)).1 ?_
  have hro : (Fence.wide).round = none := rfl
  refine callsIn_of_wp_marks Tryd.func21 rfl trivial ?_ rfl
  simp only [Tryd.ntmps21, List.size_toArray, List.length_cons, List.length_nil, Nat.reduceAdd, Nat.reduceSub, Array.replicate_succ, Array.replicate_zero, List.push_toArray, List.append_toArray, List.nil_append, List.cons_append]
  by_cases hm : most ≤ 0
  · gi_wp2_with ((with_reducible refine wpListIn_plain rfl ?_); intro _ hk; (first
      | (refine wpIn_of_wp _ _ rfl (opw_box 3 (.int .i64 most) #[.int .i64 most] rfl rfl rfl HO.out (fun m w1 hp h1 => hk _ _ ?_)); clear hp; have H1 := Lib.hid h1; clear h1)
      | (refine wpIn_of_wp _ _ rfl (opw_row0 46 34 32 rfl Tryd.underlying46 infoID H2.out (fun v3 w3 h3 => hk _ _ ?_)); have H3 := Lib.hid h3; clear h3)
      | (refine wpIn_of_wp _ _ rfl (opw_alloc 46 (.slice none 0 0) #[.slice none 0 0] rfl zeroIDs rfl H3.out (fun o w4 hp h4 => hk _ _ ?_)); clear hp; have H4 := Lib.hid h4; clear h4)
      | (refine wpIn_of_wp _ _ rfl (opw_alloc 46 (.slice none 0 0) #[.slice none 0 0] rfl zeroIDs rfl H1.out (fun r w2 hp h2 => hk _ _ ?_)); clear hp; have H2 := Lib.hid h2; clear h2)
      | (refine wpIn_of_wp _ _ rfl (opw_store1 46 _ _ rfl infoIDs o 0 v3 rfl rfl (row_one H4.out.second) H4.out (by decide) (fun w5 h5 => hk _ _ ?_)); have H5 := Lib.hid h5; clear h5; have cm := H5.out.fourth.cell 0; have co := H5.out.cell 0; simp only [List.setIfInBounds_toArray, List.set_cons_zero, List.getElem?_toArray, List.getElem?_cons_zero] at cm co)
      | (refine wpIn_of_wp _ _ rfl (opw_store1 46 _ _ rfl infoIDs r 0 v3 rfl rfl (row_one H5.out.second) H5.out.third (by decide) (fun w6 h6 => hk _ _ ?_)); have H6 := Lib.hid h6; clear h6)); simp only [Act.put, List.setIfInBounds_toArray, List.set_cons_zero, List.set_cons_succ])
    have h6 := H6.out
    have cr := h6.cell 0
    simp only [List.setIfInBounds_toArray, List.set_cons_zero, List.getElem?_toArray, List.getElem?_cons_zero] at cr
    have hl : allIds K hok most = [] := by unfold allIds; rw [Int.toNat_of_nonpos hm]; rfl
    refine ⟨v3, by simp [results, Tryd.results21, go_sem, cr], v3, rfl, ?_⟩
    rw [hl]
    exact HFIN.out _ v3 [] ((h6.cast (show _ = sep (blk o (.cells #[v3] 46 (0, 0))) (sep (blk r (.cells #[v3] 46 (0, 0))) (sep (blk m (.cells #[.int .i64 most] 3 (0, 0))) (sep (row 34 32 v3 0 []) (old w)))) by simp only [List.setIfInBounds_toArray, List.set_cons_zero]; ac_rfl)).right.right.right)
  · gi_wp2_with (first | (refine ⟨trivial, ?_⟩; gi_at_call 34; refine (allv_in Fence.wide _ trivial rfl p _).mono ?_; rintro e w6 ⟨rfl, hw6⟩; have HW6 := Lib.hid hw6; clear hw6) | ((with_reducible refine wpListIn_plain rfl ?_); intro _ hk; (first
      | (refine wpIn_of_wp _ _ rfl (opw_box 3 (.int .i64 most) #[.int .i64 most] rfl rfl rfl HO.out (fun m w1 hp h1 => hk _ _ ?_)); clear hp; have H1 := Lib.hid h1; clear h1)
      | (refine wpIn_of_wp _ _ rfl (opw_row0 46 34 32 rfl Tryd.underlying46 infoID H2.out (fun v3 w3 h3 => hk _ _ ?_)); have H3 := Lib.hid h3; clear h3)
      | (refine wpIn_of_wp _ _ rfl (opw_alloc 46 (.slice none 0 0) #[.slice none 0 0] rfl zeroIDs rfl H3.out (fun o w4 hp h4 => hk _ _ ?_)); clear hp; have H4 := Lib.hid h4; clear h4)
      | (refine wpIn_of_wp _ _ rfl (opw_alloc 46 (.slice none 0 0) #[.slice none 0 0] rfl zeroIDs rfl H1.out (fun r w2 hp h2 => hk _ _ ?_)); clear hp; have H2 := Lib.hid h2; clear h2)
      | (refine wpIn_of_wp _ _ rfl (opw_store1 46 _ _ rfl infoIDs o 0 v3 rfl rfl (row_one H4.out.second) H4.out (by decide) (fun w5 h5 => hk _ _ ?_)); have H5 := Lib.hid h5; clear h5; have cm := H5.out.fourth.cell 0; have co := H5.out.cell 0; simp only [List.setIfInBounds_toArray, List.set_cons_zero, List.getElem?_toArray, List.getElem?_cons_zero] at cm co)); simp only [Act.put, List.setIfInBounds_toArray, List.set_cons_zero, List.set_cons_succ]))
    have h5 : Has w (sep (blk o (.cells #[v3] 46 (0, 0))) (sep (row 34 32 v3 0 []) (sep (blk r (.cells #[.slice none 0 0] 46 (0, 0))) (sep (blk m (.cells #[.int .i64 most] 3 (0, 0))) (old w))))) w5 := H5.out
    have h6 : Has w (sep (blk o (.cells #[v3] 46 (0, 0))) (sep (row 34 32 v3 0 []) (sep (blk r (.cells #[.slice none 0 0] 46 (0, 0))) (sep (blk m (.cells #[.int .i64 most] 3 (0, 0))) (old w))))) w6 := by rw [HW6.out]; exact h5.alloc' _
    have hq : w6.cell? ⟨w5.heap.size, 0, none⟩ = some (.pointer (some ⟨p, 0, none⟩)) := by rw [HW6.out, cell_of_row _ _ _ _ _ _ (heap_alloc_new w5 _)]; rfl
    have hb6 : Below w.heap.size w w6 := (h6.right.right.right.right).old_below
    have h6' : Has w (sep (AllP o r m most (fun _ => .slice none 0 0) []) (old w)) w6 := toAll (rv := fun _ => .slice none 0 0) (L := []) v3 h6
    have hsz6 : w6.heap.size = w5.heap.size + 1 := by rw [HW6.out]; simp
    have HB6 := Lib.hid hb6
    have HNEW := Lib.hid (new_of_old (p := emp) (R := sep (row 34 32 v3 0 []) (sep (blk r (.cells #[.slice none 0 0] 46 (0, 0))) (blk m (.cells #[.int .i64 most] 3 (0, 0))))) (h6.cast (by ac_rfl)))
    have hps : 0 < most := by omega
    clear h5 h6 H1 H2 H3 H4 H5 HO cm co HW6
    have hstops : SeqStopsK Fence.wide (10 - 1) Tryd.prog 41 #[.pointer (some ⟨w5.heap.size, 0, none⟩)] (fun x : Id32 => #[.agg (bcells x.1).toArray]) (Below w.heap.size) (fun ys => ys = idsOf K hok) (fun pre => pre <+: idsOf K hok) K.length w6 := fun l J Jx W hW hJ _ hY h0 =>
      all1_in Fence.wide (10 - 1) trivial rfl (by decide) l p w5.heap.size w.heap.size (.slice Ac K.length cc) K hok (by omega) J Jx hY W (Nat.le_trans hb6.size hW.size) hJ
        ((hW.cell (p := ⟨w5.heap.size, 0, none⟩) (by show w5.heap.size < w6.heap.size; omega)).trans hq) (((hb6.trans (hW.mono hb6.size)).cell (p := ⟨p, 0, none⟩) hpw).trans HC0.out)
        (fun W' hW' => HSE.out W' (has_old_of ((hb6.trans (hW.mono hb6.size)).trans hW'))) h0
    have HOWN : Hid (∀ (rv : Value → Value), OwnFrom w6.heap.size (fun (pre : List Id32) W => Has w (sep (AllP o r m most rv pre) (old w)) W)) := Lib.hid fun rv =>
      own_has (h0 := fun k => w.heap[k]?) (fun s => cellish_all _ _ _ _ _ s) (fun k o ho => Nat.lt_of_lt_of_le (Array.getElem?_eq_some_iff.1 ho).1 hb6.size)
    obtain ⟨Z34, hZ34⟩ : ∃ Z, Z = (bcells (List.replicate 32 (0 : UInt8))).toArray := ⟨_, rfl⟩
    have HZ34 : Hid ((Tryd.prog.info? 34).map (·.zero) = some (some (.agg Z34))) := Lib.hid (by rw [hZ34]; exact zeroID)
    have HZS : Hid (Z34.size = 32) := Lib.hid (by rw [hZ34]; simp [bcells_length])
    clear hZ34
    refine wpIn_rangeFunc_ownH hro (by decide) (gf := 41) (lb := #[.pointer (some ⟨w5.heap.size, 0, none⟩)]) rfl trivial (enters_of Tryd.func41 (by kernel_rfl) rfl)
      hstops belowK_t (belowK_b hb6.size) (Below.refl _ _) (fun _ => rfl)
      (fun pre W => Has w (sep (AllP o r m most (fun _ => .slice none 0 0) pre) (old w)) W ∧ ((pre.length : Int) < most))
      (fun c pre W => c = .ret ∧ Has w (sep (AllP o r m most (fun v => v) pre) (old w)) W ∧ (pre.length : Int) = most)
      (OwnFrom.and (own_has (h0 := fun k => w.heap[k]?) (fun s => cellish_all _ _ _ _ _ s) (fun k o ho => Nat.lt_of_lt_of_le (Array.getElem?_eq_some_iff.1 ho).1 hb6.size)) (fun _ _ _ _ hs _ _ => hs))
      (fun c => OwnFrom.and (fun _ _ _ _ hs _ _ => hs) (OwnFrom.and (own_has (h0 := fun k => w.heap[k]?) (fun s => cellish_all _ _ _ _ _ s) (fun k o ho => Nat.lt_of_lt_of_le (Array.getElem?_eq_some_iff.1 ho).1 hb6.size)) (fun _ _ _ _ hs _ _ => hs)))
      ⟨h6', by simpa using hps⟩
      (fun x a' W => ∃ Bx, W.heap[Bx]? = some (.cells (bcells x.1).toArray 34 (0, 0)) ∧ a' = { tmps := #[.pointer (some ⟨p, 0, none⟩), .int .i64 most, undef, .pointer (some ⟨m, 0, none⟩), .pointer (some ⟨r, 0, none⟩), .pointer (some ⟨o, 0, none⟩), .pointer (some ⟨Bx, 0, none⟩), v3, .int .i64 most, .bool false, undef, .pointer (some ⟨p, 0, none⟩), .func (.func 41) #[] #[.pointer (some ⟨w5.heap.size, 0, none⟩)], .agg (bcells x.1).toArray, undef, undef, undef, undef, undef, undef, undef, undef, undef, undef], defers := [] })
      ?hAx ?assign ?body ?done ?stop
    case hAx =>
      rintro x a' _ W W' row ⟨Bx, h1, h2⟩ hg hr
      refine ⟨Bx, (hg.block Bx (Array.getElem?_eq_some_iff.1 h1).1 ?_).trans h1, h2⟩
      intro e
      obtain ⟨_, o2, h3, h4⟩ := hr Bx e.symm
      rw [h1] at h3; cases h3; cases h4
    case assign =>
      rintro l pre x W Kk ⟨hI, hpm⟩ hK
      have hnW : w.heap.size ≤ W.heap.size := hI.right.old_below.size
      have hsz : (Tryd.prog.info? 34).map (·.size) = some (bcells x.1).toArray.size := by rw [List.size_toArray, bcells_length, x.2]; exact infoID
      have hzz : Z34.size = (bcells x.1).toArray.size := by rw [HZS.out, List.size_toArray, bcells_length, x.2]
      have HS1 := Lib.hid hsz
      have HS2 := Lib.hid hzz
      have HI := Lib.hid hI
      have HK := Lib.hid hK
      clear hsz hzz hI hK
      rw [fold1]
      simp only [List.setIfInBounds_toArray, List.set_cons_zero, List.set_cons_succ]
      gi_wp2_with ((with_reducible refine wpListIn_plain rfl ?_); intro _ hk; (first
        | (refine wpIn_of_wp _ _ rfl (opw_allocC 34 (.agg Z34) Z34 rfl HZ34.out rfl (hk _ _ ?_)))
        | (refine wpIn_of_wp _ _ rfl (wp_store_row 34 _ _ rfl W.heap.size (bcells x.1).toArray rfl rfl 34 Z34 (heap_alloc_new W _) HS1.out HS2.out (bcells_all _) (hk _ _ ?_)))); simp only [Act.put, List.setIfInBounds_toArray, List.set_cons_zero, List.set_cons_succ])
      exact HK.out _ _ (KeepsFrom.of_grownBy (grown_new _ _ _ _) (fun j e => by cases e)) (below_new _ _ hnW _ _ _)
        ⟨HOWN.out _ pre W _ none HI.out (grown_new _ _ _ _) (fun r e => by cases e), hpm⟩ ⟨W.heap.size, setRow_heap _ _ _ _ _ _ (heap_alloc_new W _), rfl⟩
    case body =>
      rintro l pre x a' W hl ⟨rr, hrr⟩ ⟨hI, hpm⟩ ⟨Bx, hBx, rfl⟩ hlt
      obtain ⟨A, c, hI1⟩ := openAll hI
      have hnW : w.heap.size ≤ W.heap.size := hI.right.old_below.size
      have hplen : pre.length ≤ 100000 := by omega
      have hrown := row_new (R := sep (blk o (.cells #[.slice A pre.length c] 46 (0, 0))) (sep (blk r (.cells #[.slice none 0 0] 46 (0, 0))) (blk m (.cells #[.int .i64 most] 3 (0, 0))))) (hI1.cast (by ac_rfl))
      have HBO := Lib.hid hI1.blk
      have co : W.cell? ⟨o, 0, none⟩ = some (.slice A pre.length c) := hI1.cell 0
      have HL : Hid (∀ j u, (bcells x.1)[j]? = some u → W.cell? ⟨Bx, 0 + j, none⟩ = some u) := Lib.hid fun j u hj => by
        rw [cell_of_row _ _ _ _ _ _ hBx, Nat.zero_add]; simpa using hj
      have H32 : Hid ((Tryd.prog.info? 34).map (·.size) = some (bcells x.1).length) := Lib.hid (by rw [bcells_length, x.2]; exact infoID)
      have H32L : Hid ((bcells x.1).length = 32) := Lib.hid (by rw [bcells_length, x.2])
      obtain ⟨W1, hW1⟩ : ∃ W1, W1 = W.alloc (.cells (bcells x.1).toArray 34) := ⟨_, rfl⟩
      have h1 : Has w (sep (row 34 32 (.slice A pre.length c) pre.length (idcs pre)) (sep (blk o (.cells #[.slice A pre.length c] 46 (0, 0))) (sep (blk r (.cells #[.slice none 0 0] 46 (0, 0))) (sep (blk m (.cells #[.int .i64 most] 3 (0, 0))) (old w))))) W1 := by rw [hW1]; exact (hI1.alloc' _).second
      have hrd : Rd 32 W1 (.slice (some ⟨W.heap.size, 0, none⟩) 1 1) 1 (bcells x.1) := by
        rw [hW1]; exact Rd.of_row (((hI1.alloc (.cells (bcells x.1).toArray 34)).row_of_blk 32 1 1 (Nat.le_refl _) (by decide) (by simp [H32L.out]) (xs := bcells x.1) (by simp [H32L.out, List.take_of_length_le])).ownsRow)
      have HW1 := Lib.hid hW1
      have H1 := Lib.hid h1
      have HRD := Lib.hid hrd
      have HROW := Lib.hid hrown
      have HB1 := Lib.hid (bcells_onecell x.1)
      have HID3 := Lib.hid infoID3
      have HID2 := Lib.hid infoID2
      obtain ⟨X, hX⟩ : ∃ X, X = bcells x.1 := ⟨_, rfl⟩
      rw [← hX] at HL H32 H32L HW1 HRD HB1
      have HX := Lib.hid hX
      clear hW1 h1 hrd hrown hI hI1 hBx hX
      by_cases heq : ((pre.length : Int) + 1 = most)
      · gi_wp2_with ((with_reducible refine wpListIn_plain rfl ?_); intro _ hk; (first
          | (refine wpIn_of_wp _ _ rfl (wp_load_mid 34 _ rfl Bx 0 rfl X _ HL.out Tryd.underlying34 rfl H32.out (hk _ _ ?_)))
          | (refine wpIn_of_wp _ _ rfl (opw_row1C 46 34 32 _ _ (.agg X.toArray) X rfl Tryd.underlying46 HID2.out (by simp [Value.cells, bcells_length]) (by decide) (by decide) rfl rfl H32L.out (hk _ _ ?_)); rw [← HW1.out])
          | (refine wpIn_of_append _ _ rfl (op_appendG _ _ 46 34 32 32 _ rfl Tryd.underlying46 HID3.out (by simp [Value.cells, bcells_length]) (by decide) rfl rfl H1.out HRD.out HB1.out (by unfold maxLen; omega) (by omega) (fun A2 c2 W2 h2 hg2 => hk _ _ ?_)); have H2 := Lib.hid h2.second; have hg2' : W1.grownBy W2 (Value.slice A pre.length c).ownBlock := hg2; have HG2 := Lib.hid hg2'; clear h2 hg2 hg2')
          | (refine wpIn_of_wp _ _ rfl (opw_store1C 46 _ _ rfl infoIDs o 0 (.slice A2 (pre.length + 1) c2) rfl rfl rfl H2.out (by simp) (hk _ _ ?_)); have h3 := H2.out.set 0 (.slice A2 (pre.length + 1) c2); obtain ⟨W3, hW3⟩ : ∃ W3, W3 = W2.setCell ⟨o, 0, none⟩ (.slice A2 (pre.length + 1) c2) := ⟨_, rfl⟩; rw [← hW3] at h3 ⊢; have HW3 := Lib.hid hW3; have co3 : W3.cell? ⟨o, 0, none⟩ = some (.slice A2 (pre.length + 1) c2) := h3.cell 0; have cm3 : W3.cell? ⟨m, 0, none⟩ = some (.int .i64 most) := h3.fourth.cell 0; have H3 := Lib.hid h3; clear h3 hW3)
          | (refine wpIn_of_wp _ _ rfl (opw_store1C 46 _ _ rfl infoIDs r 0 (.slice A2 (pre.length + 1) c2) rfl rfl rfl H3.out.third (by simp) (hk _ _ ?_)); have h4 := H3.out.third.set 0 (.slice A2 (pre.length + 1) c2); obtain ⟨W4, hW4⟩ : ∃ W4, W4 = W3.setCell ⟨r, 0, none⟩ (.slice A2 (pre.length + 1) c2) := ⟨_, rfl⟩; rw [← hW4] at h4 ⊢; have HW4 := Lib.hid hW4; have H4 := Lib.hid h4; clear h4 hW4)); simp only [Act.put, List.setIfInBounds_toArray, List.set_cons_zero, List.set_cons_succ])
        have hkept : ∀ (k : Nat) (o' : Obj), W.heap[k]? = some o' → k ≠ o → some k ≠ (Value.slice A pre.length c).ownBlock → W3.heap[k]? = some o' := by
          intro k o' hk1 hk2 hk3
          have hlt1 := (Array.getElem?_eq_some_iff.1 hk1).1
          have e1 : W1.heap[k]? = some o' := by rw [HW1.out]; exact (Below.heap_alloc W _ k hlt1).trans hk1
          have e2 := (HG2.out.block k (Array.getElem?_eq_some_iff.1 e1).1 hk3).trans e1
          rw [HW3.out]
          exact (Below.heap_setCell W2 ⟨o, 0, none⟩ _ k hk2).trans e2
        have hsz3 : W.heap.size ≤ W3.heap.size := by
          have e1 : W1.heap.size = W.heap.size + 1 := by rw [HW1.out]; simp
          have e2 := HG2.out.size
          have e3 : W3.heap.size = W2.heap.size := by rw [HW3.out]; simp [World.setCell]
          omega
        have hKF : KeepsFrom w6.heap.size W W3 := ⟨hsz3, fun k o' _ hk1 hk2 => hkept k o' hk1 (fun e => by subst e; rw [HBO.out] at hk1; cases hk1; cases hk2) (fun e => by obtain ⟨_, o2, h3, h4⟩ := HROW.out k e.symm; rw [hk1] at h3; cases h3; rw [hk2] at h4; cases h4)⟩
        have hBel : Below w.heap.size W W3 := by
          refine ⟨?_, ?_, ?_, hsz3, fun k hk1 => ?_⟩
          · rw [HW3.out]; exact HG2.out.os.trans (by rw [HW1.out]; rfl)
          · rw [HW3.out]; exact HG2.out.tape.trans (by rw [HW1.out]; rfl)
          · rw [HW3.out]; exact HG2.out.output.trans (by rw [HW1.out]; rfl)
          · have hlt1 : k < W.heap.size := by omega
            rw [hkept k W.heap[k] (Array.getElem?_eq_getElem hlt1) (fun e => by have := HNEW.out; omega) (fun e => by have := (HROW.out k e.symm).1; omega), Array.getElem?_eq_getElem hlt1]
        have hlen3 : (pre ++ [x]).length = pre.length + 1 := by simp
        have hall3 : ∀ (rv : Value → Value) W', Has w (sep (blk o (.cells #[.slice A2 (pre.length + 1) c2] 46 (0, 0))) (sep (row 34 32 (.slice A2 (pre.length + 1) c2) (pre.length + 1) (idcs pre ++ X)) (sep (blk r (.cells #[rv (.slice A2 (pre.length + 1) c2)] 46 (0, 0))) (sep (blk m (.cells #[.int .i64 most] 3 (0, 0))) (old w))))) W' → Has w (sep (AllP o r m most rv (pre ++ [x])) (old w)) W' := fun rv W' hw => toAll (.slice A2 (pre.length + 1) c2) (by rw [hlen3, idcs_snoc, ← HX.out]; exact hw)
        have hKF4 : KeepsFrom w6.heap.size W W4 := hKF.trans (by rw [HW4.out]; exact (KeepsOthers.setCell _ _ _).from _)
        refine ⟨hKF4, rfl, hall3 (fun v => v) W4 (H4.out.cast (by simp only [List.setIfInBounds_toArray, List.set_cons_zero]; ac_rfl)), by simp; omega⟩
      · gi_wp2_with ((with_reducible refine wpListIn_plain rfl ?_); intro _ hk; (first
          | (refine wpIn_of_wp _ _ rfl (wp_load_mid 34 _ rfl Bx 0 rfl X _ HL.out Tryd.underlying34 rfl H32.out (hk _ _ ?_)))
          | (refine wpIn_of_wp _ _ rfl (opw_row1C 46 34 32 _ _ (.agg X.toArray) X rfl Tryd.underlying46 HID2.out (by simp [Value.cells, bcells_length]) (by decide) (by decide) rfl rfl H32L.out (hk _ _ ?_)); rw [← HW1.out])
          | (refine wpIn_of_append _ _ rfl (op_appendG _ _ 46 34 32 32 _ rfl Tryd.underlying46 HID3.out (by simp [Value.cells, bcells_length]) (by decide) rfl rfl H1.out HRD.out HB1.out (by unfold maxLen; omega) (by omega) (fun A2 c2 W2 h2 hg2 => hk _ _ ?_)); have H2 := Lib.hid h2.second; have hg2' : W1.grownBy W2 (Value.slice A pre.length c).ownBlock := hg2; have HG2 := Lib.hid hg2'; clear h2 hg2 hg2')
          | (refine wpIn_of_wp _ _ rfl (opw_store1C 46 _ _ rfl infoIDs o 0 (.slice A2 (pre.length + 1) c2) rfl rfl rfl H2.out (by simp) (hk _ _ ?_)); have h3 := H2.out.set 0 (.slice A2 (pre.length + 1) c2); obtain ⟨W3, hW3⟩ : ∃ W3, W3 = W2.setCell ⟨o, 0, none⟩ (.slice A2 (pre.length + 1) c2) := ⟨_, rfl⟩; rw [← hW3] at h3 ⊢; have HW3 := Lib.hid hW3; have co3 : W3.cell? ⟨o, 0, none⟩ = some (.slice A2 (pre.length + 1) c2) := h3.cell 0; have cm3 : W3.cell? ⟨m, 0, none⟩ = some (.int .i64 most) := h3.fourth.cell 0; have H3 := Lib.hid h3; clear h3 hW3)); simp only [Act.put, List.setIfInBounds_toArray, List.set_cons_zero, List.set_cons_succ])
        have hkept : ∀ (k : Nat) (o' : Obj), W.heap[k]? = some o' → k ≠ o → some k ≠ (Value.slice A pre.length c).ownBlock → W3.heap[k]? = some o' := by
          intro k o' hk1 hk2 hk3
          have hlt1 := (Array.getElem?_eq_some_iff.1 hk1).1
          have e1 : W1.heap[k]? = some o' := by rw [HW1.out]; exact (Below.heap_alloc W _ k hlt1).trans hk1
          have e2 := (HG2.out.block k (Array.getElem?_eq_some_iff.1 e1).1 hk3).trans e1
          rw [HW3.out]
          exact (Below.heap_setCell W2 ⟨o, 0, none⟩ _ k hk2).trans e2
        have hsz3 : W.heap.size ≤ W3.heap.size := by
          have e1 : W1.heap.size = W.heap.size + 1 := by rw [HW1.out]; simp
          have e2 := HG2.out.size
          have e3 : W3.heap.size = W2.heap.size := by rw [HW3.out]; simp [World.setCell]
          omega
        have hKF : KeepsFrom w6.heap.size W W3 := ⟨hsz3, fun k o' _ hk1 hk2 => hkept k o' hk1 (fun e => by subst e; rw [HBO.out] at hk1; cases hk1; cases hk2) (fun e => by obtain ⟨_, o2, h3, h4⟩ := HROW.out k e.symm; rw [hk1] at h3; cases h3; rw [hk2] at h4; cases h4)⟩
        have hBel : Below w.heap.size W W3 := by
          refine ⟨?_, ?_, ?_, hsz3, fun k hk1 => ?_⟩
          · rw [HW3.out]; exact HG2.out.os.trans (by rw [HW1.out]; rfl)
          · rw [HW3.out]; exact HG2.out.tape.trans (by rw [HW1.out]; rfl)
          · rw [HW3.out]; exact HG2.out.output.trans (by rw [HW1.out]; rfl)
          · have hlt1 : k < W.heap.size := by omega
            rw [hkept k W.heap[k] (Array.getElem?_eq_getElem hlt1) (fun e => by have := HNEW.out; omega) (fun e => by have := (HROW.out k e.symm).1; omega), Array.getElem?_eq_getElem hlt1]
        have hlen3 : (pre ++ [x]).length = pre.length + 1 := by simp
        have hall3 : ∀ (rv : Value → Value) W', Has w (sep (blk o (.cells #[.slice A2 (pre.length + 1) c2] 46 (0, 0))) (sep (row 34 32 (.slice A2 (pre.length + 1) c2) (pre.length + 1) (idcs pre ++ X)) (sep (blk r (.cells #[rv (.slice A2 (pre.length + 1) c2)] 46 (0, 0))) (sep (blk m (.cells #[.int .i64 most] 3 (0, 0))) (old w))))) W' → Has w (sep (AllP o r m most rv (pre ++ [x])) (old w)) W' := fun rv W' hw => toAll (.slice A2 (pre.length + 1) c2) (by rw [hlen3, idcs_snoc, ← HX.out]; exact hw)
        refine ⟨hKF, hBel, hall3 (fun _ => .slice none 0 0) W3 (H3.out.cast (by simp only [List.setIfInBounds_toArray, List.set_cons_zero])), by simp; omega⟩
    case done =>
      rintro D zs W hD rfl ⟨hI, hpm⟩ hK
      obtain ⟨A, c, hI1⟩ := openAll hI
      obtain ⟨L, hL⟩ : ∃ L, L = idsOf K hok := ⟨_, rfl⟩
      have hall : allIds K hok most = L := by unfold allIds; rw [hL, List.take_of_length_le (by omega)]
      have HALL := Lib.hid hall
      rw [← hL] at hI1 hpm
      have co : W.cell? ⟨o, 0, none⟩ = some (.slice A L.length c) := hI1.cell 0
      have HI1 := Lib.hid hI1
      have HK := Lib.hid hK
      clear hI hI1 hK hL hall
      gi_wp2_with ((with_reducible refine wpListIn_plain rfl ?_); intro _ hk; (first
          | (refine wpIn_of_wp _ _ rfl (opw_store1C 46 _ _ rfl infoIDs r 0 (.slice A L.length c) rfl rfl rfl HI1.out.third (by simp) (hk _ _ ?_)); have h4 := HI1.out.third.set 0 (.slice A L.length c); obtain ⟨W4, hW4⟩ : ∃ W4, W4 = W.setCell ⟨r, 0, none⟩ (.slice A L.length c) := ⟨_, rfl⟩; rw [← hW4] at h4 ⊢; have HW4 := Lib.hid hW4; have H4 := Lib.hid h4; clear h4 hW4)); simp only [Act.put, List.setIfInBounds_toArray, List.set_cons_zero, List.set_cons_succ])
      have hK4 : W4.heap[D]? = some (.deferred (some [])) := by rw [HW4.out]; exact (KeepsOthers.setCell _ _ _).same D _ HK.out rfl
      have h4 : Has w (sep (AllP o r m most (fun v => v) L) (old w)) W4 := toAll (.slice A L.length c) (H4.out.cast (by simp only [List.setIfInBounds_toArray, List.set_cons_zero]; ac_rfl))
      have h5 := (HOWN.out (fun v => v)).putObj (.deferred none) h4 hD hK4 rfl
      obtain ⟨A5, c5, h6⟩ := openAll h5
      have cr := h6.third.cell 0
      simp only [List.getElem?_toArray, List.getElem?_cons_zero] at cr
      refine ⟨by simp, .inl ⟨_, _, rfl, run_takeDeferred hK4, ?_⟩⟩
      refine ⟨.slice A5 L.length c5, by simp [results, Tryd.results21, go_sem, cr], _, rfl, ?_⟩
      rw [HALL.out]
      exact HFIN.out _ _ L ((h6.cast (show _ = sep (blk o (.cells #[.slice A5 L.length c5] 46 (0, 0))) (sep (blk r (.cells #[.slice A5 L.length c5] 46 (0, 0))) (sep (blk m (.cells #[.int .i64 most] 3 (0, 0))) (sep (row 34 32 (.slice A5 L.length c5) L.length (idcs L)) (old w)))) by ac_rfl)).right.right.right)
    case stop =>
      rintro D c pre W hD hpre ⟨rfl, hI, hpm⟩ hK
      have hall : allIds K hok most = pre := by
        unfold allIds
        obtain ⟨t, ht⟩ := hpre
        rw [← ht, show most.toNat = pre.length by omega, List.take_left]
      have HALL := Lib.hid hall
      clear hall
      have h5 := (HOWN.out (fun v => v)).putObj (.deferred none) hI hD hK rfl
      obtain ⟨A5, c5, h6⟩ := openAll h5
      have cr := h6.third.cell 0
      simp only [List.getElem?_toArray, List.getElem?_cons_zero] at cr
      gi_wp2
      refine ⟨by simp, .inl ⟨_, _, rfl, run_takeDeferred hK, ?_⟩⟩
      refine ⟨.slice A5 pre.length c5, by simp [results, Tryd.results21, go_sem, cr], _, rfl, ?_⟩
      rw [HALL.out]
      exact HFIN.out _ _ pre ((h6.cast (show _ = sep (blk o (.cells #[.slice A5 pre.length c5] 46 (0, 0))) (sep (blk r (.cells #[.slice A5 pre.length c5] 46 (0, 0))) (sep (blk m (.cells #[.int .i64 most] 3 (0, 0))) (sep (row 34 32 (.slice A5 pre.length c5) pre.length (idcs pre)) (old w)))) by ac_rfl)).right.right.right)
end Go.Proofs.YtblknhpafifebaaDoor
