/-
  Several texts of this proof in one: AllA, AllB, Clone, ShaOf, CacheE.
-/
import Derived.Test.YtblknhpafifebaaDoorM2
import Derived.Test.YtblknhpafifebaaDoorM4
import Derived.Test.YtblknhpafifebaaDoorM3
import Derived.Lib.SliceRun
/-
  cache.All: the iterator.
-/
namespace Go.Proofs.YtblknhpafifebaaDoor
open Go Go.RowKit Go.Sl Go.Sha Go.Shelf
set_option linter.unusedVariables false
set_option linter.unusedSimpArgs false
set_option maxRecDepth 100000
attribute [local go_sem] Oper.semAt_some

abbrev Id32 := { x : List UInt8 // x.length = 32 }
def idOf (k : Kp) (h : k.ok) : Id32 := ⟨k.id, h.1⟩
def idsOf : (K : List Kp) → (∀ k ∈ K, k.ok) → List Id32
  | [], _ => []
  | k :: K, h => idOf k (h k (by simp)) :: idsOf K (fun x hx => h x (by simp [hx]))
theorem idsOf_length : ∀ (K : List Kp) (h : ∀ k ∈ K, k.ok), (idsOf K h).length = K.length
  | [], _ => rfl
  | k :: K, h => by simp [idsOf, idsOf_length K]
theorem idsOf_get : ∀ (K : List Kp) (h : ∀ k ∈ K, k.ok) (i : Nat) (hi : i < K.length), (idsOf K h)[i]'(by rw [idsOf_length]; exact hi) = idOf K[i] (h _ (List.getElem_mem hi))
  | k :: K, h, 0, _ => rfl
  | k :: K, h, i + 1, hi => by
    have hi' : i < K.length := by simpa using hi
    exact idsOf_get K (fun x hx => h x (by simp [hx])) i hi'
theorem grown_new (w : World) (c Y : Array Value) (t : TypeId) : w.grownBy ((w.alloc (.cells c t)).setRow w.heap.size Y) none :=
  ⟨rfl, rfl, rfl, by simp [World.setRow], fun k hk _ => by rw [setRow_other _ _ _ _ (by omega)]; exact Below.heap_alloc w _ k hk⟩
theorem below_new (w : World) (n₀ : Nat) (h : n₀ ≤ w.heap.size) (c Y : Array Value) (t : TypeId) : Below n₀ w ((w.alloc (.cells c t)).setRow w.heap.size Y) :=
  ⟨rfl, rfl, rfl, by simp [World.setRow], fun k hk => by rw [setRow_other _ _ _ _ (by omega)]; exact Below.heap_alloc w _ k (by omega)⟩

set_option maxHeartbeats 4000000 in
theorem all1_in (F : Fence) (n : Nat) (h41 : F.fn 41) (hro : F.round = none) (hn : 1 ≤ n) (l p q n₀ : Nat) (v : Value) (K : List Kp) (hok : ∀ k ∈ K, k.ok) (hlen : K.length ≤ 1000000) (J Jx : List Id32 → World → Prop)
    (hY : ∀ pre x W, J pre W → pre.length < K.length → YieldAt F (n - 1) Tryd.prog l #[.agg (bcells x.1).toArray] W fun e W' =>
      (e = .returned (.bool true) ∧ J (pre ++ [x]) W' ∧ Below n₀ W W') ∨ (e = .returned (.bool false) ∧ Jx (pre ++ [x]) W'))
    (W : World) (hn₀ : n₀ ≤ W.heap.size) (hJ : AbidesFrom W.heap.size J) (hbox : W.cell? ⟨q, 0, none⟩ = some (.pointer (some ⟨p, 0, none⟩))) (hall : W.cell? ⟨p, 0, none⟩ = some v) (hR : ∀ W', Below n₀ W W' → Rd 33 W' v K.length (kcs K)) (h0 : J [] W) :
    CallsIn F n Tryd.prog 41 #[.func (.yield l) #[] #[], .pointer (some ⟨q, 0, none⟩)] W fun e W' => (∃ v, e = .returned v) ∧
      ((∃ ys, ys = idsOf K hok ∧ J ys W') ∨ (∃ pre, pre <+: idsOf K hok ∧ Jx pre W')) := by
  obtain ⟨A, c, rfl⟩ : ∃ A c, v = .slice A K.length c := by
    obtain ⟨_, A, c, e, _⟩ := hR W (Below.refl _ _); exact ⟨A, c, e⟩
  refine callsIn_of_wp Tryd.func41 rfl h41 ?_ hro
  simp only [Tryd.ntmps41, List.size_toArray, List.length_cons, List.length_nil, Nat.reduceAdd, Nat.reduceSub, Array.replicate_succ, Array.replicate_zero, List.push_toArray, List.append_toArray, List.nil_append, List.cons_append]
  gi_wp2
  clear hbox hall
  gi_loopw [10] (fun v10 wr => ∃ i : Nat, i ≤ K.length ∧ v10 = .int .i64 (i : Int) ∧ J ((idsOf K hok).take i) wr ∧ Below n₀ W wr) (fun v10 _ => K.length - (intOf v10).toNat)
  case atStart => exact ⟨0, Nat.zero_le _, rfl, by simpa using h0, Below.refl _ _⟩
  case round =>
    obtain ⟨i, hi, rfl, hJi, hB⟩ := hrel
    by_cases hlt : i < K.length
    · obtain ⟨g, off, rfl, hcell⟩ := (hR wr hB).at (by omega)
      have hk : K[i].ok := hok _ (List.getElem_mem hlt)
      have hkl : (Tryd.prog.info? 75).map (·.size) = some (kc K[i]).length := by rw [kc_length hk]; exact infoK
      have hld : Hid (∀ j u, (kc K[i])[j]? = some u → wr.cell? ⟨g, off + i * 33 + j, none⟩ = some u) := Lib.hid fun j u hj => by
        rw [Nat.add_assoc]; exact hcell _ u (kcs_cell hok hlt hj)
      have hsz := hB.size
      have H1 := Lib.hid hkl
      have H2 := Lib.hid (show (Tryd.prog.info? 75).map (·.size) = some (kc K[i]).toArray.size by simp only [List.size_toArray]; exact hkl)
      have H3 := Lib.hid (show zeroKc.toArray.size = (kc K[i]).toArray.size by rw [zeroKc_size, List.size_toArray, kc_length hk])
      have H4 := Lib.hid (kc_one hk)
      have HZI := Lib.hid infoKz
      obtain ⟨x, hx⟩ : ∃ x, x = idOf K[i] hk := ⟨_, rfl⟩
      have hxs : (idsOf K hok).take (i + 1) = (idsOf K hok).take i ++ [x] := by
        rw [List.take_succ_eq_append_getElem (by rw [idsOf_length]; exact hlt), idsOf_get K hok i hlt, hx]
      have hpl : ((idsOf K hok).take i).length < K.length := by rw [List.length_take, idsOf_length]; omega
      obtain ⟨Z, hZ⟩ : ∃ Z, Z = zeroKc.toArray := ⟨_, rfl⟩
      obtain ⟨wN, hwN⟩ : ∃ wN, wN = (wr.alloc (.cells Z 75)).setRow wr.heap.size (kc K[i]).toArray := ⟨_, rfl⟩
      have hJN : J ((idsOf K hok).take i) wN := hJ _ wr wN none hJi (by rw [hwN]; exact grown_new _ _ _ _) (by intro r e; cases e)
      have hBN : Below n₀ wr wN := by rw [hwN]; exact below_new _ _ (by omega) _ _ _
      have hcN : wN.heap[wr.heap.size]? = some (.cells (kc K[i]).toArray 75 (0, 0)) := by rw [hwN]; exact setRow_heap _ _ _ _ _ _ (heap_alloc_new wr _)
      obtain ⟨fn, tmps, assign, body, hy, hR3⟩ := hY _ x wN hJN hpl
      have hxv : (x.1 : List UInt8) = K[i].id := by rw [hx]; rfl
      rw [hxv] at hy
      have HL : Hid (∀ j u, (bcells K[i].id)[j]? = some u → wN.cell? ⟨wr.heap.size, 0 + j, none⟩ = some u) := Lib.hid fun j u hj => by
        rw [cell_of_row _ _ _ _ _ _ hcN, Nat.zero_add]
        simp only [List.getElem?_toArray]
        rw [kc, List.getElem?_append_left (List.getElem?_eq_some_iff.1 hj).1]; exact hj
      have H32 : Hid ((Tryd.prog.info? 34).map (·.size) = some (bcells K[i].id).length) := Lib.hid (by rw [bcells_length, hk.1]; exact infoID)
      have HWN := Lib.hid hwN
      rw [← hZ] at HZI H3
      obtain ⟨Y, hY'⟩ : ∃ Y, Y = kc K[i] := ⟨_, rfl⟩
      rw [← hY'] at H1 H2 H3 H4 hld HWN
      obtain ⟨X, hX'⟩ : ∃ X, X = K[i].id := ⟨_, rfl⟩
      rw [← hX'] at hy HL H32
      have HB := Lib.hid hB
      have HBN := Lib.hid hBN
      have HXS := Lib.hid hxs
      clear hkl hcell hwN hcN hxv hY' hX' hZ hx hB hBN hxs hk
      gi_wp2_with ((with_reducible refine wpListIn_plain rfl ?_); intro _ hk; (first
        | (refine wpIn_of_wp _ _ rfl (opw_indexN 62 75 33 _ _ rfl Tryd.underlying62 infoK g off K.length c i rfl .i64 rfl hlt (hk _ _ ?_)))
        | (refine wpIn_of_wp _ _ rfl (wp_load_mid 75 _ rfl g (off + i * 33) rfl Y _ hld.out Tryd.underlying75 rfl H1.out (hk _ _ ?_)))
        | (refine wpIn_of_wp _ _ rfl (opw_allocC 75 (.agg Z) Z rfl HZI.out rfl (hk _ _ ?_)))
        | (refine wpIn_of_wp _ _ rfl (wp_store_row 75 _ _ rfl wr.heap.size Y.toArray rfl rfl 75 Z (heap_alloc_new wr _) H2.out H3.out (all_one H4.out) (hk _ _ ?_)); rw [← HWN.out])
        | (refine wpIn_of_wp _ _ rfl (opw_field 75 _ 0 0 rfl (by kernel_rfl) wr.heap.size 0 rfl (hk _ _ ?_)))
        | (refine wpIn_of_wp _ _ rfl (wp_load_mid 34 _ rfl wr.heap.size 0 rfl (bcells X) _ HL.out Tryd.underlying34 rfl H32.out (hk _ _ ?_)))); simp only [Act.put, List.setIfInBounds_toArray, List.set_cons_zero, List.set_cons_succ])
      refine hR3.mono ?_
      rintro e W3 (⟨rfl, hJ3, hk3⟩ | ⟨rfl, hJx3⟩)
      · gi_wp2
        go_roundw
        case rel => exact ⟨i + 1, by omega, by go_num, by rw [HXS.out]; exact hJ3, (HB.out.trans HBN.out).trans hk3⟩
        case measure => simp [intOf]; omega
      · gi_wp2
        refine bodyPost_ret (results_none rfl _ _ _) rfl ?_
        exact ⟨⟨_, rfl⟩, .inr ⟨_, ⟨(idsOf K hok).drop (i + 1), by rw [← HXS.out, List.take_append_drop]⟩, hJx3⟩⟩
    · gi_wp2
      go_end0
      obtain rfl : i = K.length := by omega
      exact ⟨⟨_, rfl⟩, .inl ⟨_, rfl, by rw [List.take_of_length_le (by rw [idsOf_length]; exact Nat.le_refl _)] at hJi; exact hJi⟩⟩
end Go.Proofs.YtblknhpafifebaaDoor

/-
  coldstorelaw14.all.
-/
namespace Go.Proofs.YtblknhpafifebaaDoor
open Go Go.RowKit Go.Sl Go.Sha Go.Shelf
set_option linter.unusedVariables false
set_option linter.unusedSimpArgs false
set_option maxRecDepth 100000
attribute [local go_sem] Oper.semAt_some

set_option maxHeartbeats 1000000 in
theorem allv_in (F : Fence) (n : Nat) (h34 : F.fn 34) (hro : F.round = none) (p : Nat) (w : World) :
    CallsIn F n Tryd.prog 34 #[.pointer (some ⟨p, 0, none⟩)] w fun e w' => e = .returned (.func (.func 41) #[] #[.pointer (some ⟨w.heap.size, 0, none⟩)]) ∧ w' = w.alloc (.cells #[.pointer (some ⟨p, 0, none⟩)] 25) := by
  refine callsIn_of_wp Tryd.func34 rfl h34 ?_ hro
  simp only [Tryd.ntmps34, List.size_toArray, List.length_cons, List.length_nil, Nat.reduceAdd, Nat.reduceSub, Array.replicate_succ, Array.replicate_zero, List.push_toArray, List.append_toArray, List.nil_append, List.cons_append]
  gi_wp2
  go_ret
  exact ⟨rfl, rfl⟩

/-- the cells of sums -/
def idcs (L : List Id32) : List Value := L.flatMap fun x => bcells x.1
theorem idcs_snoc (L : List Id32) (x : Id32) : idcs (L ++ [x]) = idcs L ++ bcells x.1 := by simp [idcs]
theorem infoIDs : (Tryd.prog.info? 46).map (·.size) = some 1 := by kernel_rfl
theorem zeroIDs : (Tryd.prog.info? 46).map (·.zero) = some (some (.slice none 0 0)) := by kernel_rfl
theorem infoID3 : (Tryd.prog.info? 34).map (fun i => (i.zero, i.size, i.bytes)) = some (some (.agg (bcells (List.replicate 32 0)).toArray), 32, 32) := by kernel_rfl
theorem infoID2 : (Tryd.prog.info? 34).map (fun i => (i.zero, i.size)) = some (some (.agg (bcells (List.replicate 32 0)).toArray), 32) := by kernel_rfl

/-- what `all` holds: the row, the cells of out, of the result, of most -/
def AllP (o r m : Nat) (most : Int) (rv : Value → Value) (L : List Id32) : HProp := ex fun v => sep (blk o (.cells #[v] 46 (0, 0))) (sep (row 34 32 v L.length (idcs L)) (sep (blk r (.cells #[rv v] 46 (0, 0))) (blk m (.cells #[.int .i64 most] 3 (0, 0)))))
theorem cellish_all (o r m : Nat) (most : Int) (rv : Value → Value) (L : List Id32) : Cellish (AllP o r m most rv L) :=
  cellish_ex fun v => cellish_sep (cellish_blk _ _ _ _) (cellish_sep (cellish_row _ _ _ _ _) (cellish_sep (cellish_blk _ _ _ _) (cellish_blk _ _ _ _)))
theorem openAll {st w : World} {R : HProp} {o r m : Nat} {most : Int} {rv : Value → Value} {L : List Id32} (h : Has st (sep (AllP o r m most rv L) R) w) :
    ∃ A c, Has st (sep (blk o (.cells #[.slice A L.length c] 46 (0, 0))) (sep (row 34 32 (.slice A L.length c) L.length (idcs L)) (sep (blk r (.cells #[rv (.slice A L.length c)] 46 (0, 0))) (sep (blk m (.cells #[.int .i64 most] 3 (0, 0))) R)))) w := by
  obtain ⟨v, h1⟩ := h.exL
  have h2 := h1.flat4
  obtain ⟨A, c, rfl⟩ := h2.second.row_slice
  exact ⟨A, c, h2⟩
theorem toAll {st w : World} {R : HProp} {o r m : Nat} {most : Int} {rv : Value → Value} {L : List Id32} (v : Value) (h : Has st (sep (blk o (.cells #[v] 46 (0, 0))) (sep (row 34 32 v L.length (idcs L)) (sep (blk r (.cells #[rv v] 46 (0, 0))) (sep (blk m (.cells #[.int .i64 most] 3 (0, 0))) R)))) w) :
    Has st (sep (AllP o r m most rv L) R) w := Has.ofEx v (h.cast (by ac_rfl))
theorem fold1 (t : Array Value) (p : Nat) (v : Value) : ((#[p] : Array Nat).zip #[v]).foldl (fun t (p, v) => t.setIfInBounds p v) t = t.setIfInBounds p v := by simp
/-- the sums that `all` hands back -/
def allIds (K : List Kp) (h : ∀ k ∈ K, k.ok) (most : Int) : List Id32 := (idsOf K h).take most.toNat

set_option maxHeartbeats 4000000 in
theorem allL_any (st : World) (R : HProp) (p : Nat) (K : List Kp) (lim most : Int) (w : World) (h : Has st (sep (cacheP p K lim) R) w) (hok : ∀ k ∈ K, k.ok) (hlen : K.length ≤ 100000) :
    Calls Tryd.prog 21 #[.pointer (some ⟨p, 0, none⟩), .int .i64 most] w fun e w' => ∃ v, e = .returned v ∧ Has st (sep (row 34 32 v (allIds K hok most).length (idcs (allIds K hok most))) (sep (cacheP p K lim) R)) w' := by
  obtain ⟨Ac, cc, hoc⟩ := openCache h
  have hc0 : w.cell? ⟨p, 0, none⟩ = some (.slice Ac K.length cc) := hoc.cell 0
  have hpw : p < w.heap.size := hoc.lt
  have hsee : Sees w (old w) 33 (.slice Ac K.length cc) K.length (kcs K) := sees_old (Rd.of_row hoc.second.ownsRow)
  have HC0 := Lib.hid hc0
  have HSE := Lib.hid hsee
  have HFIN : Hid (∀ W v (L : List Id32), Has w (sep (row 34 32 v L.length (idcs L)) (old w)) W → Has st (sep (row 34 32 v L.length (idcs L)) (sep (cacheP p K lim) R)) W) := Lib.hid fun W v L hw => hw.of_old h
  have HO := Lib.hid (Has.old_start w)
  have HOK := Lib.hid hok
  clear h hoc hc0 hsee
  refine (callsIn_wide (n := 10)).1 ?_
  have hro : (Fence.wide).round = none := rfl
  refine callsIn_of_wp_marks Tryd.func21 rfl trivial ?_ rfl
  simp only [Tryd.ntmps21, List.size_toArray, List.length_cons, List.length_nil, Nat.reduceAdd, Nat.reduceSub, Array.replicate_succ, Array.replicate_zero, List.push_toArray, List.append_toArray, List.nil_append, List.cons_append]
  by_cases hm : most ≤ 0
  · gi_wp2_with ((with_reducible refine wpListIn_plain rfl ?_); intro _ hk; (first
      | (refine wpIn_of_wp _ _ rfl (opw_box 3 (.int .i64 most) #[.int .i64 most] rfl rfl rfl HO.out (fun m w1 hp h1 => hk _ _ ?_)); clear hp; have H1 := Lib.hid h1; clear h1)
      | (refine wpIn_of_wp _ _ rfl (opw_row0 46 34 32 rfl Tryd.underlying46 infoID H2.out (fun v3 w3 h3 => hk _ _ ?_)); have H3 := Lib.hid h3; clear h3)
      | (refine wpIn_of_wp _ _ rfl (opw_alloc 46 (.slice none 0 0) #[.slice none 0 0] rfl zeroIDs rfl H3.out (fun o w4 hp h4 => hk _ _ ?_)); clear hp; have H4 := Lib.hid h4; clear h4)
      | (refine wpIn_of_wp _ _ rfl (opw_alloc 46 (.slice none 0 0) #[.slice none 0 0] rfl zeroIDs rfl H1.out (fun r w2 hp h2 => hk _ _ ?_)); clear hp; have H2 := Lib.hid h2; clear h2)
      | (refine wpIn_of_wp _ _ rfl (opw_store1 46 _ _ rfl infoIDs o 0 v3 rfl rfl (row_one H4.out.second) H4.out (by decide) (fun w5 h5 => hk _ _ ?_)); have H5 := Lib.hid h5; clear h5; have cm := H5.out.fourth.cell 0; have co := H5.out.cell 0; simp only [List.setIfInBounds_toArray, List.set_cons_zero, List.getElem?_toArray, List.getElem?_cons_zero] at cm co)
      | (refine wpIn_of_wp _ _ rfl (opw_store1 46 _ _ rfl infoIDs r 0 v3 rfl rfl (row_one H5.out.second) H5.out.third (by decide) (fun w6 h6 => hk _ _ ?_)); have H6 := Lib.hid h6; clear h6)); simp only [Act.put, List.setIfInBounds_toArray, List.set_cons_zero, List.set_cons_succ])
    have h6 := H6.out
    have cr := h6.cell 0
    simp only [List.setIfInBounds_toArray, List.set_cons_zero, List.getElem?_toArray, List.getElem?_cons_zero] at cr
    have hl : allIds K hok most = [] := by unfold allIds; rw [Int.toNat_of_nonpos hm]; rfl
    refine ⟨v3, by simp [results, Tryd.results21, go_sem, cr], v3, rfl, ?_⟩
    rw [hl]
    exact HFIN.out _ v3 [] ((h6.cast (show _ = sep (blk o (.cells #[v3] 46 (0, 0))) (sep (blk r (.cells #[v3] 46 (0, 0))) (sep (blk m (.cells #[.int .i64 most] 3 (0, 0))) (sep (row 34 32 v3 0 []) (old w)))) by simp only [List.setIfInBounds_toArray, List.set_cons_zero]; ac_rfl)).right.right.right)
  · gi_wp2_with (first | (refine ⟨trivial, ?_⟩; gi_at_call 34; refine (allv_in Fence.wide _ trivial rfl p _).mono ?_; rintro e w6 ⟨rfl, hw6⟩; have HW6 := Lib.hid hw6; clear hw6) | ((with_reducible refine wpListIn_plain rfl ?_); intro _ hk; (first
      | (refine wpIn_of_wp _ _ rfl (opw_box 3 (.int .i64 most) #[.int .i64 most] rfl rfl rfl HO.out (fun m w1 hp h1 => hk _ _ ?_)); clear hp; have H1 := Lib.hid h1; clear h1)
      | (refine wpIn_of_wp _ _ rfl (opw_row0 46 34 32 rfl Tryd.underlying46 infoID H2.out (fun v3 w3 h3 => hk _ _ ?_)); have H3 := Lib.hid h3; clear h3)
      | (refine wpIn_of_wp _ _ rfl (opw_alloc 46 (.slice none 0 0) #[.slice none 0 0] rfl zeroIDs rfl H3.out (fun o w4 hp h4 => hk _ _ ?_)); clear hp; have H4 := Lib.hid h4; clear h4)
      | (refine wpIn_of_wp _ _ rfl (opw_alloc 46 (.slice none 0 0) #[.slice none 0 0] rfl zeroIDs rfl H1.out (fun r w2 hp h2 => hk _ _ ?_)); clear hp; have H2 := Lib.hid h2; clear h2)
      | (refine wpIn_of_wp _ _ rfl (opw_store1 46 _ _ rfl infoIDs o 0 v3 rfl rfl (row_one H4.out.second) H4.out (by decide) (fun w5 h5 => hk _ _ ?_)); have H5 := Lib.hid h5; clear h5; have cm := H5.out.fourth.cell 0; have co := H5.out.cell 0; simp only [List.setIfInBounds_toArray, List.set_cons_zero, List.getElem?_toArray, List.getElem?_cons_zero] at cm co)); simp only [Act.put, List.setIfInBounds_toArray, List.set_cons_zero, List.set_cons_succ]))
    have h5 : Has w (sep (blk o (.cells #[v3] 46 (0, 0))) (sep (row 34 32 v3 0 []) (sep (blk r (.cells #[.slice none 0 0] 46 (0, 0))) (sep (blk m (.cells #[.int .i64 most] 3 (0, 0))) (old w))))) w5 := H5.out
    have h6 : Has w (sep (blk o (.cells #[v3] 46 (0, 0))) (sep (row 34 32 v3 0 []) (sep (blk r (.cells #[.slice none 0 0] 46 (0, 0))) (sep (blk m (.cells #[.int .i64 most] 3 (0, 0))) (old w))))) w6 := by rw [HW6.out]; exact h5.alloc' _
    have hq : w6.cell? ⟨w5.heap.size, 0, none⟩ = some (.pointer (some ⟨p, 0, none⟩)) := by rw [HW6.out, cell_of_row _ _ _ _ _ _ (heap_alloc_new w5 _)]; rfl
    have hb6 : Below w.heap.size w w6 := (h6.right.right.right.right).old_below
    have h6' : Has w (sep (AllP o r m most (fun _ => .slice none 0 0) []) (old w)) w6 := toAll (rv := fun _ => .slice none 0 0) (L := []) v3 h6
    have hsz6 : w6.heap.size = w5.heap.size + 1 := by rw [HW6.out]; simp
    have HB6 := Lib.hid hb6
    have HNEW := Lib.hid (new_of_old (p := emp) (R := sep (row 34 32 v3 0 []) (sep (blk r (.cells #[.slice none 0 0] 46 (0, 0))) (blk m (.cells #[.int .i64 most] 3 (0, 0))))) (h6.cast (by ac_rfl)))
    have hps : 0 < most := by omega
    clear h5 h6 H1 H2 H3 H4 H5 HO cm co HW6
    have hstops : SeqStopsK Fence.wide (10 - 1) Tryd.prog 41 #[.pointer (some ⟨w5.heap.size, 0, none⟩)] (fun x : Id32 => #[.agg (bcells x.1).toArray]) (Below w.heap.size) (fun ys => ys = idsOf K hok) (fun pre => pre <+: idsOf K hok) K.length w6 := fun l J Jx W hW hJ _ hY h0 =>
      all1_in Fence.wide (10 - 1) trivial rfl (by decide) l p w5.heap.size w.heap.size (.slice Ac K.length cc) K hok (by omega) J Jx hY W (Nat.le_trans hb6.size hW.size) hJ
        ((hW.cell (p := ⟨w5.heap.size, 0, none⟩) (by show w5.heap.size < w6.heap.size; omega)).trans hq) (((hb6.trans (hW.mono hb6.size)).cell (p := ⟨p, 0, none⟩) hpw).trans HC0.out)
        (fun W' hW' => HSE.out W' (has_old_of ((hb6.trans (hW.mono hb6.size)).trans hW'))) h0
    have HOWN : Hid (∀ (rv : Value → Value), OwnFrom w6.heap.size (fun (pre : List Id32) W => Has w (sep (AllP o r m most rv pre) (old w)) W)) := Lib.hid fun rv =>
      own_has (h0 := fun k => w.heap[k]?) (fun s => cellish_all _ _ _ _ _ s) (fun k o ho => Nat.lt_of_lt_of_le (Array.getElem?_eq_some_iff.1 ho).1 hb6.size)
    obtain ⟨Z34, hZ34⟩ : ∃ Z, Z = (bcells (List.replicate 32 (0 : UInt8))).toArray := ⟨_, rfl⟩
    have HZ34 : Hid ((Tryd.prog.info? 34).map (·.zero) = some (some (.agg Z34))) := Lib.hid (by rw [hZ34]; exact zeroID)
    have HZS : Hid (Z34.size = 32) := Lib.hid (by rw [hZ34]; simp [bcells_length])
    clear hZ34
    refine wpIn_rangeFunc_ownH hro (by decide) (gf := 41) (lb := #[.pointer (some ⟨w5.heap.size, 0, none⟩)]) rfl trivial (enters_of Tryd.func41 (by kernel_rfl) rfl)
      hstops belowK_t (belowK_b hb6.size) (Below.refl _ _) (fun _ => rfl)
      (fun pre W => Has w (sep (AllP o r m most (fun _ => .slice none 0 0) pre) (old w)) W ∧ ((pre.length : Int) < most))
      (fun c pre W => c = .ret ∧ Has w (sep (AllP o r m most (fun v => v) pre) (old w)) W ∧ (pre.length : Int) = most)
      (OwnFrom.and (own_has (h0 := fun k => w.heap[k]?) (fun s => cellish_all _ _ _ _ _ s) (fun k o ho => Nat.lt_of_lt_of_le (Array.getElem?_eq_some_iff.1 ho).1 hb6.size)) (fun _ _ _ _ hs _ _ => hs))
      (fun c => OwnFrom.and (fun _ _ _ _ hs _ _ => hs) (OwnFrom.and (own_has (h0 := fun k => w.heap[k]?) (fun s => cellish_all _ _ _ _ _ s) (fun k o ho => Nat.lt_of_lt_of_le (Array.getElem?_eq_some_iff.1 ho).1 hb6.size)) (fun _ _ _ _ hs _ _ => hs)))
      ⟨h6', by simpa using hps⟩
      (fun x a' W => ∃ Bx, W.heap[Bx]? = some (.cells (bcells x.1).toArray 34 (0, 0)) ∧ a' = { tmps := #[.pointer (some ⟨p, 0, none⟩), .int .i64 most, undef, .pointer (some ⟨m, 0, none⟩), .pointer (some ⟨r, 0, none⟩), .pointer (some ⟨o, 0, none⟩), .pointer (some ⟨Bx, 0, none⟩), v3, .int .i64 most, .bool false, undef, .pointer (some ⟨p, 0, none⟩), .func (.func 41) #[] #[.pointer (some ⟨w5.heap.size, 0, none⟩)], .agg (bcells x.1).toArray, undef, undef, undef, undef, undef, undef, undef, undef, undef, undef], defers := [] })
      ?hAx ?assign ?body ?done ?stop
    case hAx =>
      rintro x a' _ W W' row ⟨Bx, h1, h2⟩ hg hr
      refine ⟨Bx, (hg.block Bx (Array.getElem?_eq_some_iff.1 h1).1 ?_).trans h1, h2⟩
      intro e
      obtain ⟨_, o2, h3, h4⟩ := hr Bx e.symm
      rw [h1] at h3; cases h3; cases h4
    case assign =>
      rintro l pre x W Kk ⟨hI, hpm⟩ hK
      have hnW : w.heap.size ≤ W.heap.size := hI.right.old_below.size
      have hsz : (Tryd.prog.info? 34).map (·.size) = some (bcells x.1).toArray.size := by rw [List.size_toArray, bcells_length, x.2]; exact infoID
      have hzz : Z34.size = (bcells x.1).toArray.size := by rw [HZS.out, List.size_toArray, bcells_length, x.2]
      have HS1 := Lib.hid hsz
      have HS2 := Lib.hid hzz
      have HI := Lib.hid hI
      have HK := Lib.hid hK
      clear hsz hzz hI hK
      rw [fold1]
      simp only [List.setIfInBounds_toArray, List.set_cons_zero, List.set_cons_succ]
      gi_wp2_with ((with_reducible refine wpListIn_plain rfl ?_); intro _ hk; (first
        | (refine wpIn_of_wp _ _ rfl (opw_allocC 34 (.agg Z34) Z34 rfl HZ34.out rfl (hk _ _ ?_)))
        | (refine wpIn_of_wp _ _ rfl (wp_store_row 34 _ _ rfl W.heap.size (bcells x.1).toArray rfl rfl 34 Z34 (heap_alloc_new W _) HS1.out HS2.out (bcells_all _) (hk _ _ ?_)))); simp only [Act.put, List.setIfInBounds_toArray, List.set_cons_zero, List.set_cons_succ])
      exact HK.out _ _ (KeepsFrom.of_grownBy (grown_new _ _ _ _) (fun j e => by cases e)) (below_new _ _ hnW _ _ _)
        ⟨HOWN.out _ pre W _ none HI.out (grown_new _ _ _ _) (fun r e => by cases e), hpm⟩ ⟨W.heap.size, setRow_heap _ _ _ _ _ _ (heap_alloc_new W _), rfl⟩
    case body =>
      rintro l pre x a' W hl ⟨rr, hrr⟩ ⟨hI, hpm⟩ ⟨Bx, hBx, rfl⟩ hlt
      obtain ⟨A, c, hI1⟩ := openAll hI
      have hnW : w.heap.size ≤ W.heap.size := hI.right.old_below.size
      have hplen : pre.length ≤ 100000 := by omega
      have hrown := row_new (R := sep (blk o (.cells #[.slice A pre.length c] 46 (0, 0))) (sep (blk r (.cells #[.slice none 0 0] 46 (0, 0))) (blk m (.cells #[.int .i64 most] 3 (0, 0))))) (hI1.cast (by ac_rfl))
      have HBO := Lib.hid hI1.blk
      have co : W.cell? ⟨o, 0, none⟩ = some (.slice A pre.length c) := hI1.cell 0
      have HL : Hid (∀ j u, (bcells x.1)[j]? = some u → W.cell? ⟨Bx, 0 + j, none⟩ = some u) := Lib.hid fun j u hj => by
        rw [cell_of_row _ _ _ _ _ _ hBx, Nat.zero_add]; simpa using hj
      have H32 : Hid ((Tryd.prog.info? 34).map (·.size) = some (bcells x.1).length) := Lib.hid (by rw [bcells_length, x.2]; exact infoID)
      have H32L : Hid ((bcells x.1).length = 32) := Lib.hid (by rw [bcells_length, x.2])
      obtain ⟨W1, hW1⟩ : ∃ W1, W1 = W.alloc (.cells (bcells x.1).toArray 34) := ⟨_, rfl⟩
      have h1 : Has w (sep (row 34 32 (.slice A pre.length c) pre.length (idcs pre)) (sep (blk o (.cells #[.slice A pre.length c] 46 (0, 0))) (sep (blk r (.cells #[.slice none 0 0] 46 (0, 0))) (sep (blk m (.cells #[.int .i64 most] 3 (0, 0))) (old w))))) W1 := by rw [hW1]; exact (hI1.alloc' _).second
      have hrd : Rd 32 W1 (.slice (some ⟨W.heap.size, 0, none⟩) 1 1) 1 (bcells x.1) := by
        rw [hW1]; exact Rd.of_row (((hI1.alloc (.cells (bcells x.1).toArray 34)).row_of_blk 32 1 1 (Nat.le_refl _) (by decide) (by simp [H32L.out]) (xs := bcells x.1) (by simp [H32L.out, List.take_of_length_le])).ownsRow)
      have HW1 := Lib.hid hW1
      have H1 := Lib.hid h1
      have HRD := Lib.hid hrd
      have HROW := Lib.hid hrown
      have HB1 := Lib.hid (bcells_onecell x.1)
      have HID3 := Lib.hid infoID3
      have HID2 := Lib.hid infoID2
      obtain ⟨X, hX⟩ : ∃ X, X = bcells x.1 := ⟨_, rfl⟩
      rw [← hX] at HL H32 H32L HW1 HRD HB1
      have HX := Lib.hid hX
      clear hW1 h1 hrd hrown hI hI1 hBx hX
      by_cases heq : ((pre.length : Int) + 1 = most)
      · gi_wp2_with ((with_reducible refine wpListIn_plain rfl ?_); intro _ hk; (first
          | (refine wpIn_of_wp _ _ rfl (wp_load_mid 34 _ rfl Bx 0 rfl X _ HL.out Tryd.underlying34 rfl H32.out (hk _ _ ?_)))
          | (refine wpIn_of_wp _ _ rfl (opw_row1C 46 34 32 _ _ (.agg X.toArray) X rfl Tryd.underlying46 HID2.out (by simp [Value.cells, bcells_length]) (by decide) (by decide) rfl rfl H32L.out (hk _ _ ?_)); rw [← HW1.out])
          | (refine wpIn_of_append _ _ rfl (op_appendG _ _ 46 34 32 32 _ rfl Tryd.underlying46 HID3.out (by simp [Value.cells, bcells_length]) (by decide) rfl rfl H1.out HRD.out HB1.out (by unfold maxLen; omega) (by omega) (fun A2 c2 W2 h2 hg2 => hk _ _ ?_)); have H2 := Lib.hid h2.second; have hg2' : W1.grownBy W2 (Value.slice A pre.length c).ownBlock := hg2; have HG2 := Lib.hid hg2'; clear h2 hg2 hg2')
          | (refine wpIn_of_wp _ _ rfl (opw_store1C 46 _ _ rfl infoIDs o 0 (.slice A2 (pre.length + 1) c2) rfl rfl rfl H2.out (by simp) (hk _ _ ?_)); have h3 := H2.out.set 0 (.slice A2 (pre.length + 1) c2); obtain ⟨W3, hW3⟩ : ∃ W3, W3 = W2.setCell ⟨o, 0, none⟩ (.slice A2 (pre.length + 1) c2) := ⟨_, rfl⟩; rw [← hW3] at h3 ⊢; have HW3 := Lib.hid hW3; have co3 : W3.cell? ⟨o, 0, none⟩ = some (.slice A2 (pre.length + 1) c2) := h3.cell 0; have cm3 : W3.cell? ⟨m, 0, none⟩ = some (.int .i64 most) := h3.fourth.cell 0; have H3 := Lib.hid h3; clear h3 hW3)
          | (refine wpIn_of_wp _ _ rfl (opw_store1C 46 _ _ rfl infoIDs r 0 (.slice A2 (pre.length + 1) c2) rfl rfl rfl H3.out.third (by simp) (hk _ _ ?_)); have h4 := H3.out.third.set 0 (.slice A2 (pre.length + 1) c2); obtain ⟨W4, hW4⟩ : ∃ W4, W4 = W3.setCell ⟨r, 0, none⟩ (.slice A2 (pre.length + 1) c2) := ⟨_, rfl⟩; rw [← hW4] at h4 ⊢; have HW4 := Lib.hid hW4; have H4 := Lib.hid h4; clear h4 hW4)); simp only [Act.put, List.setIfInBounds_toArray, List.set_cons_zero, List.set_cons_succ])
        have hkept : ∀ (k : Nat) (o' : Obj), W.heap[k]? = some o' → k ≠ o → some k ≠ (Value.slice A pre.length c).ownBlock → W3.heap[k]? = some o' := by
          intro k o' hk1 hk2 hk3
          have hlt1 := (Array.getElem?_eq_some_iff.1 hk1).1
          have e1 : W1.heap[k]? = some o' := by rw [HW1.out]; exact (Below.heap_alloc W _ k hlt1).trans hk1
          have e2 := (HG2.out.block k (Array.getElem?_eq_some_iff.1 e1).1 hk3).trans e1
          rw [HW3.out]
          exact (Below.heap_setCell W2 ⟨o, 0, none⟩ _ k hk2).trans e2
        have hsz3 : W.heap.size ≤ W3.heap.size := by
          have e1 : W1.heap.size = W.heap.size + 1 := by rw [HW1.out]; simp
          have e2 := HG2.out.size
          have e3 : W3.heap.size = W2.heap.size := by rw [HW3.out]; simp [World.setCell]
          omega
        have hKF : KeepsFrom w6.heap.size W W3 := ⟨hsz3, fun k o' _ hk1 hk2 => hkept k o' hk1 (fun e => by subst e; rw [HBO.out] at hk1; cases hk1; cases hk2) (fun e => by obtain ⟨_, o2, h3, h4⟩ := HROW.out k e.symm; rw [hk1] at h3; cases h3; rw [hk2] at h4; cases h4)⟩
        have hBel : Below w.heap.size W W3 := by
          refine ⟨?_, ?_, ?_, hsz3, fun k hk1 => ?_⟩
          · rw [HW3.out]; exact HG2.out.os.trans (by rw [HW1.out]; rfl)
          · rw [HW3.out]; exact HG2.out.tape.trans (by rw [HW1.out]; rfl)
          · rw [HW3.out]; exact HG2.out.output.trans (by rw [HW1.out]; rfl)
          · have hlt1 : k < W.heap.size := by omega
            rw [hkept k W.heap[k] (Array.getElem?_eq_getElem hlt1) (fun e => by have := HNEW.out; omega) (fun e => by have := (HROW.out k e.symm).1; omega), Array.getElem?_eq_getElem hlt1]
        have hlen3 : (pre ++ [x]).length = pre.length + 1 := by simp
        have hall3 : ∀ (rv : Value → Value) W', Has w (sep (blk o (.cells #[.slice A2 (pre.length + 1) c2] 46 (0, 0))) (sep (row 34 32 (.slice A2 (pre.length + 1) c2) (pre.length + 1) (idcs pre ++ X)) (sep (blk r (.cells #[rv (.slice A2 (pre.length + 1) c2)] 46 (0, 0))) (sep (blk m (.cells #[.int .i64 most] 3 (0, 0))) (old w))))) W' → Has w (sep (AllP o r m most rv (pre ++ [x])) (old w)) W' := fun rv W' hw => toAll (.slice A2 (pre.length + 1) c2) (by rw [hlen3, idcs_snoc, ← HX.out]; exact hw)
        have hKF4 : KeepsFrom w6.heap.size W W4 := hKF.trans (by rw [HW4.out]; exact (KeepsOthers.setCell _ _ _).from _)
        refine ⟨hKF4, rfl, hall3 (fun v => v) W4 (H4.out.cast (by simp only [List.setIfInBounds_toArray, List.set_cons_zero]; ac_rfl)), by simp; omega⟩
      · gi_wp2_with ((with_reducible refine wpListIn_plain rfl ?_); intro _ hk; (first
          | (refine wpIn_of_wp _ _ rfl (wp_load_mid 34 _ rfl Bx 0 rfl X _ HL.out Tryd.underlying34 rfl H32.out (hk _ _ ?_)))
          | (refine wpIn_of_wp _ _ rfl (opw_row1C 46 34 32 _ _ (.agg X.toArray) X rfl Tryd.underlying46 HID2.out (by simp [Value.cells, bcells_length]) (by decide) (by decide) rfl rfl H32L.out (hk _ _ ?_)); rw [← HW1.out])
          | (refine wpIn_of_append _ _ rfl (op_appendG _ _ 46 34 32 32 _ rfl Tryd.underlying46 HID3.out (by simp [Value.cells, bcells_length]) (by decide) rfl rfl H1.out HRD.out HB1.out (by unfold maxLen; omega) (by omega) (fun A2 c2 W2 h2 hg2 => hk _ _ ?_)); have H2 := Lib.hid h2.second; have hg2' : W1.grownBy W2 (Value.slice A pre.length c).ownBlock := hg2; have HG2 := Lib.hid hg2'; clear h2 hg2 hg2')
          | (refine wpIn_of_wp _ _ rfl (opw_store1C 46 _ _ rfl infoIDs o 0 (.slice A2 (pre.length + 1) c2) rfl rfl rfl H2.out (by simp) (hk _ _ ?_)); have h3 := H2.out.set 0 (.slice A2 (pre.length + 1) c2); obtain ⟨W3, hW3⟩ : ∃ W3, W3 = W2.setCell ⟨o, 0, none⟩ (.slice A2 (pre.length + 1) c2) := ⟨_, rfl⟩; rw [← hW3] at h3 ⊢; have HW3 := Lib.hid hW3; have co3 : W3.cell? ⟨o, 0, none⟩ = some (.slice A2 (pre.length + 1) c2) := h3.cell 0; have cm3 : W3.cell? ⟨m, 0, none⟩ = some (.int .i64 most) := h3.fourth.cell 0; have H3 := Lib.hid h3; clear h3 hW3)); simp only [Act.put, List.setIfInBounds_toArray, List.set_cons_zero, List.set_cons_succ])
        have hkept : ∀ (k : Nat) (o' : Obj), W.heap[k]? = some o' → k ≠ o → some k ≠ (Value.slice A pre.length c).ownBlock → W3.heap[k]? = some o' := by
          intro k o' hk1 hk2 hk3
          have hlt1 := (Array.getElem?_eq_some_iff.1 hk1).1
          have e1 : W1.heap[k]? = some o' := by rw [HW1.out]; exact (Below.heap_alloc W _ k hlt1).trans hk1
          have e2 := (HG2.out.block k (Array.getElem?_eq_some_iff.1 e1).1 hk3).trans e1
          rw [HW3.out]
          exact (Below.heap_setCell W2 ⟨o, 0, none⟩ _ k hk2).trans e2
        have hsz3 : W.heap.size ≤ W3.heap.size := by
          have e1 : W1.heap.size = W.heap.size + 1 := by rw [HW1.out]; simp
          have e2 := HG2.out.size
          have e3 : W3.heap.size = W2.heap.size := by rw [HW3.out]; simp [World.setCell]
          omega
        have hKF : KeepsFrom w6.heap.size W W3 := ⟨hsz3, fun k o' _ hk1 hk2 => hkept k o' hk1 (fun e => by subst e; rw [HBO.out] at hk1; cases hk1; cases hk2) (fun e => by obtain ⟨_, o2, h3, h4⟩ := HROW.out k e.symm; rw [hk1] at h3; cases h3; rw [hk2] at h4; cases h4)⟩
        have hBel : Below w.heap.size W W3 := by
          refine ⟨?_, ?_, ?_, hsz3, fun k hk1 => ?_⟩
          · rw [HW3.out]; exact HG2.out.os.trans (by rw [HW1.out]; rfl)
          · rw [HW3.out]; exact HG2.out.tape.trans (by rw [HW1.out]; rfl)
          · rw [HW3.out]; exact HG2.out.output.trans (by rw [HW1.out]; rfl)
          · have hlt1 : k < W.heap.size := by omega
            rw [hkept k W.heap[k] (Array.getElem?_eq_getElem hlt1) (fun e => by have := HNEW.out; omega) (fun e => by have := (HROW.out k e.symm).1; omega), Array.getElem?_eq_getElem hlt1]
        have hlen3 : (pre ++ [x]).length = pre.length + 1 := by simp
        have hall3 : ∀ (rv : Value → Value) W', Has w (sep (blk o (.cells #[.slice A2 (pre.length + 1) c2] 46 (0, 0))) (sep (row 34 32 (.slice A2 (pre.length + 1) c2) (pre.length + 1) (idcs pre ++ X)) (sep (blk r (.cells #[rv (.slice A2 (pre.length + 1) c2)] 46 (0, 0))) (sep (blk m (.cells #[.int .i64 most] 3 (0, 0))) (old w))))) W' → Has w (sep (AllP o r m most rv (pre ++ [x])) (old w)) W' := fun rv W' hw => toAll (.slice A2 (pre.length + 1) c2) (by rw [hlen3, idcs_snoc, ← HX.out]; exact hw)
        refine ⟨hKF, hBel, hall3 (fun _ => .slice none 0 0) W3 (H3.out.cast (by simp only [List.setIfInBounds_toArray, List.set_cons_zero])), by simp; omega⟩
    case done =>
      rintro D zs W hD rfl ⟨hI, hpm⟩ hK
      obtain ⟨A, c, hI1⟩ := openAll hI
      obtain ⟨L, hL⟩ : ∃ L, L = idsOf K hok := ⟨_, rfl⟩
      have hall : allIds K hok most = L := by unfold allIds; rw [hL, List.take_of_length_le (by omega)]
      have HALL := Lib.hid hall
      rw [← hL] at hI1 hpm
      have co : W.cell? ⟨o, 0, none⟩ = some (.slice A L.length c) := hI1.cell 0
      have HI1 := Lib.hid hI1
      have HK := Lib.hid hK
      clear hI hI1 hK hL hall
      gi_wp2_with ((with_reducible refine wpListIn_plain rfl ?_); intro _ hk; (first
          | (refine wpIn_of_wp _ _ rfl (opw_store1C 46 _ _ rfl infoIDs r 0 (.slice A L.length c) rfl rfl rfl HI1.out.third (by simp) (hk _ _ ?_)); have h4 := HI1.out.third.set 0 (.slice A L.length c); obtain ⟨W4, hW4⟩ : ∃ W4, W4 = W.setCell ⟨r, 0, none⟩ (.slice A L.length c) := ⟨_, rfl⟩; rw [← hW4] at h4 ⊢; have HW4 := Lib.hid hW4; have H4 := Lib.hid h4; clear h4 hW4)); simp only [Act.put, List.setIfInBounds_toArray, List.set_cons_zero, List.set_cons_succ])
      have hK4 : W4.heap[D]? = some (.deferred (some [])) := by rw [HW4.out]; exact (KeepsOthers.setCell _ _ _).same D _ HK.out rfl
      have h4 : Has w (sep (AllP o r m most (fun v => v) L) (old w)) W4 := toAll (.slice A L.length c) (H4.out.cast (by simp only [List.setIfInBounds_toArray, List.set_cons_zero]; ac_rfl))
      have h5 := (HOWN.out (fun v => v)).putObj (.deferred none) h4 hD hK4 rfl
      obtain ⟨A5, c5, h6⟩ := openAll h5
      have cr := h6.third.cell 0
      simp only [List.getElem?_toArray, List.getElem?_cons_zero] at cr
      refine ⟨by simp, .inl ⟨_, _, rfl, run_takeDeferred hK4, ?_⟩⟩
      refine ⟨.slice A5 L.length c5, by simp [results, Tryd.results21, go_sem, cr], _, rfl, ?_⟩
      rw [HALL.out]
      exact HFIN.out _ _ L ((h6.cast (show _ = sep (blk o (.cells #[.slice A5 L.length c5] 46 (0, 0))) (sep (blk r (.cells #[.slice A5 L.length c5] 46 (0, 0))) (sep (blk m (.cells #[.int .i64 most] 3 (0, 0))) (sep (row 34 32 (.slice A5 L.length c5) L.length (idcs L)) (old w)))) by ac_rfl)).right.right.right)
    case stop =>
      rintro D c pre W hD hpre ⟨rfl, hI, hpm⟩ hK
      have hall : allIds K hok most = pre := by
        unfold allIds
        obtain ⟨t, ht⟩ := hpre
        rw [← ht, show most.toNat = pre.length by omega, List.take_left]
      have HALL := Lib.hid hall
      clear hall
      have h5 := (HOWN.out (fun v => v)).putObj (.deferred none) hI hD hK rfl
      obtain ⟨A5, c5, h6⟩ := openAll h5
      have cr := h6.third.cell 0
      simp only [List.getElem?_toArray, List.getElem?_cons_zero] at cr
      gi_wp2
      refine ⟨by simp, .inl ⟨_, _, rfl, run_takeDeferred hK, ?_⟩⟩
      refine ⟨.slice A5 pre.length c5, by simp [results, Tryd.results21, go_sem, cr], _, rfl, ?_⟩
      rw [HALL.out]
      exact HFIN.out _ _ pre ((h6.cast (show _ = sep (blk o (.cells #[.slice A5 pre.length c5] 46 (0, 0))) (sep (blk r (.cells #[.slice A5 pre.length c5] 46 (0, 0))) (sep (blk m (.cells #[.int .i64 most] 3 (0, 0))) (sep (row 34 32 (.slice A5 pre.length c5) pre.length (idcs pre)) (old w)))) by ac_rfl)).right.right.right)
end Go.Proofs.YtblknhpafifebaaDoor

/-
  slices.Clone of bytes.
-/
namespace Go.Proofs.YtblknhpafifebaaDoor
open Go.RowKit Go.Sl Go.Sha
set_option linter.unusedVariables false
set_option linter.unusedSimpArgs false
set_option maxHeartbeats 400000 in
theorem clone_any (st : World) (R : HProp) (m : List UInt8) (v : Value) (w : World) (h : Has st R w) (hs : Sees st R 1 v m.length (bcells m)) (hb : m.length ≤ 140737488355328) :
    Calls Tryd.prog 30 #[v] w fun e w' => ∃ A c, e = .returned (.slice A m.length c) ∧ Has st (sep (row 5 1 (.slice A m.length c) m.length (bcells m)) R) w' := by
  have hr := hs w h
  obtain ⟨_, A, c, rfl, _, _, ⟨rfl, rfl⟩ | ⟨ad, rfl, _⟩⟩ := hs w h
  · obtain rfl : m = [] := List.eq_nil_of_length_eq_zero (by have := (hs w h).1; obtain ⟨_, _, e, h', _⟩ := (hs w h).2; injection e; omega)
    have he := fun (W : World) => Lib.run_eql_slice_nil (P := Tryd.prog) W 30 5 none 0 0 0 0 Tryd.underlying30
    go_enter Tryd.func30, Tryd.ntmps30
    go_wp2
    go_ret
    exact ⟨none, 0, rfl, h.row_nil _ _⟩
  · have he := fun (W : World) (n k : Nat) => Lib.run_eql_slice_nil (P := Tryd.prog) W 30 5 (some ad) n k 0 0 Tryd.underlying30
    go_enter Tryd.func30, Tryd.ntmps30
    go_wp2_with (refine wp_append rfl _ _ 30 5 1 1 (.int .u8 0) rfl Tryd.underlying30 infoB rfl (by decide) rfl rfl (h.row_empty 5 1) (hs _ (h.alloc' _)) (bcells_one m) (by unfold maxLen; omega) (by omega) ?_; intro A' c' w' h3 _)
    go_ret
    exact ⟨A', c', rfl, by simpa using h3⟩
end Go.Proofs.YtblknhpafifebaaDoor

/-
  sha.Of.
-/
namespace Go.Proofs.YtblknhpafifebaaDoor
open Go.RowKit Go.Sl Go.Sha
set_option linter.unusedVariables false
set_option linter.unusedSimpArgs false

set_option maxRecDepth 100000 in
set_option maxHeartbeats 1000000 in
theorem shaOf_any (st : World) (R : HProp) (b : List UInt8) (v : Value) (hk : Keys st R) (hst : Start st R) (w : World) (h : Has st R w) (hs : Sees st R 1 v b.length (bcells b)) (hmb : b.length ≤ 140737488355000) :
    Calls Tryd.prog 29 #[v] w fun e w' => e = .returned (.agg (bcells (sha b)).toArray) ∧ Has st R w' := by
  have HS := Lib.hid hs
  have HKeys := Lib.hid hk
  have HST := Lib.hid hst
  obtain ⟨Ab, cb, rfl⟩ := hs.form h
  have hz : (bcells (sha b)).toArray.size = 32 := by simp [bcells_length, sha_length]
  have hi32 : (Tryd.prog.info? 34).map (·.size) = some (bcells (sha b)).toArray.size := by rw [hz]; exact infoID
  have hz2 : (bcells (List.replicate 32 (0 : UInt8))).toArray.size = (bcells (sha b)).toArray.size := by rw [hz]; rfl
  have HI := Lib.hid hi32
  have HZ2 := Lib.hid hz2
  obtain ⟨BS, hBS⟩ : ∃ BS, BS = sha b := ⟨_, rfl⟩
  rw [← hBS] at HI HZ2
  rw [← hBS]
  have HBS := Lib.hid hBS
  have HW : Hid (∀ p0 p1 w', Has st (sep (hash p1 []) (sep (blk p0 (.cells (bcells (List.replicate 32 0)).toArray 34 (0, 0))) R)) w' → Calls Tryd.prog 36 #[.pointer (some ⟨p1, 0, none⟩), .slice Ab b.length cb] w' fun e w'' => e = .returned (.tuple #[]) ∧ Has st (sep (hash p1 b) (sep (blk p0 (.cells (bcells (List.replicate 32 0)).toArray 34 (0, 0))) R)) w'') :=
    Lib.hid fun p0 p1 w' h' => write_any st (sep (blk p0 (.cells (bcells (List.replicate 32 0)).toArray 34 (0, 0))) R) p1 [] b (.slice Ab b.length cb) (fun w2 h2 => hk w2 h2.right) (fun w2 h2 => hst w2 h2.right) w' h' (fun w2 h2 => hs w2 h2.right) (by simp; omega)
  have HSU : Hid (∀ p0 p1 w', Has st (sep (hash p1 b) (sep (blk p0 (.cells (bcells (List.replicate 32 0)).toArray 34 (0, 0))) R)) w' → Calls Tryd.prog 37 #[.pointer (some ⟨p1, 0, none⟩)] w' fun e w'' => e = .returned (.agg (bcells BS).toArray) ∧ Has st (sep (hash p1 b) (sep (blk p0 (.cells (bcells (List.replicate 32 0)).toArray 34 (0, 0))) R)) w'') :=
    Lib.hid fun p0 p1 w' h' => by rw [hBS]; exact sum_any st (sep (blk p0 (.cells (bcells (List.replicate 32 0)).toArray 34 (0, 0))) R) p1 b (fun w2 h2 => hk w2 h2.right) (fun w2 h2 => hst w2 h2.right) w' h' hmb
  clear hs hk hst hz hi32 hz2 hBS
  go_enter Tryd.func29, Tryd.ntmps29
  go_wp2_with (first
    | (go_at_call 36; refine (HW.out p0 p1 _ H1.out).mono ?_; rintro e w2 ⟨rfl, h2⟩; have H2 := Lib.hid h2; clear h2)
    | (go_at_call 37; refine (HSU.out p0 p1 _ H2.out).mono ?_; rintro e w3 ⟨rfl, h3⟩; have H3 := Lib.hid h3.second; clear h3)
    | ((with_reducible refine wpList_plain rfl ?_); intro _ hk; (first
      | (refine opw_alloc 34 (.agg (bcells (List.replicate 32 0)).toArray) (bcells (List.replicate 32 0)).toArray rfl zeroID rfl h (fun p0 w0 hp h0 => hk _ _ ?_); clear hp; have H0 := Lib.hid h0; clear h0)
      | (refine opw_alloc 86 (.agg (hcells false ⟨0, 0, 0, 0, 0, 0, 0, 0⟩ (.slice none 0 0) 0)) (hcells false ⟨0, 0, 0, 0, 0, 0, 0, 0⟩ (.slice none 0 0) 0) rfl zeroHash rfl H0.out (fun p1 w1 hp h1 => hk _ _ ?_); clear hp; have H1 := Lib.hid (hash_new h1); clear h1)
      | (refine opw_storeRow 34 _ _ rfl p0 (bcells BS).toArray rfl rfl 34 (bcells (List.replicate 32 0)).toArray HI.out HZ2.out (bcells_all _) H3.out (fun w9 h9 => hk _ _ ?_))); simp only [Act.put, List.setIfInBounds_toArray, List.set_cons_zero, List.set_cons_succ]))
  refine bodyPost_ret (results_cell_row Tryd.results29 _ _ _ 34 _ _ _ rfl h9.blk Tryd.underlying34 rfl HI.out) rfl ?_
  exact ⟨rfl, h9.right.right⟩
end Go.Proofs.YtblknhpafifebaaDoor

/-
  cache: Put.
-/
namespace Go.Proofs.YtblknhpafifebaaDoor
open Go.RowKit Go.Sl Go.Sha
set_option linter.unusedVariables false
set_option linter.unusedSimpArgs false
set_option maxRecDepth 100000

theorem layoutK : layout Tryd.prog 75 = some ([(0, 32), (32, 1)], zeroKc.toArray) := by kernel_rfl
theorem builtK (X : List UInt8) (v : Value) (hX : X.length = 32) (hv : v.cells = #[v]) : Tryd.prog.built 75 [(0, .agg (bcells X).toArray), (1, v)] = some (bcells X ++ [v]).toArray := by
  have h32 : (bcells X).length = 32 := by rw [bcells_length, hX]
  have hz : zeroKc.length = 33 := rfl
  have hl : (Value.agg (bcells X).toArray).cells.size = 32 := by show (bcells X).toArray.size = 32; simp [h32]
  have e1 := fill_cons (([(0, 32), (32, 1)] : List (Nat × Nat)).toArray[·]?) zeroKc.toArray 0 0 32 (.agg (bcells X).toArray) [(1, v)] rfl hl (by show 0 + 32 ≤ 33; decide)
  have e2 := fill_cons (([(0, 32), (32, 1)] : List (Nat × Nat)).toArray[·]?) (bcells X ++ zeroKc.drop 32).toArray 1 32 1 v [] rfl (by rw [hv]; rfl) (by simp [h32, hz])
  rw [built_of layoutK, e1]
  have e3 : zeroKc.toArray.toList.take 0 ++ (Value.agg (bcells X).toArray).cells.toList ++ zeroKc.toArray.toList.drop (0 + 32) = bcells X ++ zeroKc.drop 32 := rfl
  rw [e3, e2]
  show some _ = _
  have e4 : (bcells X ++ zeroKc.drop 32).toArray.toList.take 32 = bcells X := by simp [List.take_append_of_le_length, List.take_of_length_le, h32]
  have e5 : (bcells X ++ zeroKc.drop 32).toArray.toList.drop (32 + 1) = [] := List.drop_eq_nil_of_le (by simp [h32, hz])
  rw [e4, e5, hv]
  simp

/-- without a sum's blob -/
def dropK (id : List UInt8) (K : List Kp) : List Kp := match place id K with | some i => K.eraseIdx i | none => K
/-- without the first ones, till there is room -/
def trimK (lim : Int) (n : Nat) : List Kp → List Kp
  | [] => []
  | k :: K => if lim < ((tot (k :: K) + n : Nat) : Int) then trimK lim n K else k :: K
/-- behind Put -/
def putK (lim : Int) (K : List Kp) (k : Kp) : List Kp := if lim < (k.b.length : Int) then dropK k.id K else trimK lim k.b.length (dropK k.id K) ++ [k]
theorem ok_drop {K : List Kp} (h : ∀ k ∈ K, k.ok) (id : List UInt8) : ∀ k ∈ dropK id K, k.ok := by
  unfold dropK; split
  · exact ok_erase h _
  · exact h
theorem len_drop (K : List Kp) (id : List UInt8) : (dropK id K).length ≤ K.length := by
  unfold dropK; split
  · exact List.length_eraseIdx_le _ _
  · exact Nat.le_refl _
theorem tot_drop (K : List Kp) (id : List UInt8) : tot (dropK id K) ≤ tot K := by
  unfold dropK; split
  · rename_i i h; have := tot_erase K i (place_lt h); omega
  · exact Nat.le_refl _
theorem cache_at0 {st : World} {R : HProp} {w : World} {p : Nat} {K : List Kp} {lim : Int} (h : Has st (sep (cacheP p K lim) R) w) : ∃ A c, w.cell? ⟨p, 0, none⟩ = some (.slice A K.length c) := by
  obtain ⟨A, c, h1⟩ := openCache h; exact ⟨A, c, h1.cell 0⟩
theorem cache_at1 {st : World} {R : HProp} {w : World} {p : Nat} {K : List Kp} {lim : Int} (h : Has st (sep (cacheP p K lim) R) w) : w.cell? ⟨p, 1, none⟩ = some (.int .i64 lim) := by
  obtain ⟨A, c, h1⟩ := openCache h; exact h1.cell 1
theorem cache_at2 {st : World} {R : HProp} {w : World} {p : Nat} {K : List Kp} {lim : Int} (h : Has st (sep (cacheP p K lim) R) w) : w.cell? ⟨p, 2, none⟩ = some (.int .i64 (tot K : Int)) := by
  obtain ⟨A, c, h1⟩ := openCache h; exact h1.cell 2
/-- how many there are, read off the world -/
def keptIn (p : Nat) (w : World) : Nat := match w.cell? ⟨p, 0, none⟩ with | some v => lenOf v | none => 0
theorem keptIn_eq {st : World} {R : HProp} {w : World} {p : Nat} {K : List Kp} {lim : Int} (h : Has st (sep (cacheP p K lim) R) w) : keptIn p w = K.length := by
  obtain ⟨A, c, h1⟩ := cache_at0 h; simp [keptIn, h1, lenOf]
/-- the loop that makes room -/
def TrimRel (st : World) (R : HProp) (p : Nat) (lim : Int) (n : Nat) (G : List Kp) (bd : Nat) (tb : Nat) (wr : World) : Prop :=
  ∃ K, trimK lim n K = G ∧ (∀ k ∈ K, k.ok) ∧ K.length ≤ bd ∧ tot K ≤ tb ∧ Has st (sep (cacheP p K lim) R) wr

set_option maxHeartbeats 4000000 in
theorem put_any (st : World) (R : HProp) (p : Nat) (K : List Kp) (lim : Int) (b : List UInt8) (v : Value) (w : World) (h : Has st (sep (cacheP p K lim) R) w) (hk : Keys st R) (hst : Start st R) (hs : Sees st R 1 v b.length (bcells b))
    (hok : ∀ k ∈ K, k.ok) (hlen : K.length ≤ 100000) (htot : tot K ≤ 100000000) (hb : b.length ≤ 100000000) (hlim : 0 ≤ lim) :
    Calls Tryd.prog 13 #[.pointer (some ⟨p, 0, none⟩), v] w fun e w' => e = .returned (.agg (bcells (sha b)).toArray) ∧ ∃ V, Kp.ok ⟨sha b, V, b⟩ ∧ Has st (sep (cacheP p (putK lim K ⟨sha b, V, b⟩) lim) R) w' := by
  obtain ⟨Av, cv, rfl⟩ := hs.form h.right
  have hS32 : (sha b).length = 32 := sha_length b
  obtain ⟨S, hS⟩ : ∃ S, S = sha b := ⟨_, rfl⟩
  obtain ⟨n, hn⟩ : ∃ n, n = b.length := ⟨_, rfl⟩
  have HSH : Hid (∀ F w, (∀ w, Has st F w → Has st R w) → Has st F w → Calls Tryd.prog 29 #[.slice Av n cv] w fun e w' => e = .returned (.agg (bcells S).toArray) ∧ Has st F w') :=
    Lib.hid fun F w hF hw => by rw [hS, hn]; exact shaOf_any st F b _ (fun w h => hk w (hF w h)) (fun w h => hst w (hF w h)) w hw (fun w h => hs w (hF w h)) (by omega)
  have HCL : Hid (∀ F w, (∀ w, Has st F w → Has st R w) → Has st F w → Calls Tryd.prog 30 #[.slice Av n cv] w fun e w' => ∃ A c, e = .returned (.slice A n c) ∧ Has st (sep (row 5 1 (.slice A n c) n (bcells b)) F) w') :=
    Lib.hid fun F w hF hw => by rw [hn]; exact clone_any st F b _ w hw (fun w h => hs w (hF w h)) (by omega)
  have HFI : Hid (∀ F w, Has st (sep (cacheP p K lim) F) w → Calls Tryd.prog 31 #[.pointer (some ⟨p, 0, none⟩), .agg (bcells S).toArray] w fun e w' => e = .returned (.int .i64 (placeZ S K)) ∧ Has st (sep (cacheP p K lim) F) w') :=
    Lib.hid fun F w hw => find_any st F p K lim S w hw (by rw [hS]; exact hS32) hok (by omega)
  have HZI := Lib.hid infoKz
  have hh := h
  rw [← hS] at hS32 ⊢
  rw [← hn] at hb ⊢
  have HS32 := Lib.hid hS32
  have HH := Lib.hid hh
  have HOK := Lib.hid hok
  have HN := Lib.hid hn
  have hbi : (Tryd.prog.info? 34).map (·.size) = some (bcells S).length := by rw [bcells_length, hS32]; exact infoID
  have HBI := Lib.hid hbi
  have hbi2 : (Tryd.prog.info? 34).map (·.size) = some (bcells S).toArray.size := by simp only [List.size_toArray]; exact hbi
  have HBI2 := Lib.hid hbi2
  have hzz : (bcells (List.replicate 32 (0 : UInt8))).toArray.size = (bcells S).toArray.size := by simp [bcells_length, hS32]
  have HZZ := Lib.hid hzz
  obtain ⟨Z, hZ⟩ : ∃ Z, Z = zeroKc.toArray := ⟨_, rfl⟩
  rw [← hZ] at HZI
  have hZ33 : Z.size = 33 := by rw [hZ]; rfl
  have HZ33 := Lib.hid hZ33
  obtain ⟨PZ, hPZ⟩ : ∃ PZ, PZ = placeZ S K := ⟨_, rfl⟩
  rw [← hPZ] at HFI
  have HPZ := Lib.hid hPZ
  have HCP : Hid (∀ (w : World) (L : List Kp) (R' : HProp), Has st (sep (cacheP p L lim) R') w → w.cell? ⟨p, 1, none⟩ = some (.int .i64 lim)) := Lib.hid fun w L R' h => cache_at1 h
  clear h hh hs hk hst hS32 hok hn hS hbi hbi2 hzz hZ hZ33 hPZ
  obtain ⟨K1, hK1⟩ : ∃ K1, K1 = dropK S K := ⟨_, rfl⟩
  have HKD := Lib.hid hK1
  have HOK1 := Lib.hid (hK1 ▸ ok_drop HOK.out S : ∀ k ∈ K1, k.ok)
  have HL1 := Lib.hid (show K1.length ≤ 100000 by rw [hK1]; have := len_drop K S; omega)
  have HT1 := Lib.hid (show tot K1 ≤ 100000000 by rw [hK1]; have := tot_drop K S; omega)
  clear hK1
  cases hpl : place S K with
  | none =>
    have hpz : PZ = -1 := by rw [HPZ.out, placeZ, hpl]
    subst hpz
    have HK1 : Hid (K = K1) := Lib.hid (by rw [HKD.out]; unfold dropK; rw [hpl])
    clear hpl
    by_cases hbig : lim < (n : Int)
    · go_enter Tryd.func13, Tryd.ntmps13
      go_wp2_with (first
        | (go_at_call 29; refine (HSH.out _ _ (fun w h => h.right.right) H0.out).mono ?_; rintro e w1 ⟨rfl, h1⟩; have H1 := Lib.hid h1; clear h1)
        | (go_at_call 30; refine (HCL.out _ _ (fun w h => h.right.right) H1.out).mono ?_; rintro e w2 ⟨A, c, rfl, h2⟩; have hbl := (show row 5 1 (.slice A n c) n (bcells b) = blob 5 ⟨S, .slice A n c, b⟩ from congrArg (fun m => row 5 1 (.slice A n c) m (bcells b)) HN.out); rw [hbl] at h2; have H2 := Lib.hid (h2.cast (show _ = sep (cacheP p K lim) (sep (blob 5 ⟨S, .slice A n c, b⟩) (sep (blk r (.cells (bcells (List.replicate 32 0)).toArray 34 (0, 0))) R)) by ac_rfl)); clear h2 hbl; obtain ⟨Y, hY⟩ : ∃ Y, Y = bcells S ++ [.slice A n c] := ⟨_, rfl⟩; have HYB := Lib.hid (hY ▸ builtK S (.slice A n c) HS32.out rfl); have HYK := Lib.hid (show Y = kc ⟨S, .slice A n c, b⟩ from hY); clear hY; have hko := (show Kp.ok ⟨S, .slice A n c, b⟩ from ⟨HS32.out, A, c, by rw [HN.out]⟩); have HKO := Lib.hid hko; have HYS := Lib.hid (show Y.length = 33 by rw [HYK.out, kc_length HKO.out]); have HY1 := Lib.hid (show ∀ u ∈ Y, u.oneCell' = true by rw [HYK.out]; exact kc_one HKO.out); clear hko)
        | (go_at_call 31; refine (HFI.out _ _ H4.out).mono ?_; rintro e w6 ⟨rfl, h6⟩; rw [HK1.out] at h6; have c1 := cache_at1 h6; have H6 := Lib.hid h6; clear h6)
        | ((first | (with_reducible refine wpList_plain rfl ?_) | ((with_reducible refine wpList_yes _ _ rfl ?_ ?_); (focus rfl))); intro _ hk; (first
          | (have _k := H6; refine opw_loadMid 34 _ rfl q 0 rfl (bcells S) _ Tryd.underlying34 rfl HBI.out H6.out.second (by rw [HYK.out]; simp [kc]) (hk _ _ ?_))
          | (have _k := H6; refine opw_storeRow 34 _ _ rfl r (bcells S).toArray rfl rfl 34 (bcells (List.replicate 32 0)).toArray HBI2.out HZZ.out (bcells_all _) H6.out.fourth (fun w9 h9 => hk _ _ ?_))
          | (refine opw_alloc 34 (.agg (bcells (List.replicate 32 0)).toArray) (bcells (List.replicate 32 0)).toArray rfl zeroID rfl HH.out (fun r w0 hp h0 => hk _ _ ?_); clear hp; have H0 := Lib.hid h0; clear h0)
          | (refine opw_build 75 _ [(0, .agg (bcells S).toArray), (1, .slice A n c)] Y.toArray rfl rfl HYB.out (hk _ _ ?_))
          | (refine opw_alloc 75 (.agg Z) Z rfl HZI.out rfl H2.out (fun q w3 hp h3 => hk _ _ ?_); clear hp; have H3 := Lib.hid h3; clear h3)
          | (refine opw_storeRow 75 _ _ rfl q Y.toArray rfl rfl 75 Z (by simp only [List.size_toArray, HYS.out]; exact infoK) (by simp only [List.size_toArray, HYS.out]; exact HZ33.out) (all_one HY1.out) H3.out (fun w4 h4 => hk _ _ ?_); have H4 := Lib.hid h4.second; clear h4)
          | (refine opw_field 75 _ 0 0 rfl (by kernel_rfl) q 0 rfl (hk _ _ ?_))
          | (have _k := H4; refine opw_loadMid 34 _ rfl q 0 rfl (bcells S) _ Tryd.underlying34 rfl HBI.out H4.out.second (by rw [HYK.out]; simp [kc]) (hk _ _ ?_))); simp only [Act.put, List.setIfInBounds_toArray, List.set_cons_zero, List.set_cons_succ]))
      refine bodyPost_ret (results_cell_row Tryd.results13 _ _ _ 34 _ _ _ rfl h9.blk Tryd.underlying34 rfl HBI2.out) rfl ?_
      exact ⟨rfl, .slice A n c, HKO.out, by
        have hput : putK lim K ⟨S, .slice A n c, b⟩ = K1 := by unfold putK; rw [if_pos (by show lim < ((b.length : Nat) : Int); rw [← HN.out]; exact hbig)]; exact HKD.out.symm
        rw [hput]
        exact (h9.cast (show _ = sep (blk r (.cells (bcells S).toArray 34 (0, 0))) (sep (blk q (.cells Y.toArray 75 (0, 0))) (sep (blob 5 ⟨S, .slice A n c, b⟩) (sep (cacheP p K1 lim) R))) by ac_rfl)).right.right.right⟩
    · go_enter Tryd.func13, Tryd.ntmps13
      go_wp2_with (first
        | (go_at_call 29; refine (HSH.out _ _ (fun w h => h.right.right) H0.out).mono ?_; rintro e w1 ⟨rfl, h1⟩; have H1 := Lib.hid h1; clear h1)
        | (go_at_call 30; refine (HCL.out _ _ (fun w h => h.right.right) H1.out).mono ?_; rintro e w2 ⟨A, c, rfl, h2⟩; have hbl := (show row 5 1 (.slice A n c) n (bcells b) = blob 5 ⟨S, .slice A n c, b⟩ from congrArg (fun m => row 5 1 (.slice A n c) m (bcells b)) HN.out); rw [hbl] at h2; have H2 := Lib.hid (h2.cast (show _ = sep (cacheP p K lim) (sep (blob 5 ⟨S, .slice A n c, b⟩) (sep (blk r (.cells (bcells (List.replicate 32 0)).toArray 34 (0, 0))) R)) by ac_rfl)); clear h2 hbl; obtain ⟨Y, hY⟩ : ∃ Y, Y = bcells S ++ [.slice A n c] := ⟨_, rfl⟩; have HYB := Lib.hid (hY ▸ builtK S (.slice A n c) HS32.out rfl); have HYK := Lib.hid (show Y = kc ⟨S, .slice A n c, b⟩ from hY); clear hY; have hko := (show Kp.ok ⟨S, .slice A n c, b⟩ from ⟨HS32.out, A, c, by rw [HN.out]⟩); have HKO := Lib.hid hko; have HYS := Lib.hid (show Y.length = 33 by rw [HYK.out, kc_length HKO.out]); have HY1 := Lib.hid (show ∀ u ∈ Y, u.oneCell' = true by rw [HYK.out]; exact kc_one HKO.out); clear hko)
        | (go_at_call 31; refine (HFI.out _ _ H4.out).mono ?_; rintro e w6 ⟨rfl, h6⟩; rw [HK1.out] at h6; have c1 := cache_at1 h6; have H6 := Lib.hid h6; clear h6)
        | ((first | (with_reducible refine wpList_plain rfl ?_) | ((with_reducible refine wpList_yes _ _ rfl ?_ ?_); (focus rfl))); intro _ hk; (first
          | (have _k := H6; refine opw_loadMid 34 _ rfl q 0 rfl (bcells S) _ Tryd.underlying34 rfl HBI.out H6.out.second (by rw [HYK.out]; simp [kc]) (hk _ _ ?_))
          | (have _k := H6; refine opw_storeRow 34 _ _ rfl r (bcells S).toArray rfl rfl 34 (bcells (List.replicate 32 0)).toArray HBI2.out HZZ.out (bcells_all _) H6.out.fourth (fun w9 h9 => hk _ _ ?_))
          | (refine opw_alloc 34 (.agg (bcells (List.replicate 32 0)).toArray) (bcells (List.replicate 32 0)).toArray rfl zeroID rfl HH.out (fun r w0 hp h0 => hk _ _ ?_); clear hp; have H0 := Lib.hid h0; clear h0)
          | (refine opw_build 75 _ [(0, .agg (bcells S).toArray), (1, .slice A n c)] Y.toArray rfl rfl HYB.out (hk _ _ ?_))
          | (refine opw_alloc 75 (.agg Z) Z rfl HZI.out rfl H2.out (fun q w3 hp h3 => hk _ _ ?_); clear hp; have H3 := Lib.hid h3; clear h3)
          | (refine opw_storeRow 75 _ _ rfl q Y.toArray rfl rfl 75 Z (by simp only [List.size_toArray, HYS.out]; exact infoK) (by simp only [List.size_toArray, HYS.out]; exact HZ33.out) (all_one HY1.out) H3.out (fun w4 h4 => hk _ _ ?_); have H4 := Lib.hid h4.second; clear h4)
          | (refine opw_field 75 _ 0 0 rfl (by kernel_rfl) q 0 rfl (hk _ _ ?_))
          | (have _k := H4; refine opw_loadMid 34 _ rfl q 0 rfl (bcells S) _ Tryd.underlying34 rfl HBI.out H4.out.second (by rw [HYK.out]; simp [kc]) (hk _ _ ?_))); simp only [Act.put, List.setIfInBounds_toArray, List.set_cons_zero, List.set_cons_succ]))
      have hfit : (n : Int) ≤ lim := by omega
      clear c1 H0 H1 H2 H3 H4
      obtain ⟨G, hG⟩ : ∃ G, G = trimK lim n K1 := ⟨_, rfl⟩
      have HG := Lib.hid hG
      clear hG
      go_loopw [42] (fun _ wr => TrimRel st (sep (blk q (.cells Y.toArray 75 (0, 0))) (sep (blob 5 ⟨S, .slice A n c, b⟩) (sep (blk r (.cells (bcells (List.replicate 32 0)).toArray 34 (0, 0))) R))) p lim n G 100000 100000000 wr) (fun _ wr => keptIn p wr)
      case atStart => exact ⟨K1, HG.out.symm, HOK1.out, HL1.out, HT1.out, H6.out⟩
      case round =>
        obtain ⟨K2, hG2, hok2, hl2, ht2, h⟩ := hrel
        have HG2 := Lib.hid hG2
        have HOK2 := Lib.hid hok2
        have HM := Lib.hid (keptIn_eq h)
        have HH2 := Lib.hid h
        have c1 := cache_at1 h
        have c2 := cache_at2 h
        clear hG2 hok2 h
        obtain ⟨T, hT⟩ : ∃ T, T = tot K2 := ⟨_, rfl⟩
        rw [← hT] at c2 ht2
        have HT := Lib.hid hT
        clear hT
        by_cases hgt : lim < (T : Int) + (n : Int)
        · cases K2 with
          | nil =>
            exfalso
            have : T = 0 := HT.out
            omega
          | cons k0 K3 =>
            have HTA : Hid (∀ w, Has st (sep (cacheP p (k0 :: K3) lim) (sep (blk q (.cells Y.toArray 75 (0, 0))) (sep (blob 5 ⟨S, .slice A n c, b⟩) (sep (blk r (.cells (bcells (List.replicate 32 0)).toArray 34 (0, 0))) R)))) w → Calls Tryd.prog 32 #[.pointer (some ⟨p, 0, none⟩), .int .i64 0] w fun e w' => e = .returned (.agg (kc k0).toArray) ∧ Has st (sep (cacheP p K3 lim) (sep (blk q (.cells Y.toArray 75 (0, 0))) (sep (blob 5 ⟨S, .slice A n c, b⟩) (sep (blk r (.cells (bcells (List.replicate 32 0)).toArray 34 (0, 0))) R)))) w') :=
              Lib.hid fun w hw => (take_any st (sep (blk q (.cells Y.toArray 75 (0, 0))) (sep (blob 5 ⟨S, .slice A n c, b⟩) (sep (blk r (.cells (bcells (List.replicate 32 0)).toArray 34 (0, 0))) R))) p (k0 :: K3) lim 0 (by simp) w hw HOK2.out (by omega) (by rw [← HT.out]; omega)).mono fun e w' h' => ⟨h'.1, (h'.2.second).right⟩
            go_wp2_with (fail)
            go_region
            have HD := Lib.hid (HH2.out.drew)
            generalize wr.drew = wd at HD ⊢
            go_wp2_with (go_at_call 32; refine (HTA.out _ HD.out).mono ?_; rintro e w7 ⟨rfl, h7⟩; have H7 := Lib.hid h7; clear h7)
            have hmm : tot K3 ≤ T := by rw [HT.out]; simp [tot]
            go_roundw
            case rel => exact ⟨K3, by rw [← HG2.out]; show _ = trimK lim n (k0 :: K3); rw [trimK, if_pos (by rw [← HT.out]; omega)], fun k hk => HOK2.out k (by simp [hk]), by simp at hl2; omega, by omega, H7.out⟩
            case measure =>
              rw [keptIn_eq H7.out, HM.out]; simp
        · have hstop : trimK lim n K2 = K2 := by
            cases K2 with
            | nil => rfl
            | cons k0 K3 => rw [trimK, if_neg (by rw [← HT.out]; omega)]
          have HST := Lib.hid hstop
          clear hstop
          have HKE : Hid (∀ w, Has st (sep (cacheP p K2 lim) (sep (blk q (.cells Y.toArray 75 (0, 0))) (sep (blob 5 ⟨S, .slice A n c, b⟩) (sep (blk r (.cells (bcells (List.replicate 32 0)).toArray 34 (0, 0))) R)))) w → Calls Tryd.prog 33 #[.pointer (some ⟨p, 0, none⟩), .agg Y.toArray] w fun e w' => e = .returned (.tuple #[]) ∧ Has st (sep (cacheP p (K2 ++ [⟨S, .slice A n c, b⟩]) lim) (sep (blk q (.cells Y.toArray 75 (0, 0))) (sep (blk r (.cells (bcells (List.replicate 32 0)).toArray 34 (0, 0))) R))) w') :=
            Lib.hid fun w hw => by rw [HYK.out] at hw ⊢; exact keep_any st _ p K2 lim ⟨S, .slice A n c, b⟩ w (hw.cast (by ac_rfl)) HOK2.out HKO.out (by omega) (by rw [← HT.out]; omega) (by show b.length ≤ _; rw [← HN.out]; omega)
          go_wp2_with (fail)
          go_region
          have HD := Lib.hid (HH2.out.drew)
          generalize wr.drew = wd at HD ⊢
          go_wp2_with (first
            | (go_at_call 33; refine (HKE.out _ HD.out).mono ?_; rintro e w8 ⟨rfl, h8⟩; have H8 := Lib.hid h8; clear h8)
            | ((first | (with_reducible refine wpList_plain rfl ?_) | ((with_reducible refine wpList_yes _ _ rfl ?_ ?_); (focus rfl))); intro _ hk; (first
              | (have _k := H8; refine opw_loadMid 34 _ rfl q 0 rfl (bcells S) _ Tryd.underlying34 rfl HBI.out H8.out.second (by rw [HYK.out]; simp [kc]) (hk _ _ ?_))
              | (have _k := H8; refine opw_storeRow 34 _ _ rfl r (bcells S).toArray rfl rfl 34 (bcells (List.replicate 32 0)).toArray HBI2.out HZZ.out (bcells_all _) H8.out.third (fun w9 h9 => hk _ _ ?_))
              | (refine opw_field 75 _ 0 0 rfl (by kernel_rfl) q 0 rfl (hk _ _ ?_))
              | (refine opw_loadMid 75 _ rfl q 0 rfl Y _ Tryd.underlying75 rfl (by rw [HYS.out]; exact infoK) HD.out.second (by simp) (hk _ _ ?_))); simp only [Act.put, List.setIfInBounds_toArray, List.set_cons_zero, List.set_cons_succ]))
          refine bodyPost_ret (results_cell_row Tryd.results13 _ _ _ 34 _ _ _ rfl h9.blk Tryd.underlying34 rfl HBI2.out) rfl ?_
          exact ⟨rfl, .slice A n c, HKO.out, by
            have hput : putK lim K ⟨S, .slice A n c, b⟩ = K2 ++ [⟨S, .slice A n c, b⟩] := by
              unfold putK; rw [if_neg (by show ¬ lim < ((b.length : Nat) : Int); rw [← HN.out]; omega)]
              show trimK lim b.length (dropK S K) ++ _ = _
              rw [← HN.out, ← HKD.out, ← HG.out, ← HG2.out, HST.out]
            rw [hput]
            exact (h9.cast (show _ = sep (blk r (.cells (bcells S).toArray 34 (0, 0))) (sep (blk q (.cells Y.toArray 75 (0, 0))) (sep (cacheP p (K2 ++ [⟨S, .slice A n c, b⟩]) lim) R)) by ac_rfl)).right.right⟩
  | some i =>
    have hpz : PZ = (i : Int) := by rw [HPZ.out, placeZ, hpl]
    subst hpz
    have hi := place_lt hpl
    have HTK : Hid (∀ F w, Has st (sep (cacheP p K lim) F) w → Calls Tryd.prog 32 #[.pointer (some ⟨p, 0, none⟩), .int .i64 (i : Int)] w fun e w' => e = .returned (.agg (kc K[i]).toArray) ∧ Has st (sep (cacheP p K1 lim) F) w') :=
      Lib.hid fun F w hw => by
        have e1 : K1 = K.eraseIdx i := by rw [HKD.out]; unfold dropK; rw [hpl]
        rw [e1]
        exact (take_any st F p K lim i hi w hw HOK.out (by omega) (by omega)).mono fun e w' h' => ⟨h'.1, (h'.2.second).right⟩
    clear hpl
    by_cases hbig : lim < (n : Int)
    · go_enter Tryd.func13, Tryd.ntmps13
      go_wp2_with (first
        | (go_at_call 29; refine (HSH.out _ _ (fun w h => h.right.right) H0.out).mono ?_; rintro e w1 ⟨rfl, h1⟩; have H1 := Lib.hid h1; clear h1)
        | (go_at_call 30; refine (HCL.out _ _ (fun w h => h.right.right) H1.out).mono ?_; rintro e w2 ⟨A, c, rfl, h2⟩; have hbl := (show row 5 1 (.slice A n c) n (bcells b) = blob 5 ⟨S, .slice A n c, b⟩ from congrArg (fun m => row 5 1 (.slice A n c) m (bcells b)) HN.out); rw [hbl] at h2; have H2 := Lib.hid (h2.cast (show _ = sep (cacheP p K lim) (sep (blob 5 ⟨S, .slice A n c, b⟩) (sep (blk r (.cells (bcells (List.replicate 32 0)).toArray 34 (0, 0))) R)) by ac_rfl)); clear h2 hbl; obtain ⟨Y, hY⟩ : ∃ Y, Y = bcells S ++ [.slice A n c] := ⟨_, rfl⟩; have HYB := Lib.hid (hY ▸ builtK S (.slice A n c) HS32.out rfl); have HYK := Lib.hid (show Y = kc ⟨S, .slice A n c, b⟩ from hY); clear hY; have hko := (show Kp.ok ⟨S, .slice A n c, b⟩ from ⟨HS32.out, A, c, by rw [HN.out]⟩); have HKO := Lib.hid hko; have HYS := Lib.hid (show Y.length = 33 by rw [HYK.out, kc_length HKO.out]); have HY1 := Lib.hid (show ∀ u ∈ Y, u.oneCell' = true by rw [HYK.out]; exact kc_one HKO.out); clear hko)
        | (go_at_call 31; refine (HFI.out _ _ H4.out).mono ?_; rintro e w5 ⟨rfl, h5⟩; have H5 := Lib.hid h5; clear h5)
        | (go_at_call 32; refine (HTK.out _ _ H5.out).mono ?_; rintro e w6 ⟨rfl, h6⟩; have c1 := cache_at1 h6; have H6 := Lib.hid h6; clear h6)
        | ((first | (with_reducible refine wpList_plain rfl ?_) | ((with_reducible refine wpList_yes _ _ rfl ?_ ?_); (focus rfl))); intro _ hk; (first
          | (have _k := H6; refine opw_loadMid 34 _ rfl q 0 rfl (bcells S) _ Tryd.underlying34 rfl HBI.out H6.out.second (by rw [HYK.out]; simp [kc]) (hk _ _ ?_))
          | (have _k := H6; refine opw_storeRow 34 _ _ rfl r (bcells S).toArray rfl rfl 34 (bcells (List.replicate 32 0)).toArray HBI2.out HZZ.out (bcells_all _) H6.out.fourth (fun w9 h9 => hk _ _ ?_))
          | (refine opw_alloc 34 (.agg (bcells (List.replicate 32 0)).toArray) (bcells (List.replicate 32 0)).toArray rfl zeroID rfl HH.out (fun r w0 hp h0 => hk _ _ ?_); clear hp; have H0 := Lib.hid h0; clear h0)
          | (refine opw_build 75 _ [(0, .agg (bcells S).toArray), (1, .slice A n c)] Y.toArray rfl rfl HYB.out (hk _ _ ?_))
          | (refine opw_alloc 75 (.agg Z) Z rfl HZI.out rfl H2.out (fun q w3 hp h3 => hk _ _ ?_); clear hp; have H3 := Lib.hid h3; clear h3)
          | (refine opw_storeRow 75 _ _ rfl q Y.toArray rfl rfl 75 Z (by simp only [List.size_toArray, HYS.out]; exact infoK) (by simp only [List.size_toArray, HYS.out]; exact HZ33.out) (all_one HY1.out) H3.out (fun w4 h4 => hk _ _ ?_); have H4 := Lib.hid h4.second; clear h4)
          | (refine opw_field 75 _ 0 0 rfl (by kernel_rfl) q 0 rfl (hk _ _ ?_))
          | (have _k := H4; refine opw_loadMid 34 _ rfl q 0 rfl (bcells S) _ Tryd.underlying34 rfl HBI.out H4.out.second (by rw [HYK.out]; simp [kc]) (hk _ _ ?_))); simp only [Act.put, List.setIfInBounds_toArray, List.set_cons_zero, List.set_cons_succ]))
      refine bodyPost_ret (results_cell_row Tryd.results13 _ _ _ 34 _ _ _ rfl h9.blk Tryd.underlying34 rfl HBI2.out) rfl ?_
      exact ⟨rfl, .slice A n c, HKO.out, by
        have hput : putK lim K ⟨S, .slice A n c, b⟩ = K1 := by unfold putK; rw [if_pos (by show lim < ((b.length : Nat) : Int); rw [← HN.out]; exact hbig)]; exact HKD.out.symm
        rw [hput]
        exact (h9.cast (show _ = sep (blk r (.cells (bcells S).toArray 34 (0, 0))) (sep (blk q (.cells Y.toArray 75 (0, 0))) (sep (blob 5 ⟨S, .slice A n c, b⟩) (sep (cacheP p K1 lim) R))) by ac_rfl)).right.right.right⟩
    · go_enter Tryd.func13, Tryd.ntmps13
      go_wp2_with (first
        | (go_at_call 29; refine (HSH.out _ _ (fun w h => h.right.right) H0.out).mono ?_; rintro e w1 ⟨rfl, h1⟩; have H1 := Lib.hid h1; clear h1)
        | (go_at_call 30; refine (HCL.out _ _ (fun w h => h.right.right) H1.out).mono ?_; rintro e w2 ⟨A, c, rfl, h2⟩; have hbl := (show row 5 1 (.slice A n c) n (bcells b) = blob 5 ⟨S, .slice A n c, b⟩ from congrArg (fun m => row 5 1 (.slice A n c) m (bcells b)) HN.out); rw [hbl] at h2; have H2 := Lib.hid (h2.cast (show _ = sep (cacheP p K lim) (sep (blob 5 ⟨S, .slice A n c, b⟩) (sep (blk r (.cells (bcells (List.replicate 32 0)).toArray 34 (0, 0))) R)) by ac_rfl)); clear h2 hbl; obtain ⟨Y, hY⟩ : ∃ Y, Y = bcells S ++ [.slice A n c] := ⟨_, rfl⟩; have HYB := Lib.hid (hY ▸ builtK S (.slice A n c) HS32.out rfl); have HYK := Lib.hid (show Y = kc ⟨S, .slice A n c, b⟩ from hY); clear hY; have hko := (show Kp.ok ⟨S, .slice A n c, b⟩ from ⟨HS32.out, A, c, by rw [HN.out]⟩); have HKO := Lib.hid hko; have HYS := Lib.hid (show Y.length = 33 by rw [HYK.out, kc_length HKO.out]); have HY1 := Lib.hid (show ∀ u ∈ Y, u.oneCell' = true by rw [HYK.out]; exact kc_one HKO.out); clear hko)
        | (go_at_call 31; refine (HFI.out _ _ H4.out).mono ?_; rintro e w5 ⟨rfl, h5⟩; have H5 := Lib.hid h5; clear h5)
        | (go_at_call 32; refine (HTK.out _ _ H5.out).mono ?_; rintro e w6 ⟨rfl, h6⟩; have c1 := cache_at1 h6; have H6 := Lib.hid h6; clear h6)
        | ((first | (with_reducible refine wpList_plain rfl ?_) | ((with_reducible refine wpList_yes _ _ rfl ?_ ?_); (focus rfl))); intro _ hk; (first
          | (have _k := H6; refine opw_loadMid 34 _ rfl q 0 rfl (bcells S) _ Tryd.underlying34 rfl HBI.out H6.out.second (by rw [HYK.out]; simp [kc]) (hk _ _ ?_))
          | (have _k := H6; refine opw_storeRow 34 _ _ rfl r (bcells S).toArray rfl rfl 34 (bcells (List.replicate 32 0)).toArray HBI2.out HZZ.out (bcells_all _) H6.out.fourth (fun w9 h9 => hk _ _ ?_))
          | (refine opw_alloc 34 (.agg (bcells (List.replicate 32 0)).toArray) (bcells (List.replicate 32 0)).toArray rfl zeroID rfl HH.out (fun r w0 hp h0 => hk _ _ ?_); clear hp; have H0 := Lib.hid h0; clear h0)
          | (refine opw_build 75 _ [(0, .agg (bcells S).toArray), (1, .slice A n c)] Y.toArray rfl rfl HYB.out (hk _ _ ?_))
          | (refine opw_alloc 75 (.agg Z) Z rfl HZI.out rfl H2.out (fun q w3 hp h3 => hk _ _ ?_); clear hp; have H3 := Lib.hid h3; clear h3)
          | (refine opw_storeRow 75 _ _ rfl q Y.toArray rfl rfl 75 Z (by simp only [List.size_toArray, HYS.out]; exact infoK) (by simp only [List.size_toArray, HYS.out]; exact HZ33.out) (all_one HY1.out) H3.out (fun w4 h4 => hk _ _ ?_); have H4 := Lib.hid h4.second; clear h4)
          | (refine opw_field 75 _ 0 0 rfl (by kernel_rfl) q 0 rfl (hk _ _ ?_))
          | (have _k := H4; refine opw_loadMid 34 _ rfl q 0 rfl (bcells S) _ Tryd.underlying34 rfl HBI.out H4.out.second (by rw [HYK.out]; simp [kc]) (hk _ _ ?_))); simp only [Act.put, List.setIfInBounds_toArray, List.set_cons_zero, List.set_cons_succ]))
      have hfit : (n : Int) ≤ lim := by omega
      clear c1 H0 H1 H2 H3 H4 H5
      obtain ⟨G, hG⟩ : ∃ G, G = trimK lim n K1 := ⟨_, rfl⟩
      have HG := Lib.hid hG
      clear hG
      go_loopw [42] (fun _ wr => TrimRel st (sep (blk q (.cells Y.toArray 75 (0, 0))) (sep (blob 5 ⟨S, .slice A n c, b⟩) (sep (blk r (.cells (bcells (List.replicate 32 0)).toArray 34 (0, 0))) R))) p lim n G 100000 100000000 wr) (fun _ wr => keptIn p wr)
      case atStart => exact ⟨K1, HG.out.symm, HOK1.out, HL1.out, HT1.out, H6.out⟩
      case round =>
        obtain ⟨K2, hG2, hok2, hl2, ht2, h⟩ := hrel
        have HG2 := Lib.hid hG2
        have HOK2 := Lib.hid hok2
        have HM := Lib.hid (keptIn_eq h)
        have HH2 := Lib.hid h
        have c1 := cache_at1 h
        have c2 := cache_at2 h
        clear hG2 hok2 h
        obtain ⟨T, hT⟩ : ∃ T, T = tot K2 := ⟨_, rfl⟩
        rw [← hT] at c2 ht2
        have HT := Lib.hid hT
        clear hT
        by_cases hgt : lim < (T : Int) + (n : Int)
        · cases K2 with
          | nil =>
            exfalso
            have : T = 0 := HT.out
            omega
          | cons k0 K3 =>
            have HTA : Hid (∀ w, Has st (sep (cacheP p (k0 :: K3) lim) (sep (blk q (.cells Y.toArray 75 (0, 0))) (sep (blob 5 ⟨S, .slice A n c, b⟩) (sep (blk r (.cells (bcells (List.replicate 32 0)).toArray 34 (0, 0))) R)))) w → Calls Tryd.prog 32 #[.pointer (some ⟨p, 0, none⟩), .int .i64 0] w fun e w' => e = .returned (.agg (kc k0).toArray) ∧ Has st (sep (cacheP p K3 lim) (sep (blk q (.cells Y.toArray 75 (0, 0))) (sep (blob 5 ⟨S, .slice A n c, b⟩) (sep (blk r (.cells (bcells (List.replicate 32 0)).toArray 34 (0, 0))) R)))) w') :=
              Lib.hid fun w hw => (take_any st (sep (blk q (.cells Y.toArray 75 (0, 0))) (sep (blob 5 ⟨S, .slice A n c, b⟩) (sep (blk r (.cells (bcells (List.replicate 32 0)).toArray 34 (0, 0))) R))) p (k0 :: K3) lim 0 (by simp) w hw HOK2.out (by omega) (by rw [← HT.out]; omega)).mono fun e w' h' => ⟨h'.1, (h'.2.second).right⟩
            go_wp2_with (fail)
            go_region
            have HD := Lib.hid (HH2.out.drew)
            generalize wr.drew = wd at HD ⊢
            go_wp2_with (go_at_call 32; refine (HTA.out _ HD.out).mono ?_; rintro e w7 ⟨rfl, h7⟩; have H7 := Lib.hid h7; clear h7)
            have hmm : tot K3 ≤ T := by rw [HT.out]; simp [tot]
            go_roundw
            case rel => exact ⟨K3, by rw [← HG2.out]; show _ = trimK lim n (k0 :: K3); rw [trimK, if_pos (by rw [← HT.out]; omega)], fun k hk => HOK2.out k (by simp [hk]), by simp at hl2; omega, by omega, H7.out⟩
            case measure =>
              rw [keptIn_eq H7.out, HM.out]; simp
        · have hstop : trimK lim n K2 = K2 := by
            cases K2 with
            | nil => rfl
            | cons k0 K3 => rw [trimK, if_neg (by rw [← HT.out]; omega)]
          have HST := Lib.hid hstop
          clear hstop
          have HKE : Hid (∀ w, Has st (sep (cacheP p K2 lim) (sep (blk q (.cells Y.toArray 75 (0, 0))) (sep (blob 5 ⟨S, .slice A n c, b⟩) (sep (blk r (.cells (bcells (List.replicate 32 0)).toArray 34 (0, 0))) R)))) w → Calls Tryd.prog 33 #[.pointer (some ⟨p, 0, none⟩), .agg Y.toArray] w fun e w' => e = .returned (.tuple #[]) ∧ Has st (sep (cacheP p (K2 ++ [⟨S, .slice A n c, b⟩]) lim) (sep (blk q (.cells Y.toArray 75 (0, 0))) (sep (blk r (.cells (bcells (List.replicate 32 0)).toArray 34 (0, 0))) R))) w') :=
            Lib.hid fun w hw => by rw [HYK.out] at hw ⊢; exact keep_any st _ p K2 lim ⟨S, .slice A n c, b⟩ w (hw.cast (by ac_rfl)) HOK2.out HKO.out (by omega) (by rw [← HT.out]; omega) (by show b.length ≤ _; rw [← HN.out]; omega)
          go_wp2_with (fail)
          go_region
          have HD := Lib.hid (HH2.out.drew)
          generalize wr.drew = wd at HD ⊢
          go_wp2_with (first
            | (go_at_call 33; refine (HKE.out _ HD.out).mono ?_; rintro e w8 ⟨rfl, h8⟩; have H8 := Lib.hid h8; clear h8)
            | ((first | (with_reducible refine wpList_plain rfl ?_) | ((with_reducible refine wpList_yes _ _ rfl ?_ ?_); (focus rfl))); intro _ hk; (first
              | (have _k := H8; refine opw_loadMid 34 _ rfl q 0 rfl (bcells S) _ Tryd.underlying34 rfl HBI.out H8.out.second (by rw [HYK.out]; simp [kc]) (hk _ _ ?_))
              | (have _k := H8; refine opw_storeRow 34 _ _ rfl r (bcells S).toArray rfl rfl 34 (bcells (List.replicate 32 0)).toArray HBI2.out HZZ.out (bcells_all _) H8.out.third (fun w9 h9 => hk _ _ ?_))
              | (refine opw_field 75 _ 0 0 rfl (by kernel_rfl) q 0 rfl (hk _ _ ?_))
              | (refine opw_loadMid 75 _ rfl q 0 rfl Y _ Tryd.underlying75 rfl (by rw [HYS.out]; exact infoK) HD.out.second (by simp) (hk _ _ ?_))); simp only [Act.put, List.setIfInBounds_toArray, List.set_cons_zero, List.set_cons_succ]))
          refine bodyPost_ret (results_cell_row Tryd.results13 _ _ _ 34 _ _ _ rfl h9.blk Tryd.underlying34 rfl HBI2.out) rfl ?_
          exact ⟨rfl, .slice A n c, HKO.out, by
            have hput : putK lim K ⟨S, .slice A n c, b⟩ = K2 ++ [⟨S, .slice A n c, b⟩] := by
              unfold putK; rw [if_neg (by show ¬ lim < ((b.length : Nat) : Int); rw [← HN.out]; omega)]
              show trimK lim b.length (dropK S K) ++ _ = _
              rw [← HN.out, ← HKD.out, ← HG.out, ← HG2.out, HST.out]
            rw [hput]
            exact (h9.cast (show _ = sep (blk r (.cells (bcells S).toArray 34 (0, 0))) (sep (blk q (.cells Y.toArray 75 (0, 0))) (sep (cacheP p (K2 ++ [⟨S, .slice A n c, b⟩]) lim) R)) by ac_rfl)).right.right⟩
end Go.Proofs.YtblknhpafifebaaDoor
