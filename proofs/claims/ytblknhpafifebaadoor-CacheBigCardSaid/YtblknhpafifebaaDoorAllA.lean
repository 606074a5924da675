/-
  cache.All: the iterator.
-/
import Derived.Test.YtblknhpafifebaaDoorIn
import Derived.Test.YtblknhpafifebaaDoorCacheD
import Derived.Test.YtblknhpafifebaaDoorOpen
namespace Go.Proofs.YtblknhpafifebaaDoor
open Go Go.RowKit Go.Sl Go.Sha Go.Shelf
set_option linter.unusedVariables false
set_option linter.unusedSimpArgs false
set_option maxRecDepth 100000
attribute [local go_sem] Oper.semAt_some

abbrev Id32 := { x : List UInt8 // x.length = 32 }
def idOf (k : Kp) (h : k.ok) : Id32 := ⟨k.id, h.1⟩
def idsOf : (K : List Kp) → (∀ k ∈ K, k.ok) → List Id32
  | [], _ => []
  | k :: K, h => idOf k (h k (by simp)) :: idsOf K (fun x hx => h x (by simp [hx]))
theorem idsOf_length : ∀ (K : List Kp) (h : ∀ k ∈ K, k.ok), (idsOf K h).length = K.length
  | [], _ => rfl
  | k :: K, h => by simp [idsOf, idsOf_length K]
theorem idsOf_get : ∀ (K : List Kp) (h : ∀ k ∈ K, k.ok) (i : Nat) (hi : i < K.length), (idsOf K h)[i]'(by rw [idsOf_length]; exact hi) = idOf K[i] (h _ (List.getElem_mem hi))
  | k :: K, h, 0, _ => rfl
  | k :: K, h, i + 1, hi => by
    have hi' : i < K.length := by simpa using hi
    exact idsOf_get K (fun x hx => h x (by simp [hx])) i hi'
theorem grown_new (w : World) (c Y : Array Value) (t : TypeId) : w.grownBy ((w.alloc (.cells c t)).setRow w.heap.size Y) none :=
  ⟨rfl, rfl, rfl, by simp [World.setRow], fun k hk _ => by rw [setRow_other _ _ _ _ (by omega)]; exact Below.heap_alloc w _ k hk⟩
theorem below_new (w : World) (n₀ : Nat) (h : n₀ ≤ w.heap.size) (c Y : Array Value) (t : TypeId) : Below n₀ w ((w.alloc (.cells c t)).setRow w.heap.size Y) :=
  ⟨rfl, rfl, rfl, by simp [World.setRow], fun k hk => by rw [setRow_other _ _ _ _ (by omega)]; exact Below.heap_alloc w _ k (by omega)⟩

set_option maxHeartbeats 4000000 in
theorem all1_in (F : Fence) (n : Nat) (h41 : F.fn 41) (hro : F.round = none) (hn : 1 ≤ n) (l p q n₀ : Nat) (v : Value) (K : List Kp) (hok : ∀ k ∈ K, k.ok) (hlen : K.length ≤ 1000000) (J Jx : List Id32 → World → Prop)
    (hY : ∀ pre x W, J pre W → pre.length < K.length → YieldAt F (n - 1) Tryd.prog l #[.agg (bcells x.1).toArray] W fun e W' =>
      (e = .returned (.bool true) ∧ J (pre ++ [x]) W' ∧ Below n₀ W W') ∨ (e = .returned (.bool false) ∧ Jx (pre ++ [x]) W'))
    (W : World) (hn₀ : n₀ ≤ W.heap.size) (hJ : AbidesFrom W.heap.size J) (hbox : W.cell? ⟨q, 0, none⟩ = some (.pointer (some ⟨p, 0, none⟩))) (hall : W.cell? ⟨p, 0, none⟩ = some v) (hR : ∀ W', Below n₀ W W' → Rd 33 W' v K.length (kcs K)) (h0 : J [] W) :
    CallsIn F n Tryd.prog 41 #[.func (.yield l) #[] #[], .pointer (some ⟨q, 0, none⟩)] W fun e W' => (∃ v, e = .returned v) ∧
      ((∃ ys, ys = idsOf K hok ∧ J ys W') ∨ (∃ pre, pre <+: idsOf K hok ∧ Jx pre W')) := by
  obtain ⟨A, c, rfl⟩ : ∃ A c, v = .slice A K.length c := by
    obtain ⟨_, A, c, e, _⟩ := hR W (Below.refl _ _); exact ⟨A, c, e⟩
  refine callsIn_of_wp Tryd.func41 rfl h41 ?_ hro
  simp only [Tryd.ntmps41, List.size_toArray, List.length_cons, List.length_nil, Nat.reduceAdd, Nat.reduceSub, Array.replicate_succ, Array.replicate_zero, List.push_toArray, List.append_toArray, List.nil_append, List.cons_append]
  gi_wp2
  clear hbox hall
  gi_loopw [10] (fun v10 wr => ∃ i : Nat, i ≤ K.length ∧ v10 = .int .i64 (i : Int) ∧ J ((idsOf K hok).take i) wr ∧ Below n₀ W wr) (fun v10 _ => K.length - (intOf v10).toNat)
  case atStart => exact ⟨0, Nat.zero_le _, rfl, by simpa using h0, Below.refl _ _⟩
  case round =>
    obtain ⟨i, hi, rfl, hJi, hB⟩ := hrel
    by_cases hlt : i < K.length
    · obtain ⟨g, off, rfl, hcell⟩ := (hR wr hB).at (by omega)
      have hk : K[i].ok := hok _ (List.getElem_mem hlt)
      have hkl : (Tryd.prog.info? 75).map (·.size) = some (kc K[i]).length := by rw [kc_length hk]; exact infoK
      have hld : Hid (∀ j u, (kc K[i])[j]? = some u → wr.cell? ⟨g, off + i * 33 + j, none⟩ = some u) := Lib.hid fun j u hj => by
        rw [Nat.add_assoc]; exact hcell _ u (kcs_cell hok hlt hj)
      have hsz := hB.size
      have H1 := Lib.hid hkl
      have H2 := Lib.hid (show (Tryd.prog.info? 75).map (·.size) = some (kc K[i]).toArray.size by simp only [List.size_toArray]; exact hkl)
      have H3 := Lib.hid (show zeroKc.toArray.size = (kc K[i]).toArray.size by rw [zeroKc_size, List.size_toArray, kc_length hk])
      have H4 := Lib.hid (kc_one hk)
      have HZI := Lib.hid infoKz
      obtain ⟨x, hx⟩ : ∃ x, x = idOf K[i] hk := ⟨_, rfl⟩
      have hxs : (idsOf K hok).take (i + 1) = (idsOf K hok).take i ++ [x] := by
        rw [List.take_succ_eq_append_getElem (by rw [idsOf_length]; exact hlt), idsOf_get K hok i hlt, hx]
      have hpl : ((idsOf K hok).take i).length < K.length := by rw [List.length_take, idsOf_length]; omega
      obtain ⟨Z, hZ⟩ : ∃ Z, Z = zeroKc.toArray := ⟨_, rfl⟩
      obtain ⟨wN, hwN⟩ : ∃ wN, wN = (wr.alloc (.cells Z 75)).setRow wr.heap.size (kc K[i]).toArray := ⟨_, rfl⟩
      have hJN : J ((idsOf K hok).take i) wN := hJ _ wr wN none hJi (by rw [hwN]; exact grown_new _ _ _ _) (by intro r e; cases e)
      have hBN : Below n₀ wr wN := by rw [hwN]; exact below_new _ _ (by omega) _ _ _
      have hcN : wN.heap[wr.heap.size]? = some (.cells (kc K[i]).toArray 75 (0, 0)) := by rw [hwN]; exact setRow_heap _ _ _ _ _ _ (heap_alloc_new wr _)
      obtain ⟨fn, tmps, assign, body, hy, hR3⟩ := hY _ x wN hJN hpl
      have hxv : (x.1 : List UInt8) = K[i].id := by rw [hx]; rfl
      rw [hxv] at hy
      have HL : Hid (∀ j u, (bcells K[i].id)[j]? = some u → wN.cell? ⟨wr.heap.size, 0 + j, none⟩ = some u) := Lib.hid fun j u hj => by
        rw [cell_of_row _ _ _ _ _ _ hcN, Nat.zero_add]
        simp only [List.getElem?_toArray]
        rw [kc, List.getElem?_append_left (List.getElem?_eq_some_iff.1 hj).1]; exact hj
      have H32 : Hid ((Tryd.prog.info? 34).map (·.size) = some (bcells K[i].id).length) := Lib.hid (by rw [bcells_length, hk.1]; exact infoID)
      have HWN := Lib.hid hwN
      rw [← hZ] at HZI H3
      obtain ⟨Y, hY'⟩ : ∃ Y, Y = kc K[i] := ⟨_, rfl⟩
      rw [← hY'] at H1 H2 H3 H4 hld HWN
      obtain ⟨X, hX'⟩ : ∃ X, X = K[i].id := ⟨_, rfl⟩
      rw [← hX'] at hy HL H32
      have HB := Lib.hid hB
      have HBN := Lib.hid hBN
      have HXS := Lib.hid hxs
      clear hkl hcell hwN hcN hxv hY' hX' hZ hx hB hBN hxs hk
      gi_wp2_with ((with_reducible refine wpListIn_plain rfl ?_); intro _ hk; (first
        | (refine wpIn_of_wp _ _ rfl (opw_indexN 62 75 33 _ _ rfl Tryd.underlying62 infoK g off K.length c i rfl .i64 rfl hlt (hk _ _ ?_)))
        | (refine wpIn_of_wp _ _ rfl (wp_load_mid 75 _ rfl g (off + i * 33) rfl Y _ hld.out Tryd.underlying75 rfl H1.out (hk _ _ ?_)))
        | (refine wpIn_of_wp _ _ rfl (opw_allocC 75 (.agg Z) Z rfl HZI.out rfl (hk _ _ ?_)))
        | (refine wpIn_of_wp _ _ rfl (wp_store_row 75 _ _ rfl wr.heap.size Y.toArray rfl rfl 75 Z (heap_alloc_new wr _) H2.out H3.out (all_one H4.out) (hk _ _ ?_)); rw [← HWN.out])
        | (refine wpIn_of_wp _ _ rfl (opw_field 75 _ 0 0 rfl (by kernel_rfl) wr.heap.size 0 rfl (hk _ _ ?_)))
        | (refine wpIn_of_wp _ _ rfl (wp_load_mid 34 _ rfl wr.heap.size 0 rfl (bcells X) _ HL.out Tryd.underlying34 rfl H32.out (hk _ _ ?_)))); simp only [Act.put, List.setIfInBounds_toArray, List.set_cons_zero, List.set_cons_succ])
      refine hR3.mono ?_
      rintro e W3 (⟨rfl, hJ3, hk3⟩ | ⟨rfl, hJx3⟩)
      · gi_wp2
        go_roundw
        case rel => exact ⟨i + 1, by omega, by go_num, by rw [HXS.out]; exact hJ3, (HB.out.trans HBN.out).trans hk3⟩
        case measure => simp [intOf]; omega
      · gi_wp2
        refine bodyPost_ret (results_none rfl _ _ _) rfl ?_
        exact ⟨⟨_, rfl⟩, .inr ⟨_, ⟨(idsOf K hok).drop (i + 1), by rw [← HXS.out, List.take_append_drop]⟩, hJx3⟩⟩
    · gi_wp2
      go_end0
      obtain rfl : i = K.length := by omega
      exact ⟨⟨_, rfl⟩, .inl ⟨_, rfl, by rw [List.take_of_length_le (by rw [idsOf_length]; exact Nat.le_refl _)] at hJi; exact hJi⟩⟩
end Go.Proofs.YtblknhpafifebaaDoor
