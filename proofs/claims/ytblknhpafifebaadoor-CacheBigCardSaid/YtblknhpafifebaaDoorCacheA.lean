/-
  cache: find, take, keep.
-/
import Derived.Test.YtblknhpafifebaaDoorShaSum
import Derived.Test.YtblknhpafifebaaDoorReg3
import Derived.Test.YtblknhpafifebaaDoorKp
namespace Go.Proofs.YtblknhpafifebaaDoor
open Go.RowKit Go.Sl Go.Sha
set_option linter.unusedVariables false
set_option linter.unusedSimpArgs false
set_option maxRecDepth 100000

theorem infoK : (Tryd.prog.info? 75).map (·.size) = some 33 := by kernel_rfl
def zeroKc : List Value := bcells (List.replicate 32 0) ++ [.slice none 0 0]
theorem infoK3 : (Tryd.prog.info? 75).map (fun i => (i.zero, i.size, i.bytes)) = some (some (.agg zeroKc.toArray), 33, 56) := by kernel_rfl
theorem rowK : (TypeDesc.struct (Tryd.prog.fieldsOf 75)).isRow = true := rfl

set_option maxHeartbeats 1000000 in
/-- the closure of find -/
theorem same_any (st : World) (R : HProp) (q : Nat) (id : List UInt8) (k : Kp) (w : World) (h : Has st (sep (blk q (.cells (bcells id).toArray 34 (0, 0))) R) w) (hid : id.length = 32) (hk : k.ok) :
    Calls Tryd.prog 39 #[.agg (kc k).toArray, .pointer (some ⟨q, 0, none⟩)] w fun e w' => e = .returned (.bool (k.id == id)) ∧ Has st (sep (blk q (.cells (bcells id).toArray 34 (0, 0))) R) w' := by
  have h32 : (Tryd.prog.info? 34).map (·.size) = some (bcells k.id).length := by rw [bcells_length, hk.1]; exact infoID
  have h32' : (Tryd.prog.info? 34).map (·.size) = some (bcells id).length := by rw [bcells_length, hid]; exact infoID
  have hcs : (((kc k).toArray).toList.drop 0).take (bcells k.id).length = bcells k.id := by simp [kc]
  have hcs' : (((bcells id).toArray).toList.drop 0).take (bcells id).length = bcells id := by simp
  have hkl := hk.1
  have H1 := Lib.hid h32
  have H2 := Lib.hid h32'
  have H3 := Lib.hid hcs
  have H4 := Lib.hid hcs'
  have H5 := Lib.hid hkl
  have H6 := Lib.hid hid
  have HH := Lib.hid h
  obtain ⟨X, hX⟩ : ∃ X, X = k.id := ⟨_, rfl⟩
  obtain ⟨Y, hY⟩ : ∃ Y, Y = kc k := ⟨_, rfl⟩
  rw [← hX] at H1 H3 H5 ⊢
  rw [← hY] at H3 ⊢
  clear h32 h32' hcs hcs' hkl hid h hk hX hY
  go_enter Tryd.func39, Tryd.ntmps39
  go_wp2_with ((with_reducible refine wpList_plain rfl ?_); intro _ hk; (first
    | (refine opw_box 75 (.agg Y.toArray) Y.toArray rfl rfl rfl HH.out (fun p w1 hp h1 => hk _ _ ?_); clear hp; have HX := Lib.hid h1; clear h1)
    | (refine opw_field 75 _ 0 0 rfl (by kernel_rfl) p 0 rfl (hk _ _ ?_))
    | (refine opw_loadMid 34 _ rfl p 0 rfl (bcells X) _ Tryd.underlying34 rfl H1.out HX.out H3.out (hk _ _ ?_))
    | (refine opw_loadMid 34 _ rfl q 0 rfl (bcells id) _ Tryd.underlying34 rfl H2.out HX.out.second H4.out (hk _ _ ?_))
    | (refine opw_eqRow 34 _ 5 32 _ _ X id Tryd.underlying34 Tryd.underlying5 info1 (by kernel_rfl) H5.out H6.out rfl rfl rfl _ rfl (hk _ _ ?_))); simp only [Act.put, List.setIfInBounds_toArray, List.set_cons_zero, List.set_cons_succ])
  go_ret
  exact ⟨rfl, HX.out.right⟩

theorem placeZ_at {id : List UInt8} {K : List Kp} {i : Nat} (hi : i < K.length) (h : (K[i].id == id) = true) (hp : ∀ j (hj : j < i), (K[j].id == id) = false) : placeZ id K = (i : Int) := by
  have : place id K = some i := by
    unfold place
    rw [List.findIdx?_eq_some_iff_getElem]
    exact ⟨hi, h, fun j hj => by simpa using hp j hj⟩
  rw [placeZ, this]
theorem placeZ_none {id : List UInt8} {K : List Kp} (hp : ∀ j (hj : j < K.length), (K[j].id == id) = false) : placeZ id K = -1 := by
  have : place id K = none := by
    unfold place
    rw [List.findIdx?_eq_none_iff]
    intro x hx
    obtain ⟨j, hj, rfl⟩ := List.mem_iff_getElem.1 hx
    exact hp j hj
  rw [placeZ, this]
/-- the loop of IndexFunc -/
def IndexRel (st : World) (R : HProp) (id : List UInt8) (K : List Kp) (v8 : Value) (wr : World) : Prop :=
  ∃ i : Nat, i ≤ K.length ∧ v8 = .int .i64 (i : Int) ∧ Hid (∀ j (hj : j < K.length), j < i → (K[j].id == id) = false) ∧ Has st R wr

set_option maxHeartbeats 1000000 in
theorem index_any (st : World) (R : HProp) (q : Nat) (v : Value) (id : List UInt8) (K : List Kp) (w : World) (h : Has st (sep (blk q (.cells (bcells id).toArray 34 (0, 0))) R) w) (hs : Sees st R 33 v K.length (kcs K)) (hid : id.length = 32) (hok : ∀ k ∈ K, k.ok) (hlen : K.length ≤ 1000000) :
    Calls Tryd.prog 38 #[v, .func (.func 39) #[] #[.pointer (some ⟨q, 0, none⟩)]] w fun e w' => e = .returned (.int .i64 (placeZ id K)) ∧ Has st (sep (blk q (.cells (bcells id).toArray 34 (0, 0))) R) w' := by
  obtain ⟨A, c, rfl⟩ := hs.form h.right
  have HS := Lib.hid hs
  have HI := Lib.hid hid
  have HO := Lib.hid hok
  clear hs hid hok
  go_enter Tryd.func38, Tryd.ntmps38
  go_wp2
  go_loopw [5, 8] (fun _ v8 wr => IndexRel st (sep (blk q (.cells (bcells id).toArray 34 (0, 0))) R) id K v8 wr) (fun _ v8 _ => K.length - (intOf v8).toNat)
  case atStart => exact ⟨0, Nat.zero_le _, rfl, by intro j hj h0; omega, h⟩
  case round =>
    obtain ⟨i, hi, rfl, HA, h⟩ := hrel
    by_cases hlt : i < K.length
    · obtain ⟨g, off, rfl, hcell⟩ := (HS.out _ h.right).at (by omega)
      have hk : K[i].ok := HO.out _ (List.getElem_mem hlt)
      have hkl : (Tryd.prog.info? 75).map (·.size) = some (kc K[i]).length := by rw [kc_length hk]; exact infoK
      have hld : Hid (∀ j u, (kc K[i])[j]? = some u → wr.cell? ⟨g, off + i * 33 + j, none⟩ = some u) := Lib.hid fun j u hj => by
        rw [Nat.add_assoc]; exact hcell _ u (kcs_cell HO.out hlt hj)
      have H1 := Lib.hid hkl
      have HK := Lib.hid hk
      have HH := Lib.hid h
      obtain ⟨Y, hY⟩ : ∃ Y, Y = kc K[i] := ⟨_, rfl⟩
      have HC : Hid (∀ w, Has st (sep (blk q (.cells (bcells id).toArray 34 (0, 0))) R) w → Calls Tryd.prog 39 #[.agg Y.toArray, .pointer (some ⟨q, 0, none⟩)] w fun e w' => e = .returned (.bool (K[i].id == id)) ∧ Has st (sep (blk q (.cells (bcells id).toArray 34 (0, 0))) R) w') :=
        Lib.hid fun w hw => by rw [hY]; exact same_any st R q id K[i] w hw HI.out hk
      rw [← hY] at H1 hld
      obtain ⟨F, hF⟩ : ∃ F, F = (K[i].id == id) := ⟨_, rfl⟩
      rw [← hF] at HC
      clear hkl hcell hk h hY
      have HF := Lib.hid hF
      clear hF
      cases F
      · go_wp2_with (first
          | (go_at_call 39; refine (HC.out _ HH.out).mono ?_; rintro e w1 ⟨rfl, h1⟩; have HX := Lib.hid h1; clear h1)
          | ((with_reducible refine wpList_plain rfl ?_); intro _ hk; (first
            | (refine opw_indexN 62 75 33 _ _ rfl Tryd.underlying62 infoK g off K.length c i rfl .i64 rfl hlt (hk _ _ ?_))
            | (refine wp_load_mid 75 _ rfl g (off + i * 33) rfl Y _ hld.out Tryd.underlying75 rfl H1.out (hk _ _ ?_))); simp only [Act.put, List.setIfInBounds_toArray, List.set_cons_zero, List.set_cons_succ]))
        go_roundw
        case rel =>
          refine ⟨i + 1, by omega, by go_num, ?_, HX.out⟩
          intro j hj hji
          rcases Nat.lt_or_ge j i with h' | h'
          · exact HA.out j hj h'
          · obtain rfl : j = i := by omega
            exact HF.out.symm
        case measure => simp [intOf]; omega
      · go_wp2_with (first
          | (go_at_call 39; refine (HC.out _ HH.out).mono ?_; rintro e w1 ⟨rfl, h1⟩; have HX := Lib.hid h1; clear h1)
          | ((with_reducible refine wpList_plain rfl ?_); intro _ hk; (first
            | (refine opw_indexN 62 75 33 _ _ rfl Tryd.underlying62 infoK g off K.length c i rfl .i64 rfl hlt (hk _ _ ?_))
            | (refine wp_load_mid 75 _ rfl g (off + i * 33) rfl Y _ hld.out Tryd.underlying75 rfl H1.out (hk _ _ ?_))); simp only [Act.put, List.setIfInBounds_toArray, List.set_cons_zero, List.set_cons_succ]))
        go_ret
        exact ⟨by rw [placeZ_at hlt HF.out.symm fun j hj => HA.out j (by omega) hj]; rfl, HX.out⟩
    · go_wp2
      go_ret
      obtain rfl : i = K.length := by omega
      exact ⟨by rw [placeZ_none fun j hj => HA.out j hj hj]; rfl, h⟩
end Go.Proofs.YtblknhpafifebaaDoor
