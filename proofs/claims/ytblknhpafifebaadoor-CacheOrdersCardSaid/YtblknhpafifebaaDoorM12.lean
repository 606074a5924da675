/-
  Several texts of this proof in one: OrdLaw, Orders.
-/
import Derived.Test.YtblknhpafifebaaDoorM11
import Derived.Deep.CutBlock
/-
  coldstorelaw14.CacheOrders: the plain part.
-/
namespace Go.Proofs.YtblknhpafifebaaDoor
open Go Go.RowKit Go.Sl Go.Sha
set_option linter.unusedVariables false
set_option linter.unusedSimpArgs false
set_option maxRecDepth 100000

/-! the sums of 32 bytes -/
def nsum (a : Nat) : List UInt8 := sha [UInt8.ofNat a]
theorem nsum_length (a : Nat) : (nsum a).length = 32 := sha_length _
structure Fill (k : Nat) (M : ML) : Prop where
  has : ∀ a, a < k → nsum a ∈ keysM M
  len : M.length ≤ k
  inj : M.length = k → ∀ a b, a < k → b < k → nsum a = nsum b → a = b
  nodup : (keysM M).Nodup
  vals : ∀ x ∈ M, ∃ n : Nat, x.2 = .int .i64 (n : Int) ∧ n ≤ k
theorem fill_nil : Fill 0 [] := ⟨fun a h => absurd h (by omega), Nat.le_refl _, fun _ a b h => absurd h (by omega), by simp [keysM], by simp⟩
theorem put_put (S : List UInt8) (u v : Value) : ∀ M : ML, putM S v (putM S u M) = putM S v M
  | [] => by simp [putM]
  | x :: M => by
    show putM S v (if x.1 = S then (S, u) :: M else x :: putM S u M) = if x.1 = S then (S, v) :: M else x :: putM S v M
    by_cases h : x.1 = S
    · rw [if_pos h, if_pos h]; simp [putM]
    · rw [if_neg h, if_neg h]
      show (if x.1 = S then _ else _) = _
      rw [if_neg h, put_put S u v M]
theorem keys_len (M : ML) : (keysM M).length = M.length := by simp [keysM]
theorem fill_val {k : Nat} {M : ML} (h : Fill k M) (S : List UInt8) : ∃ n : Nat, (lookM S M).getD (.int .i64 0) = .int .i64 (n : Int) ∧ n ≤ k := by
  cases hl : lookM S M with
  | none => exact ⟨0, rfl, Nat.zero_le _⟩
  | some v => obtain ⟨n, h1, h2⟩ := h.vals _ (look_mem hl); exact ⟨n, h1, h2⟩
theorem fill_step {k : Nat} {M : ML} (h : Fill k M) {n : Nat} (hn : n ≤ k) : Fill (k + 1) (putM (nsum k) (.int .i64 ((n + 1 : Nat) : Int)) M) := by
  have hv : ∀ x ∈ putM (nsum k) (.int .i64 ((n + 1 : Nat) : Int)) M, ∃ n : Nat, x.2 = .int .i64 (n : Int) ∧ n ≤ k + 1 := fun x hx => by
    rcases put_mem hx with rfl | hx
    · exact ⟨n + 1, rfl, by omega⟩
    · obtain ⟨m, h1, h2⟩ := h.vals x hx; exact ⟨m, h1, by omega⟩
  by_cases hm : nsum k ∈ keysM M
  · have hk := put_keys_old (v := .int .i64 ((n + 1 : Nat) : Int)) h.nodup hm
    have hl : (putM (nsum k) (.int .i64 ((n + 1 : Nat) : Int)) M).length = M.length := by rw [← keys_len, hk, keys_len]
    refine ⟨fun a ha => ?_, by rw [hl]; have := h.len; omega, fun e => ?_, put_nodup h.nodup, hv⟩
    · rw [hk]
      by_cases hak : a = k
      · rw [hak]; exact hm
      · exact h.has a (by omega)
    · rw [hl] at e; have := h.len; omega
  · have hp := put_new (v := .int .i64 ((n + 1 : Nat) : Int)) hm
    refine ⟨fun a ha => ?_, by rw [hp]; simp; exact h.len, fun e a b ha hb hab => ?_, put_nodup h.nodup, hv⟩
    · rw [hp, keysM, List.map_append]
      by_cases hak : a = k
      · rw [hak]; simp
      · exact List.mem_append_left _ (h.has a (by omega))
    · have e' : M.length = k := by rw [hp] at e; simpa using e
      by_cases hak : a = k
      · by_cases hbk : b = k
        · omega
        · exact absurd (by rw [← hak, hab]; exact h.has b (by omega)) hm
      · by_cases hbk : b = k
        · exact absurd (by rw [← hbk, ← hab]; exact h.has a (by omega)) hm
        · exact h.inj e' a b (by omega) (by omega) hab
def Inj32 : Prop := ∀ a b : UInt8, a.toNat < 32 → b.toNat < 32 → sha [a] = sha [b] → a = b
theorem fill_inj {M : ML} (h : Fill 32 M) (hl : M.length = 32) : Inj32 := fun a b ha hb e => by
  have := h.inj hl a.toNat b.toNat ha hb (by unfold nsum; simpa using e)
  exact UInt8.toNat_inj.1 this

/-! the order -/
def ordL (line : List UInt8) : CL := line.map fun b => (sha [b], [b])
structure Ord (r : Nat) (line : List UInt8) : Prop where
  nodup : line.Nodup
  small : ∀ x ∈ line, x.toNat < 32
  len : line.length ≤ r
theorem ord_nil (r : Nat) : Ord r [] := ⟨by simp, by simp, by simp⟩
theorem tot_ord : ∀ line : List UInt8, totL (ordL line) = line.length
  | [] => rfl
  | x :: l => by
    show totL ((sha [x], [x]) :: ordL l) = _
    rw [tot_cons, tot_ord l]; simp; omega
theorem ord_length (line : List UInt8) : (ordL line).length = line.length := by simp [ordL]
theorem place_ord (hI : Inj32) {b : UInt8} (hb : b.toNat < 32) : ∀ {line : List UInt8}, (∀ x ∈ line, x.toNat < 32) → placeL (sha [b]) (ordL line) = line.findIdx? (· == b)
  | [], _ => rfl
  | x :: l, h => by
    have ih := place_ord hI hb (line := l) (fun y hy => h y (by simp [hy]))
    unfold placeL at ih ⊢
    show List.findIdx? _ ((sha [x], [x]) :: ordL l) = _
    rw [List.findIdx?_cons, List.findIdx?_cons, ih]
    by_cases e : x = b
    · subst e; simp
    · have : ¬ sha [x] = sha [b] := fun e' => e (hI x b (h x (by simp)) hb e')
      rw [show (x == b) = false by simpa using e, show ((sha [x], [x]).1 == sha [b]) = false by simpa using this]
theorem find_at {line : List UInt8} (h : line.Nodup) {p : Nat} (hp : p < line.length) : line.findIdx? (· == line[p]) = some p := by
  rw [List.findIdx?_eq_some_iff_getElem]
  refine ⟨hp, by simp, fun j hj => ?_⟩
  have := List.pairwise_iff_getElem.1 h j p (by omega) hp hj
  simpa using this
theorem find_no {line : List UInt8} {b : UInt8} (h : b ∉ line) : line.findIdx? (· == b) = none := by
  rw [List.findIdx?_eq_none_iff]
  intro x hx
  have : x ≠ b := fun e => h (e ▸ hx)
  simpa using this
theorem ord_erase (line : List UInt8) (p : Nat) : (ordL line).eraseIdx p = ordL (line.eraseIdx p) := by
  unfold ordL; rw [List.eraseIdx_eq_take_drop_succ, List.eraseIdx_eq_take_drop_succ, List.map_append, List.map_take, List.map_drop]
theorem ord_snoc (line : List UInt8) (b : UInt8) : ordL line ++ [(sha [b], [b])] = ordL (line ++ [b]) := by simp [ordL]
theorem ord_get {line : List UInt8} {p : Nat} (hp : p < line.length) : (ordL line)[p]? = some (sha [line[p]], [line[p]]) := by simp [ordL, hp]
theorem trim_id {lim : Int} {n : Nat} {L : CL} (h : ((totL L + n : Nat) : Int) ≤ lim) : trimL lim n L = L := by
  cases L with
  | nil => rfl
  | cons x L => rw [trimL, if_neg (by omega)]
theorem get_mem (hI : Inj32) {line : List UInt8} {r : Nat} (h : Ord r line) {p : Nat} (hp : p < line.length) : getL (sha [line[p]]) (ordL line) = (ordL (line.eraseIdx p ++ [line[p]]), [line[p]], true) := by
  unfold getL
  rw [place_ord hI (h.small _ (List.getElem_mem hp)) h.small, find_at h.nodup hp]
  simp only [ord_get hp]
  rw [if_pos (by simp), ord_erase, ord_snoc]
theorem get_no (hI : Inj32) {line : List UInt8} {r : Nat} (h : Ord r line) {b : UInt8} (hb : b.toNat < 32) (hn : b ∉ line) : getL (sha [b]) (ordL line) = (ordL line, [], false) := by
  unfold getL
  rw [place_ord hI hb h.small, find_no hn]
theorem put_memO (hI : Inj32) {line : List UInt8} {r : Nat} (h : Ord r line) (hr : 1 ≤ r) {p : Nat} (hp : p < line.length) : putL (r : Int) (ordL line) (sha [line[p]]) [line[p]] = ordL (line.eraseIdx p ++ [line[p]]) := by
  have hl : (line.eraseIdx p).length = line.length - 1 := List.length_eraseIdx_of_lt hp
  have hd : dropL (sha [line[p]]) (ordL line) = ordL (line.eraseIdx p) := by
    unfold dropL
    rw [place_ord hI (h.small _ (List.getElem_mem hp)) h.small, find_at h.nodup hp]
    exact ord_erase _ _
  have hlen := h.len
  unfold putL
  rw [if_neg (by simp; omega), hd, trim_id (by rw [tot_ord, hl]; simp; omega), ord_snoc]
def dropR (r : Nat) (line : List UInt8) : List UInt8 := if line.length = r then line.drop 1 else line
theorem put_noO (hI : Inj32) {line : List UInt8} {r : Nat} (h : Ord r line) (hr : 1 ≤ r) {b : UInt8} (hb : b.toNat < 32) (hn : b ∉ line) : putL (r : Int) (ordL line) (sha [b]) [b] = ordL (dropR r line ++ [b]) := by
  have hd : dropL (sha [b]) (ordL line) = ordL line := by
    unfold dropL
    rw [place_ord hI hb h.small, find_no hn]
  have hlen := h.len
  unfold putL
  rw [if_neg (by simp; omega), hd]
  have ht : trimL (r : Int) [b].length (ordL line) = ordL (dropR r line) := by
    unfold dropR
    by_cases e : line.length = r
    · rw [if_pos e]
      cases line with
      | nil => simp at e; omega
      | cons x l =>
        show trimL _ _ ((sha [x], [x]) :: ordL l) = _
        have e1 : totL ((sha [x], [x]) :: ordL l) = (x :: l).length := tot_ord (x :: l)
        have e2 : (x :: l).length = l.length + 1 := rfl
        rw [trimL, e1, if_pos (by simp; omega), trim_id (by rw [tot_ord]; simp; omega)]
        rfl
    · rw [if_neg e]
      exact trim_id (by rw [tot_ord]; simp; omega)
  rw [ht, ord_snoc]
theorem ord_mem {line : List UInt8} {r : Nat} (h : Ord r line) {p : Nat} (hp : p < line.length) : Ord r (line.eraseIdx p ++ [line[p]]) := by
  have hperm := perm_erase hp
  refine ⟨hperm.nodup_iff.2 h.nodup, fun x hx => h.small x (hperm.mem_iff.1 hx), by rw [hperm.length_eq]; exact h.len⟩
theorem ord_no {line : List UInt8} {r : Nat} (h : Ord r line) (hr : 1 ≤ r) {b : UInt8} (hb : b.toNat < 32) (hn : b ∉ line) : Ord r (dropR r line ++ [b]) := by
  have hsub : (dropR r line).Sublist line := by
    unfold dropR; split
    · exact List.drop_sublist _ _
    · exact List.Sublist.refl _
  have hlen := h.len
  refine ⟨?_, fun x hx => ?_, ?_⟩
  · exact List.nodup_append.2 ⟨h.nodup.sublist hsub, by simp, fun a ha c hc e => by simp at hc; exact hn (by rw [← hc, ← e]; exact hsub.subset ha)⟩
  · rcases List.mem_append.1 hx with hx | hx
    · exact h.small x (hsub.subset hx)
    · simp at hx; rw [hx]; exact hb
  · unfold dropR; rw [List.length_append]; split
    · simp; omega
    · simp; omega
theorem and8 (s : UInt8) : bits .and .u8 (s.toNat : Int) 31 = ((s &&& 31).toNat : Int) := by
  have e1 : ∀ a : UInt8, BitVec.ofInt IntKind.u8.bits (a.toNat : Int) = a.toBitVec := fun a => by
    apply BitVec.eq_of_toNat_eq
    rw [BitVec.toNat_ofInt]
    show ((a.toNat : Int) % ((2 ^ 8 : Nat) : Int)).toNat = a.toNat
    have := a.toNat_lt
    omega
  have e2 : bits .and .u8 (s.toNat : Int) (((31 : UInt8).toNat : Nat) : Int) = ((s &&& 31).toNat : Int) := by
    unfold bits
    simp only [e1]
    have := (s &&& 31).toNat_lt
    show IntKind.u8.wrap (((s &&& 31).toNat : Nat) : Int) = _
    generalize (s &&& 31).toNat = n at this ⊢
    simp [IntKind.wrap, IntKind.signed, IntKind.bits]
    omega
  exact e2
theorem and_small (s : UInt8) : (s &&& 31).toNat < 32 := by
  rw [UInt8.toNat_and]
  exact Nat.lt_of_le_of_lt Nat.and_le_right (by decide)
end Go.Proofs.YtblknhpafifebaaDoor

/-
  coldstorelaw14.CacheOrders: the walk.
-/
namespace Go.Proofs.YtblknhpafifebaaDoor
open Go Go.RowKit Go.Sl Go.Sha
set_option linter.unusedVariables false
set_option linter.unusedSimpArgs false
set_option maxRecDepth 100000

theorem infoB2 : (Tryd.prog.info? 5).map (fun i => (i.zero, i.size)) = some (some (.int .u8 0), 1) := by kernel_rfl
theorem zeroI (w : World) : (zeroValue 3).run Tryd.prog w = .ok (.int .i64 0) w := by kernel_rfl
def FillRel (st : World) (R : HProp) (mp : Nat) (v : Value) (wr : World) : Prop := ∃ (k : Nat) (M : ML), k ≤ 32 ∧ v = .int .i64 (k : Int) ∧ Hid (Fill k M) ∧ Hid (Has st (sep (mapI mp M) R) wr)
def OrdRel (st : World) (R : HProp) (p r : Nat) (lm : Int) (N : Nat) (v8 v50 : Value) (wr : World) : Prop := ∃ (i : Nat) (line : List UInt8) (A : Option Addr) (c : Nat), i ≤ N ∧ v8 = .slice A line.length c ∧ v50 = .int .i64 (i : Int) ∧ Hid (Ord r line) ∧
  Hid (Has st (sep (lineP 5 (.slice A line.length c) line.length (bcells line)) (sep (cacheA p (ordL line) lm) R)) wr)
def atV (pz : Option Nat) (k : Nat) : Int := match pz with | some p => if p < k then (p : Int) else -1 | none => -1
theorem atV_ne {pz : Option Nat} {k : Nat} (h : pz ≠ some k) : atV pz (k + 1) = atV pz k := by
  cases pz with
  | none => rfl
  | some p =>
    have hp : p ≠ k := fun e => h (by rw [e])
    show (if p < k + 1 then (p : Int) else -1) = if p < k then (p : Int) else -1
    by_cases h1 : p < k
    · rw [if_pos h1, if_pos (by omega)]
    · rw [if_neg h1, if_neg (by omega)]
def MidCut (st : World) (T : HProp) (wr : World) : Prop := Hid (Has st T wr)
def EndRel (st : World) (T : HProp) (n : Nat) (v : Value) (wr : World) : Prop := ∃ k : Nat, k ≤ n ∧ v = .int .i64 (k : Int) ∧ Hid (Has st T wr)
def AtRel (st : World) (T : HProp) (pz : Option Nat) (n : Nat) (v12 v58 : Value) (wr : World) : Prop := ∃ k : Nat, k ≤ n ∧ v12 = .int .i64 (atV pz k) ∧ v58 = .int .i64 (k : Int) ∧ Hid (Has st T wr)

set_option maxHeartbeats 8000000 in
theorem orders_any (st : World) (R : HProp) (hk : Keys st R) (hst : Start st R) (room : Int) (SL : List UInt8) (As : Option Addr) (cs : Nat) (hss : Sees st R 1 (.slice As SL.length cs) SL.length (bcells SL)) (w : World) (h : Has st R w) :
    Calls Tryd.prog 5 #[.int .i64 room, .slice As SL.length cs] w fun e w' => e = .returned (.bool true) ∧ Has st R w' := by
  have HAV : Hid (∀ w, Has st R w → Calls Tryd.prog 8 #[] w fun e w' => e = .returned (.bool true) ∧ Has st R w') := Lib.hid fun w h => alive_any st R hk hst w h
  have HH := Lib.hid h
  obtain ⟨N, hN⟩ : ∃ N, N = SL.length := ⟨_, rfl⟩
  rw [← hN] at hss ⊢
  have HSS := Lib.hid hss
  have HN := Lib.hid hN
  clear hN h hss
  by_cases h0 : 60 < N
  · have Z1 : Hid (cmpZ .gtr (N : Int) 60 = some true) := Lib.hid (by show some (decide ((N : Int) > 60)) = some true; rw [decide_eq_true (by omega)])
    clear h0 HN HSS hk hst
    go_enter Tryd.func5, Tryd.ntmps5
    go_wp2_with (first
      | (go_at_call 8; refine (HAV.out _ HH.out).mono ?_; rintro e w9 ⟨rfl, h9⟩; have H0 := Lib.hid h9; clear h9)
      | ((first | (with_reducible refine wpList_plain rfl ?_) | ((with_reducible refine wpList_yes _ _ rfl ?_ ?_); (focus rfl))); intro _ hk; (first
        | (refine opw_cmp .gtr _ _ _ _ .i64 (N : Int) 60 true rfl rfl rfl Z1.out (hk _ _ ?_))); simp only [Act.put, List.setIfInBounds_toArray, List.set_cons_zero, List.set_cons_succ]))
    go_ret
    exact ⟨rfl, H0.out⟩
  · have Z1 : Hid (cmpZ .gtr (N : Int) 60 = some false) := Lib.hid (by show some (decide ((N : Int) > 60)) = some false; rw [decide_eq_false (by omega)])
    have hN60 : N ≤ 60 := by omega
    have HKY := Lib.hid hk
    have HST := Lib.hid hst
    clear h0 hk hst
    go_enter Tryd.func5, Tryd.ntmps5
    go_wp2_with (first
      | (go_at_call 8; refine (HAV.out _ HH.out).mono ?_; rintro e w9 ⟨rfl, h9⟩; have H0 := Lib.hid h9; clear h9)
      | ((first | (with_reducible refine wpList_plain rfl ?_) | ((with_reducible refine wpList_yes _ _ rfl ?_ ?_); (focus rfl))); intro _ hk; (first
        | (have _k := H0; refine opw_makeMap _ rfl H0.out (fun mp w9 h9 => hk _ _ ?_); have T0 := Lib.hid h9; clear h9)
        | (refine opw_cmp .gtr _ _ _ _ .i64 (N : Int) 60 false rfl rfl rfl Z1.out (hk _ _ ?_))); simp only [Act.put, List.setIfInBounds_toArray, List.set_cons_zero, List.set_cons_succ]))
    clear HH H0 HAV
    go_loopw [26] (fun v wr => FillRel st R mp v wr) (fun v _ => 32 - (intOf v).toNat)
    case atStart => exact ⟨0, [], Nat.zero_le _, rfl, Lib.hid fill_nil, T0⟩
    case round =>
      obtain ⟨k, M, hk32, rfl, HF, HC⟩ := hrel
      clear T0
      by_cases hlt : k < 32
      · obtain ⟨kb, hkb⟩ : ∃ kb, kb = UInt8.ofNat k := ⟨_, rfl⟩
        have HKB : Hid (IntKind.u8.wrap (k : Int) = (kb.toNat : Int)) := Lib.hid (by
          rw [hkb, UInt8.toNat_ofNat']
          simp [IntKind.wrap, IntKind.signed, IntKind.bits]; try omega)
        obtain ⟨S, hS⟩ : ∃ S, S = nsum k := ⟨_, rfl⟩
        have HSE : Hid (sha [kb] = S) := Lib.hid (by rw [hS, hkb]; rfl)
        have HLS : Hid (S.length = 32) := Lib.hid (by rw [hS]; exact nsum_length _)
        obtain ⟨n, hn, hnk⟩ := fill_val HF.out S
        have HV0 := Lib.hid hn
        obtain ⟨M1, hM1⟩ : ∃ M1, M1 = putM S (.int .i64 (n : Int)) M := ⟨_, rfl⟩
        have HV1 : Hid ((lookM S M1).getD (.int .i64 0) = .int .i64 (n : Int)) := Lib.hid (by rw [hM1, look_put, if_pos rfl]; rfl)
        have HM1 := Lib.hid hM1.symm
        obtain ⟨M2, hM2⟩ : ∃ M2, M2 = putM S (.int .i64 ((n + 1 : Nat) : Int)) M := ⟨_, rfl⟩
        have HF2 : Hid (Fill (k + 1) M2) := Lib.hid (by rw [hM2, hS]; exact fill_step HF.out hnk)
        have HM2 : Hid (putM S (.int .i64 ((n + 1 : Nat) : Int)) M1 = M2) := Lib.hid (by rw [hM1, hM2, put_put])
        clear hkb hS hn hM1 hM2
        go_wp2_with fail
        refine wp_region_inv3 (fun L u w' => Slots (fun kk => ([some (.map (some mp)), some (.int .i64 ((k : Nat) : Int)), some (.int .u8 ((kb).toNat : Int)), none, some (.agg (bcells S).toArray), some (.int .i64 ((n : Nat) : Int)), some (.int .i64 (((n + 1) : Nat) : Int)), none, none, none] : List (Option Value)).getD kk none) L u ∧ Has st (sep (stg (L 3) (row 5 1 (u 3) 1 (bcells [kb])) emp) (sep (stg (L 9) (mapI mp M2) (stg (L 8) (mapV mp M1 S (u 8)) (stg (L 7) (mapT mp M1 S (u 7)) (mapI mp M)))) R)) w') (by kernel_rfl) (by decide +kernel) (by decide +kernel) (by kernel_rfl) (by kernel_rfl) (fun u => ⟨Slots.start _ u, (show Has st (sep (stg false (row 5 1 (u 3) 1 (bcells [kb])) emp) (sep (stg false (mapI mp M2) (stg false (mapV mp M1 S (u 8)) (stg false (mapT mp M1 S (u 7)) (mapI mp M)))) R)) _ from HC.out.drew.cast (by first | (simp only [stg_no, emp_sep]; done) | (simp only [stg_no, emp_sep]; ac_rfl)))⟩) ?_ ?_
        · refine ⟨?_, ?_, ?_, ?_, ?_, ?_, ?_, ?_, ?_, ?_, trivial⟩
          · refine RegStep3.plain rfl ?_; rintro L u w1 bA hL hW hD hU ⟨hS, hH⟩ hin hout; exact opw_move _ _ (.inl rfl) ((hout 5 (by kernel_rfl)).trans (by kernel_rfl)) ⟨_, rfl, hS.step 0 _ (.inr rfl), hH⟩
          · refine RegStep3.plain rfl ?_; rintro L u w1 bA hL hW hD hU ⟨hS, hH⟩ hin hout; exact opw_move _ _ (.inl rfl) ((hout 6 (by kernel_rfl)).trans (by kernel_rfl)) ⟨_, rfl, hS.step 1 _ (.inr rfl), hH⟩
          · refine RegStep3.plain rfl ?_; rintro L u w1 bA hL hW hD hU ⟨hS, hH⟩ hin hout; exact opw_conv _ _ _ .i64 .u8 _ _ rfl Tryd.underlying3 Tryd.underlying5 ((hin 1 30 rfl).trans (hS 1 _ rfl (hW.of 1 (by decide)))) HKB.out ⟨_, rfl, hS.step 2 _ (.inr rfl), hH⟩
          · refine RegStep3.plain rfl ?_; rintro L u w1 bA hL hW hD hU ⟨hS, hH⟩ hin hout; exact opw_row1 _ 5 1 (.int .u8 0) _ (.int .u8 ((kb).toNat : Int)) (bcells [kb]) rfl Tryd.underlying30 infoB2 rfl (by decide) (by decide) ((hin 2 31 rfl).trans (hS 2 _ rfl (hW.of 2 (by decide)))) rfl rfl (hH.stg_no hL).noEmp (fun v4 w4 h4 => ⟨_, rfl, hS.step 3 _ (.inl rfl), (show Has st (sep (stg true (row 5 1 v4 1 (bcells [kb])) emp) (sep (stg (L 9) (mapI mp M2) (stg (L 8) (mapV mp M1 S (u 8)) (stg (L 7) (mapT mp M1 S (u 7)) (mapI mp M)))) R)) w4 from ((h4.stg_mk (Q := emp))).cast (by ac_rfl))⟩)
          · refine RegStep3.plain rfl ?_; rintro L u w1 bA hL hW hD hU ⟨hS, hH⟩ hin hout; obtain ⟨A8, c8, e8⟩ := ((hH.stg_yes (hW.far (i := 4) hD rfl 10 3 (by decide +kernel)))).row_slice; exact opw_call_ret _ _ _ [.slice A8 1 c8] rfl (by kernel_rfl) (list2 ((hin 3 32 rfl).trans e8) rfl) (refOf_any st _ [kb] (.slice A8 1 c8) w1 hH (fun w h => by have q := Rd.of_row ((h.stg_yes (hW.far (i := 4) hD rfl 10 3 (by decide +kernel)))).ownsRow; rw [e8] at q; exact q) (by simp)) (fun e w2 he => by obtain ⟨rfl, h2⟩ := he; exact ⟨_, by rw [HSE.out], _, rfl, hS.step 4 _ (.inr rfl), h2⟩)
          · refine RegStep3.plain rfl ?_; rintro L u w1 bA hL hW hD hU ⟨hS, hH⟩ hin hout; obtain ⟨M', h', hv⟩ := look_stg (z := .int .i64 0) (v := .int .i64 (n : Int)) ((hH.cast (show _ = sep (stg (L 9) (mapI mp M2) (stg (L 8) (mapV mp M1 S (u 8)) (stg (L 7) (mapT mp M1 S (u 7)) (mapI mp M)))) (sep (stg (L 3) (row 5 1 (u 3) 1 (bcells [kb])) emp) R) by ac_rfl)).stg_no (hD.nots 10 9 5 hL (by decide +kernel))) HV0.out HV1.out; exact opw_lookup1 57 _ _ _ _ rfl Tryd.underlying57 sumKey (.int .i64 0) zeroI S HLS.out ((hin 0 29 rfl).trans (hS 0 _ rfl (hW.of 0 (by decide)))) ((hin 4 33 rfl).trans (hS 4 _ rfl (hW.of 4 (by decide)))) h' _ hv ⟨_, rfl, hS.step 5 _ (.inr rfl), hH⟩
          · refine RegStep3.plain rfl ?_; rintro L u w1 bA hL hW hD hU ⟨hS, hH⟩ hin hout; exact opw_bin .add _ _ _ _ .i64 _ _ _ rfl ((hin 5 34 rfl).trans (hS 5 _ rfl (hW.of 5 (by decide)))) rfl (bin_add (n) (1) (by omega)) ⟨_, rfl, hS.step 6 _ (.inr rfl), hH⟩
          · refine RegStep3.plain rfl ?_; rintro L u w1 bA hL hW hD hU ⟨hS, hH⟩ hin hout; exact opw_mapEntry 57 _ _ _ _ rfl Tryd.underlying57 sumKey (.int .i64 0) zeroI S HLS.out ((hin 0 29 rfl).trans (hS 0 _ rfl (hW.of 0 (by decide)))) ((hin 4 33 rfl).trans (hS 4 _ rfl (hW.of 4 (by decide)))) ((((hH.cast (show _ = sep (stg (L 9) (mapI mp M2) (stg (L 8) (mapV mp M1 S (u 8)) (stg (L 7) (mapT mp M1 S (u 7)) (mapI mp M)))) (sep (stg (L 3) (row 5 1 (u 3) 1 (bcells [kb])) emp) R) by ac_rfl)).stg_no (hD.nots 10 9 7 hL (by decide +kernel))).stg_no (hD.nots 10 8 7 hL (by decide +kernel))).stg_no hL) (fun b4 w4 h4 => by rw [HV0.out] at h4 ⊢; rw [HM1.out] at h4; have h5 := h4; exact ⟨_, rfl, hS.step 7 _ (.inl rfl), (show Has st (sep (stg (L 3) (row 5 1 (u 3) 1 (bcells [kb])) emp) (sep (stg (L 9) (mapI mp M2) (stg (L 8) (mapV mp M1 S (u 8)) (stg true (mapT mp M1 S (.tuple #[.int .i64 (n : Int), .int .i64 (b4 : Int)])) (mapI mp M)))) R)) w4 from (((((mapT_mk (v := .int .i64 (n : Int)) h5).stg_mk (Q := (mapI mp M))).stg_false (P := (mapV mp M1 S (u 8))) (hD.nots 10 8 7 hL (by decide +kernel))).stg_false (P := (mapI mp M2)) (hD.nots 10 9 7 hL (by decide +kernel)))).cast (by ac_rfl))⟩)
          · refine RegStep3.plain rfl ?_; rintro L u w1 bA hL hW hD hU ⟨hS, hH⟩ hin hout; obtain ⟨v4, b4, e4, h5⟩ := mapT_open ((((hH.cast (show _ = sep (stg (L 9) (mapI mp M2) (stg (L 8) (mapV mp M1 S (u 8)) (stg (L 7) (mapT mp M1 S (u 7)) (mapI mp M)))) (sep (stg (L 3) (row 5 1 (u 3) 1 (bcells [kb])) emp) R) by ac_rfl)).stg_no (hD.nots 10 9 8 hL (by decide +kernel))).stg_no hL).stg_yes (hW.far (i := 8) hD rfl 10 7 (by decide +kernel))); exact opw_extract _ 1 _ _ rfl ((hin 7 36 rfl).trans e4) rfl ⟨_, rfl, hS.step 8 _ (.inl rfl), (show Has st (sep (stg (L 3) (row 5 1 (u 3) 1 (bcells [kb])) emp) (sep (stg (L 9) (mapI mp M2) (stg true (mapV mp M1 S (.int .i64 (b4 : Int))) (stg (L 7) (mapT mp M1 S (u 7)) (mapI mp M)))) R)) w1 from ((((mapV_mk h5).stg_mk (Q := (stg (L 7) (mapT mp M1 S (u 7)) (mapI mp M)))).stg_false (P := (mapI mp M2)) (hD.nots 10 9 8 hL (by decide +kernel)))).cast (by ac_rfl))⟩
          · refine RegStep3.plain rfl ?_; rintro L u w1 bA hL hW hD hU ⟨hS, hH⟩ hin hout; obtain ⟨b4, e4, h6⟩ := mapV_open (((hH.cast (show _ = sep (stg (L 9) (mapI mp M2) (stg (L 8) (mapV mp M1 S (u 8)) (stg (L 7) (mapT mp M1 S (u 7)) (mapI mp M)))) (sep (stg (L 3) (row 5 1 (u 3) 1 (bcells [kb])) emp) R) by ac_rfl)).stg_no hL).stg_yes (hW.far (i := 9) hD rfl 10 8 (by decide +kernel))); exact opw_entryStore _ _ _ _ rfl (.int .i64 ((n + 1 : Nat) : Int)) ((hin 0 29 rfl).trans (hS 0 _ rfl (hW.of 0 (by decide)))) ((hin 8 37 rfl).trans e4) ((hin 6 35 rfl).trans (hS 6 _ rfl (hW.of 6 (by decide)))) h6 (fun w4 h4 => by rw [HM2.out] at h4; have h5 := h4; exact ⟨_, rfl, hS.step 9 _ (.inl rfl), (show Has st (sep (stg (L 3) (row 5 1 (u 3) 1 (bcells [kb])) emp) (sep (stg true (mapI mp M2) (stg (L 8) (mapV mp M1 S (u 8)) (stg (L 7) (mapT mp M1 S (u 7)) (mapI mp M)))) R)) w4 from ((h5.stg_mk (Q := (stg (L 8) (mapV mp M1 S (u 8)) (stg (L 7) (mapT mp M1 S (u 7)) (mapI mp M)))))).cast (by ac_rfl))⟩)
        intro L u ws hL ⟨hS, hH⟩
        have E0 := hS 0 _ rfl (hL 0 (by decide))
        have E1 := hS 1 _ rfl (hL 1 (by decide))
        have E2 := hS 2 _ rfl (hL 2 (by decide))
        have E4 := hS 4 _ rfl (hL 4 (by decide))
        have E5 := hS 5 _ rfl (hL 5 (by decide))
        have E6 := hS 6 _ rfl (hL 6 (by decide))
        simp only [hL 3 (by decide), hL 7 (by decide), hL 8 (by decide), hL 9 (by decide), stg_true, emp_sep] at hH
        simp only [frame_cons, frame_nil, E0, E1, E2, E4, E5, E6, Act.put, List.setIfInBounds_toArray, List.set_cons_zero, List.set_cons_succ]
        clear hL hS E0 E1 E2 E4 E5 E6
        generalize u 3 = u3 at hH ⊢
        generalize u 7 = u7 at hH ⊢
        generalize u 8 = u8 at hH ⊢
        have Hs := Lib.hid hH
        clear hH HC
        go_wp2
        go_roundw
        case rel => exact ⟨k + 1, M2, by omega, by go_num, HF2, Lib.hid Hs.out.right⟩
        case measure => simp [intOf]; omega
      · have hke : k = 32 := by omega
        subst hke
        clear hlt hk32
        by_cases hM : M.length = 32
        · have hinj := fill_inj HF.out hM
          have HZM : Hid (cmpZ .neq ((M.length : Nat) : Int) 32 = some false) := Lib.hid (by rw [hM]; rfl)
          obtain ⟨r, hr⟩ : ∃ r : Nat, 1 + room % 16 = (r : Int) := ⟨(1 + room % 16).toNat, by omega⟩
          have HR1 : Hid (bits .and .i64 room 15 = room % 16) := Lib.hid (i64_and_mask room 4 (by decide))
          have HR2 : Hid (binZ .add .i64 1 (room % 16) = some (r : Int)) := Lib.hid (by show some (IntKind.i64.wrap _) = _; rw [← hr, IntWalk.i64_in _ ⟨by omega, by omega⟩])
          have hr1 : 1 ≤ r := by omega
          have hr16 : r ≤ 16 := by omega
          obtain ⟨lm, hlm⟩ : ∃ lm : Int, lm = (r : Int) := ⟨_, rfl⟩
          obtain ⟨r0, hr0⟩ : ∃ r0 : Int, r0 = room % 16 := ⟨_, rfl⟩
          rw [← hr0] at HR1 HR2
          rw [← hlm] at HR2
          have hlm0 : 0 ≤ lm := by omega
          have HNW := Lib.hid (newC (st := st) (R := R) (lim := lm) (l2 := lm) (by omega) (by omega))
          have HLM := Lib.hid hlm
          have HI := Lib.hid hinj
          clear hinj hr hlm hr0 hM HF
          go_wp2_with (first
            | (have _k := HC; go_at_call 10; refine (HNW.out _ HC.out.right).mono ?_; rintro e w9 ⟨p, rfl, h9⟩; have C0 := Lib.hid h9; clear h9)
            | ((first | (with_reducible refine wpList_plain rfl ?_) | ((with_reducible refine wpList_yes _ _ rfl ?_ ?_); (focus rfl))); intro _ hk; (first
              | (have _k := C0; refine opw_row0 30 5 1 rfl Tryd.underlying30 infosz C0.out (fun v0 w9 h9 => hk _ _ ?_); obtain ⟨A0, c0, rfl⟩ := h9.row_slice; have L0 := Lib.hid (line_row h9); clear h9)
              | (have _k := HC; refine opw_bin .add _ _ _ _ .i64 1 r0 lm rfl rfl rfl HR2.out (hk _ _ ?_))
              | (have _k := HC; refine opw_bits .and _ _ _ _ .i64 room 15 r0 (.inl rfl) rfl rfl rfl HR1.out (hk _ _ ?_))
              | (have _k := HC; refine opw_cmp .neq _ _ _ _ .i64 ((M.length : Nat) : Int) 32 false rfl rfl rfl HZM.out (hk _ _ ?_))
              | (have _k := HC; refine opw_lenMap 57 _ _ _ rfl Tryd.underlying57 rfl HC.out (hk _ _ ?_))); simp only [Act.put, List.setIfInBounds_toArray, List.set_cons_zero, List.set_cons_succ]))
          clear HC HNW C0
          go_loopw [8, 50] (fun v8 v50 wr => OrdRel st R p r lm N v8 v50 wr) (fun _ v50 _ => N - (intOf v50).toNat)
          case atStart => exact ⟨0, [], A0, c0, Nat.zero_le _, rfl, rfl, Lib.hid (ord_nil r), L0⟩
          case round =>
            obtain ⟨i, line, A, c, hi, rfl, rfl, HO, HC⟩ := hrel
            clear L0
            obtain ⟨n, hn⟩ : ∃ n, n = line.length := ⟨_, rfl⟩
            obtain ⟨LK, hLK⟩ : ∃ L, L = ordL line := ⟨_, rfl⟩
            have hnr : n ≤ r := by rw [hn]; exact HO.out.len
            have hLl : LK.length = n := by rw [hLK, ord_length, hn]
            have hLt : totL LK = n := by rw [hLK, tot_ord, hn]
            rw [← hn, ← hLK] at HC
            rw [← hn]
            have HNL := Lib.hid hn
            have HLK := Lib.hid hLK
            clear hn hLK
            by_cases hlt : i < N
            · obtain ⟨gs, os, rfl, hcs⟩ := (HSS.out wr HC.out.right.right).at (by omega)
              obtain ⟨sb, hsb⟩ : ∃ s, s = SL[i]'(by rw [← HN.out]; exact hlt) := ⟨_, rfl⟩
              have HCS : Hid (wr.cell? ⟨gs, os + i * 1, none⟩ = some (.int .u8 (sb.toNat : Int))) := Lib.hid (by
                rw [Nat.mul_one, hsb]; exact hcs i _ (by simp [bcells, bcell, ← HN.out, hlt]))
              obtain ⟨bq, hbq⟩ : ∃ b, b = sb &&& 31 := ⟨_, rfl⟩
              have HA8 : Hid (bits .and .u8 (sb.toNat : Int) 31 = (bq.toNat : Int)) := Lib.hid (by rw [hbq]; exact and8 sb)
              have HB32 : Hid (bq.toNat < 32) := Lib.hid (by rw [hbq]; exact and_small sb)
              obtain ⟨pz, hpz⟩ : ∃ pz : Option Nat, pz = line.findIdx? (· == bq) := ⟨_, rfl⟩
              have HPZ : Hid (∀ k (hk : k < line.length), line[k] = bq ↔ pz = some k) := Lib.hid fun k hk => by
                rw [hpz]
                constructor
                · intro e
                  have := find_at HO.out.nodup hk
                  rw [e] at this; exact this
                · intro e
                  rw [List.findIdx?_eq_some_iff_getElem] at e
                  simpa using e.2.1
              have HPN : Hid (pz = none → bq ∉ line) := Lib.hid fun e hm => by
                rw [hpz, List.findIdx?_eq_none_iff] at e
                have := e bq hm
                simp at this
              have HPL : Hid (∀ p, pz = some p → ∃ h : p < line.length, line[p] = bq) := Lib.hid fun p e => by
                rw [hpz, List.findIdx?_eq_some_iff_getElem] at e
                obtain ⟨h1, h2, _⟩ := e
                exact ⟨h1, by simpa using h2⟩
              have HAT0 : Hid (atV pz 0 = -1) := Lib.hid (by unfold atV; cases pz <;> simp)
              clear hcs hsb hbq hpz
              go_wp2_with (first
                | (fail)
                | ((first | (with_reducible refine wpList_plain rfl ?_) | ((with_reducible refine wpList_yes _ _ rfl ?_ ?_); (focus rfl))); intro _ hk; (first
                  | (have _k := HC; refine opw_bits .and _ _ _ _ .u8 (sb.toNat : Int) 31 (bq.toNat : Int) (.inl rfl) rfl rfl rfl HA8.out (hk _ _ ?_))
                  | (have _k := HC; refine opw_load1 5 _ rfl _ Tryd.underlying5 rfl ⟨gs, os + i * 1, none⟩ (.int .u8 (sb.toNat : Int)) rfl HCS.out (hk _ _ ?_))
                  | (have _k := HC; refine opw_indexN 30 5 1 _ _ rfl Tryd.underlying30 infosz gs os N cs i rfl .i64 rfl hlt (hk _ _ ?_))); simp only [Act.put, List.setIfInBounds_toArray, List.set_cons_zero, List.set_cons_succ]))
              go_loopw [12, 58] (fun v12 v58 wr => AtRel st (sep (lineP 5 (.slice A n c) n (bcells line)) (sep (cacheA p LK lm) R)) pz n v12 v58 wr) (fun _ v58 _ => n - (intOf v58).toNat)
              case atStart => exact ⟨0, Nat.zero_le _, by rw [HAT0.out], rfl, HC⟩
              case round =>
                obtain ⟨k, hkn, rfl, rfl, HC⟩ := hrel
                by_cases hkl : k < n
                · have hkl' : k < line.length := by rw [← HNL.out]; exact hkl
                  obtain ⟨gl, ol, rfl, hcl⟩ := (line_rd HC.out).at (by omega)
                  obtain ⟨xk, hxk⟩ : ∃ x, x = line[k] := ⟨_, rfl⟩
                  have HCK : Hid (wr.cell? ⟨gl, ol + k * 1, none⟩ = some (.int .u8 (xk.toNat : Int))) := Lib.hid (by
                    rw [Nat.mul_one, hxk]; exact hcl k _ (by simp [bcells, bcell, hkl']))
                  by_cases he : xk = bq
                  · have HZE : Hid (cmpZ .eql (xk.toNat : Int) (bq.toNat : Int) = some true) := Lib.hid (by rw [he]; simp [cmpZ])
                    have HAK : Hid (atV pz (k + 1) = (k : Int)) := Lib.hid (by
                      rw [(HPZ.out k hkl').1 (by rw [← hxk]; exact he)]; unfold atV; simp)
                    clear he hxk hcl hkl'
                    go_wp2_with (first
                      | (fail)
                      | ((first | (with_reducible refine wpList_plain rfl ?_) | ((with_reducible refine wpList_yes _ _ rfl ?_ ?_); (focus rfl))); intro _ hk; (first
                        | (have _k := HC; refine opw_cmp .eql _ _ _ _ .u8 (xk.toNat : Int) (bq.toNat : Int) true rfl rfl rfl HZE.out (hk _ _ ?_))
                        | (have _k := HC; refine opw_load1 5 _ rfl _ Tryd.underlying5 rfl ⟨gl, ol + k * 1, none⟩ (.int .u8 (xk.toNat : Int)) rfl HCK.out (hk _ _ ?_))
                        | (have _k := HC; refine opw_indexN 30 5 1 _ _ rfl Tryd.underlying30 infosz gl ol n c k rfl .i64 rfl hkl (hk _ _ ?_))); simp only [Act.put, List.setIfInBounds_toArray, List.set_cons_zero, List.set_cons_succ]))
                    go_roundw
                    case rel => exact ⟨k + 1, by omega, by rw [HAK.out], by go_num, HC⟩
                    case measure => simp [intOf]; omega
                  · have HZE : Hid (cmpZ .eql (xk.toNat : Int) (bq.toNat : Int) = some false) := Lib.hid (by
                      have : xk.toNat ≠ bq.toNat := fun e => he (UInt8.toNat_inj.1 e)
                      simp [cmpZ]; omega)
                    have HAK : Hid (atV pz (k + 1) = atV pz k) := Lib.hid (atV_ne fun e => he (by rw [hxk]; exact (HPZ.out k hkl').2 e))
                    clear he hxk hcl hkl'
                    go_wp2_with (first
                      | (fail)
                      | ((first | (with_reducible refine wpList_plain rfl ?_) | ((with_reducible refine wpList_yes _ _ rfl ?_ ?_); (focus rfl))); intro _ hk; (first
                        | (have _k := HC; refine opw_cmp .eql _ _ _ _ .u8 (xk.toNat : Int) (bq.toNat : Int) false rfl rfl rfl HZE.out (hk _ _ ?_))
                        | (have _k := HC; refine opw_load1 5 _ rfl _ Tryd.underlying5 rfl ⟨gl, ol + k * 1, none⟩ (.int .u8 (xk.toNat : Int)) rfl HCK.out (hk _ _ ?_))
                        | (have _k := HC; refine opw_indexN 30 5 1 _ _ rfl Tryd.underlying30 infosz gl ol n c k rfl .i64 rfl hkl (hk _ _ ?_))); simp only [Act.put, List.setIfInBounds_toArray, List.set_cons_zero, List.set_cons_succ]))
                    go_roundw
                    case rel => exact ⟨k + 1, by omega, by rw [HAK.out], by go_num, HC⟩
                    case measure => simp [intOf]; omega
                · have hke : n = k := by omega
                  subst hke
                  clear hkl hkn
                  have HOB : Hid (∀ T w v, Has st (sep (row 5 1 v 1 (bcells [bq])) T) w → Calls Tryd.prog 11 #[v] w fun e w' => e = .returned (.agg (bcells (sha [bq])).toArray) ∧ Has st (sep (row 5 1 v 1 (bcells [bq])) T) w') := Lib.hid fun T w v hw =>
                    refOf_any st _ [bq] v w hw (fun w h => sees_row st _ 1 _ _ _ _ w h) (by simp)
                  obtain ⟨S, hS⟩ : ∃ S, S = sha [bq] := ⟨_, rfl⟩
                  rw [← hS] at HOB
                  have HLS : Hid (S.length = 32) := Lib.hid (by rw [hS]; exact sha_length _)
                  obtain ⟨z, hz⟩ : ∃ z, cmpZ .geq (sb.toNat : Int) 128 = some z := ⟨_, rfl⟩
                  have HZ := Lib.hid hz
                  obtain ⟨gb, hgb⟩ : ∃ g, g = [bq] := ⟨_, rfl⟩
                  clear hz HCS HA8 HPZ HAT0
                  cases pz with
                  | some pj =>
                    obtain ⟨hpl, hpb⟩ := HPL.out pj rfl
                    have hpn : pj < n := by rw [HNL.out]; exact hpl
                    have hap : atV (some pj) n = (pj : Int) := by show (if pj < n then (pj : Int) else -1) = _; rw [if_pos hpn]
                    rw [hap]
                    clear hap
                    obtain ⟨LE, hLE⟩ : ∃ LE, LE = line.eraseIdx pj := ⟨_, rfl⟩
                    obtain ⟨L2, hL2⟩ : ∃ L, L = ordL (LE ++ [bq]) := ⟨_, rfl⟩
                    have hg : getL S LK = (L2, gb, true) := by rw [hS, HLK.out, hL2, hLE, hgb, ← hpb]; exact get_mem HI.out HO.out hpl
                    have hp : L2 = putL lm LK S [bq] := by rw [hS, HLM.out, HLK.out, hL2, hLE, ← hpb]; exact (put_memO HI.out HO.out hr1 hpl).symm
                    have HO2 : Hid (Ord r (LE ++ [bq])) := Lib.hid (by rw [hLE, ← hpb]; exact ord_mem HO.out hpl)
                    have HGC := Lib.hid (getC (st := st) (R := R) (lim := lm) (L := LK) (L' := L2) (id := S) (g := gb) (ok := true) HKY.out HST.out HLS.out hg (by omega) (by omega))
                    have HPC := Lib.hid (putC (st := st) (R := R) (lim := lm) (L := LK) (L' := L2) (b := [bq]) (S := S) HKY.out HST.out hS hp (by omega) (by omega) (by simp) hlm0)
                    have HL2 := Lib.hid hL2
                    have HLE := Lib.hid hLE
                    have HG0 : Hid (cmpZ .geq (pj : Int) 0 = some true) := Lib.hid (by show some (decide ((pj : Int) ≥ 0)) = some true; rw [decide_eq_true (by omega)])
                    have HG1 : Hid (cmpZ .lss (pj : Int) 0 = some false) := Lib.hid (by show some (decide ((pj : Int) < 0)) = some false; rw [decide_eq_false (by omega)])
                    clear hg hp hgb hL2 hLE hS hpb hpl HPL HPN
                    go_upto_if 69 with (first
                      | (fail)
                      | ((first | (with_reducible refine wpList_plain rfl ?_) | ((with_reducible refine wpList_yes _ _ rfl ?_ ?_); (focus rfl))); intro _ hk; (first
                        | (have _k := HC; refine opw_cmp .geq _ _ _ _ .u8 (sb.toNat : Int) 128 z rfl rfl rfl HZ.out (hk _ _ ?_))); simp only [Act.put, List.setIfInBounds_toArray, List.set_cons_zero, List.set_cons_succ]))
                    go_cut [15] from 51 to 110 (fun _ wc => MidCut st (sep (lineP 5 (.slice A n c) n (bcells line)) (sep (cacheA p L2 lm) R)) wc)
                    case first =>
                      cases z with
                      | true =>
                        go_wp2_with (first
                          | (have _k := G1; go_at_call 15; refine (HGC.out p (sep (row 5 1 v9 1 (bcells [bq])) (sep (lineP 5 (.slice A n c) n (bcells line)) R)) _ (fun w h => h.right.right) (G1.out.cast (show _ = (sep (cacheA p LK lm) (sep (row 5 1 v9 1 (bcells [bq])) (sep (lineP 5 (.slice A n c) n (bcells line)) R))) by ac_rfl))).mono ?_; rintro e w9 ⟨Ag, cg, rfl, h9⟩; have G2 : Hid (Has st (sep (lineP 5 (.slice A n c) n (bcells line)) (sep (cacheA p L2 lm) R)) w9) := Lib.hid (h9.right.cast (show _ = (sep (row 5 1 v9 1 (bcells [bq])) (sep (lineP 5 (.slice A n c) n (bcells line)) (sep (cacheA p L2 lm) R))) by ac_rfl)).right; clear h9)
                          | (have _k := G0; go_at_call 11; refine (HOB.out _ _ _ G0.out).mono ?_; rintro e w9 ⟨rfl, h9⟩; have G1 := Lib.hid h9; clear h9)
                          | ((first | (with_reducible refine wpList_plain rfl ?_) | ((with_reducible refine wpList_yes _ _ rfl ?_ ?_); (focus rfl))); intro _ hk; (first
                            | (have _k := G2; refine opw_cmp .lss _ _ _ _ .i64 (pj : Int) 0 false rfl rfl rfl HG1.out (hk _ _ ?_))
                            | (have _k := G2; refine opw_neBool _ _ _ _ true true rfl rfl rfl rfl false rfl (hk _ _ ?_))
                            | (have _k := G2; refine opw_cmp .geq _ _ _ _ .i64 (pj : Int) 0 true rfl rfl rfl HG0.out (hk _ _ ?_))
                            | (have _k := HC; refine opw_row1 30 5 1 (.int .u8 0) _ (.int .u8 (bq.toNat : Int)) (bcells [bq]) rfl Tryd.underlying30 infoB2 rfl (by decide) (by decide) rfl rfl rfl HC.out (fun v9 w9 h9 => hk _ _ ?_); have G0 := Lib.hid h9; clear h9)); simp only [Act.put, List.setIfInBounds_toArray, List.set_cons_zero, List.set_cons_succ]))
                        go_meet
                        case rel => exact G2
                      | false =>
                        go_wp2_with (first
                          | (have _k := G0; go_at_call 13; refine (HPC.out p (sep (row 5 1 v9 1 (bcells [bq])) (sep (lineP 5 (.slice A n c) n (bcells line)) R)) _ _ (fun w h => h.right.right) (fun w h => sees_row st _ 1 _ _ _ _ w h) (G0.out.cast (show _ = (sep (cacheA p LK lm) (sep (row 5 1 v9 1 (bcells [bq])) (sep (lineP 5 (.slice A n c) n (bcells line)) R))) by ac_rfl))).mono ?_; rintro e w9 ⟨rfl, h9⟩; have G2 : Hid (Has st (sep (lineP 5 (.slice A n c) n (bcells line)) (sep (cacheA p L2 lm) R)) w9) := Lib.hid (h9.cast (show _ = (sep (row 5 1 v9 1 (bcells [bq])) (sep (lineP 5 (.slice A n c) n (bcells line)) (sep (cacheA p L2 lm) R))) by ac_rfl)).right; clear h9)
                          | ((first | (with_reducible refine wpList_plain rfl ?_) | ((with_reducible refine wpList_yes _ _ rfl ?_ ?_); (focus rfl))); intro _ hk; (first
                            | (have _k := HC; refine opw_row1 30 5 1 (.int .u8 0) _ (.int .u8 (bq.toNat : Int)) (bcells [bq]) rfl Tryd.underlying30 infoB2 rfl (by decide) (by decide) rfl rfl rfl HC.out (fun v9 w9 h9 => hk _ _ ?_); have G0 := Lib.hid h9; clear h9)); simp only [Act.put, List.setIfInBounds_toArray, List.set_cons_zero, List.set_cons_succ]))
                        go_meet
                        case rel => exact G2
                    case rest =>
                      have G3 : Hid (Has st (sep (lineP 5 (.slice A n c) n (bcells line)) (sep (cacheA p L2 lm) R)) wc) := hcut
                      clear hcut HC HGC HPC HOB HZ
                      have hnc : n ≤ c := (line_rd G3.out).le_cap.1
                      obtain ⟨TK, hTK⟩ : ∃ TK, TK = line.take pj := ⟨_, rfl⟩
                      obtain ⟨DR, hDR⟩ : ∃ DR, DR = line.drop (pj + 1) := ⟨_, rfl⟩
                      obtain ⟨M3, hM3⟩ : ∃ M3, M3 = n - (pj + 1) := ⟨_, rfl⟩
                      have hsl : Sees st (sep (lineP 5 (.slice A n c) n (bcells line)) (sep (cacheA p L2 lm) R)) 1 (.slice A n c) n (bcells line) := fun w h => line_rd h
                      have HS1 : Hid (Sees st (sep (lineP 5 (.slice A n c) n (bcells line)) (sep (cacheA p L2 lm) R)) 1 (.slice (subA 1 A 0 c) pj c) pj (bcells TK)) := Lib.hid (by rw [hTK]; exact hsl.takeB pj (by omega))
                      have HS2 : Hid (Sees st (sep (lineP 5 (.slice A n c) n (bcells line)) (sep (cacheA p L2 lm) R)) 1 (.slice (subA 1 A (pj + 1) c) M3 (c - (pj + 1))) M3 (bcells DR)) := Lib.hid (by rw [hDR, hM3]; exact hsl.dropB HNL.out.symm (pj + 1) (by omega))
                      have HBE : Hid ([] ++ bcells TK ++ bcells DR = bcells LE) := Lib.hid (by rw [HLE.out, List.eraseIdx_eq_take_drop_succ, ← hTK, ← hDR]; simp [bcells])
                      obtain ⟨n2, hn2⟩ : ∃ n2, n2 = 0 + pj + M3 := ⟨_, rfl⟩
                      have hn2n : n2 + 1 = n := by omega
                      have HN2 := Lib.hid hn2.symm
                      have HM3 := Lib.hid hM3.symm
                      have hpm : 0 + pj + M3 ≤ 61 := by omega
                      have HLL : Hid ((LE ++ [bq]).length = n2 + 1) := Lib.hid (by rw [HLE.out, List.length_append, List.length_eraseIdx_of_lt (by rw [← HNL.out]; exact hpn), ← HNL.out]; simp; omega)
                      have HBB : Hid (bcells (LE ++ [bq]) = bcells LE ++ bcells [bq]) := Lib.hid (by simp [bcells])
                      have HZG : Hid (cmpZ .gtr ((n2 + 1 : Nat) : Int) lm = some false) := Lib.hid (by show some (decide (((n2 + 1 : Nat) : Int) > lm)) = some false; rw [decide_eq_false (by rw [HLM.out]; omega)])
                      have hn2r : n2 + 1 ≤ r := by omega
                      clear hTK hDR hM3 hsl hn2 hn2n
                      go_wp2_with (first
                        | (fail)
                        | ((first | (with_reducible refine wpList_plain rfl ?_) | ((with_reducible refine wpList_yes _ _ rfl ?_ ?_); (focus rfl))); intro _ hk; (first
                          | (have _k := G3; refine opw_cmp .geq _ _ _ _ .i64 (pj : Int) 0 true rfl rfl rfl HG0.out (hk _ _ ?_))); simp only [Act.put, List.setIfInBounds_toArray, List.set_cons_zero, List.set_cons_succ]))
                      refine wp_region_inv3 (fun L u w' => Slots (fun kk => ([none, some (.slice A n c), some (.int .i64 ((pj : Nat) : Int)), some (.slice (subA 1 A 0 c) pj c), none, some (.slice A n c), some (.int .i64 ((pj : Nat) : Int)), some (.int .i64 (((pj + 1) : Nat) : Int)), some (.slice (subA 1 A (pj + 1) c) M3 (c - (pj + 1))), none, none] : List (Option Value)).getD kk none) L u ∧ Has st (sep (stg (L 10) (row 5 1 (u 10) (0 + pj + M3) ([] ++ bcells TK ++ bcells DR)) (stg (L 9) (row 5 1 (u 9) (0 + pj + M3) ([] ++ bcells TK ++ bcells DR)) (stg (L 4) (row 5 1 (u 4) (0 + pj) ([] ++ bcells TK)) (stg (L 0) (row 5 1 (u 0) 0 []) emp)))) (sep (lineP 5 (.slice A n c) n (bcells line)) (sep (cacheA p L2 lm) R))) w') (by kernel_rfl) (by decide +kernel) (by decide +kernel) (by kernel_rfl) (by kernel_rfl) (fun u => ⟨Slots.start _ u, (show Has st (sep (stg false (row 5 1 (u 10) (0 + pj + M3) ([] ++ bcells TK ++ bcells DR)) (stg false (row 5 1 (u 9) (0 + pj + M3) ([] ++ bcells TK ++ bcells DR)) (stg false (row 5 1 (u 4) (0 + pj) ([] ++ bcells TK)) (stg false (row 5 1 (u 0) 0 []) emp)))) (sep (lineP 5 (.slice A n c) n (bcells line)) (sep (cacheA p L2 lm) R))) _ from G3.out.drew.cast (by first | (simp only [stg_no, emp_sep]; done) | (simp only [stg_no, emp_sep]; ac_rfl)))⟩) ?_ ?_
                      · refine ⟨?_, ?_, ?_, ?_, ?_, ?_, ?_, ?_, ?_, ?_, ?_, trivial⟩
                        · refine RegStep3.plain rfl ?_; rintro L u w1 bA hL hW hD hU ⟨hS, hH⟩ hin hout; exact opw_row0 _ 5 1 rfl Tryd.underlying30 infosz ((((hH.stg_no (hD.nots 11 10 0 hL (by decide +kernel))).stg_no (hD.nots 11 9 0 hL (by decide +kernel))).stg_no (hD.nots 11 4 0 hL (by decide +kernel))).stg_no hL).noEmp (fun v4 w4 h4 => ⟨_, rfl, hS.step 0 _ (.inl rfl), (show Has st (sep (stg (L 10) (row 5 1 (u 10) (0 + pj + M3) ([] ++ bcells TK ++ bcells DR)) (stg (L 9) (row 5 1 (u 9) (0 + pj + M3) ([] ++ bcells TK ++ bcells DR)) (stg (L 4) (row 5 1 (u 4) (0 + pj) ([] ++ bcells TK)) (stg true (row 5 1 v4 0 []) emp)))) (sep (lineP 5 (.slice A n c) n (bcells line)) (sep (cacheA p L2 lm) R))) w4 from (((((h4.stg_mk (Q := emp)).stg_false (P := (row 5 1 (u 4) (0 + pj) ([] ++ bcells TK))) (hD.nots 11 4 0 hL (by decide +kernel))).stg_false (P := (row 5 1 (u 9) (0 + pj + M3) ([] ++ bcells TK ++ bcells DR))) (hD.nots 11 9 0 hL (by decide +kernel))).stg_false (P := (row 5 1 (u 10) (0 + pj + M3) ([] ++ bcells TK ++ bcells DR))) (hD.nots 11 10 0 hL (by decide +kernel)))).cast (by ac_rfl))⟩)
                        · refine RegStep3.plain rfl ?_; rintro L u w1 bA hL hW hD hU ⟨hS, hH⟩ hin hout; exact opw_move _ _ (.inl rfl) ((hin 10 8 rfl).trans ((hU 10 _ _ rfl rfl (hD.nots 11 10 1 hL (by decide +kernel))).trans (by kernel_rfl))) ⟨_, rfl, hS.step 1 _ (.inr rfl), hH⟩
                        · refine RegStep3.plain rfl ?_; rintro L u w1 bA hL hW hD hU ⟨hS, hH⟩ hin hout; exact opw_move _ _ (.inl rfl) ((hout 12 (by kernel_rfl)).trans (by kernel_rfl)) ⟨_, rfl, hS.step 2 _ (.inr rfl), hH⟩
                        · refine RegStep3.plain rfl ?_; rintro L u w1 bA hL hW hD hU ⟨hS, hH⟩ hin hout; exact opw_slH _ _ _ _ rfl Tryd.underlying30 infosz A n c ((hin 1 91 rfl).trans (hS 1 _ rfl (hW.of 1 (by decide)))) hnc .i64 pj ((hin 2 92 rfl).trans (hS 2 _ rfl (hW.of 2 (by decide)))) (by omega) ⟨_, rfl, hS.step 3 _ (.inr rfl), hH⟩
                        · refine RegStep3.plain rfl ?_; rintro L u w1 bA hL hW hD hU ⟨hS, hH⟩ hin hout; exact op_append _ _ _ 5 1 1 (.int .u8 0) rfl Tryd.underlying30 infoB rfl (by decide) (hin 0 90 rfl) ((hin 3 93 rfl).trans (hS 3 _ rfl (hW.of 3 (by decide)))) ((((hH.stg_no (hD.nots 11 10 4 hL (by decide +kernel))).stg_no (hD.nots 11 9 4 hL (by decide +kernel))).stg_no hL).stg_yes (hW.far (i := 4) hD rfl 11 0 (by decide +kernel))) ((HS1.out _ ((hH.right)))) (bcells_one TK) (by unfold maxLen; omega) (by omega) (fun A4 c4 w4 h4 => ⟨_, rfl, hS.step 4 _ (.inl rfl), (show Has st (sep (stg (L 10) (row 5 1 (u 10) (0 + pj + M3) ([] ++ bcells TK ++ bcells DR)) (stg (L 9) (row 5 1 (u 9) (0 + pj + M3) ([] ++ bcells TK ++ bcells DR)) (stg true (row 5 1 (.slice A4 (0 + pj) c4) (0 + pj) ([] ++ bcells TK)) (stg (L 0) (row 5 1 (u 0) 0 []) emp)))) (sep (lineP 5 (.slice A n c) n (bcells line)) (sep (cacheA p L2 lm) R))) w4 from ((((h4.stg_mk (Q := (stg (L 0) (row 5 1 (u 0) 0 []) emp))).stg_false (P := (row 5 1 (u 9) (0 + pj + M3) ([] ++ bcells TK ++ bcells DR))) (hD.nots 11 9 4 hL (by decide +kernel))).stg_false (P := (row 5 1 (u 10) (0 + pj + M3) ([] ++ bcells TK ++ bcells DR))) (hD.nots 11 10 4 hL (by decide +kernel)))).cast (by ac_rfl))⟩)
                        · refine RegStep3.plain rfl ?_; rintro L u w1 bA hL hW hD hU ⟨hS, hH⟩ hin hout; exact opw_move _ _ (.inl rfl) ((hin 10 8 rfl).trans ((hU 10 _ _ rfl rfl (hD.nots 11 10 5 hL (by decide +kernel))).trans (by kernel_rfl))) ⟨_, rfl, hS.step 5 _ (.inr rfl), hH⟩
                        · refine RegStep3.plain rfl ?_; rintro L u w1 bA hL hW hD hU ⟨hS, hH⟩ hin hout; exact opw_move _ _ (.inl rfl) ((hout 12 (by kernel_rfl)).trans (by kernel_rfl)) ⟨_, rfl, hS.step 6 _ (.inr rfl), hH⟩
                        · refine RegStep3.plain rfl ?_; rintro L u w1 bA hL hW hD hU ⟨hS, hH⟩ hin hout; exact opw_bin .add _ _ _ _ .i64 _ _ _ rfl ((hin 6 96 rfl).trans (hS 6 _ rfl (hW.of 6 (by decide)))) rfl (bin_add (pj) (1) (by omega)) ⟨_, rfl, hS.step 7 _ (.inr rfl), hH⟩
                        · refine RegStep3.plain rfl ?_; rintro L u w1 bA hL hW hD hU ⟨hS, hH⟩ hin hout; exact opw_slL _ _ _ _ rfl Tryd.underlying30 infosz A n c ((hin 5 95 rfl).trans (hS 5 _ rfl (hW.of 5 (by decide)))) hnc .i64 (pj + 1) ((hin 7 97 rfl).trans (hS 7 _ rfl (hW.of 7 (by decide)))) (by omega) (by rw [HM3.out]; exact ⟨_, rfl, hS.step 8 _ (.inr rfl), hH⟩)
                        · refine RegStep3.plain rfl ?_; rintro L u w1 bA hL hW hD hU ⟨hS, hH⟩ hin hout; exact op_append _ _ _ 5 1 1 (.int .u8 0) rfl Tryd.underlying30 infoB rfl (by decide) (hin 4 94 rfl) ((hin 8 98 rfl).trans (hS 8 _ rfl (hW.of 8 (by decide)))) (((hH.stg_no (hD.nots 11 10 9 hL (by decide +kernel))).stg_no hL).stg_yes (hW.far (i := 9) hD rfl 11 4 (by decide +kernel))) ((HS2.out _ ((hH.right)))) (bcells_one DR) (by unfold maxLen; omega) (by omega) (fun A4 c4 w4 h4 => ⟨_, rfl, hS.step 9 _ (.inl rfl), (show Has st (sep (stg (L 10) (row 5 1 (u 10) (0 + pj + M3) ([] ++ bcells TK ++ bcells DR)) (stg true (row 5 1 (.slice A4 ((0 + pj) + M3) c4) (0 + pj + M3) ([] ++ bcells TK ++ bcells DR)) (stg (L 4) (row 5 1 (u 4) (0 + pj) ([] ++ bcells TK)) (stg (L 0) (row 5 1 (u 0) 0 []) emp)))) (sep (lineP 5 (.slice A n c) n (bcells line)) (sep (cacheA p L2 lm) R))) w4 from (((h4.stg_mk (Q := (stg (L 4) (row 5 1 (u 4) (0 + pj) ([] ++ bcells TK)) (stg (L 0) (row 5 1 (u 0) 0 []) emp)))).stg_false (P := (row 5 1 (u 10) (0 + pj + M3) ([] ++ bcells TK ++ bcells DR))) (hD.nots 11 10 9 hL (by decide +kernel)))).cast (by ac_rfl))⟩)
                        · refine RegStep3.plain rfl ?_; rintro L u w1 bA hL hW hD hU ⟨hS, hH⟩ hin hout; exact opw_move _ _ (.inr rfl) (hin 9 99 rfl) ⟨_, rfl, hS.step 10 _ (.inl rfl), (show Has st (sep (stg true (row 5 1 (u 9) (0 + pj + M3) ([] ++ bcells TK ++ bcells DR)) (stg (L 9) (row 5 1 (u 9) (0 + pj + M3) ([] ++ bcells TK ++ bcells DR)) (stg (L 4) (row 5 1 (u 4) (0 + pj) ([] ++ bcells TK)) (stg (L 0) (row 5 1 (u 0) 0 []) emp)))) (sep (lineP 5 (.slice A n c) n (bcells line)) (sep (cacheA p L2 lm) R))) w1 from ((((hH.stg_no hL).stg_yes (hW.far (i := 10) hD rfl 11 9 (by decide +kernel))).stg_mk (Q := (stg (L 9) (row 5 1 (u 9) (0 + pj + M3) ([] ++ bcells TK ++ bcells DR)) (stg (L 4) (row 5 1 (u 4) (0 + pj) ([] ++ bcells TK)) (stg (L 0) (row 5 1 (u 0) 0 []) emp)))))).cast (by ac_rfl))⟩
                      intro L u wv hL ⟨hS, hH⟩
                      have E1 := hS 1 _ rfl (hL 1 (by decide))
                      have E2 := hS 2 _ rfl (hL 2 (by decide))
                      have E3 := hS 3 _ rfl (hL 3 (by decide))
                      have E5 := hS 5 _ rfl (hL 5 (by decide))
                      have E6 := hS 6 _ rfl (hL 6 (by decide))
                      have E7 := hS 7 _ rfl (hL 7 (by decide))
                      have E8 := hS 8 _ rfl (hL 8 (by decide))
                      simp only [hL 0 (by decide), hL 4 (by decide), hL 9 (by decide), hL 10 (by decide), stg_true, emp_sep] at hH
                      simp only [frame_cons, frame_nil, E1, E2, E3, E5, E6, E7, E8, Act.put, List.setIfInBounds_toArray, List.set_cons_zero, List.set_cons_succ]
                      clear hL hS E1 E2 E3 E5 E6 E7 E8
                      generalize u 0 = u0 at hH ⊢
                      generalize u 4 = u4 at hH ⊢
                      generalize u 9 = u9 at hH ⊢
                      generalize u 10 = u10 at hH ⊢
                      have Hv := Lib.hid hH
                      clear hH G3
                      rw [HBE.out, HN2.out] at Hv
                      obtain ⟨A2, c2, rfl⟩ := Hv.out.row_slice
                      have L5 : Hid (Has st (sep (lineP 5 (.slice A2 n2 c2) n2 (bcells LE)) (sep (cacheA p L2 lm) R)) wv) := Lib.hid (line_row Hv.out.drop2)
                      clear Hv HS1 HS2 HBE HN2 HM3 hnc
                      go_wp2_with (first
                        | (fail)
                        | ((first | (with_reducible refine wpList_plain rfl ?_) | ((with_reducible refine wpList_yes _ _ rfl ?_ ?_); (focus rfl))); intro _ hk; (first
                          | (have _k := L7; refine opw_cmp .gtr _ _ _ _ .i64 ((n2 + 1 : Nat) : Int) lm false rfl rfl rfl HZG.out (hk _ _ ?_))
                          | (have _k := L6; refine op_appendL _ _ 30 5 1 (.int .u8 0) rfl Tryd.underlying30 infoB rfl rfl rfl L6.out.second (sees_row st _ 1 _ _ _ _ _ L6.out) (by decide) (bcells_one [bq]) (by unfold maxLen; omega) (by omega) (fun A3 c3 w9 h9 => hk _ _ ?_); have L7 : Hid (Has st (sep (lineP 5 (.slice A3 (n2 + 1) c3) (n2 + 1) (bcells LE ++ bcells [bq])) (sep (cacheA p L2 lm) R)) w9) := Lib.hid h9.second.right; clear h9)
                          | (have _k := L5; refine opw_row1 30 5 1 (.int .u8 0) _ (.int .u8 (bq.toNat : Int)) (bcells [bq]) rfl Tryd.underlying30 infoB2 rfl (by decide) (by decide) rfl rfl rfl L5.out (fun v9 w9 h9 => hk _ _ ?_); have L6 := Lib.hid h9; clear h9)); simp only [Act.put, List.setIfInBounds_toArray, List.set_cons_zero, List.set_cons_succ]))
                      go_roundw
                      case rel => exact ⟨i + 1, LE ++ [bq], A3, c3, by omega, by rw [HLL.out], by go_num, HO2, Lib.hid (by rw [HLL.out, HBB.out, ← HL2.out]; exact L7.out)⟩
                      case measure => simp [intOf]; omega
                  | none =>
                    have hno : bq ∉ line := HPN.out rfl
                    have hap : atV none n = -1 := rfl
                    rw [hap]
                    clear hap
                    obtain ⟨LE, hLE⟩ : ∃ LE, LE = dropR r line ++ [bq] := ⟨_, rfl⟩
                    obtain ⟨L2, hL2⟩ : ∃ L, L = ordL LE := ⟨_, rfl⟩
                    have hg : getL S LK = (LK, [], false) := by rw [hS, HLK.out]; exact get_no HI.out HO.out HB32.out hno
                    have hp : L2 = putL lm LK S [bq] := by rw [hS, HLM.out, HLK.out, hL2, hLE]; exact (put_noO HI.out HO.out hr1 HB32.out hno).symm
                    have HO2 : Hid (Ord r LE) := Lib.hid (by rw [hLE]; exact ord_no HO.out hr1 HB32.out hno)
                    have HGC := Lib.hid (getC (st := st) (R := R) (lim := lm) (L := LK) (L' := LK) (id := S) (g := []) (ok := false) HKY.out HST.out HLS.out hg (by omega) (by omega))
                    have HPC := Lib.hid (putC (st := st) (R := R) (lim := lm) (L := LK) (L' := L2) (b := [bq]) (S := S) HKY.out HST.out hS hp (by omega) (by omega) (by simp) hlm0)
                    have HL2 := Lib.hid hL2
                    have HLE := Lib.hid hLE
                    have HG0 : Hid (cmpZ .geq (-1) 0 = some false) := Lib.hid rfl
                    have HG1 : Hid (cmpZ .lss (-1) 0 = some true) := Lib.hid rfl
                    clear hg hp hgb hL2 hLE hS HPL HPN hno
                    cases z with
                    | true =>
                      go_wp2_with (first
                        | (have _k := G1; go_at_call 15; refine (HGC.out p (sep (row 5 1 v9 1 (bcells [bq])) (sep (lineP 5 (.slice A n c) n (bcells line)) R)) _ (fun w h => h.right.right) (G1.out.cast (show _ = (sep (cacheA p LK lm) (sep (row 5 1 v9 1 (bcells [bq])) (sep (lineP 5 (.slice A n c) n (bcells line)) R))) by ac_rfl))).mono ?_; rintro e w9 ⟨Ag, cg, rfl, h9⟩; have G2 : Hid (Has st (sep (lineP 5 (.slice A n c) n (bcells line)) (sep (cacheA p LK lm) R)) w9) := Lib.hid (h9.right.cast (show _ = (sep (row 5 1 v9 1 (bcells [bq])) (sep (lineP 5 (.slice A n c) n (bcells line)) (sep (cacheA p LK lm) R))) by ac_rfl)).right; clear h9)
                        | (have _k := G0; go_at_call 11; refine (HOB.out _ _ _ G0.out).mono ?_; rintro e w9 ⟨rfl, h9⟩; have G1 := Lib.hid h9; clear h9)
                        | ((first | (with_reducible refine wpList_plain rfl ?_) | ((with_reducible refine wpList_yes _ _ rfl ?_ ?_); (focus rfl))); intro _ hk; (first
                          | (have _k := G2; refine opw_cmp .lss _ _ _ _ .i64 (-1) 0 true rfl rfl rfl HG1.out (hk _ _ ?_))
                          | (have _k := G2; refine opw_neBool _ _ _ _ false false rfl rfl rfl rfl false rfl (hk _ _ ?_))
                          | (have _k := G2; refine opw_cmp .geq _ _ _ _ .i64 (-1) 0 false rfl rfl rfl HG0.out (hk _ _ ?_))
                          | (have _k := HC; refine opw_row1 30 5 1 (.int .u8 0) _ (.int .u8 (bq.toNat : Int)) (bcells [bq]) rfl Tryd.underlying30 infoB2 rfl (by decide) (by decide) rfl rfl rfl HC.out (fun v9 w9 h9 => hk _ _ ?_); have G0 := Lib.hid h9; clear h9)
                          | (have _k := HC; refine opw_cmp .geq _ _ _ _ .u8 (sb.toNat : Int) 128 true rfl rfl rfl HZ.out (hk _ _ ?_))); simp only [Act.put, List.setIfInBounds_toArray, List.set_cons_zero, List.set_cons_succ]))
                      go_roundw
                      case rel => exact ⟨i + 1, line, A, c, by omega, by rw [← HNL.out], by go_num, HO, Lib.hid (by rw [← HNL.out, ← HLK.out]; exact G2.out)⟩
                      case measure => simp [intOf]; omega
                    | false =>
                      by_cases hfull : n = r
                      · have HZG : Hid (cmpZ .gtr ((n + 1 : Nat) : Int) lm = some true) := Lib.hid (by show some (decide (((n + 1 : Nat) : Int) > lm)) = some true; rw [decide_eq_true (by rw [HLM.out]; omega)])
                        have HLL : Hid (LE.length = n + 1 - 1) := Lib.hid (by rw [HLE.out, dropR, if_pos (by rw [← HNL.out]; exact hfull), List.length_append, List.length_drop, ← HNL.out]; simp; omega)
                        have HBB : Hid ((bcells line ++ bcells [bq]).drop 1 = bcells LE) := Lib.hid (by
                          rw [HLE.out, dropR, if_pos (by rw [← HNL.out]; exact hfull), List.drop_append_of_le_length (by rw [bcells_length, ← HNL.out]; omega), bcells_drop]; simp [bcells])
                        have hn1 : 1 ≤ n := by omega
                        clear hfull
                        go_wp2_with (first
                          | (have _k := G0; go_at_call 13; refine (HPC.out p (sep (row 5 1 v9 1 (bcells [bq])) (sep (lineP 5 (.slice A n c) n (bcells line)) R)) _ _ (fun w h => h.right.right) (fun w h => sees_row st _ 1 _ _ _ _ w h) (G0.out.cast (show _ = (sep (cacheA p LK lm) (sep (row 5 1 v9 1 (bcells [bq])) (sep (lineP 5 (.slice A n c) n (bcells line)) R))) by ac_rfl))).mono ?_; rintro e w9 ⟨rfl, h9⟩; have G2 : Hid (Has st (sep (lineP 5 (.slice A n c) n (bcells line)) (sep (cacheA p L2 lm) R)) w9) := Lib.hid (h9.cast (show _ = (sep (row 5 1 v9 1 (bcells [bq])) (sep (lineP 5 (.slice A n c) n (bcells line)) (sep (cacheA p L2 lm) R))) by ac_rfl)).right; clear h9)
                          | ((first | (with_reducible refine wpList_plain rfl ?_) | ((with_reducible refine wpList_yes _ _ rfl ?_ ?_); (focus rfl))); intro _ hk; (first
                            | (have _k := L7; obtain ⟨hc3, h9⟩ := line_tail L7.out (by omega); refine opw_slL _ _ _ _ rfl Tryd.underlying30 infosz A3 (n + 1) c3 rfl hc3 .i64 1 rfl (by omega) (hk _ _ ?_); have L8 := Lib.hid h9; clear h9 hc3)
                            | (have _k := L7; refine opw_cmp .gtr _ _ _ _ .i64 ((n + 1 : Nat) : Int) lm true rfl rfl rfl HZG.out (hk _ _ ?_))
                            | (have _k := L6; refine op_appendL _ _ 30 5 1 (.int .u8 0) rfl Tryd.underlying30 infoB rfl rfl rfl L6.out.second (sees_row st _ 1 _ _ _ _ _ L6.out) (by decide) (bcells_one [bq]) (by unfold maxLen; omega) (by omega) (fun A3 c3 w9 h9 => hk _ _ ?_); have L7 : Hid (Has st (sep (lineP 5 (.slice A3 (n + 1) c3) (n + 1) (bcells line ++ bcells [bq])) (sep (cacheA p L2 lm) R)) w9) := Lib.hid h9.second.right; clear h9)
                            | (have _k := G2; refine opw_cmp .geq _ _ _ _ .i64 (-1) 0 false rfl rfl rfl HG0.out (hk _ _ ?_))
                            | (have _k := G2; refine opw_row1 30 5 1 (.int .u8 0) _ (.int .u8 (bq.toNat : Int)) (bcells [bq]) rfl Tryd.underlying30 infoB2 rfl (by decide) (by decide) rfl rfl rfl G2.out (fun v9 w9 h9 => hk _ _ ?_); have L6 := Lib.hid h9; clear h9)
                            | (have _k := HC; refine opw_row1 30 5 1 (.int .u8 0) _ (.int .u8 (bq.toNat : Int)) (bcells [bq]) rfl Tryd.underlying30 infoB2 rfl (by decide) (by decide) rfl rfl rfl HC.out (fun v9 w9 h9 => hk _ _ ?_); have G0 := Lib.hid h9; clear h9)
                            | (have _k := HC; refine opw_cmp .geq _ _ _ _ .u8 (sb.toNat : Int) 128 false rfl rfl rfl HZ.out (hk _ _ ?_))); simp only [Act.put, List.setIfInBounds_toArray, List.set_cons_zero, List.set_cons_succ]))
                        go_roundw
                        case rel => exact ⟨i + 1, LE, _, _, by omega, by rw [HLL.out], by go_num, HO2, Lib.hid (by rw [HLL.out, ← HBB.out, ← HL2.out]; exact L8.out)⟩
                        case measure => simp [intOf]; omega
                      · have HZG : Hid (cmpZ .gtr ((n + 1 : Nat) : Int) lm = some false) := Lib.hid (by show some (decide (((n + 1 : Nat) : Int) > lm)) = some false; rw [decide_eq_false (by rw [HLM.out]; omega)])
                        have HLL : Hid (LE.length = n + 1) := Lib.hid (by rw [HLE.out, dropR, if_neg (by rw [← HNL.out]; exact hfull), List.length_append, ← HNL.out]; simp)
                        have HBB : Hid (bcells line ++ bcells [bq] = bcells LE) := Lib.hid (by rw [HLE.out, dropR, if_neg (by rw [← HNL.out]; exact hfull)]; simp [bcells])
                        clear hfull
                        go_wp2_with (first
                          | (have _k := G0; go_at_call 13; refine (HPC.out p (sep (row 5 1 v9 1 (bcells [bq])) (sep (lineP 5 (.slice A n c) n (bcells line)) R)) _ _ (fun w h => h.right.right) (fun w h => sees_row st _ 1 _ _ _ _ w h) (G0.out.cast (show _ = (sep (cacheA p LK lm) (sep (row 5 1 v9 1 (bcells [bq])) (sep (lineP 5 (.slice A n c) n (bcells line)) R))) by ac_rfl))).mono ?_; rintro e w9 ⟨rfl, h9⟩; have G2 : Hid (Has st (sep (lineP 5 (.slice A n c) n (bcells line)) (sep (cacheA p L2 lm) R)) w9) := Lib.hid (h9.cast (show _ = (sep (row 5 1 v9 1 (bcells [bq])) (sep (lineP 5 (.slice A n c) n (bcells line)) (sep (cacheA p L2 lm) R))) by ac_rfl)).right; clear h9)
                          | ((first | (with_reducible refine wpList_plain rfl ?_) | ((with_reducible refine wpList_yes _ _ rfl ?_ ?_); (focus rfl))); intro _ hk; (first
                            | (have _k := L7; refine opw_cmp .gtr _ _ _ _ .i64 ((n + 1 : Nat) : Int) lm false rfl rfl rfl HZG.out (hk _ _ ?_))
                            | (have _k := L6; refine op_appendL _ _ 30 5 1 (.int .u8 0) rfl Tryd.underlying30 infoB rfl rfl rfl L6.out.second (sees_row st _ 1 _ _ _ _ _ L6.out) (by decide) (bcells_one [bq]) (by unfold maxLen; omega) (by omega) (fun A3 c3 w9 h9 => hk _ _ ?_); have L7 : Hid (Has st (sep (lineP 5 (.slice A3 (n + 1) c3) (n + 1) (bcells line ++ bcells [bq])) (sep (cacheA p L2 lm) R)) w9) := Lib.hid h9.second.right; clear h9)
                            | (have _k := G2; refine opw_cmp .geq _ _ _ _ .i64 (-1) 0 false rfl rfl rfl HG0.out (hk _ _ ?_))
                            | (have _k := G2; refine opw_row1 30 5 1 (.int .u8 0) _ (.int .u8 (bq.toNat : Int)) (bcells [bq]) rfl Tryd.underlying30 infoB2 rfl (by decide) (by decide) rfl rfl rfl G2.out (fun v9 w9 h9 => hk _ _ ?_); have L6 := Lib.hid h9; clear h9)
                            | (have _k := HC; refine opw_row1 30 5 1 (.int .u8 0) _ (.int .u8 (bq.toNat : Int)) (bcells [bq]) rfl Tryd.underlying30 infoB2 rfl (by decide) (by decide) rfl rfl rfl HC.out (fun v9 w9 h9 => hk _ _ ?_); have G0 := Lib.hid h9; clear h9)
                            | (have _k := HC; refine opw_cmp .geq _ _ _ _ .u8 (sb.toNat : Int) 128 false rfl rfl rfl HZ.out (hk _ _ ?_))); simp only [Act.put, List.setIfInBounds_toArray, List.set_cons_zero, List.set_cons_succ]))
                        go_roundw
                        case rel => exact ⟨i + 1, LE, A3, c3, by omega, by rw [HLL.out], by go_num, HO2, Lib.hid (by rw [HLL.out, ← HBB.out, ← HL2.out]; exact L7.out)⟩
                        case measure => simp [intOf]; omega
            · have hie : N = i := by omega
              subst hie
              clear hlt hi
              obtain ⟨T, hT⟩ : ∃ T : List (List UInt8), T = line.map fun b => sha [b] := ⟨_, rfl⟩
              have hTn : T.length = n := by rw [hT, List.length_map, HNL.out]
              have HAL := Lib.hid (allC (st := st) (lim := lm) (L := LK) (most := 1000) (T := T) (by rw [topL_all LK (by omega), HLK.out, hT]; simp [ordL, Function.comp_def]) (by omega))
              have HSZ := Lib.hid (sizeC (st := st) (lim := lm) (L := LK) (n := n) hLt.symm)
              have HT32 : Hid (∀ x ∈ T, x.length = 32) := Lib.hid (by
                rw [hT]; intro x hx
                obtain ⟨b, _, rfl⟩ := List.mem_map.1 hx
                exact sha_length _)
              have HTT := Lib.hid hT
              have HNN : Hid (cmpZ .neq ((T.length : Nat) : Int) (n : Int) = some false) := Lib.hid (by rw [hTn]; simp [cmpZ])
              have HEE : Hid (cmpZ .eql (n : Int) (n : Int) = some true) := Lib.hid (by simp [cmpZ])
              have HTN := Lib.hid hTn
              clear hT hTn hLl hLt
              go_wp2_with (first
                | (have _k := HC; go_at_call 21; refine (HAL.out p (sep (lineP 5 (.slice A n c) n (bcells line)) R) _ (HC.out.cast (show _ = (sep (cacheA p LK lm) (sep (lineP 5 (.slice A n c) n (bcells line)) R)) by ac_rfl))).mono ?_; rintro e w9 ⟨Aw, cw, rfl, h9⟩; have E0 := Lib.hid h9; clear h9)
                | ((first | (with_reducible refine wpList_plain rfl ?_) | ((with_reducible refine wpList_yes _ _ rfl ?_ ?_); (focus rfl))); intro _ hk; (first
                  | (have _k := E0; refine opw_cmp .neq _ _ _ _ .i64 ((T.length : Nat) : Int) (n : Int) false rfl rfl rfl HNN.out (hk _ _ ?_))); simp only [Act.put, List.setIfInBounds_toArray, List.set_cons_zero, List.set_cons_succ]))
              go_loopw [120] (fun v wr => EndRel st (sep (row 34 32 (.slice Aw T.length cw) T.length (idsC T)) (sep (cacheA p LK lm) (sep (lineP 5 (.slice A n c) n (bcells line)) R))) n v wr) (fun v _ => n - (intOf v).toNat)
              case atStart => exact ⟨0, Nat.zero_le _, rfl, E0⟩
              case round =>
                obtain ⟨k, hkn, rfl, HC⟩ := hrel
                clear E0
                by_cases hkl : k < n
                · have hkl' : k < line.length := by rw [← HNL.out]; exact hkl
                  have hkT : k < T.length := by rw [HTN.out]; exact hkl
                  obtain ⟨gl, ol, rfl, hcl⟩ := (line_rd (HC.out.cast (show _ = (sep (lineP 5 (.slice A n c) n (bcells line)) (sep (row 34 32 (.slice Aw T.length cw) T.length (idsC T)) (sep (cacheA p LK lm) R))) by ac_rfl))).at (by omega)
                  obtain ⟨gw, rfl⟩ := HC.out.row_at33 (i := 0) (by omega)
                  obtain ⟨xk, hxk⟩ : ∃ x, x = line[k] := ⟨_, rfl⟩
                  have HCK : Hid (wr.cell? ⟨gl, ol + k * 1, none⟩ = some (.int .u8 (xk.toNat : Int))) := Lib.hid (by
                    rw [Nat.mul_one, hxk]; exact hcl k _ (by simp [bcells, bcell, hkl']))
                  obtain ⟨S, hS⟩ : ∃ S, S = sha [xk] := ⟨_, rfl⟩
                  have hTk : T[k] = S := by rw [hS, hxk]; simp [HTT.out]
                  have HLS : Hid (S.length = 32) := Lib.hid (by rw [hS]; exact sha_length _)
                  have HSE : Hid (sha [xk] = S) := Lib.hid hS.symm
                  have HNS : Hid ((!(S == S)) = false) := Lib.hid (by simp)
                  have HJS : Hid ((Tryd.prog.info? 34).map (·.size) = some (bcells S).length) := Lib.hid (by rw [bcells_length, HLS.out]; exact infoID)
                  have HRK : Hid (∀ X w, Has st (sep X (sep (row 34 32 (.slice (some ⟨gw, 0, none⟩) T.length cw) T.length (idsC T)) (sep (cacheA p LK lm) (sep (lineP 5 (.slice (some ⟨gl, ol, none⟩) n c) n (bcells line)) R)))) w → w.rangeAt gw (0 + k * 32) (bcells S)) := Lib.hid fun X w hw j u hj => by
                    obtain ⟨g', o', e, hc⟩ := (sees_row st _ 32 _ _ _ _ w hw.right).at (by omega)
                    injection e with e; injection e with e1 e2; subst e1 e2
                    rw [Nat.add_assoc]; exact hc _ u (idsC_cell HT32.out hkT (by rw [hTk]; exact hj))
                  clear hxk hcl hkl' hS hTk
                  go_wp2_with (first
                    | (fail)
                    | ((first | (with_reducible refine wpList_plain rfl ?_) | ((with_reducible refine wpList_yes _ _ rfl ?_ ?_); (focus rfl))); intro _ hk; (first
                      | (have _k := HC; refine opw_load1 5 _ rfl _ Tryd.underlying5 rfl ⟨gl, ol + k * 1, none⟩ (.int .u8 (xk.toNat : Int)) rfl HCK.out (hk _ _ ?_))
                      | (have _k := HC; refine opw_indexN 30 5 1 _ _ rfl Tryd.underlying30 infosz gl ol n c k rfl .i64 rfl hkl (hk _ _ ?_))); simp only [Act.put, List.setIfInBounds_toArray, List.set_cons_zero, List.set_cons_succ]))
                  refine wp_region_inv3 (fun L u w' => Slots (fun kk => ([some (.slice (some ⟨gw, 0, none⟩) T.length cw), some (.int .i64 ((k : Nat) : Int)), some (.pointer (some ⟨gw, (0 + k * 32), none⟩)), some (.agg (bcells S).toArray), some (.int .u8 ((xk).toNat : Int)), none, some (.agg (bcells S).toArray), some (.bool false)] : List (Option Value)).getD kk none) L u ∧ Has st (sep (stg (L 5) (row 5 1 (u 5) 1 (bcells [xk])) emp) (sep (row 34 32 (.slice (some ⟨gw, 0, none⟩) T.length cw) T.length (idsC T)) (sep (cacheA p LK lm) (sep (lineP 5 (.slice (some ⟨gl, ol, none⟩) n c) n (bcells line)) R)))) w') (by kernel_rfl) (by decide +kernel) (by decide +kernel) (by kernel_rfl) (by kernel_rfl) (fun u => ⟨Slots.start _ u, (show Has st (sep (stg false (row 5 1 (u 5) 1 (bcells [xk])) emp) (sep (row 34 32 (.slice (some ⟨gw, 0, none⟩) T.length cw) T.length (idsC T)) (sep (cacheA p LK lm) (sep (lineP 5 (.slice (some ⟨gl, ol, none⟩) n c) n (bcells line)) R)))) _ from HC.out.drew.cast (by first | (simp only [stg_no, emp_sep]; done) | (simp only [stg_no, emp_sep]; ac_rfl)))⟩) ?_ ?_
                  · refine ⟨?_, ?_, ?_, ?_, ?_, ?_, ?_, ?_, trivial⟩
                    · refine RegStep3.plain rfl ?_; rintro L u w1 bA hL hW hD hU ⟨hS, hH⟩ hin hout; exact opw_move _ _ (.inl rfl) ((hout 17 (by kernel_rfl)).trans (by kernel_rfl)) ⟨_, rfl, hS.step 0 _ (.inr rfl), hH⟩
                    · refine RegStep3.plain rfl ?_; rintro L u w1 bA hL hW hD hU ⟨hS, hH⟩ hin hout; exact opw_move _ _ (.inl rfl) ((hout 18 (by kernel_rfl)).trans (by kernel_rfl)) ⟨_, rfl, hS.step 1 _ (.inr rfl), hH⟩
                    · refine RegStep3.plain rfl ?_; rintro L u w1 bA hL hW hD hU ⟨hS, hH⟩ hin hout; exact opw_indexN 46 34 32 _ _ rfl Tryd.underlying46 infoID gw 0 T.length cw k ((hin 0 125 rfl).trans (hS 0 _ rfl (hW.of 0 (by decide)))) .i64 ((hin 1 126 rfl).trans (hS 1 _ rfl (hW.of 1 (by decide)))) hkT ⟨_, rfl, hS.step 2 _ (.inr rfl), hH⟩
                    · refine RegStep3.plain rfl ?_; rintro L u w1 bA hL hW hD hU ⟨hS, hH⟩ hin hout; exact wp_load_mid _ _ rfl gw (0 + k * 32) ((hin 2 127 rfl).trans (hS 2 _ rfl (hW.of 2 (by decide)))) (bcells S) _ (HRK.out _ _ hH) Tryd.underlying34 rfl HJS.out ⟨_, rfl, hS.step 3 _ (.inr rfl), hH⟩
                    · refine RegStep3.plain rfl ?_; rintro L u w1 bA hL hW hD hU ⟨hS, hH⟩ hin hout; exact opw_move _ _ (.inl rfl) ((hout 19 (by kernel_rfl)).trans (by kernel_rfl)) ⟨_, rfl, hS.step 4 _ (.inr rfl), hH⟩
                    · refine RegStep3.plain rfl ?_; rintro L u w1 bA hL hW hD hU ⟨hS, hH⟩ hin hout; exact opw_row1 _ 5 1 (.int .u8 0) _ (.int .u8 ((xk).toNat : Int)) (bcells [xk]) rfl Tryd.underlying30 infoB2 rfl (by decide) (by decide) ((hin 4 129 rfl).trans (hS 4 _ rfl (hW.of 4 (by decide)))) rfl rfl (hH.stg_no hL).noEmp (fun v4 w4 h4 => ⟨_, rfl, hS.step 5 _ (.inl rfl), (show Has st (sep (stg true (row 5 1 v4 1 (bcells [xk])) emp) (sep (row 34 32 (.slice (some ⟨gw, 0, none⟩) T.length cw) T.length (idsC T)) (sep (cacheA p LK lm) (sep (lineP 5 (.slice (some ⟨gl, ol, none⟩) n c) n (bcells line)) R)))) w4 from ((h4.stg_mk (Q := emp))).cast (by ac_rfl))⟩)
                    · refine RegStep3.plain rfl ?_; rintro L u w1 bA hL hW hD hU ⟨hS, hH⟩ hin hout; obtain ⟨A8, c8, e8⟩ := ((hH.stg_yes (hW.far (i := 6) hD rfl 8 5 (by decide +kernel)))).row_slice; exact opw_call_ret _ _ _ [.slice A8 1 c8] rfl (by kernel_rfl) (list2 ((hin 5 130 rfl).trans e8) rfl) (refOf_any st _ [xk] (.slice A8 1 c8) w1 hH (fun w h => by have q := Rd.of_row ((h.stg_yes (hW.far (i := 6) hD rfl 8 5 (by decide +kernel)))).ownsRow; rw [e8] at q; exact q) (by simp)) (fun e w2 he => by obtain ⟨rfl, h2⟩ := he; exact ⟨_, by rw [HSE.out], _, rfl, hS.step 6 _ (.inr rfl), h2⟩)
                    · refine RegStep3.plain rfl ?_; rintro L u w1 bA hL hW hD hU ⟨hS, hH⟩ hin hout; exact opw_neRow _ _ 5 32 _ _ S S Tryd.underlying34 Tryd.underlying5 infosz (by kernel_rfl) HLS.out HLS.out rfl ((hin 3 128 rfl).trans (hS 3 _ rfl (hW.of 3 (by decide)))) ((hin 6 131 rfl).trans (hS 6 _ rfl (hW.of 6 (by decide)))) false HNS.out ⟨_, rfl, hS.step 7 _ (.inr rfl), hH⟩
                  intro L u ws hL ⟨hS, hH⟩
                  have E0 := hS 0 _ rfl (hL 0 (by decide))
                  have E1 := hS 1 _ rfl (hL 1 (by decide))
                  have E2 := hS 2 _ rfl (hL 2 (by decide))
                  have E3 := hS 3 _ rfl (hL 3 (by decide))
                  have E4 := hS 4 _ rfl (hL 4 (by decide))
                  have E6 := hS 6 _ rfl (hL 6 (by decide))
                  have E7 := hS 7 _ rfl (hL 7 (by decide))
                  simp only [hL 5 (by decide), stg_true, emp_sep] at hH
                  simp only [frame_cons, frame_nil, E0, E1, E2, E3, E4, E6, E7, Act.put, List.setIfInBounds_toArray, List.set_cons_zero, List.set_cons_succ]
                  clear hL hS E0 E1 E2 E3 E4 E6 E7
                  generalize u 5 = u5 at hH ⊢
                  have Hs := Lib.hid hH
                  clear hH HC
                  go_wp2
                  go_roundw
                  case rel => exact ⟨k + 1, by omega, by go_num, Lib.hid Hs.out.right⟩
                  case measure => simp [intOf]; omega
                · have hke : n = k := by omega
                  subst hke
                  clear hkl hkn
                  go_wp2_with (first
                    | (have _k := HC; go_at_call 23; refine (HSZ.out p _ _ (HC.out.second)).mono ?_; rintro e w9 ⟨rfl, h9⟩; have E9 := Lib.hid h9; clear h9)
                    | ((first | (with_reducible refine wpList_plain rfl ?_) | ((with_reducible refine wpList_yes _ _ rfl ?_ ?_); (focus rfl))); intro _ hk; (first
                      | (have _k := E9; refine opw_cmp .eql _ _ _ _ .i64 (n : Int) (n : Int) true rfl rfl rfl HEE.out (hk _ _ ?_))); simp only [Act.put, List.setIfInBounds_toArray, List.set_cons_zero, List.set_cons_succ]))
                  go_ret
                  exact ⟨rfl, E9.out.right.right.right⟩
        · have HZM : Hid (cmpZ .neq ((M.length : Nat) : Int) 32 = some true) := Lib.hid (by simp [cmpZ]; omega)
          clear hM HF
          go_wp2_with (first
            | (fail)
            | ((first | (with_reducible refine wpList_plain rfl ?_) | ((with_reducible refine wpList_yes _ _ rfl ?_ ?_); (focus rfl))); intro _ hk; (first
              | (have _k := HC; refine opw_cmp .neq _ _ _ _ .i64 ((M.length : Nat) : Int) 32 true rfl rfl rfl HZM.out (hk _ _ ?_))
              | (have _k := HC; refine opw_lenMap 57 _ _ _ rfl Tryd.underlying57 rfl HC.out (hk _ _ ?_))); simp only [Act.put, List.setIfInBounds_toArray, List.set_cons_zero, List.set_cons_succ]))
          go_ret
          exact ⟨rfl, HC.out.right⟩
end Go.Proofs.YtblknhpafifebaaDoor
