/-
  coldstorelaw04.SealSums.
-/
import Derived.Test.YtbiacehmfbopfaaVsto
namespace Go.Sl
open Go Go.RowKit
theorem opw_lit0 {P : Program} {o : Oper} {a : Act} {w : World} {K : Act → World → Prop} {Q : Exit → Act → World → Prop} {st : World} (t E : TypeId) (ho : o.op = .buildSlice t 0 #[]) (ht : P.underlying t = some (.slice E)) (hs : (P.info? E).map (·.size) = some 1) {R : HProp} (h : Has st R w)
    (hK : ∀ q w', Has st (sep (row E 1 (.slice (some ⟨q, 0, none⟩) 0 0) 0 []) R) w' → K (a.put o.dst (.slice (some ⟨q, 0, none⟩) 0 0)) w') : o.wp P a w K Q := by
  obtain ⟨i, hi0, hi1⟩ : ∃ i, P.info? E = some i ∧ i.size = 1 := by
    cases hp : P.info? E with
    | none => rw [hp] at hs; cases hs
    | some i => rw [hp] at hs; simp at hs; exact ⟨i, rfl, hs⟩
  have hr : (Instr.buildSlice t 0 #[]).run P w = .ok (.slice (some ⟨w.heap.size, 0, none⟩) 0 0) (w.alloc (.cells #[] E)) := by
    simp [Instr.buildSlice, run_underlying ht, sizeOf, typeInfo, hi0, Instr.fill, newRow, Sem.run_bind, go_sem]
  have hx : (execOp a.eval o).run P w = .ok (.value (.slice (some ⟨w.heap.size, 0, none⟩) 0 0)) (w.alloc (.cells #[] E)) := by
    unfold execOp
    simp only [ho, Sem.run_bind]
    rw [show (#[] : Array (Nat × Operand)).map (fun (p : Nat × Operand) => (p.1, a.eval p.2)) = #[] from by simp, hr]
    rfl
  unfold Oper.wp
  rw [hx]
  exact hK _ _ (Has.row_of_blk (cur := #[]) (h.alloc _) 1 0 0 (Nat.le_refl _) (Nat.zero_le _) rfl rfl)
end Go.Sl
namespace Go.Proofs.Ytbiacehmfbopfaa
open Go.RowKit Go.Sl Go.Crc
set_option linter.unusedVariables false
set_option linter.unusedSimpArgs false
theorem not_xor3 (x y z : UInt32) : ~~~ (x ^^^ y ^^^ z) = (~~~ x) ^^^ (~~~ y) ^^^ (~~~ z) := by
  have e : ∀ x : UInt32, ~~~ x = x ^^^ 4294967295 := fun x => by
    have h := not_xor_self x
    have h2 : x ^^^ (x ^^^ ~~~ x) = x ^^^ 4294967295 := by rw [h]
    rwa [← UInt32.xor_assoc, UInt32.xor_self, UInt32.zero_xor] at h2
  rw [e, e x, e y, e z]
  have h3 : (4294967295 : UInt32) ^^^ 4294967295 = 0 := by decide
  have : x ^^^ 4294967295 ^^^ (y ^^^ 4294967295) ^^^ (z ^^^ 4294967295) = x ^^^ y ^^^ z ^^^ (4294967295 ^^^ (4294967295 ^^^ 4294967295)) := by ac_rfl
  rw [this, h3, UInt32.xor_zero]
theorem xor_noughts : ∀ (a : List UInt8), List.zipWith (· ^^^ ·) a (List.replicate a.length 0) = a := by
  intro a
  induction a with
  | nil => rfl
  | cons x a ih => simp [List.replicate_succ, ih]
theorem crc_xor (a b : List UInt8) (h : a.length = b.length) : crc (List.zipWith (· ^^^ ·) a b) = crc a ^^^ crc b ^^^ crc (List.replicate a.length 0) := by
  unfold crc
  rw [← not_xor3]
  congr 1
  have h1 := crcS_xor a b 4294967295 0 h
  have h2 := crcS_xor b (List.replicate a.length 0) 0 4294967295 (by rw [List.length_replicate, h])
  have h3 := crcS_xor b (List.replicate b.length 0) 4294967295 4294967295 (by rw [List.length_replicate])
  rw [xor_noughts, show (4294967295 : UInt32) ^^^ 4294967295 = 0 by decide] at h3
  rw [UInt32.xor_zero] at h1
  rw [h1, h3, h, UInt32.xor_assoc]
theorem crc_whole (a : List UInt8) : crc (a ++ le (crc a).toNat 4) = crc [0, 0, 0, 0] := by
  unfold crc
  congr 1
  have h := crcS_sealed a
  unfold crc at h
  rw [h]
  have h2 := crcS_le4 4294967295 0
  rw [UInt32.xor_zero] at h2
  rw [← h2]
  rfl
theorem conv_byte (X : UInt32) (j : Nat) : IntKind.u8.wrap ((X.toNat / 256 ^ j : Nat) : Int) = ((UInt8.ofNat (X.toNat / 256 ^ j)).toNat : Int) := by
  rw [UInt8.toNat_ofNat']
  simp [IntKind.wrap, IntKind.signed, IntKind.bits]
def XorI (st : World) (R : HProp) (X : List UInt8) (v6 v34 : Value) (w : World) : Prop := ∃ (i : Nat) (A : Option Addr) (c : Nat), i ≤ X.length ∧ v34 = .int .i64 ((i : Nat) : Int) ∧ v6 = .slice A i c ∧ Has st (sep (row 5 1 (.slice A i c) i (bcells (X.take i))) R) w
set_option maxRecDepth 100000 in
set_option maxHeartbeats 4000000 in
theorem sums_law (st : World) (R : HProp) (la : List UInt8) (A : Option Addr) (ca : Nat) (hsa : Sees st R 1 (.slice A la.length ca) la.length (bcells la)) (lb : List UInt8) (B : Option Addr) (cb : Nat) (hsb : Sees st R 1 (.slice B lb.length cb) lb.length (bcells lb)) (w : World) (h : Has st R w) :
    Calls Try.prog 8 #[.slice A la.length ca, .slice B lb.length cb] w fun e w' => e = .returned (.bool true) ∧ Has st R w' := by
  obtain ⟨Φ0, e0⟩ : ∃ X, X = R := ⟨_, rfl⟩
  rw [← e0] at h hsa hsb ⊢
  clear e0
  have hac := (hsa w h).le
  have hbc := (hsb w h).le
  have C0 := Lib.hid h
  have SA := Lib.hid hsa
  have SB := Lib.hid hsb
  clear h hsa hsb
  by_cases h3a : la.length ≤ 300
  · have HZ1 : Hid (cmpZ .gtr (la.length : Int) 300 = some false) := Lib.hid (by simp only [cmpZ]; simp; omega)
    by_cases h3b : lb.length ≤ 300
    · have HZ2 : Hid (cmpZ .gtr (lb.length : Int) 300 = some false) := Lib.hid (by simp only [cmpZ]; simp; omega)
      obtain ⟨N, hN⟩ : ∃ N, N = min la.length lb.length := ⟨_, rfl⟩
      have hNa : N ≤ la.length := by omega
      have hNb : N ≤ lb.length := by omega
      have hmin : (if (la.length : Int) ≤ (lb.length : Int) then (la.length : Int) else (lb.length : Int)) = (N : Int) := by rw [hN]; split <;> omega
      have HMIN := Lib.hid hmin
      obtain ⟨P, hP⟩ : ∃ P, P = la.take N := ⟨_, rfl⟩
      obtain ⟨Q, hQ⟩ : ∃ Q, Q = lb.take N := ⟨_, rfl⟩
      have hPl : P.length = N := by rw [hP, List.length_take]; omega
      have hQl : Q.length = N := by rw [hQ, List.length_take]; omega
      obtain ⟨X, hX⟩ : ∃ X, X = List.zipWith (· ^^^ ·) P Q := ⟨_, rfl⟩
      have hXl : X.length = N := by rw [hX, List.length_zipWith, hPl, hQl, Nat.min_self]
      obtain ⟨s, hs⟩ : ∃ s, s = crc P := ⟨_, rfl⟩
      obtain ⟨t, ht⟩ : ∃ t, t = crc Q := ⟨_, rfl⟩
      obtain ⟨y, hy⟩ : ∃ y, y = crc (List.replicate N 0) := ⟨_, rfl⟩
      obtain ⟨x, hx⟩ : ∃ x, x = crc X := ⟨_, rfl⟩
      obtain ⟨D, hD⟩ : ∃ D, D = P ++ le s.toNat 4 := ⟨_, rfl⟩
      obtain ⟨d, hd⟩ : ∃ d, d = crc D := ⟨_, rfl⟩
      have hxs : x = s ^^^ t ^^^ y := by rw [hx, hX, hs, ht, hy, crc_xor P Q (by rw [hPl, hQl]), hPl]
      have hd0 : crc [0, 0, 0, 0] = d := by rw [hd, hD, hs]; exact (crc_whole P).symm
      have HCP : Hid (∀ v w, Rd 1 w v N (bcells P) → Calls Try.prog 13 #[v] w fun e w' => e = .returned (.int .u32 (s.toNat : Int)) ∧ w = w') := Lib.hid fun v w h => by rw [hs]; exact crc_any P v w (by rw [hPl]; exact h)
      have HCQ : Hid (∀ v w, Rd 1 w v N (bcells Q) → Calls Try.prog 13 #[v] w fun e w' => e = .returned (.int .u32 (t.toNat : Int)) ∧ w = w') := Lib.hid fun v w h => by rw [ht]; exact crc_any Q v w (by rw [hQl]; exact h)
      have HCX : Hid (∀ v w, Rd 1 w v N (bcells X) → Calls Try.prog 13 #[v] w fun e w' => e = .returned (.int .u32 (x.toNat : Int)) ∧ w = w') := Lib.hid fun v w h => by rw [hx]; exact crc_any X v w (by rw [hXl]; exact h)
      have HCZ : Hid (∀ v w, Rd 1 w v N (bcells (List.replicate N 0)) → Calls Try.prog 13 #[v] w fun e w' => e = .returned (.int .u32 (y.toNat : Int)) ∧ w = w') := Lib.hid fun v w h => by rw [hy]; exact crc_any (List.replicate N 0) v w (by rw [List.length_replicate]; exact h)
      have HCD : Hid (∀ v w, Rd 1 w v D.length (bcells D) → Calls Try.prog 13 #[v] w fun e w' => e = .returned (.int .u32 (d.toNat : Int)) ∧ w = w') := Lib.hid fun v w h => by rw [hd]; exact crc_any D v w h
      have HC4 : Hid (∀ v w, Rd 1 w v 4 (bcells [0, 0, 0, 0]) → Calls Try.prog 13 #[v] w fun e w' => e = .returned (.int .u32 (d.toNat : Int)) ∧ w = w') := Lib.hid fun v w h => by rw [← hd0]; exact crc_any [0, 0, 0, 0] v w h
      have hXn : ∀ i, i < N → X.take (i + 1) = X.take i ++ [(P.getD i 0) ^^^ (Q.getD i 0)] := fun i hi => by
        rw [List.take_succ_eq_append_getElem (by omega)]
        congr 2
        simp only [hX, List.getElem_zipWith]
        rw [List.getD_eq_getElem?_getD, List.getD_eq_getElem?_getD, List.getElem?_eq_getElem (by omega), List.getElem?_eq_getElem (by omega)]; rfl
      have HXN := Lib.hid hXn
      have HXS := Lib.hid hxs
      have HXL := Lib.hid hXl
      have HPL := Lib.hid hPl
      have HQL := Lib.hid hQl
      have HPP := Lib.hid hP
      have HQQ := Lib.hid hQ
      have HDD := Lib.hid hD
      have hDl : D.length = N + 4 := by rw [hD, List.length_append, hPl, le_length]
      have HDL := Lib.hid hDl
      have hN300 : N ≤ 300 := by omega
      have HAPD : Hid (bcells P ++ bcells (le s.toNat 4) = bcells D) := Lib.hid (by rw [hD]; exact bcells_append _ _)
      have v0 := conv_byte s 0
      have v1 := conv_byte s 1
      have v2 := conv_byte s 2
      have v3 := conv_byte s 3
      have u1 : shZ .shr .u32 (s.toNat : Int) 8 = some ((s.toNat / 256 ^ 1 : Nat) : Int) := sh_r .u32 s.toNat 8 (by decide)
      have u2 : shZ .shr .u32 (s.toNat : Int) 16 = some ((s.toNat / 256 ^ 2 : Nat) : Int) := sh_r .u32 s.toNat 16 (by decide)
      have u3 : shZ .shr .u32 (s.toNat : Int) 24 = some ((s.toNat / 256 ^ 3 : Nat) : Int) := sh_r .u32 s.toNat 24 (by decide)
      rw [Nat.pow_zero, Nat.div_one] at v0
      obtain ⟨k0, hk0⟩ : ∃ k, k = UInt8.ofNat (s.toNat / 256 ^ 0) := ⟨_, rfl⟩
      obtain ⟨k1, hk1⟩ : ∃ k, k = UInt8.ofNat (s.toNat / 256 ^ 1) := ⟨_, rfl⟩
      obtain ⟨k2, hk2⟩ : ∃ k, k = UInt8.ofNat (s.toNat / 256 ^ 2) := ⟨_, rfl⟩
      obtain ⟨k3, hk3⟩ : ∃ k, k = UInt8.ofNat (s.toNat / 256 ^ 3) := ⟨_, rfl⟩
      obtain ⟨m1, hm1⟩ : ∃ m, m = s.toNat / 256 ^ 1 := ⟨_, rfl⟩
      obtain ⟨m2, hm2⟩ : ∃ m, m = s.toNat / 256 ^ 2 := ⟨_, rfl⟩
      obtain ⟨m3, hm3⟩ : ∃ m, m = s.toNat / 256 ^ 3 := ⟨_, rfl⟩
      have hle : le s.toNat 4 = [k0, k1, k2, k3] := by rw [hk0, hk1, hk2, hk3]; rfl
      rw [← hk1, ← hm1] at v1
      rw [← hk2, ← hm2] at v2
      rw [← hk3, ← hm3] at v3
      rw [← hm1] at u1
      rw [← hm2] at u2
      rw [← hm3] at u3
      have v0' : IntKind.u8.wrap (s.toNat : Int) = (k0.toNat : Int) := by rw [hk0, Nat.pow_zero, Nat.div_one]; exact v0
      have V0 := Lib.hid v0'
      have V1 := Lib.hid v1
      have V2 := Lib.hid v2
      have V3 := Lib.hid v3
      have W1 := Lib.hid u1
      have W2 := Lib.hid u2
      have W3 := Lib.hid u3
      have HLE := Lib.hid hle
      clear hN hmin hP hQ hPl hQl hX hXl hs ht hy hx hD hd hxs hd0 hXn hDl v0 v0' v1 v2 v3 u1 u2 u3 hk0 hk1 hk2 hk3 hm1 hm2 hm3 hle
      go_enter Try.func8, Try.ntmps8
      go_wp2_with (first
        | (have _k := C0; go_at_call 9; refine (alive_any st Φ0 _ C0.out).mono ?_; rintro e w9 ⟨rfl, h9⟩; obtain ⟨Φ1, e1⟩ : ∃ X : HProp, X = Φ0 := ⟨_, rfl⟩; rw [← e1] at h9; have U1 : Hid (∀ w, Has st Φ1 w → Has st Φ0 w) := Lib.hid (by rw [e1]; exact fun w h => h); have C1 := Lib.hid h9; clear h9 e1)
        | ((first | (with_reducible refine wpList_plain rfl ?_) | ((with_reducible refine wpList_yes _ _ rfl ?_ ?_); (focus rfl))); intro _ hk; (first
          | (refine opw_len _ _ _ Try.underlying22 A la.length ca rfl rfl (hk _ _ ?_))
          | (refine opw_len _ _ _ Try.underlying22 B lb.length cb rfl rfl (hk _ _ ?_))
          | (refine opw_cmp .gtr _ _ _ _ .i64 (la.length : Int) 300 false rfl rfl rfl HZ1.out (hk _ _ ?_))
          | (refine opw_cmp .gtr _ _ _ _ .i64 (lb.length : Int) 300 false rfl rfl rfl HZ2.out (hk _ _ ?_))
          | (refine opw_min _ _ _ (la.length : Int) (lb.length : Int) (N : Int) rfl rfl rfl HMIN.out (hk _ _ ?_))); simp only [Act.put, List.setIfInBounds_toArray, List.set_cons_zero, List.set_cons_succ]))
      refine wp_region_inv3 (fun L u w' => Slots (fun kk => ([some (.slice A la.length ca), some (.int .i64 ((N : Nat) : Int)), some (.slice (subA 1 A 0 ca) N ca), some (.slice B lb.length cb), some (.int .i64 ((N : Nat) : Int)), some (.slice (subA 1 B 0 cb) N cb), some (.slice (subA 1 A 0 ca) N ca), some (.slice (subA 1 B 0 cb) N cb)] : List (Option Value)).getD kk none) L u ∧ Has st Φ1 w') (by kernel_rfl) (by decide +kernel) (by decide +kernel) (by kernel_rfl) (by kernel_rfl) (fun u => ⟨Slots.start _ u, C1.out.drew⟩) ?_ ?_
      · refine ⟨?_, ?_, ?_, ?_, ?_, ?_, ?_, ?_, trivial⟩
        · refine RegStep3.plain rfl ?_; rintro L u w1 bA hL hW hD hU ⟨hS, hH⟩ hin hout; exact opw_move _ _ (.inl rfl) ((hin 6 0 rfl).trans ((hU 6 _ _ rfl rfl (hD.nots 8 6 0 hL (by decide +kernel))).trans (by kernel_rfl))) ⟨_, rfl, hS.step 0 _ (.inr rfl), hH⟩
        · refine RegStep3.plain rfl ?_; rintro L u w1 bA hL hW hD hU ⟨hS, hH⟩ hin hout; exact opw_move _ _ (.inl rfl) ((hout 5 (by kernel_rfl)).trans (by kernel_rfl)) ⟨_, rfl, hS.step 1 _ (.inr rfl), hH⟩
        · refine RegStep3.plain rfl ?_; rintro L u w1 bA hL hW hD hU ⟨hS, hH⟩ hin hout; exact opw_slH 22 5 _ _ rfl Try.underlying22 sizeB A la.length ca ((hin 0 25 rfl).trans (hS 0 _ rfl (hW.of 0 (by decide)))) hac .i64 N ((hin 1 26 rfl).trans (hS 1 _ rfl (hW.of 1 (by decide)))) hNa ⟨_, rfl, hS.step 2 _ (.inr rfl), hH⟩
        · refine RegStep3.plain rfl ?_; rintro L u w1 bA hL hW hD hU ⟨hS, hH⟩ hin hout; exact opw_move _ _ (.inl rfl) ((hin 7 1 rfl).trans ((hU 7 _ _ rfl rfl (hD.nots 8 7 3 hL (by decide +kernel))).trans (by kernel_rfl))) ⟨_, rfl, hS.step 3 _ (.inr rfl), hH⟩
        · refine RegStep3.plain rfl ?_; rintro L u w1 bA hL hW hD hU ⟨hS, hH⟩ hin hout; exact opw_move _ _ (.inl rfl) ((hout 5 (by kernel_rfl)).trans (by kernel_rfl)) ⟨_, rfl, hS.step 4 _ (.inr rfl), hH⟩
        · refine RegStep3.plain rfl ?_; rintro L u w1 bA hL hW hD hU ⟨hS, hH⟩ hin hout; exact opw_slH 22 5 _ _ rfl Try.underlying22 sizeB B lb.length cb ((hin 3 28 rfl).trans (hS 3 _ rfl (hW.of 3 (by decide)))) hbc .i64 N ((hin 4 29 rfl).trans (hS 4 _ rfl (hW.of 4 (by decide)))) hNb ⟨_, rfl, hS.step 5 _ (.inr rfl), hH⟩
        · refine RegStep3.plain rfl ?_; rintro L u w1 bA hL hW hD hU ⟨hS, hH⟩ hin hout; exact opw_move _ _ (.inr rfl) ((hin 2 27 rfl).trans (hS 2 _ rfl (hW.of 2 (by decide)))) ⟨_, rfl, hS.step 6 _ (.inr rfl), hH⟩
        · refine RegStep3.plain rfl ?_; rintro L u w1 bA hL hW hD hU ⟨hS, hH⟩ hin hout; exact opw_move _ _ (.inr rfl) ((hin 5 30 rfl).trans (hS 5 _ rfl (hW.of 5 (by decide)))) ⟨_, rfl, hS.step 7 _ (.inr rfl), hH⟩
      intro L u wD hL ⟨hS, hH⟩
      have E6 := hS 6 _ rfl (hL 6 (by decide))
      have E7 := hS 7 _ rfl (hL 7 (by decide))
      simp only [frame_cons, frame_nil, E6, E7, Act.put, List.setIfInBounds_toArray, List.set_cons_zero, List.set_cons_succ]
      have HD := Lib.hid hH
      clear hL hS hH E6 E7
      have SP : Hid (Sees st Φ1 1 (.slice (subA 1 A 0 ca) N ca) N (bcells P)) := Lib.hid (by rw [HPP.out]; exact (SA.out.widen (fun w h => (U1.out _ h))).takeB N hNa)
      have SQ : Hid (Sees st Φ1 1 (.slice (subA 1 B 0 cb) N cb) N (bcells Q)) := Lib.hid (by rw [HQQ.out]; exact (SB.out.widen (fun w h => (U1.out _ h))).takeB N hNb)
      go_wp2_with (first
        | (fail)
        | ((first | (with_reducible refine wpList_plain rfl ?_) | ((with_reducible refine wpList_yes _ _ rfl ?_ ?_); (focus rfl))); intro _ hk; (first
          | (refine opw_lit0 22 5 rfl Try.underlying22 sizeB HD.out (fun q w3 h3 => hk _ _ ?_); have H3 := Lib.hid h3; clear h3)
          | (refine opw_len _ _ _ Try.underlying22 (subA 1 A 0 ca) N ca rfl rfl (hk _ _ ?_))); simp only [Act.put, List.setIfInBounds_toArray, List.set_cons_zero, List.set_cons_succ]))
      go_loopw [6, 34] (XorI st Φ1 X) (fun _ v34 _ => N - (intOf v34).toNat)
      case atStart => exact ⟨0, _, _, Nat.zero_le _, rfl, rfl, H3.out⟩
      case round =>
        obtain ⟨i, A6, c6, hi, rfl, rfl, h4⟩ := hrel
        rw [HXL.out] at hi
        have H4 := Lib.hid h4
        clear h4
        by_cases hlt : i < N
        · obtain ⟨b1, o1, hA, _⟩ := (SP.out _ H4.out.right).at (by omega)
          obtain ⟨b2, o2, hB, _⟩ := (SQ.out _ H4.out.right).at (by omega)
          obtain ⟨p, hp⟩ : ∃ p, p = P.getD i 0 := ⟨_, rfl⟩
          obtain ⟨q', hq⟩ : ∃ q, q = Q.getD i 0 := ⟨_, rfl⟩
          have hxn := HXN.out i hlt
          rw [← hp, ← hq] at hxn
          have g1 : (bcells P)[i]? = some (.int .u8 (p.toNat : Int)) := by rw [hp]; exact bgetD (by rw [HPL.out]; exact hlt)
          have g2 : (bcells Q)[i]? = some (.int .u8 (q'.toNat : Int)) := by rw [hq]; exact bgetD (by rw [HQL.out]; exact hlt)
          have SP' := SP.out
          have SQ' := SQ.out
          rw [hA] at SP'
          rw [hB] at SQ'
          have HCA : Hid (∀ w, Has st Φ1 w → w.cell? ⟨b1, o1 + i, none⟩ = some (.int .u8 (p.toNat : Int))) := Lib.hid fun w h => (SP' w h).cell g1
          have HCB : Hid (∀ w, Has st Φ1 w → w.cell? ⟨b2, o2 + i, none⟩ = some (.int .u8 (q'.toNat : Int))) := Lib.hid fun w h => (SQ' w h).cell g2
          have HXX := Lib.hid hxn
          have HAA := Lib.hid hA
          have HBB := Lib.hid hB
          clear hp hq hxn g1 g2 SP' SQ' hA hB
          go_wp2_with (first
            | (fail)
            | ((first | (with_reducible refine wpList_plain rfl ?_) | ((with_reducible refine wpList_yes _ _ rfl ?_ ?_); (focus rfl))); intro _ hk; (first
              | (fail)); simp only [Act.put, List.setIfInBounds_toArray, List.set_cons_zero, List.set_cons_succ]))
          refine wp_region_inv3 (fun L u w' => Slots (fun kk => ([some (.slice A6 i c6), some (.slice (subA 1 A 0 ca) N ca), some (.int .i64 ((i : Nat) : Int)), some (.pointer (some ⟨b1, o1 + i, none⟩)), some (.int .u8 ((p).toNat : Int)), some (.slice (subA 1 B 0 cb) N cb), some (.int .i64 ((i : Nat) : Int)), some (.pointer (some ⟨b2, o2 + i, none⟩)), some (.int .u8 ((q').toNat : Int)), some (.int .u8 (((p ^^^ q')).toNat : Int)), none, none, none] : List (Option Value)).getD kk none) L u ∧ TailI st 5 (.slice A6 i c6) i (bcells (X.take i)) (.int .u8 ((p ^^^ q').toNat : Int)) Φ1 10 11 12 L u w') (by kernel_rfl) (by decide +kernel) (by decide +kernel) (by kernel_rfl) (by kernel_rfl) (fun u => ⟨Slots.start _ u, TailI.start H4.out.drew u⟩) ?_ ?_
          · refine ⟨?_, ?_, ?_, ?_, ?_, ?_, ?_, ?_, ?_, ?_, ?_, ?_, ?_, trivial⟩
            · refine RegStep3.plain rfl ?_; rintro L u w1 bA hL hW hD hU ⟨hS, hH⟩ hin hout; exact opw_move _ _ (.inl rfl) ((hin 12 6 rfl).trans ((hU 12 _ _ rfl rfl (hD.nots 13 12 0 hL (by decide +kernel))).trans (by kernel_rfl))) ⟨_, rfl, hS.step 0 _ (.inr rfl), hH.pure 0 _ (by decide)⟩
            · refine RegStep3.plain rfl ?_; rintro L u w1 bA hL hW hD hU ⟨hS, hH⟩ hin hout; exact opw_move _ _ (.inl rfl) ((hout 0 (by kernel_rfl)).trans (by kernel_rfl)) ⟨_, rfl, hS.step 1 _ (.inr rfl), hH.pure 1 _ (by decide)⟩
            · refine RegStep3.plain rfl ?_; rintro L u w1 bA hL hW hD hU ⟨hS, hH⟩ hin hout; exact opw_move _ _ (.inl rfl) ((hout 7 (by kernel_rfl)).trans (by kernel_rfl)) ⟨_, rfl, hS.step 2 _ (.inr rfl), hH.pure 2 _ (by decide)⟩
            · refine RegStep3.plain rfl ?_; rintro L u w1 bA hL hW hD hU ⟨hS, hH⟩ hin hout; exact opw_indexSl 22 5 _ _ rfl Try.underlying22 sizeB b1 o1 N ca i (((hin 1 38 rfl).trans (hS 1 _ rfl (hW.of 1 (by decide)))).trans (by rw [HAA.out])) .i64 ((hin 2 39 rfl).trans (hS 2 _ rfl (hW.of 2 (by decide)))) hlt ⟨_, rfl, hS.step 3 _ (.inr rfl), hH.pure 3 _ (by decide)⟩
            · refine RegStep3.plain rfl ?_; rintro L u w1 bA hL hW hD hU ⟨hS, hH⟩ hin hout; exact opw_load1 _ _ rfl _ Try.underlying5 rfl _ _ ((hin 3 40 rfl).trans (hS 3 _ rfl (hW.of 3 (by decide)))) (HCA.out _ ((hH.at hD 13 4 hL (by decide +kernel) (by decide +kernel) (by decide +kernel)).right)) ⟨_, rfl, hS.step 4 _ (.inr rfl), hH.pure 4 _ (by decide)⟩
            · refine RegStep3.plain rfl ?_; rintro L u w1 bA hL hW hD hU ⟨hS, hH⟩ hin hout; exact opw_move _ _ (.inl rfl) ((hout 1 (by kernel_rfl)).trans (by kernel_rfl)) ⟨_, rfl, hS.step 5 _ (.inr rfl), hH.pure 5 _ (by decide)⟩
            · refine RegStep3.plain rfl ?_; rintro L u w1 bA hL hW hD hU ⟨hS, hH⟩ hin hout; exact opw_move _ _ (.inl rfl) ((hout 7 (by kernel_rfl)).trans (by kernel_rfl)) ⟨_, rfl, hS.step 6 _ (.inr rfl), hH.pure 6 _ (by decide)⟩
            · refine RegStep3.plain rfl ?_; rintro L u w1 bA hL hW hD hU ⟨hS, hH⟩ hin hout; exact opw_indexSl 22 5 _ _ rfl Try.underlying22 sizeB b2 o2 N cb i (((hin 5 42 rfl).trans (hS 5 _ rfl (hW.of 5 (by decide)))).trans (by rw [HBB.out])) .i64 ((hin 6 43 rfl).trans (hS 6 _ rfl (hW.of 6 (by decide)))) hlt ⟨_, rfl, hS.step 7 _ (.inr rfl), hH.pure 7 _ (by decide)⟩
            · refine RegStep3.plain rfl ?_; rintro L u w1 bA hL hW hD hU ⟨hS, hH⟩ hin hout; exact opw_load1 _ _ rfl _ Try.underlying5 rfl _ _ ((hin 7 44 rfl).trans (hS 7 _ rfl (hW.of 7 (by decide)))) (HCB.out _ ((hH.at hD 13 8 hL (by decide +kernel) (by decide +kernel) (by decide +kernel)).right)) ⟨_, rfl, hS.step 8 _ (.inr rfl), hH.pure 8 _ (by decide)⟩
            · refine RegStep3.plain rfl ?_; rintro L u w1 bA hL hW hD hU ⟨hS, hH⟩ hin hout; exact opw_bits .xor _ _ _ _ .u8 _ _ _ (.inr (.inr rfl)) rfl ((hin 4 41 rfl).trans (hS 4 _ rfl (hW.of 4 (by decide)))) ((hin 8 45 rfl).trans (hS 8 _ rfl (hW.of 8 (by decide)))) (xor8 _ _) ⟨_, rfl, hS.step 9 _ (.inr rfl), hH.pure 9 _ (by decide)⟩
            · refine RegStep3.plain rfl ?_; rintro L u w1 bA hL hW hD hU ⟨hS, hH⟩ hin hout; exact hH.lit hS rfl hL (hD.nots 1 11 10 hL (by decide +kernel)) (hD.nots 2 12 10 hL (by decide +kernel)) (by decide) _ _ rfl ((hin 9 46 rfl).trans (hS 9 _ rfl (hW.of 9 (by decide)))) (by kernel_rfl)
            · refine RegStep3.plain rfl ?_; rintro L u w1 bA hL hW hD hU ⟨hS, hH⟩ hin hout; exact hH.app hS rfl (hW.of 10 (by decide)) hL (hD.nots 1 12 11 hL (by decide +kernel)) (by decide) _ _ _ _ _ rfl Try.underlying22 infoB rfl ((hin 0 37 rfl).trans (hS 0 _ rfl (hW.of 0 (by decide)))) (hin 10 47 rfl) rfl (by unfold maxLen; omega) (by omega)
            · refine RegStep3.plain rfl ?_; rintro L u w1 bA hL hW hD hU ⟨hS, hH⟩ hin hout; exact hH.asg hS rfl (hW.of 11 (by decide)) hL _ rfl (hin 11 48 rfl)
          intro L u w8 hL ⟨hS, hH⟩
          obtain ⟨A8, c8, hu12, h8⟩ := hH.done (hL 12 (by decide))
          simp only [frame_cons, frame_nil, hu12, Act.put, List.setIfInBounds_toArray, List.set_cons_zero, List.set_cons_succ]
          have H8 := Lib.hid h8
          clear hL hS hH hu12 h8
          go_wp2
          go_roundw
          case rel =>
            have hrel2 : XorI st Φ1 X (.slice A8 (i + 1) c8) (.int .i64 ((i : Int) + 1)) w8 := ⟨i + 1, A8, c8, by rw [HXL.out]; omega, by go_num, rfl, by
              rw [HXX.out, ← bcells_append]; exact H8.out⟩
            first | exact hrel2 | ((repeat apply Exists.intro); exact ⟨hrel2, rfl⟩)
          case measure => simp [intOf]; omega
        · obtain rfl : i = N := by omega
          have hX0 : X.take i = X := List.take_of_length_le (by rw [HXL.out]; exact Nat.le_refl _)
          obtain ⟨Φ2, e2⟩ : ∃ Y, Y = sep (row 5 1 (.slice A6 i c6) i (bcells X)) Φ1 := ⟨_, rfl⟩
          have h5 := H4.out
          rw [hX0, ← e2] at h5
          have U2 : Hid (∀ w, Has st Φ2 w → Has st Φ1 w) := Lib.hid (by rw [e2]; exact fun w h => h.right)
          have SX : Hid (Sees st Φ2 1 (.slice A6 i c6) i (bcells X)) := Lib.hid (by rw [e2]; exact sees_row st _ 1 _ _ _ _)
          have C2 := Lib.hid h5
          clear h5 e2 hX0 H4
          go_wp2_with (first
            | (go_at_call 13; refine (HCP.out _ _ (SP.out _ (U2.out _ C2.out))).mono ?_; rintro e w9 ⟨rfl, rfl⟩)
            | (have _k := H7; refine wp_append (v := .slice A6' i c6') rfl _ _ 22 5 1 1 (.int .u8 0) rfl Try.underlying22 infoB rfl (by decide) rfl rfl H7.out.second (rd_bytes (l := le s.toNat 4) (by rw [HLE.out]; exact H7.out) (by rw [le_length]; decide)) (bcells_one _) (by rw [le_length]; unfold maxLen; omega) (by rw [le_length]; omega) ?_; intro Ad cd w8 h8 _; rw [HAPD.out, le_length, ← HDL.out] at h8; rw [le_length, ← HDL.out]; have H8 := Lib.hid h8.drop2; clear h8)
            | (have _k := H5; refine wp_append (v := .slice (some ⟨q5, 0, none⟩) 0 0) rfl _ _ 22 5 1 1 (.int .u8 0) rfl Try.underlying22 infoB rfl (by decide) rfl rfl H5.out (by have := SP.out _ (U2.out _ H5.out.right); exact this) (bcells_one P) (by rw [Nat.zero_add]; unfold maxLen; omega) (by omega) ?_; intro A6' c6' w6 h6 _; rw [Nat.zero_add, List.nil_append] at h6; rw [Nat.zero_add]; have H6 := Lib.hid h6; clear h6 H5)
            | ((first | (with_reducible refine wpList_plain rfl ?_) | ((with_reducible refine wpList_yes _ _ rfl ?_ ?_); (focus rfl))); intro _ hk; (first
              | (have _k := H6; refine opw_lit 22 4 _ [(0, .int .u8 (k0.toNat : Int)), (1, .int .u8 (k1.toNat : Int)), (2, .int .u8 (k2.toNat : Int)), (3, .int .u8 (k3.toNat : Int))] 5 (bcells [k0, k1, k2, k3]).toArray rfl rfl (by kernel_rfl) H6.out (fun q7 w7 h7 => hk _ _ ?_); have H7 := Lib.hid h7; clear h7)
              | (refine opw_lit0 22 5 rfl Try.underlying22 sizeB C2.out (fun q5 w5 h5 => hk _ _ ?_); have H5 := Lib.hid h5; clear h5)
              | (refine opw_conv _ _ _ .u32 .u8 (s.toNat : Int) (k0.toNat : Int) rfl Try.underlying30 Try.underlying5 rfl V0.out (hk _ _ ?_))
              | (refine opw_shift .shr _ _ _ _ .u32 .u64 (s.toNat : Int) 8 (m1 : Int) rfl rfl rfl W1.out (hk _ _ ?_))
              | (refine opw_conv _ _ _ .u32 .u8 (m1 : Int) (k1.toNat : Int) rfl Try.underlying30 Try.underlying5 rfl V1.out (hk _ _ ?_))
              | (refine opw_shift .shr _ _ _ _ .u32 .u64 (s.toNat : Int) 16 (m2 : Int) rfl rfl rfl W2.out (hk _ _ ?_))
              | (refine opw_conv _ _ _ .u32 .u8 (m2 : Int) (k2.toNat : Int) rfl Try.underlying30 Try.underlying5 rfl V2.out (hk _ _ ?_))
              | (refine opw_shift .shr _ _ _ _ .u32 .u64 (s.toNat : Int) 24 (m3 : Int) rfl rfl rfl W3.out (hk _ _ ?_))
              | (refine opw_conv _ _ _ .u32 .u8 (m3 : Int) (k3.toNat : Int) rfl Try.underlying30 Try.underlying5 rfl V3.out (hk _ _ ?_))); simp only [Act.put, List.setIfInBounds_toArray, List.set_cons_zero, List.set_cons_succ]))
          obtain ⟨Φ3, e3⟩ : ∃ Y, Y = sep (row 5 1 (.slice Ad D.length cd) D.length (bcells D)) Φ2 := ⟨_, rfl⟩
          have h9 := H8.out
          rw [← e3] at h9
          have U3 : Hid (∀ w, Has st Φ3 w → Has st Φ2 w) := Lib.hid (by rw [e3]; exact fun w h => h.right)
          have SD : Hid (Sees st Φ3 1 (.slice Ad D.length cd) D.length (bcells D)) := Lib.hid (by rw [e3]; exact sees_row st _ 1 _ _ _ _)
          have C3 := Lib.hid h9
          clear h9 e3 H8
          obtain ⟨y1, hy1⟩ : ∃ y1, y1 = s ^^^ t := ⟨_, rfl⟩
          have hxe : x = y1 ^^^ y := by rw [hy1]; exact HXS.out
          have HXE := Lib.hid hxe
          have HY1 := Lib.hid hy1
          clear hxe hy1
          refine wp_region_inv3 (fun L u w' => Slots (fun kk => ([some (.slice A6 i c6), some (.int .u32 ((x).toNat : Int)), some (.int .u32 ((s).toNat : Int)), some (.slice (subA 1 B 0 cb) i cb), some (.int .u32 ((t).toNat : Int)), some (.int .u32 ((y1).toNat : Int)), some (.int .i64 ((i : Nat) : Int)), none, some (.int .u32 ((y).toNat : Int)), some (.int .u32 ((x).toNat : Int)), some (.bool true), some (.bool true), some (.slice Ad D.length cd), some (.int .u32 ((d).toNat : Int)), none, some (.int .u32 ((d).toNat : Int)), some (.bool true), some (.bool true), some (.bool true)] : List (Option Value)).getD kk none) L u ∧ Has st (sep (vlit (L 7) (u 7) (bcells (List.replicate i 0)).toArray i 5) (sep (vlit (L 14) (u 14) (bcells [0, 0, 0, 0]).toArray 4 5) Φ3)) w') (by kernel_rfl) (by decide +kernel) (by decide +kernel) (by kernel_rfl) (by kernel_rfl) (fun u => ⟨Slots.start _ u, C3.out.drew.vlit_no.vlit_no⟩) ?_ ?_
          · refine ⟨?_, ?_, ?_, ?_, ?_, ?_, ?_, ?_, ?_, ?_, ?_, ?_, ?_, ?_, ?_, ?_, ?_, ?_, ?_, trivial⟩
            · refine RegStep3.plain rfl ?_; rintro L u w1 bA hL hW hD hU ⟨hS, hH⟩ hin hout; exact opw_move _ _ (.inl rfl) ((hout 6 (by kernel_rfl)).trans (by kernel_rfl)) ⟨_, rfl, hS.step 0 _ (.inr rfl), hH⟩
            · refine RegStep3.plain rfl ?_; rintro L u w1 bA hL hW hD hU ⟨hS, hH⟩ hin hout; exact opw_call_ret _ _ _ [(.slice A6 i c6)] rfl (by kernel_rfl) (list2 ((hin 0 68 rfl).trans (hS 0 _ rfl (hW.of 0 (by decide)))) rfl) (calls_hold (HCX.out _ _ (SX.out _ (U3.out _ (hH.right.right)))) hH) (fun e w2 he => by obtain ⟨rfl, h2⟩ := he; exact ⟨_, rfl, _, rfl, hS.step 1 _ (.inr rfl), h2⟩)
            · refine RegStep3.plain rfl ?_; rintro L u w1 bA hL hW hD hU ⟨hS, hH⟩ hin hout; exact opw_move _ _ (.inl rfl) ((hout 8 (by kernel_rfl)).trans (by kernel_rfl)) ⟨_, rfl, hS.step 2 _ (.inr rfl), hH⟩
            · refine RegStep3.plain rfl ?_; rintro L u w1 bA hL hW hD hU ⟨hS, hH⟩ hin hout; exact opw_move _ _ (.inl rfl) ((hout 1 (by kernel_rfl)).trans (by kernel_rfl)) ⟨_, rfl, hS.step 3 _ (.inr rfl), hH⟩
            · refine RegStep3.plain rfl ?_; rintro L u w1 bA hL hW hD hU ⟨hS, hH⟩ hin hout; exact opw_call_ret _ _ _ [(.slice (subA 1 B 0 cb) i cb)] rfl (by kernel_rfl) (list2 ((hin 3 71 rfl).trans (hS 3 _ rfl (hW.of 3 (by decide)))) rfl) (calls_hold (HCQ.out _ _ (SQ.out _ (U2.out _ (U3.out _ (hH.right.right))))) hH) (fun e w2 he => by obtain ⟨rfl, h2⟩ := he; exact ⟨_, rfl, _, rfl, hS.step 4 _ (.inr rfl), h2⟩)
            · refine RegStep3.plain rfl ?_; rintro L u w1 bA hL hW hD hU ⟨hS, hH⟩ hin hout; exact opw_bin32 .xor _ _ _ _ s t y1 rfl ((hin 2 70 rfl).trans (hS 2 _ rfl (hW.of 2 (by decide)))) ((hin 4 72 rfl).trans (hS 4 _ rfl (hW.of 4 (by decide)))) (.inr (.inl ⟨rfl, HY1.out⟩)) ⟨_, rfl, hS.step 5 _ (.inr rfl), hH⟩
            · refine RegStep3.plain rfl ?_; rintro L u w1 bA hL hW hD hU ⟨hS, hH⟩ hin hout; exact opw_move _ _ (.inl rfl) ((hout 5 (by kernel_rfl)).trans (by kernel_rfl)) ⟨_, rfl, hS.step 6 _ (.inr rfl), hH⟩
            · refine RegStep3.plain rfl ?_; rintro L u w1 bA hL hW hD hU ⟨hS, hH⟩ hin hout; exact opw_makeBytes _ _ _ _ rfl Try.underlying22 infoB .i64 .i64 i ((hin 6 74 rfl).trans (hS 6 _ rfl (hW.of 6 (by decide)))) ((hin 6 74 rfl).trans (hS 6 _ rfl (hW.of 6 (by decide)))) (by omega) (hH.vlit_new hL) (fun q w4 h4 => ⟨_, rfl, hS.step 7 _ (.inl rfl), (show Has st (sep (vlit true (.slice (some ⟨q, 0, none⟩) i i) (bcells (List.replicate i 0)).toArray i 5) (sep (vlit (L 14) (u 14) (bcells [0, 0, 0, 0]).toArray 4 5) Φ3)) w4 from (h4.vlit_mk).cast (by ac_rfl))⟩)
            · refine RegStep3.plain rfl ?_; rintro L u w1 bA hL hW hD hU ⟨hS, hH⟩ hin hout; exact opw_call_ret _ _ _ [(u 7)] rfl (by kernel_rfl) (list2 (hin 7 75 rfl) rfl) (calls_hold (HCZ.out _ _ (hH.vlit_rd (hW.of 7 (by decide)) (by simp [bcells_length]) (by unfold maxLen; omega))) hH) (fun e w2 he => by obtain ⟨rfl, h2⟩ := he; exact ⟨_, rfl, _, rfl, hS.step 8 _ (.inr rfl), h2⟩)
            · refine RegStep3.plain rfl ?_; rintro L u w1 bA hL hW hD hU ⟨hS, hH⟩ hin hout; exact opw_bin32 .xor _ _ _ _ y1 y x rfl ((hin 5 73 rfl).trans (hS 5 _ rfl (hW.of 5 (by decide)))) ((hin 8 76 rfl).trans (hS 8 _ rfl (hW.of 8 (by decide)))) (.inr (.inl ⟨rfl, HXE.out⟩)) ⟨_, rfl, hS.step 9 _ (.inr rfl), hH⟩
            · refine RegStep3.plain rfl ?_; rintro L u w1 bA hL hW hD hU ⟨hS, hH⟩ hin hout; exact opw_cmp .eql _ _ _ _ .u32 _ _ true rfl ((hin 1 69 rfl).trans (hS 1 _ rfl (hW.of 1 (by decide)))) ((hin 9 77 rfl).trans (hS 9 _ rfl (hW.of 9 (by decide)))) (by simp [cmpZ]) ⟨_, rfl, hS.step 10 _ (.inr rfl), hH⟩
            · refine RegStep3.plain rfl ?_; rintro L u w1 bA hL hW hD hU ⟨hS, hH⟩ hin hout; exact opw_move _ _ (.inl rfl) ((hin 10 78 rfl).trans (hS 10 _ rfl (hW.of 10 (by decide)))) ⟨_, rfl, hS.step 11 _ (.inr rfl), hH⟩
            · refine RegStep3.yes 11 true rfl (fun L u w1 hW hI => hI.1 11 _ rfl (hW.of 11 (by decide))) ?_; rintro L u w1 bA hL hW hD hU ⟨hS, hH⟩ hin hout; exact opw_move _ _ (.inl rfl) ((hout 9 (by kernel_rfl)).trans (by kernel_rfl)) ⟨_, rfl, hS.step 12 _ (.inr rfl), hH⟩
            · refine RegStep3.yes 11 true rfl (fun L u w1 hW hI => hI.1 11 _ rfl (hW.of 11 (by decide))) ?_; rintro L u w1 bA hL hW hD hU ⟨hS, hH⟩ hin hout; exact opw_call_ret _ _ _ [(.slice Ad D.length cd)] rfl (by kernel_rfl) (list2 ((hin 12 80 rfl).trans (hS 12 _ rfl (hW.of 12 (by decide)))) rfl) (calls_hold (HCD.out _ _ (SD.out _ (hH.right.right))) hH) (fun e w2 he => by obtain ⟨rfl, h2⟩ := he; exact ⟨_, rfl, _, rfl, hS.step 13 _ (.inr rfl), h2⟩)
            · refine RegStep3.yes 11 true rfl (fun L u w1 hW hI => hI.1 11 _ rfl (hW.of 11 (by decide))) ?_; rintro L u w1 bA hL hW hD hU ⟨hS, hH⟩ hin hout; exact opw_lit _ 4 _ [(0, (.int .u8 0)), (1, (.int .u8 0)), (2, (.int .u8 0)), (3, (.int .u8 0))] 5 (bcells [0, 0, 0, 0]).toArray rfl (pair2 rfl (pair2 rfl (pair2 rfl (pair2 rfl rfl)))) (by kernel_rfl) ((hH.cast (show _ = sep (vlit (L 14) (u 14) (bcells [0, 0, 0, 0]).toArray 4 5) (sep (vlit (L 7) (u 7) (bcells (List.replicate i 0)).toArray i 5) Φ3) by ac_rfl)).vlit_new hL) (fun q w4 h4 => ⟨_, rfl, hS.step 14 _ (.inl rfl), (show Has st (sep (vlit (L 7) (u 7) (bcells (List.replicate i 0)).toArray i 5) (sep (vlit true (.slice (some ⟨q, 0, none⟩) 4 4) (bcells [0, 0, 0, 0]).toArray 4 5) Φ3)) w4 from (h4.vlit_mk).cast (by ac_rfl))⟩)
            · refine RegStep3.yes 11 true rfl (fun L u w1 hW hI => hI.1 11 _ rfl (hW.of 11 (by decide))) ?_; rintro L u w1 bA hL hW hD hU ⟨hS, hH⟩ hin hout; exact opw_call_ret _ _ _ [(u 14)] rfl (by kernel_rfl) (list2 (hin 14 82 rfl) rfl) (calls_hold (HC4.out _ _ ((hH.cast (show _ = sep (vlit (L 14) (u 14) (bcells [0, 0, 0, 0]).toArray 4 5) (sep (vlit (L 7) (u 7) (bcells (List.replicate i 0)).toArray i 5) Φ3) by ac_rfl)).vlit_rd (hW.of 14 (by decide)) rfl (by decide))) hH) (fun e w2 he => by obtain ⟨rfl, h2⟩ := he; exact ⟨_, rfl, _, rfl, hS.step 15 _ (.inr rfl), h2⟩)
            · refine RegStep3.yes 11 true rfl (fun L u w1 hW hI => hI.1 11 _ rfl (hW.of 11 (by decide))) ?_; rintro L u w1 bA hL hW hD hU ⟨hS, hH⟩ hin hout; exact opw_cmp .eql _ _ _ _ .u32 _ _ true rfl ((hin 13 81 rfl).trans (hS 13 _ rfl (hW.of 13 (by decide)))) ((hin 15 83 rfl).trans (hS 15 _ rfl (hW.of 15 (by decide)))) (by simp [cmpZ]) ⟨_, rfl, hS.step 16 _ (.inr rfl), hH⟩
            · refine RegStep3.plain rfl ?_; rintro L u w1 bA hL hW hD hU ⟨hS, hH⟩ hin hout; exact opw_pickT _ _ _ _ rfl ((hin 11 79 rfl).trans (hS 11 _ rfl (hW.of 11 (by decide)))) ((hin 16 84 rfl).trans (hS 16 _ rfl (hW.of 16 (by decide)))) ⟨_, rfl, hS.step 17 _ (.inr rfl), hH⟩
            · refine RegStep3.plain rfl ?_; rintro L u w1 bA hL hW hD hU ⟨hS, hH⟩ hin hout; exact opw_move _ _ (.inr rfl) ((hin 17 85 rfl).trans (hS 17 _ rfl (hW.of 17 (by decide)))) ⟨_, rfl, hS.step 18 _ (.inr rfl), hH⟩
          intro L u wE hL ⟨hS, hH⟩
          have E := hS 18 _ rfl (hL 18 (by decide))
          simp only [frame_cons, frame_nil, E, Act.put, List.setIfInBounds_toArray, List.set_cons_zero, List.set_cons_succ]
          have HE := Lib.hid hH
          clear hL hS hH E
          go_wp2
          go_ret
          exact ⟨rfl, U1.out _ (U2.out _ (U3.out _ HE.out.right.right))⟩
    · have HZ2 : Hid (cmpZ .gtr (lb.length : Int) 300 = some true) := Lib.hid (by simp only [cmpZ]; simp; omega)
      clear h3b h3a hac hbc
      go_enter Try.func8, Try.ntmps8
      go_wp2_with (first
        | (have _k := C0; go_at_call 9; refine (alive_any st Φ0 _ C0.out).mono ?_; rintro e w9 ⟨rfl, h9⟩; obtain ⟨Φ1, e1⟩ : ∃ X : HProp, X = Φ0 := ⟨_, rfl⟩; rw [← e1] at h9; have U1 : Hid (∀ w, Has st Φ1 w → Has st Φ0 w) := Lib.hid (by rw [e1]; exact fun w h => h); have C1 := Lib.hid h9; clear h9 e1)
        | ((first | (with_reducible refine wpList_plain rfl ?_) | ((with_reducible refine wpList_yes _ _ rfl ?_ ?_); (focus rfl))); intro _ hk; (first
          | (refine opw_len _ _ _ Try.underlying22 A la.length ca rfl rfl (hk _ _ ?_))
          | (refine opw_len _ _ _ Try.underlying22 B lb.length cb rfl rfl (hk _ _ ?_))
          | (refine opw_cmp .gtr _ _ _ _ .i64 (la.length : Int) 300 false rfl rfl rfl HZ1.out (hk _ _ ?_))
          | (refine opw_cmp .gtr _ _ _ _ .i64 (lb.length : Int) 300 true rfl rfl rfl HZ2.out (hk _ _ ?_))); simp only [Act.put, List.setIfInBounds_toArray, List.set_cons_zero, List.set_cons_succ]))
      go_ret
      exact ⟨rfl, (U1.out _ C1.out)⟩
  · have HZ1 : Hid (cmpZ .gtr (la.length : Int) 300 = some true) := Lib.hid (by simp only [cmpZ]; simp; omega)
    clear h3a hac hbc
    go_enter Try.func8, Try.ntmps8
    go_wp2_with (first
      | (have _k := C0; go_at_call 9; refine (alive_any st Φ0 _ C0.out).mono ?_; rintro e w9 ⟨rfl, h9⟩; obtain ⟨Φ1, e1⟩ : ∃ X : HProp, X = Φ0 := ⟨_, rfl⟩; rw [← e1] at h9; have U1 : Hid (∀ w, Has st Φ1 w → Has st Φ0 w) := Lib.hid (by rw [e1]; exact fun w h => h); have C1 := Lib.hid h9; clear h9 e1)
      | ((first | (with_reducible refine wpList_plain rfl ?_) | ((with_reducible refine wpList_yes _ _ rfl ?_ ?_); (focus rfl))); intro _ hk; (first
        | (refine opw_len _ _ _ Try.underlying22 A la.length ca rfl rfl (hk _ _ ?_))
        | (refine opw_len _ _ _ Try.underlying22 B lb.length cb rfl rfl (hk _ _ ?_))
        | (refine opw_cmp .gtr _ _ _ _ .i64 (la.length : Int) 300 true rfl rfl rfl HZ1.out (hk _ _ ?_))); simp only [Act.put, List.setIfInBounds_toArray, List.set_cons_zero, List.set_cons_succ]))
    go_ret
    exact ⟨rfl, (U1.out _ C1.out)⟩
end Go.Proofs.Ytbiacehmfbopfaa
