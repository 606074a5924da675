/-
  The closure of CodeBack.
-/
import Derived.Test.YtkmhopnpkilhiaaBackLaw
import Derived.Deep.RegionLaw
import Derived.Deep.RegionHeld3
import Derived.Deep.RegionHeld2
import Derived.Deep.QuietTactic
import Derived.BigQuiet
namespace Go.Proofs.Ytkmhopnpkilhiaa
open Go.RowKit Go.Sl
set_option linter.unusedVariables false
set_option linter.unusedSimpArgs false

def BackRel (st : World) (RR X : HProp) (p p1 p2 : Nat) (vs : Value) (ops : List OpV) (ext tail : List UInt8) (v9 : Value) (wr : World) : Prop :=
  ∃ (i : Nat) (r : List UInt8), i ≤ ops.length ∧ v9 = .int .i64 i ∧ Hid (r ++ ext = opsW (ops.drop i) ++ tail) ∧
    Has st (sep (blk p2 (.cells #[.bool true] 4 (0, 0))) (sep (blk p1 (.cells #[vs] 22 (0, 0))) (sep (reader st RR p r) (sep X RR)))) wr

def BackErr (p1 p2 : Nat) (vs : Value) (ext : List UInt8) (e : Int) : HProp := sep (pure (e = 20 ∧ ext ≠ [])) (sep (blk p2 (.cells #[.bool true] 4 (0, 0))) (blk p1 (.cells #[vs] 22 (0, 0))))
theorem run_string (src dst e : TypeId) {P : Program} (hs : P.underlying src = some (.slice e)) (he : P.underlying e = some (.int .u8)) (hd : P.underlying dst = some .string)
    {v : Value} {n : Nat} {l : List UInt8} {w : World} (hr : Rd 1 w v n (bcells l)) : (convert src dst v).run P w = .ok (.string ⟨l.toArray⟩) w := by
  obtain ⟨hl, A, cap, rfl, hnc, hcm, ⟨rfl, rfl⟩ | ⟨ad, rfl, hc⟩⟩ := hr
  · obtain rfl : n = 0 := by omega
    have : l = [] := List.eq_nil_of_length_eq_zero (by rw [bcells_length] at hl; omega)
    subst this
    rw [run_convert_bytes_string w src dst e none 0 0 hs he hd]
    rfl
  · have hn : n = l.length := by rw [bcells_length] at hl; omega
    subst hn
    exact run_convert_bytes_back w src dst e ad cap l hs he hd fun j hj => by obtain ⟨b, off, sp⟩ := ad; obtain ⟨h2, h3⟩ := hc j _ (bcells_get hj); simp only at h2; subst h2; rw [addr_add]; exact h3
theorem no_call {P : Program} {f : FuncId} {args : Array Value} {w : World} (hf : Hid False) (v : Value) : Calls P f args w fun e w' => e = .returned v ∧ w = w' := hf.out.elim
theorem or_else {P : Program} {f : FuncId} {args : Array Value} {w : World} {post : Ending → World → Prop} (h : Calls P f args w post) (v : Value) :
    Calls P f args w fun e w' => post e w' ∨ (Hid False ∧ e = .returned v ∧ w = w') := h.mono fun _ _ h => .inl h

set_option maxHeartbeats 8000000 in
theorem back_reads (st : World) (R : HProp) (p1 p2 : Nat) (A : Option Addr) (c : Nat) (ops : List OpV) (hs : SeesOps st R (.slice A ops.length c) ops) (hk : ∀ o ∈ ops, o.n ≤ 18446744073709551615) (hb : ∀ o ∈ ops, o.b.length ≤ 60)
    (l ext tail : List UInt8) (hl : l ++ ext = opsW ops ++ tail) :
    Reads st 24 #[.pointer (some ⟨p1, 0, none⟩), .pointer (some ⟨p2, 0, none⟩)] l
    (sep (blk p2 (.cells #[.bool true] 4 (0, 0))) (blk p1 (.cells #[.slice A ops.length c] 22 (0, 0)))) R
    (fun _ l' => sep (pure (l' ++ ext = tail)) (sep (blk p2 (.cells #[.bool true] 4 (0, 0))) (blk p1 (.cells #[.slice A ops.length c] 22 (0, 0)))))
    (fun _ e => BackErr p1 p2 (.slice A ops.length c) ext e) := by
  intro RB X p w h
  have hs' : SeesOps st (sep RB R) (.slice A ops.length c) ops := by
    obtain ⟨vs, hv, hall⟩ := hs
    exact ⟨vs, hv.right, fun i hi => let ⟨A, c, h0, h1, h2, h3, hr⟩ := hall i hi; ⟨A, c, h0, h1, h2, h3, hr.right⟩⟩
  generalize sep RB R = RR at h hs'
  clear hs
  have h0 : Has st (sep (blk p2 (.cells #[.bool true] 4 (0, 0))) (sep (blk p1 (.cells #[.slice A ops.length c] 22 (0, 0))) (sep (reader st RR p l) (sep X RR)))) w := h.assoc
  have c1 := h0.second.cell 0
  obtain ⟨_, _, _, hlen⟩ := ops_form hs' h0.right.right.right.right
  have HS := Lib.hid hs'
  have HK := Lib.hid hk
  have HB := Lib.hid hb
  have HL := Lib.hid hl
  clear hs' hk hb hl h
  show Calls Try.prog 24 #[.pointer (some ⟨p, 0, none⟩), .pointer (some ⟨p1, 0, none⟩), .pointer (some ⟨p2, 0, none⟩)] w _
  go_enter Try.func24, Try.ntmps24
  go_wp2_with (fail)
  go_loopw [5, 6, 9] (fun _ _ v9 wr => BackRel st RR X p p1 p2 (.slice A ops.length c) ops ext tail v9 wr) (fun _ _ v9 _ => ops.length - (intOf v9).toNat)
  case atStart => exact ⟨0, l, Nat.zero_le _, rfl, HL.out, h0⟩
  case round =>
    clear c1 h0
    obtain ⟨i, r, hi, rfl, HE, h⟩ := hrel
    by_cases hlt : i < ops.length
    · obtain ⟨b, off, B, d, rfl, c0, c1, c2, c3, hsb⟩ := ops_at HS.out h.right.right.right.right hlt
      have hn := HK.out ops[i] (List.getElem_mem hlt)
      have hb := HB.out ops[i] (List.getElem_mem hlt)
      have HE2 := Lib.hid (HE.out.trans (by rw [opsW_drop ops i hlt, List.append_assoc]))
      have HSB := Lib.hid hsb
      clear hsb
      have ha := fun o => h.alloc o
      have cg := h.cell 0
      have fg := h.free 0
      have lg := h.lt
      rcases Decidable.em ((ops[i].kind == 0) = true) with k0 | k0
      · have HX := Lib.hid (opW_0 ops[i] k0)
        obtain ⟨k, hk⟩ : ∃ k, k = held ops[i].size := ⟨_, rfl⟩
        have hk8 : 1 ≤ k ∧ k ≤ 8 := by rw [hk]; exact held_pos _
        have HHeld : Hid (∀ w, Calls Try.prog 25 #[.int .i64 ops[i].size, .int .i64 1, .int .i64 8] w fun e w' => e = .returned (.int .i64 k) ∧ w = w') := by
          intro w; rw [hk, ← clamp_held]; exact refHeld_any _ _ _ w
        obtain ⟨m, hm⟩ : ∃ m, m = 8 * k := ⟨_, rfl⟩
        have hm64 : m ≤ 64 := by omega
        have hw8 : IntKind.i64.wrap (8 * (k : Int)) = (m : Int) := by rw [IntWalk.i64_in _ ⟨by omega, by omega⟩]; omega
        have HE4 := Lib.hid (HE2.out.trans (congrArg (· ++ _) (HX.out.trans (by rw [← hk]))))
        by_cases hen : k ≤ r.length
        · have hq := num_back hn hk8.2 hm HE4.out hen
          have hcmp := hq.2
          have HE3 := Lib.hid hq.1
          have hnum := fun X (hF : ∀ w, Has st X w → Has st RR w) w hw => rnum_ok st RR X hF p r ops[i].size w hw (by rw [← hk]; exact hen)
          rw [← hk] at hnum
          obtain ⟨u, hu⟩ : ∃ u, u = unle (r.take k) := ⟨_, rfl⟩
          obtain ⟨r', hr'⟩ : ∃ r', r' = r.drop k := ⟨_, rfl⟩
          rw [← hu, ← hr'] at hnum
          rw [← hu] at hcmp
          have HNum := Lib.hid hnum
          have HK8 := Lib.hid hk
          have HM8 := Lib.hid hm
          have HU := Lib.hid hu
          have HR := Lib.hid hr'
          rw [← hr'] at HE3
          clear hnum hk hm hq hu hr'
          go_wp2_with (go_at_call 25; refine (HHeld.out _).mono ?_; rintro e w' ⟨rfl, rfl⟩)
          have h1 := ha (.cells #[.int .i64 ops[i].kind, .int .i64 ops[i].size, .int .u64 ops[i].n, .slice B ops[i].b.length d] 28 (0, 0))
          have cg1 := h1.second.cell 0
          have fg1 := h1.second.free 0
          have co1 := h1.cell 1
          have co2 := h1.cell 2
          have co3 := h1.cell 3
          clear c0 c1 c2 c3 cg ha
          generalize wr.alloc (.cells #[.int .i64 ops[i].kind, .int .i64 ops[i].size, .int .u64 ops[i].n, .slice B ops[i].b.length d] 28 (0, 0)) = W0 at *
          clear h
          generalize wr.heap.size = z at *
          go_region_held3 (fun w' => w'.cell? ⟨p2, 0, none⟩ = some (.bool true) ∧ w'.cell? ⟨z, 1, none⟩ = some (.int .i64 ops[i].size) ∧ w'.cell? ⟨z, 2, none⟩ = some (.int .u64 ops[i].n)) (first | exact ⟨cg1, co1, co2⟩ | exact ⟨cg2, co4, co5⟩ | exact ⟨h3.cell 0, h3.third.cell 1, h3.third.cell 2⟩)
            (first | (go_at_call 26; refine (HNum.out _ (fun _ h => h.right.right.right.right) _ (h1.drew.fourth)).mono ?_; rintro e w1 ⟨rfl, h2⟩; have cg2 := h2.third.cell 0; have fg2 := h2.third.free 0; have co4 := h2.second.cell 1; have co5 := h2.second.cell 2; have co6 := h2.second.cell 3; have h3 := h2.third.set 0 (.bool true)))
          all_goals go_wp2
          all_goals
            go_roundw
            case rel => exact ⟨i + 1, r', by omega, by go_num, HE3.out, h3.third.right.cast (by simp only [List.setIfInBounds_toArray, List.set_cons_zero]; ac_rfl)⟩
            case measure => simp [intOf]; omega
        · have hne := split_no HE4.out (by rw [le_length]; omega)
          have hnum := fun X (hF : ∀ w, Has st X w → Has st RR w) w hw => rnum_no st RR X hF p r ops[i].size w hw (by rw [← hk]; omega)
          have HNum := Lib.hid hnum
          have HK8 := Lib.hid hk
          have HM8 := Lib.hid hm
          have HNE := Lib.hid hne
          clear hnum hk hm hne
          go_wp2_with (go_at_call 25; refine (HHeld.out _).mono ?_; rintro e w' ⟨rfl, rfl⟩)
          have h1 := ha (.cells #[.int .i64 ops[i].kind, .int .i64 ops[i].size, .int .u64 ops[i].n, .slice B ops[i].b.length d] 28 (0, 0))
          have cg1 := h1.second.cell 0
          have fg1 := h1.second.free 0
          have co1 := h1.cell 1
          have co2 := h1.cell 2
          have co3 := h1.cell 3
          clear c0 c1 c2 c3 cg ha
          generalize wr.alloc (.cells #[.int .i64 ops[i].kind, .int .i64 ops[i].size, .int .u64 ops[i].n, .slice B ops[i].b.length d] 28 (0, 0)) = W0 at *
          clear h
          generalize wr.heap.size = z at *
          have HT : Hid (Has st (sep (BackErr p1 p2 (.slice (some ⟨b, off, none⟩) ops.length c) ext 20) (sep X RR)) W0.drew) := (Has.ofPure (φ := (20 : Int) = 20 ∧ ext ≠ []) ⟨rfl, HNE.out⟩ (h1.drew.right.cast (by ac_rfl) : Has st (sep (reader st RR p r) (sep (sep (blk p2 (.cells #[.bool true] 4 (0, 0))) (blk p1 (.cells #[.slice (some ⟨b, off, none⟩) ops.length c] 22 (0, 0)))) (sep X RR))) _).right).unassoc
          go_region_held2 (fun w' => w'.cell? ⟨p2, 0, none⟩ = some (.bool true) ∧ w'.cell? ⟨z, 1, none⟩ = some (.int .i64 ops[i].size) ∧ w'.cell? ⟨z, 2, none⟩ = some (.int .u64 ops[i].n)) (first | exact ⟨cg1, co1, co2⟩ | exact hf.out.elim)
            (first | (go_at_call 26; refine (or_else (HNum.out _ (fun _ h => h.right.right.right.right) _ (h1.drew.fourth)) (.int .u64 0)).mono ?_; rintro e w1 (⟨rfl, rfl⟩ | ⟨hf, rfl, rfl⟩); (exact And.intro rfl (Or.inr (Exists.intro 20 (And.intro rfl (And.intro rfl HT.out)))))))
          all_goals exact hf.out.elim
      · have k0 := Bool.not_eq_true _ ▸ k0
        rcases Decidable.em ((ops[i].kind == 1) = true) with k1 | k1
        · have HX := Lib.hid (opW_1 ops[i] k0 k1)
          obtain ⟨k, hk⟩ : ∃ k, k = held ops[i].size := ⟨_, rfl⟩
          have hk8 : 1 ≤ k ∧ k ≤ 8 := by rw [hk]; exact held_pos _
          have HHeld : Hid (∀ w, Calls Try.prog 25 #[.int .i64 ops[i].size, .int .i64 1, .int .i64 8] w fun e w' => e = .returned (.int .i64 k) ∧ w = w') := by
            intro w; rw [hk, ← clamp_held]; exact refHeld_any _ _ _ w
          obtain ⟨m, hm⟩ : ∃ m, m = 8 * k := ⟨_, rfl⟩
          have hm64 : m ≤ 64 := by omega
          have hw8 : IntKind.i64.wrap (8 * (k : Int)) = (m : Int) := by rw [IntWalk.i64_in _ ⟨by omega, by omega⟩]; omega
          have HE4 := Lib.hid (HE2.out.trans (congrArg (· ++ _) (HX.out.trans (by rw [← hk]))))
          by_cases hen : k ≤ r.length
          · have hq := num_back hn hk8.2 hm HE4.out hen
            have hcmp := hq.2
            have HE3 := Lib.hid hq.1
            have hnum := fun X (hF : ∀ w, Has st X w → Has st RR w) w hw => rnum_ok st RR X hF p r ops[i].size w hw (by rw [← hk]; exact hen)
            rw [← hk] at hnum
            obtain ⟨u, hu⟩ : ∃ u, u = unle (r.take k) := ⟨_, rfl⟩
            obtain ⟨r', hr'⟩ : ∃ r', r' = r.drop k := ⟨_, rfl⟩
            rw [← hu, ← hr'] at hnum
            rw [← hu] at hcmp
            have HNum := Lib.hid hnum
            have HK8 := Lib.hid hk
            have HM8 := Lib.hid hm
            have HU := Lib.hid hu
            have HR := Lib.hid hr'
            rw [← hr'] at HE3
            clear hnum hk hm hq hu hr'
            go_wp2_with (go_at_call 25; refine (HHeld.out _).mono ?_; rintro e w' ⟨rfl, rfl⟩)
            have h1 := ha (.cells #[.int .i64 ops[i].kind, .int .i64 ops[i].size, .int .u64 ops[i].n, .slice B ops[i].b.length d] 28 (0, 0))
            have cg1 := h1.second.cell 0
            have fg1 := h1.second.free 0
            have co1 := h1.cell 1
            have co2 := h1.cell 2
            have co3 := h1.cell 3
            clear c0 c1 c2 c3 cg ha
            generalize wr.alloc (.cells #[.int .i64 ops[i].kind, .int .i64 ops[i].size, .int .u64 ops[i].n, .slice B ops[i].b.length d] 28 (0, 0)) = W0 at *
            clear h
            generalize wr.heap.size = z at *
            go_region_held3 (fun w' => w'.cell? ⟨p2, 0, none⟩ = some (.bool true) ∧ w'.cell? ⟨z, 1, none⟩ = some (.int .i64 ops[i].size) ∧ w'.cell? ⟨z, 2, none⟩ = some (.int .u64 ops[i].n)) (first | exact ⟨cg1, co1, co2⟩ | exact ⟨cg2, co4, co5⟩ | exact ⟨h3.cell 0, h3.third.cell 1, h3.third.cell 2⟩)
              (first | (go_at_call 26; refine (HNum.out _ (fun _ h => h.right.right.right.right) _ (h1.drew.fourth)).mono ?_; rintro e w1 ⟨rfl, h2⟩; have cg2 := h2.third.cell 0; have fg2 := h2.third.free 0; have co4 := h2.second.cell 1; have co5 := h2.second.cell 2; have co6 := h2.second.cell 3; have h3 := h2.third.set 0 (.bool true)))
            all_goals go_wp2
            all_goals
              go_roundw
              case rel => exact ⟨i + 1, r', by omega, by go_num, HE3.out, h3.third.right.cast (by simp only [List.setIfInBounds_toArray, List.set_cons_zero]; ac_rfl)⟩
              case measure => simp [intOf]; omega
          · have hne := split_no HE4.out (by rw [le_length]; omega)
            have hnum := fun X (hF : ∀ w, Has st X w → Has st RR w) w hw => rnum_no st RR X hF p r ops[i].size w hw (by rw [← hk]; omega)
            have HNum := Lib.hid hnum
            have HK8 := Lib.hid hk
            have HM8 := Lib.hid hm
            have HNE := Lib.hid hne
            clear hnum hk hm hne
            go_wp2_with (go_at_call 25; refine (HHeld.out _).mono ?_; rintro e w' ⟨rfl, rfl⟩)
            have h1 := ha (.cells #[.int .i64 ops[i].kind, .int .i64 ops[i].size, .int .u64 ops[i].n, .slice B ops[i].b.length d] 28 (0, 0))
            have cg1 := h1.second.cell 0
            have fg1 := h1.second.free 0
            have co1 := h1.cell 1
            have co2 := h1.cell 2
            have co3 := h1.cell 3
            clear c0 c1 c2 c3 cg ha
            generalize wr.alloc (.cells #[.int .i64 ops[i].kind, .int .i64 ops[i].size, .int .u64 ops[i].n, .slice B ops[i].b.length d] 28 (0, 0)) = W0 at *
            clear h
            generalize wr.heap.size = z at *
            have HT : Hid (Has st (sep (BackErr p1 p2 (.slice (some ⟨b, off, none⟩) ops.length c) ext 20) (sep X RR)) W0.drew) := (Has.ofPure (φ := (20 : Int) = 20 ∧ ext ≠ []) ⟨rfl, HNE.out⟩ (h1.drew.right.cast (by ac_rfl) : Has st (sep (reader st RR p r) (sep (sep (blk p2 (.cells #[.bool true] 4 (0, 0))) (blk p1 (.cells #[.slice (some ⟨b, off, none⟩) ops.length c] 22 (0, 0)))) (sep X RR))) _).right).unassoc
            go_region_held2 (fun w' => w'.cell? ⟨p2, 0, none⟩ = some (.bool true) ∧ w'.cell? ⟨z, 1, none⟩ = some (.int .i64 ops[i].size) ∧ w'.cell? ⟨z, 2, none⟩ = some (.int .u64 ops[i].n)) (first | exact ⟨cg1, co1, co2⟩ | exact hf.out.elim)
              (first | (go_at_call 26; refine (or_else (HNum.out _ (fun _ h => h.right.right.right.right) _ (h1.drew.fourth)) (.int .u64 0)).mono ?_; rintro e w1 (⟨rfl, rfl⟩ | ⟨hf, rfl, rfl⟩); (exact And.intro rfl (Or.inr (Exists.intro 20 (And.intro rfl (And.intro rfl HT.out)))))))
            all_goals exact hf.out.elim
        · have k1 := Bool.not_eq_true _ ▸ k1
          rcases Decidable.em ((ops[i].kind == 2) = true) with k2 | k2
          · have HX := Lib.hid (opW_2 ops[i] k0 k1 k2)
            have HE4 := Lib.hid (HE2.out.trans (congrArg (· ++ _) HX.out))
            rcases rget_back hb HE4.out with ⟨r', hr, he⟩ | ⟨hr, hne⟩

            · have hby : ∀ X (hF : ∀ w, Has st X w → Has st RR w) w, Has st (sep (reader st RR p r) X) w → Calls Try.prog 27 #[.pointer (some ⟨p, 0, none⟩), .int .i64 60] w fun e w' => ∃ A c, e = .returned (.slice A ops[i].b.length c) ∧ Sees st RR 1 (.slice A ops[i].b.length c) ops[i].b.length (bcells ops[i].b) ∧ Has st (sep (reader st RR p r') X) w' := by
                intro X hF w hw
                refine (rbytes_any st RR X hF p r 60 w hw (by decide)).mono fun e w' h' => ?_
                unfold RGet at h'
                rw [hr] at h'
                exact h'
              have HBy := Lib.hid hby
              have HE3 := Lib.hid he
              clear hby hr he
              go_wp2_with (fail)
              have h1 := ha (.cells #[.int .i64 ops[i].kind, .int .i64 ops[i].size, .int .u64 ops[i].n, .slice B ops[i].b.length d] 28 (0, 0))
              have cg1 := h1.second.cell 0
              have fg1 := h1.second.free 0
              have co1 := h1.cell 1
              have co2 := h1.cell 2
              have co3 := h1.cell 3
              clear c0 c1 c2 c3 cg ha
              generalize wr.alloc (.cells #[.int .i64 ops[i].kind, .int .i64 ops[i].size, .int .u64 ops[i].n, .slice B ops[i].b.length d] 28 (0, 0)) = W0 at *
              clear h
              generalize wr.heap.size = z at *
              go_region_held3 (fun w' => w'.cell? ⟨p2, 0, none⟩ = some (.bool true) ∧ w'.cell? ⟨z, 3, none⟩ = some (.slice B ops[i].b.length d)) (first | exact ⟨cg1, co3⟩ | exact ⟨cg2, co6⟩ | exact ⟨h3.cell 0, h3.third.cell 3⟩)
                (first | (go_at_call 27; refine (HBy.out _ (fun _ h => h.right.right.right.right) _ (h1.drew.fourth)).mono ?_; rintro e w1 ⟨A1, d1, rfl, hs1, h2⟩; have cg2 := h2.third.cell 0; have fg2 := h2.third.free 0; have co4 := h2.second.cell 1; have co5 := h2.second.cell 2; have co6 := h2.second.cell 3; have h3 := h2.third.set 0 (.bool true); have hr1 := hs1 _ h2.right.right.right.right.right; have hr2 := HSB.out _ h2.right.right.right.right.right) | (go_at_call 13; refine (same_self ops[i].b _ _ _ _ _ hr1 hr2).mono ?_; rintro e w2 ⟨rfl, rfl⟩))
              all_goals go_wp2
              all_goals
                go_roundw
                case rel => exact ⟨i + 1, r', by omega, by go_num, HE3.out, h3.third.right.cast (by simp only [List.setIfInBounds_toArray, List.set_cons_zero]; ac_rfl)⟩
                case measure => simp [intOf]; omega
            · have hby : ∀ X (hF : ∀ w, Has st X w → Has st RR w) w, Has st (sep (reader st RR p r) X) w → Calls Try.prog 27 #[.pointer (some ⟨p, 0, none⟩), .int .i64 60] w fun e w' => e = thrown 20 ∧ Has st (sep (reader st RR p r) X) w' := by
                intro X hF w hw
                refine (rbytes_any st RR X hF p r 60 w hw (by decide)).mono fun e w' h' => ?_
                unfold RGet at h'
                rw [hr] at h'
                exact h'
              have HBy := Lib.hid hby
              have HNE := Lib.hid hne
              clear hby hr hne
              go_wp2_with (fail)
              have h1 := ha (.cells #[.int .i64 ops[i].kind, .int .i64 ops[i].size, .int .u64 ops[i].n, .slice B ops[i].b.length d] 28 (0, 0))
              have cg1 := h1.second.cell 0
              have fg1 := h1.second.free 0
              have co1 := h1.cell 1
              have co2 := h1.cell 2
              have co3 := h1.cell 3
              clear c0 c1 c2 c3 cg ha
              generalize wr.alloc (.cells #[.int .i64 ops[i].kind, .int .i64 ops[i].size, .int .u64 ops[i].n, .slice B ops[i].b.length d] 28 (0, 0)) = W0 at *
              clear h
              generalize wr.heap.size = z at *
              have HT : Hid (∀ w, Has st (sep (reader st RR p r) (sep (blk z (.cells #[.int .i64 ops[i].kind, .int .i64 ops[i].size, .int .u64 ops[i].n, .slice B ops[i].b.length d] 28 (0, 0))) (sep (blk p2 (.cells #[.bool true] 4 (0, 0))) (sep (blk p1 (.cells #[.slice (some ⟨b, off, none⟩) ops.length c] 22 (0, 0))) (sep X RR))))) w → Has st (sep (BackErr p1 p2 (.slice (some ⟨b, off, none⟩) ops.length c) ext 20) (sep X RR)) w) := fun w h => (Has.ofPure (φ := (20 : Int) = 20 ∧ ext ≠ []) ⟨rfl, HNE.out⟩ (h.right.right.unassoc : Has st (sep (sep (blk p2 (.cells #[.bool true] 4 (0, 0))) (blk p1 (.cells #[.slice (some ⟨b, off, none⟩) ops.length c] 22 (0, 0)))) (sep X RR)) _)).unassoc
              go_region_held2 (fun w' => w'.cell? ⟨p2, 0, none⟩ = some (.bool true) ∧ w'.cell? ⟨z, 3, none⟩ = some (.slice B ops[i].b.length d)) (first | exact ⟨cg1, co3⟩ | exact hf.out.elim)
                (first | (go_at_call 27; refine (or_else (HBy.out _ (fun _ h => h.right.right.right.right) _ (h1.drew.fourth)) (.slice none 0 0)).mono ?_; rintro e w1 (⟨rfl, h2⟩ | ⟨hf, rfl, rfl⟩); (exact And.intro rfl (Or.inr (Exists.intro 20 (And.intro rfl (And.intro rfl (HT.out _ h2))))))) | (go_at_call 13; refine (no_call hf (.bool true)).mono ?_; rintro e w2 ⟨rfl, rfl⟩))
              all_goals exact hf.out.elim
          · have k2 := Bool.not_eq_true _ ▸ k2
            rcases Decidable.em ((ops[i].kind == 3) = true) with k3 | k3
            · have HX := Lib.hid (opW_3 ops[i] k0 k1 k2 k3)
              have HE4 := Lib.hid (HE2.out.trans (congrArg (· ++ _) HX.out))
              rcases rget_back hb HE4.out with ⟨r', hr, he⟩ | ⟨hr, hne⟩

              · have hby : ∀ X (hF : ∀ w, Has st X w → Has st RR w) w, Has st (sep (reader st RR p r) X) w → Calls Try.prog 28 #[.pointer (some ⟨p, 0, none⟩), .int .i64 60] w fun e w' => e = .returned (.string ⟨ops[i].b.toArray⟩) ∧ Has st (sep (reader st RR p r') X) w' := by
                  intro X hF w hw
                  refine (rtext_any st RR X hF p r 60 w hw (by decide)).mono fun e w' h' => ?_
                  unfold RText at h'
                  rw [hr] at h'
                  exact h'
                have HBy := Lib.hid hby
                have HE3 := Lib.hid he
                clear hby hr he
                go_wp2_with (fail)
                have h1 := ha (.cells #[.int .i64 ops[i].kind, .int .i64 ops[i].size, .int .u64 ops[i].n, .slice B ops[i].b.length d] 28 (0, 0))
                have cg1 := h1.second.cell 0
                have fg1 := h1.second.free 0
                have co1 := h1.cell 1
                have co2 := h1.cell 2
                have co3 := h1.cell 3
                have E1 := Lib.hid (run_string 25 9 5 Try.underlying25 Try.underlying5 Try.underlying9 (HSB.out _ h1.drew.right.right.right.right.right))
                clear c0 c1 c2 c3 cg ha
                generalize wr.alloc (.cells #[.int .i64 ops[i].kind, .int .i64 ops[i].size, .int .u64 ops[i].n, .slice B ops[i].b.length d] 28 (0, 0)) = W0 at *
                clear h
                generalize wr.heap.size = z at *
                go_region_held3 (fun w' => w'.cell? ⟨p2, 0, none⟩ = some (.bool true) ∧ w'.cell? ⟨z, 3, none⟩ = some (.slice B ops[i].b.length d) ∧ (convert 25 9 (.slice B ops[i].b.length d)).run Try.prog w' = .ok (.string ⟨ops[i].b.toArray⟩) w') (first | exact ⟨cg1, co3, E1.out⟩ | exact ⟨cg2, co6, E2.out⟩ | exact ⟨h3.cell 0, h3.third.cell 3, (run_string 25 9 5 Try.underlying25 Try.underlying5 Try.underlying9 (HSB.out _ h3.right.right.right.right.right))⟩)
                  (first | (go_at_call 28; refine (HBy.out _ (fun _ h => h.right.right.right.right) _ (h1.drew.fourth)).mono ?_; rintro e w1 ⟨rfl, h2⟩; have cg2 := h2.third.cell 0; have fg2 := h2.third.free 0; have co4 := h2.second.cell 1; have co5 := h2.second.cell 2; have co6 := h2.second.cell 3; have h3 := h2.third.set 0 (.bool true); have E2 := Lib.hid (run_string 25 9 5 Try.underlying25 Try.underlying5 Try.underlying9 (HSB.out _ h2.right.right.right.right.right))))
                all_goals go_wp2
                all_goals
                  go_roundw
                  case rel => exact ⟨i + 1, r', by omega, by go_num, HE3.out, h3.third.right.cast (by simp only [List.setIfInBounds_toArray, List.set_cons_zero]; ac_rfl)⟩
                  case measure => simp [intOf]; omega
              · have hby : ∀ X (hF : ∀ w, Has st X w → Has st RR w) w, Has st (sep (reader st RR p r) X) w → Calls Try.prog 28 #[.pointer (some ⟨p, 0, none⟩), .int .i64 60] w fun e w' => e = thrown 20 ∧ Has st (sep (reader st RR p r) X) w' := by
                  intro X hF w hw
                  refine (rtext_any st RR X hF p r 60 w hw (by decide)).mono fun e w' h' => ?_
                  unfold RText at h'
                  rw [hr] at h'
                  exact h'
                have HBy := Lib.hid hby
                have HNE := Lib.hid hne
                clear hby hr hne
                go_wp2_with (fail)
                have h1 := ha (.cells #[.int .i64 ops[i].kind, .int .i64 ops[i].size, .int .u64 ops[i].n, .slice B ops[i].b.length d] 28 (0, 0))
                have cg1 := h1.second.cell 0
                have fg1 := h1.second.free 0
                have co1 := h1.cell 1
                have co2 := h1.cell 2
                have co3 := h1.cell 3
                have E1 := Lib.hid (run_string 25 9 5 Try.underlying25 Try.underlying5 Try.underlying9 (HSB.out _ h1.drew.right.right.right.right.right))
                clear c0 c1 c2 c3 cg ha
                generalize wr.alloc (.cells #[.int .i64 ops[i].kind, .int .i64 ops[i].size, .int .u64 ops[i].n, .slice B ops[i].b.length d] 28 (0, 0)) = W0 at *
                clear h
                generalize wr.heap.size = z at *
                have HT : Hid (∀ w, Has st (sep (reader st RR p r) (sep (blk z (.cells #[.int .i64 ops[i].kind, .int .i64 ops[i].size, .int .u64 ops[i].n, .slice B ops[i].b.length d] 28 (0, 0))) (sep (blk p2 (.cells #[.bool true] 4 (0, 0))) (sep (blk p1 (.cells #[.slice (some ⟨b, off, none⟩) ops.length c] 22 (0, 0))) (sep X RR))))) w → Has st (sep (BackErr p1 p2 (.slice (some ⟨b, off, none⟩) ops.length c) ext 20) (sep X RR)) w) := fun w h => (Has.ofPure (φ := (20 : Int) = 20 ∧ ext ≠ []) ⟨rfl, HNE.out⟩ (h.right.right.unassoc : Has st (sep (sep (blk p2 (.cells #[.bool true] 4 (0, 0))) (blk p1 (.cells #[.slice (some ⟨b, off, none⟩) ops.length c] 22 (0, 0)))) (sep X RR)) _)).unassoc
                go_region_held2 (fun w' => w'.cell? ⟨p2, 0, none⟩ = some (.bool true) ∧ w'.cell? ⟨z, 3, none⟩ = some (.slice B ops[i].b.length d) ∧ (convert 25 9 (.slice B ops[i].b.length d)).run Try.prog w' = .ok (.string ⟨ops[i].b.toArray⟩) w') (first | exact ⟨cg1, co3, E1.out⟩ | exact hf.out.elim)
                  (first | (go_at_call 28; refine (or_else (HBy.out _ (fun _ h => h.right.right.right.right) _ (h1.drew.fourth)) (.string ⟨ops[i].b.toArray⟩)).mono ?_; rintro e w1 (⟨rfl, h2⟩ | ⟨hf, rfl, rfl⟩); (exact And.intro rfl (Or.inr (Exists.intro 20 (And.intro rfl (And.intro rfl (HT.out _ h2))))))) )
                all_goals exact hf.out.elim
            · have k3 := Bool.not_eq_true _ ▸ k3
              rcases Decidable.em ((ops[i].kind == 4) = true) with k4 | k4
              · have HX := Lib.hid (opW_4 ops[i] k0 k1 k2 k3 k4)
                have HE4 := Lib.hid (HE2.out.trans (congrArg (· ++ _) HX.out))
                have hnb : IntKind.i64.wrap (ops[i].b.length : Int) = (ops[i].b.length : Int) := IntWalk.i64_in _ ⟨by omega, by omega⟩
                rcases Nat.lt_or_ge r.length ops[i].b.length |>.symm with hlong | hlong


                · have hq := split_ok HE4.out hlong
                  obtain ⟨r', hr'⟩ : ∃ r', r' = r.drop ops[i].b.length := ⟨_, rfl⟩
                  have hby : ∀ X (hF : ∀ w, Has st X w → Has st RR w) w, Has st (sep (reader st RR p r) X) w → Calls Try.prog 29 #[.pointer (some ⟨p, 0, none⟩), .int .i64 ops[i].b.length] w fun e w' => ∃ A c, e = .returned (.slice A ops[i].b.length c) ∧ Sees st RR 1 (.slice A ops[i].b.length c) ops[i].b.length (bcells ops[i].b) ∧ Has st (sep (reader st RR p r') X) w' := by
                    intro X hF w hw
                    have := rraw_ok st RR X hF p r ops[i].b.length w hw hlong
                    rwa [hq.1, ← hr'] at this
                  have he := hq.2
                  have hr := hlong
                  rw [← hr'] at he
                  clear hq hr' hlong
                  have HBy := Lib.hid hby
                  have HE3 := Lib.hid he
                  clear hby hr he
                  go_wp2_with (fail)
                  have h1 := ha (.cells #[.int .i64 ops[i].kind, .int .i64 ops[i].size, .int .u64 ops[i].n, .slice B ops[i].b.length d] 28 (0, 0))
                  have cg1 := h1.second.cell 0
                  have fg1 := h1.second.free 0
                  have co1 := h1.cell 1
                  have co2 := h1.cell 2
                  have co3 := h1.cell 3
                  clear c0 c1 c2 c3 cg ha
                  generalize wr.alloc (.cells #[.int .i64 ops[i].kind, .int .i64 ops[i].size, .int .u64 ops[i].n, .slice B ops[i].b.length d] 28 (0, 0)) = W0 at *
                  clear h
                  generalize wr.heap.size = z at *
                  go_region_held3 (fun w' => w'.cell? ⟨p2, 0, none⟩ = some (.bool true) ∧ w'.cell? ⟨z, 3, none⟩ = some (.slice B ops[i].b.length d)) (first | exact ⟨cg1, co3⟩ | exact ⟨cg2, co6⟩ | exact ⟨h3.cell 0, h3.third.cell 3⟩)
                    (first | (go_at_call 29; refine (HBy.out _ (fun _ h => h.right.right.right.right) _ (h1.drew.fourth)).mono ?_; rintro e w1 ⟨A1, d1, rfl, hs1, h2⟩; have cg2 := h2.third.cell 0; have fg2 := h2.third.free 0; have co4 := h2.second.cell 1; have co5 := h2.second.cell 2; have co6 := h2.second.cell 3; have h3 := h2.third.set 0 (.bool true); have hr1 := hs1 _ h2.right.right.right.right.right; have hr2 := HSB.out _ h2.right.right.right.right.right) | (go_at_call 13; refine (same_self ops[i].b _ _ _ _ _ hr1 hr2).mono ?_; rintro e w2 ⟨rfl, rfl⟩))
                  all_goals go_wp2
                  all_goals
                    go_roundw
                    case rel => exact ⟨i + 1, r', by omega, by go_num, HE3.out, h3.third.right.cast (by simp only [List.setIfInBounds_toArray, List.set_cons_zero]; ac_rfl)⟩
                    case measure => simp [intOf]; omega
                · have hne := split_no HE4.out hlong
                  have hby : ∀ X (hF : ∀ w, Has st X w → Has st RR w) w, Has st (sep (reader st RR p r) X) w → Calls Try.prog 29 #[.pointer (some ⟨p, 0, none⟩), .int .i64 ops[i].b.length] w fun e w' => e = thrown 20 ∧ Has st (sep (reader st RR p r) X) w' := by
                    intro X hF w hw
                    refine (rraw_no st RR X hF p r ops[i].b.length w hw hlong).mono fun e w' h' => ?_
                    exact ⟨h'.1, h'.2 ▸ hw⟩
                  have hr := hlong
                  clear hlong
                  have HBy := Lib.hid hby
                  have HNE := Lib.hid hne
                  clear hby hr hne
                  go_wp2_with (fail)
                  have h1 := ha (.cells #[.int .i64 ops[i].kind, .int .i64 ops[i].size, .int .u64 ops[i].n, .slice B ops[i].b.length d] 28 (0, 0))
                  have cg1 := h1.second.cell 0
                  have fg1 := h1.second.free 0
                  have co1 := h1.cell 1
                  have co2 := h1.cell 2
                  have co3 := h1.cell 3
                  clear c0 c1 c2 c3 cg ha
                  generalize wr.alloc (.cells #[.int .i64 ops[i].kind, .int .i64 ops[i].size, .int .u64 ops[i].n, .slice B ops[i].b.length d] 28 (0, 0)) = W0 at *
                  clear h
                  generalize wr.heap.size = z at *
                  have HT : Hid (∀ w, Has st (sep (reader st RR p r) (sep (blk z (.cells #[.int .i64 ops[i].kind, .int .i64 ops[i].size, .int .u64 ops[i].n, .slice B ops[i].b.length d] 28 (0, 0))) (sep (blk p2 (.cells #[.bool true] 4 (0, 0))) (sep (blk p1 (.cells #[.slice (some ⟨b, off, none⟩) ops.length c] 22 (0, 0))) (sep X RR))))) w → Has st (sep (BackErr p1 p2 (.slice (some ⟨b, off, none⟩) ops.length c) ext 20) (sep X RR)) w) := fun w h => (Has.ofPure (φ := (20 : Int) = 20 ∧ ext ≠ []) ⟨rfl, HNE.out⟩ (h.right.right.unassoc : Has st (sep (sep (blk p2 (.cells #[.bool true] 4 (0, 0))) (blk p1 (.cells #[.slice (some ⟨b, off, none⟩) ops.length c] 22 (0, 0)))) (sep X RR)) _)).unassoc
                  go_region_held2 (fun w' => w'.cell? ⟨p2, 0, none⟩ = some (.bool true) ∧ w'.cell? ⟨z, 3, none⟩ = some (.slice B ops[i].b.length d)) (first | exact ⟨cg1, co3⟩ | exact hf.out.elim)
                    (first | (go_at_call 29; refine (or_else (HBy.out _ (fun _ h => h.right.right.right.right) _ (h1.drew.fourth)) (.slice none 0 0)).mono ?_; rintro e w1 (⟨rfl, h2⟩ | ⟨hf, rfl, rfl⟩); (exact And.intro rfl (Or.inr (Exists.intro 20 (And.intro rfl (And.intro rfl (HT.out _ h2))))))) | (go_at_call 13; refine (no_call hf (.bool true)).mono ?_; rintro e w2 ⟨rfl, rfl⟩))
                  all_goals exact hf.out.elim
              · have k4 := Bool.not_eq_true _ ▸ k4
                have HX := Lib.hid (opW_5 ops[i] k0 k1 k2 k3 k4)
                have HE3 := Lib.hid (HE2.out.trans (congrArg (· ++ _) HX.out))
                go_wp2_with (fail)
                go_roundw
                case rel => exact ⟨i + 1, r, by omega, by go_num, HE3.out, h.alloc' _⟩
                case measure => simp [intOf]; omega
    · obtain rfl : i = ops.length := by omega
      have e1 : r ++ ext = tail := by have := HE.out; rw [List.drop_length] at this; exact this
      have HE1 := Lib.hid e1
      clear e1
      go_wp2_with (fail)
      go_end0
      exact .inl ⟨r, rfl, Has.unassoc (Has.ofPure (φ := r ++ ext = tail) HE1.out h.unassoc)⟩
end Go.Proofs.Ytkmhopnpkilhiaa
