/-
  Layer 4: Unchain.
-/
import Derived.Test.YtbiacehmfbopfaaUnReads
namespace Go.Sl
open Go Go.RowKit
theorem TailI.rr {w : World} {st : World} {E : TypeId} {V : Value} {n : Nat} {xs : List Value} {val : Value} {RR : HProp} {b p g : Nat} {L : Nat → Bool} {u : Nat → Value} (h : TailI st E V n xs val RR b p g L u w) : Has st RR w := by
  unfold TailI at h
  split at h
  · obtain ⟨_, _, _, h⟩ := h; exact h.right
  · split at h
    · obtain ⟨_, _, _, h⟩ := h; exact h.right
    · split at h
      · obtain ⟨_, _, h⟩ := h; exact h.right.right
      · exact h.right
theorem Sees.widen {st : World} {F F' : HProp} {size n : Nat} {v : Value} {xs : List Value} (h : Sees st F size v n xs) (hF : ∀ w, Has st F' w → Has st F w) : Sees st F' size v n xs := fun w hw => h w (hF w hw)
end Go.Sl
namespace Go.Proofs.Ytbiacehmfbopfaa
open Go.RowKit Go.Sl Go.Crc
set_option linter.unusedVariables false
set_option linter.unusedSimpArgs false
theorem infoS3 : (Try.prog.info? 22).map (fun i => (i.zero, i.size, i.bytes)) = some (some (.slice none 0 0), 1, 24) := by kernel_rfl
theorem zeroS : (Try.prog.info? 22).map (·.zero) = some (some (.slice none 0 0)) := by kernel_rfl
def lenS : Value → Nat
  | .slice _ n _ => n
  | _ => 0
/-- the rows that l begins with, and what is left -/
def Pre : List UInt8 → List (List UInt8) → List UInt8 → Prop
  | l, [], left => left = l
  | l, r :: rs, left => ∃ q, parse1 l = some (r, q) ∧ Pre q rs left
theorem parse1_len {l x q : List UInt8} (h : parse1 l = some (x, q)) : q.length + x.length + 8 = l.length := by
  unfold parse1 at h
  split at h
  · cases h
  · split at h
    · cases h
    · split at h
      · injection h with h
        injection h with h1 h2
        rw [← h1, ← h2, List.length_take, List.length_drop, List.length_drop]
        simp only [List.length_drop] at *
        omega
      · cases h
theorem Pre.snoc : ∀ {rows : List (List UInt8)} {l left x q : List UInt8}, Pre l rows left → parse1 left = some (x, q) → Pre l (rows ++ [x]) q := by
  intro rows
  induction rows with
  | nil => intro l left x q h hp; cases h; exact ⟨q, hp, rfl⟩
  | cons r rs ih => intro l left x q h hp; obtain ⟨q', h1, h2⟩ := h; exact ⟨q', h1, ih h2 hp⟩
theorem Pre.len : ∀ {rows : List (List UInt8)} {l left : List UInt8}, Pre l rows left → left.length + 8 * rows.length ≤ l.length := by
  intro rows
  induction rows with
  | nil => intro l left h; cases h; simp
  | cons r rs ih => intro l left h; obtain ⟨q', h1, h2⟩ := h; have := ih h2; have := parse1_len h1; simp only [List.length_cons]; omega
theorem Pre.det : ∀ {rows rows' : List (List UInt8)} {l left left' : List UInt8}, Pre l rows left → parse1 left = none → Pre l rows' left' → parse1 left' = none → rows = rows' ∧ left = left' := by
  intro rows
  induction rows with
  | nil =>
    intro rows' l left left' h hn h' hn'
    cases h
    cases rows' with
    | nil => cases h'; exact ⟨rfl, rfl⟩
    | cons r rs => obtain ⟨q, h1, _⟩ := h'; rw [hn] at h1; cases h1
  | cons r rs ih =>
    intro rows' l left left' h hn h' hn'
    obtain ⟨q, h1, h2⟩ := h
    cases rows' with
    | nil => cases h'; rw [hn'] at h1; cases h1
    | cons r' rs' =>
      obtain ⟨q', h1', h2'⟩ := h'
      rw [h1] at h1'
      injection h1' with e
      injection e with e1 e2
      subst e1 e2
      obtain ⟨a, b⟩ := ih h2 hn h2' hn'
      exact ⟨by rw [a], b⟩
def UnI (st : World) (R : HProp) (l : List UInt8) (v4 v5 : Value) (w : World) : Prop :=
  ∃ (rows : List (List UInt8)) (left : List UInt8) (A : Option Addr) (c : Nat) (B : Option Addr) (d : Nat) (G : HProp) (vs : List Value), Pre l rows left ∧ v4 = .slice A rows.length c ∧ v5 = .slice B left.length d ∧
    (∀ (i : Nat) (h : i < rows.length), ∃ A c, vs[i]? = some (.slice A (rows[i]).length c) ∧ Sees st (sep G R) 1 (.slice A (rows[i]).length c) (rows[i]).length (bcells rows[i])) ∧
    Sees st (sep G R) 1 (.slice B left.length d) left.length (bcells left) ∧ Has st (sep (row 22 1 (.slice A rows.length c) rows.length vs) (sep G R)) w
theorem un_reads2 (st : World) (R Y : HProp) (p6 p7 : Nat) (l : List UInt8) : Reads st 29 #[.pointer (some ⟨p6, 0, none⟩), .pointer (some ⟨p7, 0, none⟩)] l (sep (two p6 p7 (.slice none 0 0) (.slice none 0 0)) Y) R (fun RB l' => sep (UQok st R p6 p7 l RB l') Y) (fun RB c => sep (UQerr p6 p7 l RB c) Y) := by
  intro RB X p w h
  refine (un_reads st R p6 p7 l RB (sep Y X) p w (h.cast (by ac_rfl))).mono ?_
  rintro e w' (⟨l', rfl, h⟩ | ⟨c, hc, rfl, h⟩)
  · exact .inl ⟨l', rfl, (show Has st (sep (sep (UQok st R p6 p7 l RB l') Y) (sep (reader st (sep RB R) p l') (sep X (sep RB R)))) w' from h.cast (by ac_rfl))⟩
  · exact .inr ⟨c, hc, rfl, (show Has st (sep (sep (UQerr p6 p7 l RB c) Y) (sep X (sep RB R))) w' from h.cast (by ac_rfl))⟩
theorem decode_un (st : World) (R Y : HProp) (l : List UInt8) (v : Value) (hs : Sees st R 1 v l.length (bcells l)) (hb : l.length ≤ 140737488355328) (p6 p7 : Nat) (w : World) (h : Has st (sep (two p6 p7 (.slice none 0 0) (.slice none 0 0)) (sep Y R)) w) :
    Calls Try.prog 28 #[v, .func (.func 29) #[] #[.pointer (some ⟨p6, 0, none⟩), .pointer (some ⟨p7, 0, none⟩)]] w fun e w' => ∃ RB c, e = .returned (.int .i64 c) ∧
      ((c = 0 ∧ ∃ x, OneOk st R RB l x ∧ Has st (sep (two p6 p7 x.1 x.2) (sep Y (sep RB R))) w') ∨ ((c == 0) = false ∧ parse1 l = none ∧ Has st (sep (two p6 p7 (.slice none 0 0) (.slice none 0 0)) (sep Y (sep RB R))) w')) := by
  refine (decode_any st 29 _ (fun p W => by kernel_rfl) l v _ R _ _ (un_reads2 st R Y p6 p7 l) w (h.cast (by ac_rfl)) hs hb).mono ?_
  rintro e w' ⟨RB, c, rfl, h⟩
  refine ⟨RB, c, rfl, ?_⟩
  obtain ⟨a, b, d, _, ⟨y, z, hy, hz, hyz, rfl⟩, hk⟩ := h
  have mk : ∀ {φ : HProp}, sep φ Y y → Has st (sep φ (sep Y (sep RB R))) w' := fun {φ} hφ => Has.cast (show Has st (sep (sep φ Y) (sep RB R)) w' from ⟨a, b, d, _, ⟨y, z, hφ, hz, hyz, rfl⟩, hk⟩) (by ac_rfl)
  rcases hy with ⟨rfl, hy⟩ | ⟨_, l', hl, hy⟩ | ⟨hc, hy⟩
  · left
    refine ⟨rfl, ?_⟩
    obtain ⟨x, h1⟩ := Has.exL (p := fun x : Value × Value => sep (pure (([] : List UInt8) = [] ∧ OneOk st R RB l x)) (two p6 p7 x.1 x.2)) (mk hy)
    obtain ⟨⟨_, h2⟩, h3⟩ := h1.assoc.pureL
    exact ⟨x, h2, h3⟩
  · exfalso
    obtain ⟨x, h1⟩ := Has.exL (p := fun x : Value × Value => sep (pure (l' = [] ∧ OneOk st R RB l x)) (two p6 p7 x.1 x.2)) (mk hy)
    exact hl h1.assoc.pureL.1.1
  · right
    have h1 : Has st (sep (sep (pure (parse1 l = none)) (two p6 p7 (.slice none 0 0) (.slice none 0 0))) (sep Y (sep RB R))) w' := mk hy
    exact ⟨hc, h1.assoc.pureL.1, h1.assoc.pureL.2⟩
set_option maxRecDepth 100000 in
set_option maxHeartbeats 4000000 in
theorem unchain_any (st : World) (R : HProp) (l : List UInt8) (v : Value) (rows : List (List UInt8)) (left : List UInt8) (hpre : Pre l rows left) (hend : parse1 left = none) (w : World) (h : Has st R w) (hs : Sees st R 1 v l.length (bcells l)) (hb : l.length ≤ 1000000000) :
    Calls Try.prog 19 #[v] w fun e w' => ∃ G A c B d, e = .returned (.tuple #[.slice A rows.length c, .slice B left.length d]) ∧ SeesL st (sep G R) (.slice A rows.length c) rows ∧ Sees st (sep G R) 1 (.slice B left.length d) left.length (bcells left) ∧ Has st (sep G R) w' := by
  have HCL : Hid (Calls Try.prog 21 #[v] w fun e w' => ∃ A c, e = .returned (.slice A l.length c) ∧ Has st (sep (row 5 1 (.slice A l.length c) l.length (bcells l)) R) w') := Lib.hid (clone_any st R l v w h hs (by omega))
  have HPRE := Lib.hid hpre
  have HEND := Lib.hid hend
  have hmf := run_makeFunc
  clear h hs hpre hend
  go_enter Try.func19, Try.ntmps19
  go_wp2_with (first
    | (go_at_call 21; refine HCL.out.mono ?_; rintro e w1 ⟨A1, c1, rfl, h1⟩; have H1 := Lib.hid h1; clear h1)
    | ((first | (with_reducible refine wpList_plain rfl ?_) | ((with_reducible refine wpList_yes _ _ rfl ?_ ?_); (focus rfl))); intro _ hk; (first
      | (fail)); simp only [Act.put, List.setIfInBounds_toArray, List.set_cons_zero, List.set_cons_succ]))
  go_loopw [4, 5] (UnI st R l) (fun _ v5 _ => lenS v5)
  case atStart =>
    exact ⟨[], l, none, 0, A1, c1, row 5 1 (.slice A1 l.length c1) l.length (bcells l), [], rfl, rfl, rfl, fun i h => absurd h (by simp), sees_row st _ 1 _ _ _ R, H1.out.row_nil 22 1⟩
  case round =>
    obtain ⟨rs, lf, A, c, B, d, G, vs, hpr, rfl, rfl, hel, hsl, h3⟩ := hrel
    have hlen := hpr.len
    have HDC : Hid (∀ p6 p7 w, Has st (sep (two p6 p7 (.slice none 0 0) (.slice none 0 0)) (sep (row 22 1 (.slice A rs.length c) rs.length vs) (sep G R))) w → Calls Try.prog 28 #[.slice B lf.length d, .func (.func 29) #[] #[.pointer (some ⟨p6, 0, none⟩), .pointer (some ⟨p7, 0, none⟩)]] w fun e w' => ∃ RB c', e = .returned (.int .i64 c') ∧
        ((c' = 0 ∧ ∃ x, OneOk st (sep G R) RB lf x ∧ Has st (sep (two p6 p7 x.1 x.2) (sep (row 22 1 (.slice A rs.length c) rs.length vs) (sep RB (sep G R)))) w') ∨ ((c' == 0) = false ∧ parse1 lf = none ∧ Has st (sep (two p6 p7 (.slice none 0 0) (.slice none 0 0)) (sep (row 22 1 (.slice A rs.length c) rs.length vs) (sep RB (sep G R)))) w'))) :=
      Lib.hid fun p6 p7 w h => decode_un st _ _ lf _ hsl (by omega) p6 p7 w h
    have HPR := Lib.hid hpr
    have HEL := Lib.hid hel
    have HSL := Lib.hid hsl
    have H3 := Lib.hid h3
    have hrs : rs.length ≤ 125000000 := by omega
    clear hpr hel hsl h3 hlen H1 HCL
    cases hpl : parse1 lf with
    | none =>
      have HPL := Lib.hid hpl
      clear hpl
      go_wp2_with (first
        | (go_at_call 28; refine (HDC.out _ _ _ (H5.out.cast (show _ = sep (two p6 p7 (.slice none 0 0) (.slice none 0 0)) (sep (row 22 1 (.slice A rs.length c) rs.length vs) (sep G R)) by unfold two; ac_rfl))).mono ?_; rintro e w6 ⟨RB, c', rfl, h6⟩; have HX : (c' == 0) = false ∧ Has st (sep (two p6 p7 (.slice none 0 0) (.slice none 0 0)) (sep (row 22 1 (.slice A rs.length c) rs.length vs) (sep RB (sep G R)))) w6 := (by rcases h6 with ⟨_, x, ⟨y, q, _, _, _, _, hp, _⟩, _⟩ | ⟨hc, _, h6⟩; (· rw [HPL.out] at hp; cases hp); exact ⟨hc, h6⟩); have H6 := Lib.hid HX.2; have HC0 := Lib.hid HX.1; clear h6 HX)
        | ((first | (with_reducible refine wpList_plain rfl ?_) | ((with_reducible refine wpList_yes _ _ rfl ?_ ?_); (focus rfl))); intro _ hk; (first
          | (have _k := H4; refine opw_alloc 22 (.slice none 0 0) #[.slice none 0 0] rfl zeroS rfl H4.out (fun p7 w5 hp h5 => hk _ _ ?_); clear hp; have H5 := Lib.hid h5; clear h5)
          | (refine opw_alloc 22 (.slice none 0 0) #[.slice none 0 0] rfl zeroS rfl H3.out (fun p6 w4 hp h4 => hk _ _ ?_); clear hp; have H4 := Lib.hid h4; clear h4)
          | (refine opw_cmp .neq _ _ _ _ .i64 c' 0 true rfl rfl rfl (by simp only [cmpZ]; rw [bne, HC0.out]; rfl) (hk _ _ ?_))); simp only [Act.put, List.setIfInBounds_toArray, List.set_cons_zero, List.set_cons_succ]))
      go_ret2
      obtain ⟨e1, e2⟩ := HPR.out.det HPL.out HPRE.out HEND.out
      subst e1 e2
      have h7 := H6.out.right
      refine ⟨sep RB (sep (row 22 1 (.slice A rs.length c) rs.length vs) G), A, c, B, d, rfl, ⟨vs, fun w hw => ?_, fun i hi => ?_⟩, HSL.out.widen fun w hw => ?_, h7.cast (by ac_rfl)⟩
      · exact sees_row st _ 1 _ _ _ _ w (hw.cast (show _ = sep (row 22 1 (.slice A rs.length c) rs.length vs) (sep RB (sep G R)) by ac_rfl))
      · obtain ⟨A', c2, hv, hse⟩ := HEL.out i hi
        exact ⟨A', c2, hv, hse.widen fun w hw => (hw.cast (show _ = sep (sep RB (row 22 1 (.slice A rs.length c) rs.length vs)) (sep G R) by ac_rfl)).right⟩
      · exact (hw.cast (show _ = sep (sep RB (row 22 1 (.slice A rs.length c) rs.length vs)) (sep G R) by ac_rfl)).right
    | some xq =>
      obtain ⟨x, q⟩ := xq
      have hql := parse1_len hpl
      have HPL := Lib.hid hpl
      clear hpl
      go_wp2_with (first
        | (go_at_call 28; refine (HDC.out _ _ _ (H5.out.cast (show _ = sep (two p6 p7 (.slice none 0 0) (.slice none 0 0)) (sep (row 22 1 (.slice A rs.length c) rs.length vs) (sep G R)) by unfold two; ac_rfl))).mono ?_; rintro e w6 ⟨RB, c', rfl, h6⟩; have HX : c' = 0 ∧ ∃ A7 c7 B7 d7, Sees st (sep RB (sep G R)) 1 (.slice A7 x.length c7) x.length (bcells x) ∧ Sees st (sep RB (sep G R)) 1 (.slice B7 q.length d7) q.length (bcells q) ∧ Has st (sep (two p6 p7 (.slice A7 x.length c7) (.slice B7 q.length d7)) (sep (row 22 1 (.slice A rs.length c) rs.length vs) (sep RB (sep G R)))) w6 := (by rcases h6 with ⟨hc, xx, ⟨y, q', A7, c7, B7, d7, hp, e1, e2, s1, s2⟩, h6⟩ | ⟨_, hp, _⟩; (· rw [HPL.out] at hp; injection hp with hp; injection hp with p1 p2; subst p1 p2; rw [e1, e2] at h6; exact ⟨hc, A7, c7, B7, d7, s1, s2, h6⟩); (rw [HPL.out] at hp; cases hp)); obtain ⟨rfl, A7, c7, B7, d7, s1, s2, h7⟩ := HX; have HS1 := Lib.hid s1; have HS2 := Lib.hid s2; have H7 : Hid (Has st (sep (row 22 1 (.slice A rs.length c) rs.length vs) (sep (blk p6 (.cells #[.slice A7 x.length c7] 22 (0, 0))) (sep (blk p7 (.cells #[.slice B7 q.length d7] 22 (0, 0))) (sep RB (sep G R))))) w6) := Lib.hid (h7.cast (by unfold two; ac_rfl)); clear h6 s1 s2 h7)
        | ((first | (with_reducible refine wpList_plain rfl ?_) | ((with_reducible refine wpList_yes _ _ rfl ?_ ?_); (focus rfl))); intro _ hk; (first
          | (have _k := H4; refine opw_alloc 22 (.slice none 0 0) #[.slice none 0 0] rfl zeroS rfl H4.out (fun p7 w5 hp h5 => hk _ _ ?_); clear hp; have H5 := Lib.hid h5; clear h5)
          | (refine opw_alloc 22 (.slice none 0 0) #[.slice none 0 0] rfl zeroS rfl H3.out (fun p6 w4 hp h4 => hk _ _ ?_); clear hp; have H4 := Lib.hid h4; clear h4)
          | (refine opw_cmp .neq _ _ _ _ .i64 0 0 false rfl rfl rfl rfl (hk _ _ ?_))); simp only [Act.put, List.setIfInBounds_toArray, List.set_cons_zero, List.set_cons_succ]))
      refine wp_region_inv3 (fun L u w' => Slots (fun kk => ([some (.slice A rs.length c), some (.slice A7 x.length c7), none, none, some (.slice B7 q.length d7), none, some (.slice B7 q.length d7)] : List (Option Value)).getD kk none) L u ∧ TailI st 22 (.slice A rs.length c) rs.length vs (.slice A7 x.length c7) (sep (blk p6 (.cells #[.slice A7 x.length c7] 22 (0, 0))) (sep (blk p7 (.cells #[.slice B7 q.length d7] 22 (0, 0))) (sep RB (sep G R)))) 2 3 5 L u w') (by kernel_rfl) (by decide +kernel) (by decide +kernel) (by kernel_rfl) (by kernel_rfl) (fun u => ⟨Slots.start _ u, TailI.start H7.out.drew u⟩) ?_ ?_
      · refine ⟨?_, ?_, ?_, ?_, ?_, ?_, ?_, trivial⟩
        · refine RegStep3.plain rfl ?_; rintro L u w1 bA hL hW hD hU ⟨hS, hH⟩ hin hout; exact opw_move _ _ (.inl rfl) ((hin 5 4 rfl).trans ((hU 5 _ _ rfl rfl (hD.nots 7 5 0 hL (by decide +kernel))).trans (by kernel_rfl))) ⟨_, rfl, hS.step 0 _ (.inr rfl), hH.pure 0 _ (by decide)⟩
        · refine RegStep3.plain rfl ?_; rintro L u w1 bA hL hW hD hU ⟨hS, hH⟩ hin hout; exact opw_load1 _ _ rfl _ Try.underlying22 rfl _ _ ((hout 6 (by kernel_rfl)).trans (by kernel_rfl)) (hH.rr.cell 0) ⟨_, rfl, hS.step 1 _ (.inr rfl), hH.pure 1 _ (by decide)⟩
        · refine RegStep3.plain rfl ?_; rintro L u w1 bA hL hW hD hU ⟨hS, hH⟩ hin hout; exact hH.lit hS rfl hL (hD.nots 1 3 2 hL (by decide +kernel)) (hD.nots 2 5 2 hL (by decide +kernel)) (by decide) _ _ rfl ((hin 1 19 rfl).trans (hS 1 _ rfl (hW.of 1 (by decide)))) (by kernel_rfl)
        · refine RegStep3.plain rfl ?_; rintro L u w1 bA hL hW hD hU ⟨hS, hH⟩ hin hout; exact hH.app hS rfl (hW.of 2 (by decide)) hL (hD.nots 1 5 3 hL (by decide +kernel)) (by decide) _ _ _ _ _ rfl Try.underlying35 infoS3 rfl ((hin 0 18 rfl).trans (hS 0 _ rfl (hW.of 0 (by decide)))) (hin 2 20 rfl) rfl (by unfold maxLen; omega) (by omega)
        · refine RegStep3.plain rfl ?_; rintro L u w1 bA hL hW hD hU ⟨hS, hH⟩ hin hout; exact opw_load1 _ _ rfl _ Try.underlying22 rfl _ _ ((hout 7 (by kernel_rfl)).trans (by kernel_rfl)) (hH.rr.right.cell 0) ⟨_, rfl, hS.step 4 _ (.inr rfl), hH.pure 4 _ (by decide)⟩
        · refine RegStep3.plain rfl ?_; rintro L u w1 bA hL hW hD hU ⟨hS, hH⟩ hin hout; exact hH.asg hS rfl (hW.of 3 (by decide)) hL _ rfl (hin 3 21 rfl)
        · refine RegStep3.plain rfl ?_; rintro L u w1 bA hL hW hD hU ⟨hS, hH⟩ hin hout; exact opw_move _ _ (.inr rfl) ((hin 4 22 rfl).trans (hS 4 _ rfl (hW.of 4 (by decide)))) ⟨_, rfl, hS.step 6 _ (.inr rfl), hH.pure 6 _ (by decide)⟩
      intro L u w8 hL ⟨hS, hH⟩
      obtain ⟨A8, c8, hu5, h8⟩ := hH.done (hL 5 (by decide))
      have E6 := hS 6 _ rfl (hL 6 (by decide))
      simp only [frame_cons, frame_nil, E6, hu5, Act.put, List.setIfInBounds_toArray, List.set_cons_zero, List.set_cons_succ]
      have H8 := Lib.hid h8
      clear hL hS hH E6 hu5 h8
      go_wp2
      go_roundw
      case rel =>
        have hrel2 : UnI st R l (.slice A8 (rs.length + 1) c8) (.slice B7 q.length d7) w8 := by
          have hlr : (rs ++ [x]).length = rs.length + 1 := by simp
          have hvl : vs.length = rs.length := by have := (sees_row st _ 1 _ _ _ _ _ H7.out).1; omega
          have up : ∀ w, Has st (sep (sep (blk p6 (.cells #[.slice A7 x.length c7] 22 (0, 0))) (sep (blk p7 (.cells #[.slice B7 q.length d7] 22 (0, 0))) (sep RB G))) R) w → Has st (sep G R) w := fun w hw => (hw.cast (show _ = sep (sep (blk p6 (.cells #[.slice A7 x.length c7] 22 (0, 0))) (sep (blk p7 (.cells #[.slice B7 q.length d7] 22 (0, 0))) RB)) (sep G R) by ac_rfl)).right
          have upB : ∀ w, Has st (sep (sep (blk p6 (.cells #[.slice A7 x.length c7] 22 (0, 0))) (sep (blk p7 (.cells #[.slice B7 q.length d7] 22 (0, 0))) (sep RB G))) R) w → Has st (sep RB (sep G R)) w := fun w hw => (hw.cast (show _ = sep (sep (blk p6 (.cells #[.slice A7 x.length c7] 22 (0, 0))) (blk p7 (.cells #[.slice B7 q.length d7] 22 (0, 0)))) (sep RB (sep G R)) by ac_rfl)).right
          refine ⟨rs ++ [x], q, A8, c8, B7, d7, sep (blk p6 (.cells #[.slice A7 x.length c7] 22 (0, 0))) (sep (blk p7 (.cells #[.slice B7 q.length d7] 22 (0, 0))) (sep RB G)), vs ++ [.slice A7 x.length c7], HPR.out.snoc HPL.out, by rw [hlr], rfl, fun i hi => ?_, ?_, ?_⟩
          · by_cases hlt : i < rs.length
            · obtain ⟨A', c2, hv, hse⟩ := HEL.out i hlt
              refine ⟨A', c2, ?_, ?_⟩
              · rw [List.getElem?_append_left (by omega), List.getElem_append_left hlt]; exact hv
              · rw [List.getElem_append_left hlt]; exact hse.widen up
            · have hi2 : i = rs.length := by omega
              subst hi2
              refine ⟨A7, c7, ?_, ?_⟩
              · rw [List.getElem?_append_right (by omega), hvl, Nat.sub_self]
                simp
              · simp only [List.getElem_append_right (Nat.le_refl _), Nat.sub_self, List.getElem_cons_zero]
                exact HS1.out.widen upB
          · exact HS2.out.widen upB
          · rw [hlr]; exact H8.out.cast (by ac_rfl)
        first | exact hrel2 | ((repeat apply Exists.intro); exact ⟨hrel2, rfl⟩)
      case measure => simp only [lenS]; omega
end Go.Proofs.Ytbiacehmfbopfaa
