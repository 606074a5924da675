/-
  cache: what it holds, told of sums and bytes alone.
-/
import Derived.Test.YtblknhpafifebaaDoorAllB
import Derived.Test.YtblknhpafifebaaDoorCacheG
namespace Go.Proofs.YtblknhpafifebaaDoor
open Go Go.RowKit Go.Sl Go.Sha
set_option linter.unusedVariables false
set_option linter.unusedSimpArgs false
set_option maxRecDepth 100000

/-- a row of kept blobs: sums and bytes -/
abbrev CL := List (List UInt8 × List UInt8)
def absK (K : List Kp) : CL := K.map fun k => (k.id, k.b)
def totL (L : CL) : Nat := (L.map (·.2.length)).sum
def placeL (id : List UInt8) (L : CL) : Option Nat := L.findIdx? fun k => k.1 == id
def dropL (id : List UInt8) (L : CL) : CL := match placeL id L with | some i => L.eraseIdx i | none => L
def trimL (lim : Int) (n : Nat) : CL → CL
  | [] => []
  | k :: L => if lim < ((totL (k :: L) + n : Nat) : Int) then trimL lim n L else k :: L
def putL (lim : Int) (L : CL) (id b : List UInt8) : CL := if lim < (b.length : Int) then dropL id L else trimL lim b.length (dropL id L) ++ [(id, b)]
def getL (id : List UInt8) (L : CL) : CL × List UInt8 × Bool :=
  match placeL id L with
  | none => (L, [], false)
  | some i => match L[i]? with
    | none => (L, [], false)
    | some k => if sha k.2 == id then (L.eraseIdx i ++ [k], k.2, true) else (L.eraseIdx i, [], false)
def spoilL (id : List UInt8) (bit : Int) (L : CL) : CL × Bool :=
  match placeL id L with
  | none => (L, false)
  | some i => match L[i]? with
    | none => (L, false)
    | some k => if k.2.length = 0 then (L, false) else (L.set i (k.1, Sl.flip k.2 (bit % ((8 * k.2.length : Nat) : Int)).toNat), true)

theorem abs_length (K : List Kp) : (absK K).length = K.length := by simp [absK]
theorem abs_tot (K : List Kp) : totL (absK K) = tot K := by simp [absK, totL, tot, Function.comp_def]
theorem abs_place (id : List UInt8) (K : List Kp) : placeL id (absK K) = place id K := by
  unfold placeL place absK
  rw [List.findIdx?_map]; rfl
theorem abs_erase (K : List Kp) (i : Nat) : absK (K.eraseIdx i) = (absK K).eraseIdx i := by
  unfold absK; rw [List.eraseIdx_eq_take_drop_succ, List.eraseIdx_eq_take_drop_succ, List.map_append, List.map_take, List.map_drop]
theorem abs_append (K M : List Kp) : absK (K ++ M) = absK K ++ absK M := by simp [absK]
theorem abs_get (K : List Kp) (i : Nat) : (absK K)[i]? = K[i]?.map fun k => (k.id, k.b) := by simp [absK]
theorem abs_drop (id : List UInt8) (K : List Kp) : absK (dropK id K) = dropL id (absK K) := by
  unfold dropK dropL
  rw [abs_place]
  cases place id K with
  | none => rfl
  | some i => exact abs_erase K i
theorem abs_trim (lim : Int) (n : Nat) : ∀ K : List Kp, absK (trimK lim n K) = trimL lim n (absK K)
  | [] => rfl
  | k :: K => by
    have e : absK (k :: K) = (k.id, k.b) :: absK K := rfl
    rw [trimK, e, trimL, ← e, abs_tot]
    split
    · exact abs_trim lim n K
    · rfl
theorem abs_put (lim : Int) (K : List Kp) (k : Kp) : absK (putK lim K k) = putL lim (absK K) k.id k.b := by
  unfold putK putL
  split
  · exact abs_drop _ _
  · rw [abs_append, abs_trim, abs_drop]; rfl
theorem abs_getK (id : List UInt8) (K : List Kp) : absK (getK id K).1 = (getL id (absK K)).1 ∧ (getK id K).2 = (getL id (absK K)).2 := by
  unfold getK getL
  rw [abs_place]
  cases place id K with
  | none => exact ⟨rfl, rfl⟩
  | some i =>
    simp only [abs_get]
    cases K[i]? with
    | none => exact ⟨rfl, rfl⟩
    | some k =>
      simp only [Option.map_some]
      split
      · exact ⟨by rw [abs_append, abs_erase]; rfl, rfl⟩
      · exact ⟨abs_erase _ _, rfl⟩
theorem abs_spoil (id : List UInt8) (bit : Int) (K : List Kp) : absK (spoilK id bit K).1 = (spoilL id bit (absK K)).1 ∧ (spoilK id bit K).2 = (spoilL id bit (absK K)).2 := by
  unfold spoilK spoilL
  rw [abs_place]
  cases place id K with
  | none => exact ⟨rfl, rfl⟩
  | some i =>
    simp only [abs_get]
    cases K[i]? with
    | none => exact ⟨rfl, rfl⟩
    | some k =>
      simp only [Option.map_some]
      split
      · exact ⟨rfl, rfl⟩
      · exact ⟨by simp [absK, List.map_set], rfl⟩
theorem ok_trim {lim : Int} {n : Nat} : ∀ {K : List Kp}, (∀ k ∈ K, k.ok) → ∀ k ∈ trimK lim n K, k.ok
  | [], h => h
  | x :: K, h => by
    rw [trimK]
    split
    · exact ok_trim fun k hk => h k (by simp [hk])
    · exact h
theorem ok_put {lim : Int} {K : List Kp} {k : Kp} (h : ∀ k ∈ K, k.ok) (hk : k.ok) : ∀ x ∈ putK lim K k, x.ok := by
  unfold putK
  split
  · exact ok_drop h _
  · exact ok_append (ok_trim (ok_drop h _)) hk
theorem ok_get {id : List UInt8} {K : List Kp} (h : ∀ k ∈ K, k.ok) : ∀ x ∈ (getK id K).1, x.ok := by
  unfold getK
  split
  · exact h
  · split
    · exact h
    · rename_i k hk
      split
      · exact ok_append (ok_erase h _) (h k (List.mem_of_getElem? hk))
      · exact ok_erase h _
theorem ok_spoil {id : List UInt8} {bit : Int} {K : List Kp} (h : ∀ k ∈ K, k.ok) : ∀ x ∈ (spoilK id bit K).1, x.ok := by
  unfold spoilK
  split
  · exact h
  · split
    · exact h
    · rename_i k hk
      split
      · exact h
      · intro x hx
        rcases List.mem_or_eq_of_mem_set hx with hx | rfl
        · exact h x hx
        · have := h k (List.mem_of_getElem? hk)
          exact ⟨this.1, by show ∃ A c, k.v = .slice A (Sl.flip _ _).length c; rw [flip_length]; exact this.2⟩
/-- a Cache that holds L -/
def cacheA (p : Nat) (L : CL) (lim : Int) : HProp := ex fun K : List Kp => sep (pure (absK K = L ∧ ∀ k ∈ K, k.ok)) (cacheP p K lim)
theorem openA {st w : World} {R : HProp} {p : Nat} {L : CL} {lim : Int} (h : Has st (sep (cacheA p L lim) R) w) : ∃ K, absK K = L ∧ (∀ k ∈ K, k.ok) ∧ Has st (sep (cacheP p K lim) R) w := by
  obtain ⟨K, h1⟩ := h.exL
  obtain ⟨⟨h2, h3⟩, h4⟩ := h1.assoc.pureL
  exact ⟨K, h2, h3, h4⟩
theorem toA {st w : World} {R : HProp} {p : Nat} {L : CL} {lim : Int} (K : List Kp) (hK : absK K = L) (hok : ∀ k ∈ K, k.ok) (h : Has st (sep (cacheP p K lim) R) w) : Has st (sep (cacheA p L lim) R) w :=
  Has.ofEx K ((Has.ofPure ⟨hK, hok⟩ h).unassoc)

theorem newA_any (st : World) (R : HProp) (lim : Int) (w : World) (h : Has st R w) (hl : -9223372036854775808 ≤ lim ∧ lim ≤ 9223372036854775807) :
    Calls Tryd.prog 10 #[.int .i64 lim] w fun e w' => ∃ p, e = .returned (.pointer (some ⟨p, 0, none⟩)) ∧ Has st (sep (cacheA p [] (max lim 0)) R) w' :=
  (cnew_any st R lim w h hl).mono fun e w' ⟨p, e1, h1⟩ => ⟨p, e1, toA [] rfl (by simp) h1⟩
theorem putA_any (st : World) (R : HProp) (p : Nat) (L : CL) (lim : Int) (b : List UInt8) (v : Value) (w : World) (h : Has st (sep (cacheA p L lim) R) w) (hk : Keys st R) (hst : Start st R) (hs : Sees st R 1 v b.length (bcells b))
    (hlen : L.length ≤ 100000) (htot : totL L ≤ 100000000) (hb : b.length ≤ 100000000) (hlim : 0 ≤ lim) :
    Calls Tryd.prog 13 #[.pointer (some ⟨p, 0, none⟩), v] w fun e w' => e = .returned (.agg (bcells (sha b)).toArray) ∧ Has st (sep (cacheA p (putL lim L (sha b) b) lim) R) w' := by
  obtain ⟨K, rfl, hok, h1⟩ := openA h
  rw [abs_length] at hlen
  rw [abs_tot] at htot
  exact (put_any st R p K lim b v w h1 hk hst hs hok hlen htot hb hlim).mono fun e w' ⟨e1, V, hV, h2⟩ => ⟨e1, toA _ (abs_put lim K ⟨sha b, V, b⟩) (ok_put hok hV) h2⟩
theorem getA_any (st : World) (R : HProp) (p : Nat) (L : CL) (lim : Int) (id : List UInt8) (w : World) (h : Has st (sep (cacheA p L lim) R) w) (hk : Keys st R) (hst : Start st R) (hid : id.length = 32)
    (hlen : L.length ≤ 100000) (htot : totL L ≤ 100000000) :
    Calls Tryd.prog 15 #[.pointer (some ⟨p, 0, none⟩), .agg (bcells id).toArray] w fun e w' => ∃ V, e = .returned (.tuple #[V, .bool (getL id L).2.2]) ∧ Has st (sep (row 5 1 V (getL id L).2.1.length (bcells (getL id L).2.1)) (sep (cacheA p (getL id L).1 lim) R)) w' := by
  obtain ⟨K, rfl, hok, h1⟩ := openA h
  rw [abs_length] at hlen
  rw [abs_tot] at htot
  refine (get_any st R p K lim id w h1 hk hst hid hok hlen htot).mono fun e w' ⟨V, e1, h2⟩ => ⟨V, ?_, ?_⟩
  · rw [← (abs_getK id K).2]; exact e1
  · rw [← (abs_getK id K).2]
    exact (toA _ (abs_getK id K).1 (ok_get hok) h2.second).second
theorem spoilA_any (st : World) (R : HProp) (p : Nat) (L : CL) (lim : Int) (id : List UInt8) (bit : Int) (w : World) (h : Has st (sep (cacheA p L lim) R) w) (hid : id.length = 32)
    (hlen : L.length ≤ 100000) (htot : totL L ≤ 100000000) :
    Calls Tryd.prog 18 #[.pointer (some ⟨p, 0, none⟩), .agg (bcells id).toArray, .int .i64 bit] w fun e w' => e = .returned (.bool (spoilL id bit L).2) ∧ Has st (sep (cacheA p (spoilL id bit L).1 lim) R) w' := by
  obtain ⟨K, rfl, hok, h1⟩ := openA h
  rw [abs_length] at hlen
  rw [abs_tot] at htot
  refine (spoil_any st R p K lim id bit w h1 hid hok hlen htot).mono fun e w' ⟨e1, h2⟩ => ⟨?_, ?_⟩
  · rw [← (abs_spoil id bit K).2]; exact e1
  · exact toA _ (abs_spoil id bit K).1 (ok_spoil hok) h2
theorem lenA_any (st : World) (R : HProp) (p : Nat) (L : CL) (lim : Int) (w : World) (h : Has st (sep (cacheA p L lim) R) w) :
    Calls Tryd.prog 22 #[.pointer (some ⟨p, 0, none⟩)] w fun e w' => e = .returned (.int .i64 (L.length : Int)) ∧ Has st (sep (cacheA p L lim) R) w' := by
  obtain ⟨K, rfl, hok, h1⟩ := openA h
  rw [abs_length]
  exact (len_any st R p K lim w h1).mono fun e w' ⟨e1, h2⟩ => ⟨e1, toA K rfl hok h2⟩
theorem sizeA_any (st : World) (R : HProp) (p : Nat) (L : CL) (lim : Int) (w : World) (h : Has st (sep (cacheA p L lim) R) w) :
    Calls Tryd.prog 23 #[.pointer (some ⟨p, 0, none⟩)] w fun e w' => e = .returned (.int .i64 (totL L : Int)) ∧ Has st (sep (cacheA p L lim) R) w' := by
  obtain ⟨K, rfl, hok, h1⟩ := openA h
  rw [abs_tot]
  exact (csize_any st R p K lim w h1).mono fun e w' ⟨e1, h2⟩ => ⟨e1, toA K rfl hok h2⟩
theorem wipeA_any (st : World) (R : HProp) (p : Nat) (L : CL) (lim : Int) (w : World) (h : Has st (sep (cacheA p L lim) R) w) :
    Calls Tryd.prog 19 #[.pointer (some ⟨p, 0, none⟩)] w fun e w' => e = .returned (.tuple #[]) ∧ Has st (sep (cacheA p [] lim) R) w' := by
  obtain ⟨K, rfl, hok, h1⟩ := openA h
  exact (wipe_any st R p K lim w h1).mono fun e w' ⟨e1, h2⟩ => ⟨e1, toA [] rfl (by simp) h2⟩
/-- sums' cells -/
def idsC (l : List (List UInt8)) : List Value := l.flatMap bcells
theorem idcs_ids : ∀ (K : List Kp) (h : ∀ k ∈ K, k.ok) (n : Nat), idcs ((idsOf K h).take n) = idsC (((absK K).map (·.1)).take n)
  | [], _, n => by simp [idsOf, idcs, idsC, absK]
  | k :: K, h, 0 => by simp [idcs, idsC]
  | k :: K, h, n + 1 => by
    have := idcs_ids K (fun x hx => h x (by simp [hx])) n
    simp only [idsOf, absK, List.map_cons, List.take_succ_cons, idcs, idsC, List.flatMap_cons] at this ⊢
    rw [this]; rfl
def topL (L : CL) (most : Int) : List (List UInt8) := (L.map (·.1)).take most.toNat
theorem allA_any (st : World) (R : HProp) (p : Nat) (L : CL) (lim most : Int) (w : World) (h : Has st (sep (cacheA p L lim) R) w) (hlen : L.length ≤ 100000) :
    Calls Tryd.prog 21 #[.pointer (some ⟨p, 0, none⟩), .int .i64 most] w fun e w' => ∃ A c, e = .returned (.slice A (topL L most).length c) ∧ Has st (sep (row 34 32 (.slice A (topL L most).length c) (topL L most).length (idsC (topL L most))) (sep (cacheA p L lim) R)) w' := by
  obtain ⟨K, rfl, hok, h1⟩ := openA h
  rw [abs_length] at hlen
  refine (allL_any st R p K lim most w h1 hok hlen).mono fun e w' ⟨v, e1, h2⟩ => ?_
  have hl : (allIds K hok most).length = (topL (absK K) most).length := by
    unfold allIds topL
    rw [List.length_take, List.length_take, idsOf_length, List.length_map, abs_length]
  have hc : idcs (allIds K hok most) = idsC (topL (absK K) most) := idcs_ids K hok _
  rw [hl, hc] at h2
  obtain ⟨A, c, rfl⟩ := h2.row_slice
  exact ⟨A, c, e1, (toA K rfl hok h2.second).second⟩
end Go.Proofs.YtblknhpafifebaaDoor
