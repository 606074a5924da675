/-
  Pieces of memory: what a part of the heap holds, and how it is kept while the rest turns. No program in sight.
-/
import Derived.WalkKit
import Derived.RowKit3
import Derived.Laws.Rows
import Derived.Laws.AppendOwn
import Derived.Deep.Draws
import Derived.Lib.ConvBytes
import Derived.Lib.Hide
import Derived.Laws.AppendOwnNone
namespace Go.Sl
open Go Go.RowKit
set_option linter.unusedVariables false
set_option linter.unusedSimpArgs false

abbrev Hp := Nat → Option Obj
abbrev HProp := Hp → Prop

def Hp.join (a b : Hp) : Hp := fun k => (a k).or (b k)
def Hp.apart (a b : Hp) : Prop := ∀ k, a k = none ∨ b k = none

theorem Hp.join_comm {a b : Hp} (h : a.apart b) : a.join b = b.join a := by
  funext k
  rcases h k with h | h <;> simp [Hp.join, h]

def sep (p q : HProp) : HProp := fun h => ∃ a b, p a ∧ q b ∧ Hp.apart a b ∧ h = Hp.join a b
def emp : HProp := fun h => h = fun _ => none
def blk (b : Nat) (o : Obj) : HProp := fun h => h = fun k => if k = b then some o else none
def pure (φ : Prop) : HProp := fun h => φ ∧ h = fun _ => none
def ex {α : Type} (p : α → HProp) : HProp := fun h => ∃ x, p x h

theorem sep_comm (p q : HProp) : sep p q = sep q p := by
  funext h
  apply propext
  constructor
  · rintro ⟨a, b, hp, hq, hab, rfl⟩
    exact ⟨b, a, hq, hp, fun k => (hab k).symm, Hp.join_comm hab⟩
  · rintro ⟨a, b, hp, hq, hab, rfl⟩
    exact ⟨b, a, hq, hp, fun k => (hab k).symm, Hp.join_comm hab⟩

theorem sep_assoc (p q r : HProp) : sep (sep p q) r = sep p (sep q r) := by
  funext h
  apply propext
  constructor
  · rintro ⟨ab, c, ⟨a, b, hp, hq, hab, rfl⟩, hr, habc, rfl⟩
    refine ⟨a, Hp.join b c, hp, ⟨b, c, hq, hr, ?_, rfl⟩, ?_, ?_⟩
    · intro k
      rcases habc k with h | h
      · left
        have h' : (a k).or (b k) = none := h
        cases ha : a k <;> simp_all
      · exact .inr h
    · intro k
      rcases habc k with h | h
      · left
        have h' : (a k).or (b k) = none := h
        cases ha : a k <;> simp_all
      · rcases hab k with g | g
        · exact .inl g
        · right
          show (b k).or (c k) = none
          simp [g, h]
    · funext k
      show ((a k).or (b k)).or (c k) = (a k).or ((b k).or (c k))
      cases a k <;> simp
  · rintro ⟨a, bc, hp, ⟨b, c, hq, hr, hbc, rfl⟩, habc, rfl⟩
    refine ⟨Hp.join a b, c, ⟨a, b, hp, hq, ?_, rfl⟩, hr, ?_, ?_⟩
    · intro k
      rcases habc k with h | h
      · exact .inl h
      · right
        have h' : (b k).or (c k) = none := h
        cases hb : b k <;> simp_all
    · intro k
      rcases habc k with h | h
      · rcases hbc k with g | g
        · left
          show (a k).or (b k) = none
          simp [g, h]
        · exact .inr g
      · right
        have h' : (b k).or (c k) = none := h
        cases hb : b k <;> simp_all
    · funext k
      show (a k).or ((b k).or (c k)) = ((a k).or (b k)).or (c k)
      cases a k <;> simp

instance : Std.Associative sep := ⟨sep_assoc⟩
instance : Std.Commutative sep := ⟨sep_comm⟩

/-- The world w holds the piece p; its streams are those of s. -/
structure Has (s : World) (p : HProp) (w : World) : Prop where
  os : w.os = s.os
  tape : w.tape = s.tape
  output : w.output = s.output
  piece : ∃ h, p h ∧ ∀ k o, h k = some o → w.heap[k]? = some o

theorem Has.mono {s : World} {p q : HProp} {w : World} (h : Has s p w) (hpq : ∀ x, p x → q x) : Has s q w :=
  ⟨h.os, h.tape, h.output, let ⟨x, hx, hk⟩ := h.piece; ⟨x, hpq x hx, hk⟩⟩
theorem Has.cast {s : World} {p q : HProp} {w : World} (h : Has s p w) (e : p = q) : Has s q w := e ▸ h
theorem Has.right {s : World} {p q : HProp} {w : World} (h : Has s (sep p q) w) : Has s q w := by
  obtain ⟨a, b, c, x, ⟨y, z, hy, hz, hyz, rfl⟩, hk⟩ := h
  refine ⟨a, b, c, z, hz, fun k o ho => hk k o ?_⟩
  rcases hyz k with g | g
  · simp [Hp.join, g, ho]
  · rw [g] at ho; cases ho
theorem Has.left {s : World} {p q : HProp} {w : World} (h : Has s (sep p q) w) : Has s p w := (h.cast (sep_comm p q)).right
theorem Has.swap {s : World} {p q : HProp} {w : World} (h : Has s (sep p q) w) : Has s (sep q p) w := h.cast (sep_comm p q)
theorem Has.assoc {s : World} {p q r : HProp} {w : World} (h : Has s (sep (sep p q) r) w) : Has s (sep p (sep q r)) w := h.cast (sep_assoc p q r)
theorem Has.unassoc {s : World} {p q r : HProp} {w : World} (h : Has s (sep p (sep q r)) w) : Has s (sep (sep p q) r) w := h.cast (sep_assoc p q r).symm
theorem sep_left_comm (p q r : HProp) : sep p (sep q r) = sep q (sep p r) := by rw [← sep_assoc, sep_comm p q, sep_assoc]
/-- the second piece first -/
theorem Has.second {s : World} {p q r : HProp} {w : World} (h : Has s (sep p (sep q r)) w) : Has s (sep q (sep p r)) w := h.cast (sep_left_comm p q r)
/-- the second piece is let go -/
theorem Has.drop2 {s : World} {p q r : HProp} {w : World} (h : Has s (sep p (sep q r)) w) : Has s (sep p r) w := h.second.right
theorem sep_mono_left {p p' r : HProp} (hp : ∀ x, p x → p' x) : ∀ x, sep p r x → sep p' r x := by
  rintro _ ⟨a, b, ha, hb, hab, rfl⟩
  exact ⟨a, b, hp a ha, hb, hab, rfl⟩
theorem Has.monoL {s : World} {p p' r : HProp} {w : World} (h : Has s (sep p r) w) (hp : ∀ x, p x → p' x) : Has s (sep p' r) w := h.mono (sep_mono_left hp)
theorem Has.exL {s : World} {α : Type} {p : α → HProp} {r : HProp} {w : World} (h : Has s (sep (ex p) r) w) : ∃ x, Has s (sep (p x) r) w := by
  obtain ⟨a, b, c, _, ⟨y, z, ⟨x, hy⟩, hz, hyz, rfl⟩, hk⟩ := h
  exact ⟨x, a, b, c, _, ⟨y, z, hy, hz, hyz, rfl⟩, hk⟩
theorem Has.ofEx {s : World} {α : Type} {p : α → HProp} {r : HProp} {w : World} (x : α) (h : Has s (sep (p x) r) w) : Has s (sep (ex p) r) w :=
  h.monoL fun _ hy => ⟨x, hy⟩
theorem sep_pure (φ : Prop) (r : HProp) (x : Hp) : sep (pure φ) r x ↔ φ ∧ r x := by
  constructor
  · rintro ⟨a, b, ⟨hφ, rfl⟩, hb, _, rfl⟩
    refine ⟨hφ, ?_⟩
    have : Hp.join (fun _ => none) b = b := by funext k; simp [Hp.join]
    rwa [this]
  · rintro ⟨hφ, hx⟩
    exact ⟨fun _ => none, x, ⟨hφ, rfl⟩, hx, fun _ => .inl rfl, by funext k; simp [Hp.join]⟩
theorem Has.pureL {s : World} {φ : Prop} {r : HProp} {w : World} (h : Has s (sep (pure φ) r) w) : φ ∧ Has s r w := by
  obtain ⟨a, b, c, x, hx, hk⟩ := h
  have := (sep_pure φ r x).1 hx
  exact ⟨this.1, a, b, c, x, this.2, hk⟩
theorem Has.ofPure {s : World} {φ : Prop} {r : HProp} {w : World} (hφ : φ) (h : Has s r w) : Has s (sep (pure φ) r) w :=
  h.mono fun x hx => (sep_pure φ r x).2 ⟨hφ, hx⟩
theorem Has.ofEmp {s : World} {r : HProp} {w : World} (h : Has s r w) : Has s (sep emp r) w :=
  h.mono fun x hx => ⟨fun _ => none, x, rfl, hx, fun _ => .inl rfl, by funext k; simp [Hp.join]⟩

/-- what is known of one block -/
theorem Has.blk {s : World} {b : Nat} {o : Obj} {r : HProp} {w : World} (h : Has s (sep (blk b o) r) w) : w.heap[b]? = some o := by
  obtain ⟨_, _, _, x, hx, hk⟩ := h.left
  have : x = _ := hx
  subst this
  exact hk b o (by simp)
theorem Has.lt {s : World} {b : Nat} {o : Obj} {r : HProp} {w : World} (h : Has s (sep (Sl.blk b o) r) w) : b < w.heap.size := (Array.getElem?_eq_some_iff.1 h.blk).1

theorem Has.ne {s : World} {a b : Nat} {o o' : Obj} {r : HProp} {w : World} (h : Has s (sep (Sl.blk a o) (sep (Sl.blk b o') r)) w) : ¬ a = b := by
  rintro rfl
  obtain ⟨_, _, _, _, ⟨x, _, hx, ⟨y, z, hy, hz, hyz, rfl⟩, hxy, rfl⟩, _⟩ := h
  have hx' : x = _ := hx
  have hy' : y = _ := hy
  subst hx' hy'
  rcases hxy a with g | g
  · simp at g
  · simp [Hp.join] at g
/-- w' keeps all blocks of w but those of S -/
structure KeptBut (S : Nat → Prop) (w w' : World) : Prop where
  os : w'.os = w.os
  tape : w'.tape = w.tape
  output : w'.output = w.output
  size : w.heap.size ≤ w'.heap.size
  block : ∀ k, k < w.heap.size → ¬ S k → w'.heap[k]? = w.heap[k]?

theorem KeptBut.of_below {B : Nat} {w w' : World} (h : Below B w w') : KeptBut (fun k => B ≤ k) w w' :=
  ⟨h.os, h.tape, h.output, h.size, fun k _ hn => h.block k (by omega)⟩
theorem KeptBut.of_grown {w w' : World} {row : Option Nat} (h : w.grownBy w' row) : KeptBut (fun k => some k = row) w w' :=
  ⟨h.os, h.tape, h.output, h.size, fun k hk hn => h.block k hk hn⟩

/-- THE GENERAL STEP: the piece p becomes p', the rest is kept. -/
theorem Has.step {s : World} {p p' r : HProp} {w w' : World} (h : Has s (sep p r) w)
    (hp : ∀ x, p x → (∀ k o, x k = some o → w.heap[k]? = some o) → ∃ S x', KeptBut S w w' ∧ p' x' ∧ (∀ k o, x' k = some o → w'.heap[k]? = some o) ∧
      (∀ k, S k → k < w.heap.size → x k ≠ none) ∧ (∀ k, x' k ≠ none → x k ≠ none ∨ w.heap.size ≤ k)) : Has s (sep p' r) w' := by
  obtain ⟨h1, h2, h3, _, ⟨x, y, hx, hy, hxy, rfl⟩, hk⟩ := h
  have hkx : ∀ k o, x k = some o → w.heap[k]? = some o := fun k o ho => hk k o (by simp [Hp.join, ho])
  have hky : ∀ k o, y k = some o → w.heap[k]? = some o := fun k o ho => hk k o (by
    rcases hxy k with g | g
    · simp [Hp.join, g, ho]
    · rw [g] at ho; cases ho)
  obtain ⟨S, x', hK, hp', hkx', hS, hnew⟩ := hp x hx hkx
  have hyx' : ∀ k, x' k = none ∨ y k = none := by
    intro k
    by_cases hx' : x' k = none
    · exact .inl hx'
    · right
      rcases hnew k hx' with g | g
      · exact (hxy k).resolve_left g
      · cases hy' : y k with
        | none => rfl
        | some o =>
          have := hky k o hy'
          rw [Array.getElem?_eq_none g] at this
          cases this
  refine ⟨hK.os.trans h1, hK.tape.trans h2, hK.output.trans h3, _, ⟨x', y, hp', hy, hyx', rfl⟩, ?_⟩
  intro k o ho
  have ho' : (x' k).or (y k) = some o := ho
  cases hx' : x' k with
  | some o' =>
    rw [hx'] at ho'
    simp at ho'
    subst ho'
    exact hkx' k _ hx'
  | none =>
    rw [hx'] at ho'
    simp at ho'
    have hw := hky k o ho'
    have hlt := (Array.getElem?_eq_some_iff.1 hw).1
    rw [hK.block k hlt ?_]
    · exact hw
    · intro hs
      have := hS k hs hlt
      rcases hxy k with g | g
      · exact this g
      · rw [g] at ho'; cases ho'

theorem Has.drew {s : World} {p : HProp} {w : World} (h : Has s p w) : Has s p w.drew := ⟨h.os, h.tape, h.output, h.piece⟩
theorem Has.drewN {s : World} {p : HProp} {w : World} (h : Has s p w) (n : Nat) : Has s p (w.drewN n) := ⟨h.os, h.tape, h.output, h.piece⟩
/-- a new block -/
theorem Has.alloc {s : World} {r : HProp} {w : World} (h : Has s r w) (o : Obj) : Has s (sep (Sl.blk w.heap.size o) r) (w.alloc o) :=
  h.ofEmp.step fun x hx _ => by
    refine ⟨fun _ => False, _, ⟨rfl, rfl, rfl, by simp, fun k hk _ => Below.heap_alloc w o k hk⟩, rfl, ?_, fun _ hf => hf.elim, ?_⟩
    · intro k o' ho
      split at ho
      · next e => subst e; injection ho with ho; subst ho; exact heap_alloc_new w _
      · cases ho
    · intro k hk
      split at hk
      · next e => subst e; exact .inr (Nat.le_refl _)
      · exact absurd rfl hk
theorem Has.alloc' {s : World} {r : HProp} {w : World} (h : Has s r w) (o : Obj) : Has s r (w.alloc o) := (h.alloc o).right
theorem kept_setCell (w : World) (b i : Nat) (v : Value) : KeptBut (fun k => k = b) w (w.setCell ⟨b, i, none⟩ v) :=
  ⟨rfl, rfl, rfl, by simp [World.setCell], fun k _ hn => Below.heap_setCell w ⟨b, i, none⟩ v k hn⟩
theorem heap_setCell_at (w : World) (b i : Nat) (v : Value) {c : Array Value} {t : TypeId} {f : Nat × Nat} (h : w.heap[b]? = some (.cells c t f)) :
    (w.setCell ⟨b, i, none⟩ v).heap[b]? = some (.cells (c.setIfInBounds i v) t f) := by
  simp [World.setCell, Array.getElem?_modify, h]
/-- a store -/
theorem Has.set {s : World} {b : Nat} {c : Array Value} {t : TypeId} {f : Nat × Nat} {r : HProp} {w : World} (h : Has s (sep (Sl.blk b (.cells c t f)) r) w) (i : Nat) (v : Value) :
    Has s (sep (Sl.blk b (.cells (c.setIfInBounds i v) t f)) r) (w.setCell ⟨b, i, none⟩ v) :=
  h.step fun x hx hk => by
    have hx' : x = _ := hx
    subst hx'
    refine ⟨fun k => k = b, _, kept_setCell w b i v, rfl, ?_, ?_, ?_⟩
    · intro k o ho
      split at ho
      · next e => subst e; injection ho with ho; subst ho; exact heap_setCell_at w _ i v (hk _ _ (by simp))
      · cases ho
    · rintro k rfl _; simp
    · intro k hk'
      left
      split at hk'
      · next e => subst e; simp
      · exact absurd rfl hk'

/-- the facts on one block's cells that a walk asks for -/
theorem Has.cell {s : World} {b : Nat} {c : Array Value} {t : TypeId} {f : Nat × Nat} {r : HProp} {w : World} (h : Has s (sep (Sl.blk b (.cells c t f)) r) w) (i : Nat) :
    w.cell? ⟨b, i, none⟩ = c[i]? := cell_of_row w b i c t f h.blk
theorem Has.free {s : World} {b : Nat} {c : Array Value} {t : TypeId} {r : HProp} {w : World} (h : Has s (sep (Sl.blk b (.cells c t (0, 0))) r) w) (i : Nat) :
    w.frozen? ⟨b, i, none⟩ = false := by simp [World.frozen?, h.blk]

/-- all of w's memory as it is -/
def old (W : World) : HProp := fun h => h = fun k => W.heap[k]?
theorem Has.old_start (W : World) : Has W (old W) W := ⟨rfl, rfl, rfl, _, rfl, fun _ _ h => h⟩
theorem Has.old_below {W w : World} (h : Has W (old W) w) : Below W.heap.size W w := by
  obtain ⟨h1, h2, h3, x, hx, hk⟩ := h
  have : x = _ := hx
  subst this
  have hb : ∀ k, k < W.heap.size → w.heap[k]? = W.heap[k]? := fun k hlt => by
    have e : W.heap[k]? = some W.heap[k] := Array.getElem?_eq_some_iff.2 ⟨hlt, rfl⟩
    rw [e]; exact hk k _ e
  refine ⟨h1, h2, h3, ?_, hb⟩
  rcases Nat.lt_or_ge w.heap.size W.heap.size with hlt | hge
  · have := hb w.heap.size hlt
    rw [Array.getElem?_eq_none (Nat.le_refl _), Array.getElem?_eq_some_iff.2 ⟨hlt, rfl⟩] at this
    cases this
  · exact hge

/-- a row of cells that the holder owns: a nil slice, or the head of a block of its own -/
def row (e : TypeId) (size : Nat) (v : Value) (n : Nat) (xs : List Value) : HProp := fun h =>
  xs.length = n * size ∧
  ((v = .slice none 0 0 ∧ n = 0 ∧ h = fun _ => none) ∨
   ∃ g cap cur, v = .slice (some ⟨g, 0, none⟩) n cap ∧ h = (fun k => if k = g then some (.cells cur e (0, 0)) else none) ∧ n ≤ cap ∧ cap ≤ maxLen ∧ cur.size = cap * size ∧ cur.toList.take (n * size) = xs)

theorem Has.ownsRow {s : World} {e : TypeId} {size : Nat} {v : Value} {n : Nat} {xs : List Value} {r : HProp} {w : World} (h : Has s (sep (row e size v n xs) r) w) : w.ownsRow 0 e size v n xs := by
  obtain ⟨_, _, _, x, ⟨hl, hx⟩, hk⟩ := h.left
  refine ⟨hl, ?_⟩
  rcases hx with ⟨rfl, hn, _⟩ | ⟨g, cap, cur, rfl, rfl, hnc, hcm, hcs, htake⟩
  · exact .inl ⟨rfl, hn⟩
  · exact .inr ⟨g, cap, cur, rfl, Nat.zero_le _, hk g _ (by simp), hnc, hcm, hcs, htake⟩
theorem row_of_owns {w : World} {e : TypeId} {size : Nat} {v : Value} {n : Nat} {xs : List Value} {base : Nat} (h : w.ownsRow base e size v n xs) :
    ∃ x, row e size v n xs x ∧ (∀ k o, x k = some o → w.heap[k]? = some o) ∧ (∀ k, x k ≠ none → v.ownBlock = some k) := by
  obtain ⟨hl, ⟨rfl, rfl⟩ | ⟨g, cap, cur, rfl, hb, hg, hnc, hcm, hcs, htake⟩⟩ := h
  · exact ⟨fun _ => none, ⟨hl, .inl ⟨rfl, rfl, rfl⟩⟩, (by intro k o ho; cases ho), fun k hk => absurd rfl hk⟩
  · refine ⟨_, ⟨hl, .inr ⟨g, cap, cur, rfl, rfl, hnc, hcm, hcs, htake⟩⟩, ?_, ?_⟩
    · intro k o ho
      split at ho
      · next e => subst e; injection ho with ho; subst ho; exact hg
      · cases ho
    · intro k hk
      split at hk
      · next e => subst e; rfl
      · exact absurd rfl hk
/-- an owned row becomes another one: the step of append -/
theorem Has.row_step {s : World} {e : TypeId} {size : Nat} {v v' : Value} {n n' : Nat} {xs xs' : List Value} {r : HProp} {w w' : World} (h : Has s (sep (row e size v n xs) r) w)
    (hg : w.grownBy w' v.ownBlock) (ho : w'.ownsRow 0 e size v' n' xs') (hv : ∀ k, v'.ownBlock = some k → v.ownBlock = some k ∨ w.heap.size ≤ k) : Has s (sep (row e size v' n' xs') r) w' :=
  h.step fun x hx hk => by
    obtain ⟨x', hx', hk', hd⟩ := row_of_owns ho
    have hS : ∀ k, v.ownBlock = some k → x k ≠ none := by
      intro k e
      rcases hx.2 with ⟨rfl, _, _⟩ | ⟨g, cap, cur, rfl, rfl, _⟩
      · simp [Value.ownBlock] at e
      · simp [Value.ownBlock] at e; subst e; simp
    refine ⟨_, x', KeptBut.of_grown hg, hx', hk', fun k e _ => hS k e.symm, fun k e => ?_⟩
    rcases hv k (hd k e) with g | g
    · exact .inl (hS k g)
    · exact .inr g
theorem Has.row_nil {s : World} {r : HProp} {w : World} (e : TypeId) (size : Nat) (h : Has s r w) : Has s (sep (row e size (.slice none 0 0) 0 []) r) w :=
  h.ofEmp.monoL fun x hx => ⟨by simp, .inl ⟨rfl, rfl, hx⟩⟩

/-- v is a slice of n elements (size cells each) that read xs in w -/
def Rd (size : Nat) (w : World) (v : Value) (n : Nat) (xs : List Value) : Prop :=
  xs.length = n * size ∧ ∃ a cap, v = .slice a n cap ∧ n ≤ cap ∧ cap ≤ maxLen ∧ ((a = none ∧ cap = 0) ∨ ∃ ad : Addr, a = some ad ∧ ∀ j u, xs[j]? = some u → ad.spot = none ∧ w.cell? ⟨ad.block, ad.off + j, none⟩ = some u)
/-- whatever world holds R, v reads so -/
def Sees (s : World) (R : HProp) (size : Nat) (v : Value) (n : Nat) (xs : List Value) : Prop := ∀ w, Has s R w → Rd size w v n xs

theorem Sees.right {s : World} {p R : HProp} {size : Nat} {v : Value} {n : Nat} {xs : List Value} (h : Sees s R size v n xs) : Sees s (sep p R) size v n xs := fun w hw => h w hw.right
theorem Sees.left {s : World} {p R : HProp} {size : Nat} {v : Value} {n : Nat} {xs : List Value} (h : Sees s p size v n xs) : Sees s (sep p R) size v n xs := fun w hw => h w hw.left
theorem Sees.form {st : World} {R : HProp} {w : World} {size : Nat} {v : Value} {n : Nat} {xs : List Value} (h : Sees st R size v n xs) (hw : Has st R w) : ∃ A c, v = .slice A n c := by
  obtain ⟨_, A, c, e, _⟩ := h w hw
  exact ⟨A, c, e⟩
theorem addr_add (b off j : Nat) : (⟨b, off, none⟩ : Addr).add j = ⟨b, off + j, none⟩ := by unfold Addr.add; split <;> simp_all
theorem Rd.nil (size : Nat) (w : World) : Rd size w (.slice none 0 0) 0 [] := ⟨by simp, none, 0, rfl, Nat.le_refl _, Nat.zero_le _, .inl ⟨rfl, rfl⟩⟩
theorem Rd.of_row {e : TypeId} {size : Nat} {v : Value} {n : Nat} {xs : List Value} {w : World} (h : w.ownsRow 0 e size v n xs) : Rd size w v n xs := by
  refine ⟨h.1, ?_⟩
  rcases h.2 with ⟨rfl, rfl⟩ | ⟨g, cap, cur, rfl, _, hg, hnc, hcm, _⟩
  · exact ⟨none, 0, rfl, Nat.le_refl _, Nat.zero_le _, .inl ⟨rfl, rfl⟩⟩
  · refine ⟨_, cap, rfl, hnc, hcm, .inr ⟨_, rfl, fun j u hu => ⟨rfl, ?_⟩⟩⟩
    have := h.cells (g := g) rfl j u hu
    rwa [addr_add] at this
theorem sees_row (s : World) (e : TypeId) (size : Nat) (v : Value) (n : Nat) (xs : List Value) (R : HProp) : Sees s (sep (row e size v n xs) R) size v n xs := fun _ hw => Rd.of_row hw.ownsRow
theorem Rd.cell {w : World} {b off n cap : Nat} {xs : List Value} {size : Nat} (h : Rd size w (.slice (some ⟨b, off, none⟩) n cap) n xs) {j : Nat} {u : Value} (hj : xs[j]? = some u) : w.cell? ⟨b, off + j, none⟩ = some u := by
  obtain ⟨_, a, cap', e, _, _, hx⟩ := h
  injection e with e1 _ _
  rcases hx with ⟨rfl, _⟩ | ⟨ad, rfl, hc⟩
  · cases e1
  · injection e1 with e1; subst e1; exact (hc j u hj).2
/-- a slice of one element in a new block -/
theorem Rd.one (w : World) (x : Value) (t : TypeId) : Rd 1 (w.alloc (.cells #[x] t)) (.slice (some ⟨w.heap.size, 0, none⟩) 1 1) 1 [x] := by
  refine ⟨rfl, _, _, rfl, Nat.le_refl _, by decide, .inr ⟨_, rfl, fun j u hu => ⟨rfl, ?_⟩⟩⟩
  show World.cell? _ ⟨w.heap.size, 0 + j, none⟩ = _
  rw [Nat.zero_add]
  rw [cell_of_row _ _ _ _ _ _ (heap_alloc_new w _)]
  cases j with
  | zero => simpa using hu
  | succ j => simp at hu
/-- the parts of a slice with an element in it -/
theorem Rd.open {w : World} {v : Value} {n : Nat} {xs : List Value} {size : Nat} (h : Rd size w v n xs) (hn : 0 < n) (hsz : 0 < size := by decide) :
    ∃ b off cap, v = .slice (some ⟨b, off, none⟩) n cap ∧ n ≤ cap ∧ cap ≤ maxLen ∧ ∀ j u, xs[j]? = some u → w.cell? ⟨b, off + j, none⟩ = some u := by
  obtain ⟨hl, a, cap, rfl, hnc, hcm, ⟨rfl, rfl⟩ | ⟨⟨b, off, sp⟩, rfl, hc⟩⟩ := h
  · omega
  · have h0 : 0 < xs.length := by rw [hl]; exact Nat.mul_pos hn hsz
    have := (hc 0 _ (List.getElem?_eq_getElem h0)).1
    simp only at this
    subst this
    exact ⟨b, off, cap, rfl, hnc, hcm, fun j u hu => (hc j u hu).2⟩

theorem run_append_at {P : Program} (w : World) (t ty e : TypeId) (i : TypeInfo) (z : Value) (size bytes : Nat) (ht : P.underlying t = some (.slice e)) (hi : P.info? e = some i) (hz : i.zero = some z)
    (hsize : i.size = size) (hby : i.bytes = bytes) (hzs : z.cells.size = size) (hsz : 0 < size)
    (v : Value) (n : Nat) (xs : List Value) (hown : w.ownsRow 0 e size v n xs)
    (a : Addr) (m c : Nat) (news : List Value) (hl : news.length = m * size) (hnews : ∀ j u, news[j]? = some u → w.cell? (a.add j) = some u) (h1 : ∀ u ∈ news, u.oneCell' = true)
    (h63 : n + m ≤ maxLen) (hbytes : (n + m) * bytes ≤ 140737488355328) :
    ∃ v' w', (Builtin.append_ #[t, t] ty #[v, .slice (some a) m c]).run P w = .ok v' w' ∧ w'.ownsRow 0 e size v' (n + m) (xs ++ news) ∧ w.grownBy w' v.ownBlock ∧
      (v' = .slice none 0 0 ↔ v = .slice none 0 0 ∧ m = 0) ∧ (v'.ownBlock = v.ownBlock ∨ v'.ownBlock = some w.heap.size) := by
  subst hsize
  subst hby
  have hsmall : n + m ≤ 9223372036854775807 := by simp only [maxLen] at h63; omega
  have hlen : (xs ++ news).length = (n + m) * i.size := by rw [List.length_append, hown.1, hl, Nat.add_mul]
  have grown : ∀ (old : Nat), old < n + m → ∀ (row : Option Nat),
      (w.drew.alloc (.cells (xs.toArray ++ news.toArray ++ Builtin.zeroCells z.cells (grownCap w (n + m) old e - (n + m))) e)).ownsRow 0 e i.size
        (.slice (some ⟨w.heap.size, 0, none⟩) (n + m) (grownCap w (n + m) old e)) (n + m) (xs ++ news) ∧
      w.grownBy (w.drew.alloc (.cells (xs.toArray ++ news.toArray ++ Builtin.zeroCells z.cells (grownCap w (n + m) old e - (n + m))) e)) row := by
    intro old ho row
    have hge := grownCap_ge w (n + m) old e
    have hcm : grownCap w (n + m) old e ≤ maxLen := grownCap_le_maxLen w (n + m) old e h63
    refine ⟨⟨hlen, .inr ⟨w.heap.size, _, _, rfl, Nat.zero_le _, heap_alloc_new w.drew _, hge, hcm, ?_, ?_⟩⟩, ⟨rfl, rfl, rfl, by simp, fun k hk _ => Below.heap_alloc w.drew _ k hk⟩⟩
    · simp only [Array.size_append, List.size_toArray, size_zeroCells, hzs, hown.1, hl, ← Nat.add_mul]
      congr 1
      omega
    · simp only [Array.toList_append, List.append_assoc]
      rw [← List.append_assoc, ← hlen]
      exact List.take_left
  rcases hown.2 with ⟨rfl, rfl⟩ | ⟨g, cap, cur, rfl, hbg, hg, hnc, hcm, hcs, htake⟩
  · have hx : xs = [] := List.eq_nil_of_length_eq_zero (by simpa using hown.1)
    subst hx
    by_cases hm : m = 0
    · subst hm
      have hn : news = [] := List.eq_nil_of_length_eq_zero (by simpa using hl)
      subst hn
      refine ⟨.slice none 0 0, w, ?_, World.ownsRow_nil w 0 e i.size, ⟨rfl, rfl, rfl, Nat.le_refl _, fun _ _ _ => rfl⟩, by simp, .inl rfl⟩
      simp [Builtin.append_, run_underlying ht, sizeOf, typeInfo, hi, Builtin.lenOf, Builtin.firstCells, loadCells, loadCellsFrom]
    · have hr := run_append_nil (P := P) w t ty e i z ht hi hz a m c news hl hnews (by omega) (by omega) (by have hb := hbytes; simp only [Nat.zero_add] at hb; omega)
      have hgr := grown 0 (by omega) (Value.ownBlock (.slice none 0 0))
      simp only [Nat.zero_add, List.nil_append, Array.empty_append] at hgr ⊢
      exact ⟨_, _, hr, hgr.1, hgr.2, by simp [hm], .inr rfl⟩
  · by_cases hroom : n + m ≤ cap
    · have hfit : n * i.size + news.length ≤ cur.size := by rw [hl, hcs, ← Nat.add_mul]; exact Nat.mul_le_mul_right _ hroom
      have hr := run_append_room (P := P) w t ty e i ht hi g n cap cur hg a m c news hl hnews h1 hroom hfit
      refine ⟨_, _, hr, ⟨hlen, .inr ⟨g, cap, _, rfl, hbg, setRow_heap w g cur _ e _ hg, hroom, hcm, ?_, ?_⟩⟩, ⟨rfl, rfl, rfl, by simp, fun k _ hk => setRow_other w g k _ (fun e => hk (by simp [Value.ownBlock, e]))⟩, by simp, .inl rfl⟩
      · simp only [List.size_toArray, List.length_append, List.length_take, List.length_drop, Array.length_toList]
        omega
      · rw [htake, ← hlen]
        exact List.take_left
    · have holds : ∀ j u, xs[j]? = some u → w.cell? ((⟨g, 0, none⟩ : Addr).add j) = some u := hown.cells (g := g) rfl
      have hr := run_append_grow (P := P) w t ty e i z ht hi hz ⟨g, 0, none⟩ n cap xs hown.1 holds a m c news hl hnews (by omega) (by omega) (growslice_fits (by omega) hbytes)
      have hgr := grown cap (by omega) (Value.ownBlock (.slice (some ⟨g, 0, none⟩) n cap))
      exact ⟨_, _, hr, hgr.1, hgr.2, by simp, .inr rfl⟩

theorem ownsRow_slice {w : World} {base : Nat} {e : TypeId} {size : Nat} {v : Value} {n : Nat} {xs : List Value} (h : w.ownsRow base e size v n xs) : ∃ A c, v = .slice A n c := by
  rcases h.2 with ⟨rfl, rfl⟩ | ⟨g, cap, cur, rfl, _⟩
  · exact ⟨_, _, rfl⟩
  · exact ⟨_, _, rfl⟩
theorem Has.row_slice {s : World} {e : TypeId} {size : Nat} {v : Value} {n : Nat} {xs : List Value} {r : HProp} {w : World} (h : Has s (sep (row e size v n xs) r) w) : ∃ A c, v = .slice A n c := ownsRow_slice h.ownsRow

section ops
variable {P : Program} {ops : Array Oper} {rest : List Oper} {o : Oper} {a : Act} {Q : Exit → Act → World → Prop} {w : World} {st : World}
/-- APPEND to a row of one's own -/
theorem wp_append (hgd : o.guard = none) (s x : Operand) (t e : TypeId) (size bytes : Nat) (z : Value)
    (ho : o.op = .call { callee := .builtin .append, args := #[s, x], argTypes := #[t, t] })
    (ht : P.underlying t = some (.slice e)) (hi : (P.info? e).map (fun i => (i.zero, i.size, i.bytes)) = some (some z, size, bytes)) (hzs : z.cells.size = size) (hsz : 0 < size)
    {v vx : Value} {n m : Nat} {xs news : List Value} {R : HProp} (hs : a.eval s = v) (hx : a.eval x = vx) (h : Has st (sep (row e size v n xs) R) w) (hr : Rd size w vx m news)
    (h1 : ∀ u ∈ news, u.oneCell' = true) (hb1 : n + m ≤ maxLen) (hb2 : (n + m) * bytes ≤ 140737488355328)
    (K : ∀ A c w', Has st (sep (row e size (.slice A (n + m) c) (n + m) (xs ++ news)) R) w' → (.slice A (n + m) c = Value.slice none 0 0 ↔ v = .slice none 0 0 ∧ m = 0) → wpList P ops Q rest (a.put o.dst (.slice A (n + m) c)) w') : wpList P ops Q (o :: rest) a w := by
  obtain ⟨i, hi0, hi1⟩ : ∃ i, P.info? e = some i ∧ (i.zero = some z ∧ i.size = size ∧ i.bytes = bytes) := by
    cases hp : P.info? e with
    | none => rw [hp] at hi; cases hi
    | some i => rw [hp] at hi; simp at hi; exact ⟨i, rfl, hi⟩
  obtain ⟨hz, hsize, hby⟩ := hi1
  obtain ⟨hl, ad, cap, rfl, hmc, _, hnone | ⟨ad, rfl, hc⟩⟩ := hr
  · obtain ⟨rfl, rfl⟩ := hnone
    obtain rfl : m = 0 := by omega
    have : news = [] := List.eq_nil_of_length_eq_zero (by simpa using hl)
    subst this
    refine wpList_append_own_none hgd s x t ho 0 e i size ht hi0 v n xs hs h.ownsRow hx ?_
    obtain ⟨A, c, rfl⟩ := h.row_slice
    have := K A c w (by simpa using h) (by simp)
    simpa using this
  · obtain ⟨v', w', hrun, ho', hg, hn, hb⟩ := run_append_at (P := P) w t o.type e i z size bytes ht hi0 hz hsize hby hzs hsz v n xs h.ownsRow ad m cap news hl (fun j u hu => by obtain ⟨b, off, sp⟩ := ad; obtain ⟨h2, h3⟩ := hc j u hu; simp only at h2; subst h2; rw [addr_add]; exact h3) h1 hb1 hb2
    refine wpList_plain hgd fun _ hK => ?_
    unfold Oper.wp execOp
    simp only [ho, resolve, invoke, builtin, Sem.run_bind, Sem.run_pure, Result.andThen_ok, List.map_toArray, List.map_cons, List.map_nil, hs, hx, hrun]
    obtain ⟨A, c, rfl⟩ := ownsRow_slice ho'
    refine hK _ _ (K A c w' (h.row_step hg ho' ?_) hn)
    intro k hk
    rcases hb with hb | hb
    · exact .inl (hb ▸ hk)
    · rw [hb] at hk; injection hk with hk; exact .inr (by omega)
end ops

/-- an owned row out of a block of one's own -/
theorem Has.row_of_blk {s : World} {g : Nat} {cur : Array Value} {e : TypeId} {r : HProp} {w : World} (h : Has s (sep (Sl.blk g (.cells cur e (0, 0))) r) w) (size n cap : Nat) (hnc : n ≤ cap) (hcm : cap ≤ maxLen) (hcs : cur.size = cap * size)
    {xs : List Value} (hxs : cur.toList.take (n * size) = xs) : Has s (sep (row e size (.slice (some ⟨g, 0, none⟩) n cap) n xs) r) w :=
  h.monoL fun x hx => ⟨by rw [← hxs, List.length_take, Array.length_toList, hcs]; exact Nat.min_eq_left (Nat.mul_le_mul_right _ hnc), .inr ⟨g, cap, cur, rfl, hx, hnc, hcm, hcs, hxs⟩⟩
/-- an empty literal -/
theorem Has.row_empty {s : World} {r : HProp} {w : World} (e : TypeId) (size : Nat) (h : Has s r w) : Has s (sep (row e size (.slice (some ⟨w.heap.size, 0, none⟩) 0 0) 0 []) r) (w.alloc (.cells #[] e)) :=
  (h.alloc _).row_of_blk size 0 0 (Nat.le_refl _) (Nat.zero_le _) (by simp) (by simp)

/-- a piece that is only read -/
def ro (size : Nat) (v : Value) (n : Nat) (xs : List Value) : HProp := fun h =>
  xs.length = n * size ∧ ∃ A cap, v = .slice A n cap ∧ n ≤ cap ∧ cap ≤ maxLen ∧
    ((A = none ∧ cap = 0 ∧ h = fun _ => none) ∨ ∃ g off cur e fr, A = some ⟨g, off, none⟩ ∧ h = (fun k => if k = g then some (.cells cur e fr) else none) ∧ ∀ j u, xs[j]? = some u → cur[off + j]? = some u)
theorem Has.ro_rd {s : World} {size : Nat} {v : Value} {n : Nat} {xs : List Value} {r : HProp} {w : World} (h : Has s (sep (ro size v n xs) r) w) : Rd size w v n xs := by
  obtain ⟨_, _, _, x, ⟨hl, A, cap, rfl, hnc, hcm, hx⟩, hk⟩ := h.left
  refine ⟨hl, A, cap, rfl, hnc, hcm, ?_⟩
  rcases hx with ⟨rfl, rfl, _⟩ | ⟨g, off, cur, e, fr, rfl, rfl, hc⟩
  · exact .inl ⟨rfl, rfl⟩
  · refine .inr ⟨_, rfl, fun j u hu => ⟨rfl, ?_⟩⟩
    show w.cell? ⟨g, off + j, none⟩ = _
    rw [cell_of_row w g _ cur e fr (hk g _ (by simp))]
    exact hc j u hu
theorem sees_ro (s : World) (size : Nat) (v : Value) (n : Nat) (xs : List Value) (R : HProp) : Sees s (sep (ro size v n xs) R) size v n xs := fun _ hw => hw.ro_rd
theorem Has.ro_of_blk {s : World} {g : Nat} {cur : Array Value} {e : TypeId} {fr : Nat × Nat} {r : HProp} {w : World} (h : Has s (sep (Sl.blk g (.cells cur e fr)) r) w) (size n cap : Nat) (hnc : n ≤ cap) (hcm : cap ≤ maxLen)
    {xs : List Value} (hl : xs.length = n * size) (hxs : ∀ (j : Nat) (u : Value), xs[j]? = some u → cur[j]? = some u) : Has s (sep (ro size (.slice (some ⟨g, 0, none⟩) n cap) n xs) r) w :=
  h.monoL fun x hx => ⟨hl, _, cap, rfl, hnc, hcm, .inr ⟨g, 0, cur, e, fr, rfl, hx, fun j u hu => by rw [Nat.zero_add]; exact hxs j u hu⟩⟩

/-- a general piece of one more block, when the rest of memory is kept -/
theorem Has.new_blk {s : World} {r : HProp} {w w' : World} (h : Has s r w) (hos : w'.os = w.os) (ht : w'.tape = w.tape) (hout : w'.output = w.output) (hsz : w.heap.size < w'.heap.size)
    (hold : ∀ k, k < w.heap.size → w'.heap[k]? = w.heap[k]?) {o : Obj} (hn : w'.heap[w.heap.size]? = some o) : Has s (sep (Sl.blk w.heap.size o) r) w' :=
  h.ofEmp.step fun x hx _ => by
    refine ⟨fun _ => False, _, ⟨hos, ht, hout, by omega, fun k hk _ => hold k hk⟩, rfl, ?_, fun _ hf => hf.elim, ?_⟩
    · intro k o' ho
      split at ho
      · next e => subst e; injection ho with ho; subst ho; exact hn
      · cases ho
    · intro k hk
      split at hk
      · next e => subst e; exact .inr (Nat.le_refl _)
      · exact absurd rfl hk

def bcell (c : UInt8) : Value := .int .u8 c.toNat
def bcells (l : List UInt8) : List Value := l.map bcell
theorem bcells_one (l : List UInt8) : ∀ u ∈ bcells l, u.oneCell' = true := by
  intro u hu
  simp only [bcells, List.mem_map] at hu
  obtain ⟨c, _, rfl⟩ := hu
  rfl
theorem bcells_append (l m : List UInt8) : bcells l ++ bcells m = bcells (l ++ m) := by simp [bcells]
theorem bcells_length (l : List UInt8) : (bcells l).length = l.length := by simp [bcells]
theorem bcells_get {l : List UInt8} {j : Nat} (hj : j < l.length) : (bcells l)[j]? = some (.int .u8 (l[j].toNat : Int)) := by simp [bcells, bcell, hj]
theorem bcell_mod (n : Nat) : Value.int .u8 ((n : Int) % 256) = bcell (UInt8.ofNat n) := by
  simp [bcell, UInt8.toNat_ofNat']
theorem bcells_nil : bcells [] = [] := rfl

/-- a bound of a slice expression: left out, or a number -/
def SlB (x : Option Value) (dflt n : Nat) : Prop := (x = none ∧ n = dflt) ∨ ∃ k, x = some (.int k n)
theorem SlB.out (dflt : Nat) : SlB none dflt dflt := .inl ⟨rfl, rfl⟩
theorem SlB.at (k : IntKind) (n dflt : Nat) : SlB (some (.int k n)) dflt n := .inr ⟨k, rfl⟩

/-- what is sliced reads as the part -/
theorem Rd.sliced {size n L H M : Nat} {A : Option Addr} {cap : Nat} {xs : List Value} {w : World} (h : Rd size w (.slice A n cap) n xs) (hLH : L ≤ H) (hHn : H ≤ n) (hHM : H ≤ M) (hM : M ≤ cap) (hsz : 0 < size) :
    Rd size w (.slice (if M = L then A else A.map (·.add (L * size))) (H - L) (M - L)) (H - L) ((xs.drop (L * size)).take ((H - L) * size)) := by
  obtain ⟨hl, A', cap', e, hnc, hcm, hx⟩ := h
  injection e with e1 _ e3
  subst e1 e3
  have hlen : ((xs.drop (L * size)).take ((H - L) * size)).length = (H - L) * size := by
    rw [List.length_take, List.length_drop, hl, ← Nat.sub_mul]
    exact Nat.min_eq_left (Nat.mul_le_mul_right _ (by omega))
  refine ⟨hlen, _, _, rfl, by omega, by omega, ?_⟩
  rcases hx with ⟨rfl, rfl⟩ | ⟨⟨b, off, sp⟩, rfl, hc⟩
  · left
    refine ⟨by simp, by omega⟩
  · right
    by_cases hML : M = L
    · refine ⟨_, by rw [if_pos hML], fun j u hu => ?_⟩
      have hj := (List.getElem?_eq_some_iff.1 hu).1
      rw [hlen, show H - L = 0 by omega] at hj
      omega
    · refine ⟨_, by rw [if_neg hML]; rfl, fun j u hu => ?_⟩
      have hj := (List.getElem?_eq_some_iff.1 hu).1
      rw [hlen] at hj
      rw [List.getElem?_take_of_lt hj, List.getElem?_drop] at hu
      obtain ⟨h1, h2⟩ := hc _ _ hu
      simp only at h1
      subst h1
      show (Addr.add ⟨b, off, none⟩ (L * size)).spot = none ∧ w.cell? ⟨(Addr.add ⟨b, off, none⟩ (L * size)).block, (Addr.add ⟨b, off, none⟩ (L * size)).off + j, none⟩ = some u
      rw [addr_add]
      refine ⟨rfl, ?_⟩
      simp only
      rw [Nat.add_assoc]
      exact h2

theorem run_sliceAt_any {P : Program} (w : World) (t e : TypeId) (size : Nat) (ht : P.underlying t = some (.slice e)) (hi : (P.info? e).map (·.size) = some size) (A : Option Addr) (n cap : Nat) (lo hi' mx : Option Value) {L H M : Nat}
    (hlo : SlB lo 0 L) (hhi : SlB hi' n H) (hmx : SlB mx cap M) (hmh : mx ≠ none → hi' ≠ none) (hLH : L ≤ H) (hHM : H ≤ M) (hM : M ≤ cap) (hnc : n ≤ cap) :
    (Instr.sliceAt t (.slice A n cap) lo hi' mx).run P w = .ok (.slice (if M = L then A else A.map (·.add (L * size))) (H - L) (M - L)) w := by
  obtain ⟨i, hi0, hi1⟩ : ∃ i, P.info? e = some i ∧ i.size = size := by
    cases hp : P.info? e with
    | none => rw [hp] at hi; cases hi
    | some i => rw [hp] at hi; simp at hi; exact ⟨i, rfl, hi⟩
  have b1 : ∀ (k : IntKind) (x y : Nat) (c : BoundsCode), x ≤ y → (Instr.sliceBound (.int k x) y c).run P w = .ok x w := fun k x y c hxy => by
    rw [run_sliceBound w k x y c (by omega) (by omega)]; simp
  rcases hlo with ⟨rfl, rfl⟩ | ⟨k1, rfl⟩ <;> rcases hhi with ⟨rfl, rfl⟩ | ⟨k2, rfl⟩ <;> rcases hmx with ⟨rfl, rfl⟩ | ⟨k3, rfl⟩ <;>
    first
    | (refine absurd rfl (hmh ?_); intro e; cases e; done)
    | (simp [Instr.sliceAt, Instr.slice, run_underlying ht, Instr.sliceBounds, Sem.run_bind, b1, sizeOf, typeInfo, hi0, hi1, Result.andThen, hLH, hHM, hM, hnc]; done)
    | (simp [Instr.sliceAt, Instr.slice, run_underlying ht, Instr.sliceBounds, Sem.run_bind, b1 _ _ _ _ hLH, b1 _ _ _ _ hHM, b1 _ _ _ _ hM, b1 _ _ _ _ (Nat.le_trans hHM hM), sizeOf, typeInfo, hi0, hi1, Result.andThen]; done)

section slice
variable {P : Program} {ops : Array Oper} {rest : List Oper} {o : Oper} {a : Act} {Q : Exit → Act → World → Prop} {w : World} {st : World}
/-- x[lo:hi], x[lo:hi:max] of a slice that reads xs -/
theorem wp_slice (hgd : o.guard = none) (t e : TypeId) (size : Nat) (x : Operand) (lo hi mx : Option Operand) (ho : o.op = .slice t x lo hi mx) (ht : P.underlying t = some (.slice e)) (hs : (P.info? e).map (·.size) = some size) (hsz : 0 < size)
    {A : Option Addr} {n cap : Nat} {xs : List Value} (hx : a.eval x = .slice A n cap) (hr : Rd size w (.slice A n cap) n xs) (L H M : Nat) (hlo : SlB (lo.map a.eval) 0 L) (hhi : SlB (hi.map a.eval) n H) (hmx : SlB (mx.map a.eval) cap M)
    (hmh : mx ≠ none → hi ≠ none) (hLH : L ≤ H) (hHn : H ≤ n) (hHM : H ≤ M) (hM : M ≤ cap)
    (K : ∀ A' c', (∀ w', Rd size w' (.slice A n cap) n xs → Rd size w' (.slice A' (H - L) c') (H - L) ((xs.drop (L * size)).take ((H - L) * size))) → wpList P ops Q rest (a.put o.dst (.slice A' (H - L) c')) w) : wpList P ops Q (o :: rest) a w := by
  have hnc : n ≤ cap := by obtain ⟨_, A', c', e, h, _⟩ := hr; injection e; omega
  have hrun := run_sliceAt_any (P := P) w t e size ht hs A n cap _ _ _ hlo hhi hmx (fun h1 h2 => hmh (fun e => h1 (by rw [e]; rfl)) (by cases hi <;> simp_all)) hLH hHM hM hnc
  refine wpList_plain hgd fun _ hK => ?_
  unfold Oper.wp
  simp only [execOp, ho, hx, Sem.run_bind, hrun, Result.andThen_ok, Sem.run_pure]
  exact hK _ _ (K _ _ fun w' hr' => hr'.sliced hLH hHn hHM hM hsz)
end slice

section conv
variable {P : Program} {ops : Array Oper} {rest : List Oper} {o : Oper} {a : Act} {Q : Exit → Act → World → Prop} {w : World} {st : World}
/-- []byte(s) -/
theorem wp_bytes (hgd : o.guard = none) (src dst e : TypeId) (x : Operand) (ho : o.op = .convert src dst x) {u : TypeDesc}
    (hs : P.underlying src = some u) (hd : P.underlying dst = some (.slice e)) (he : P.underlying e = some (.int .u8))
    {s : ByteArray} {R : HProp} (hx : a.eval x = .string s) (h : Has st R w) (hlen : s.size ≤ maxLen)
    (K : ∀ A c w', Has st (sep (ro 1 (.slice A s.size c) s.size (bcells s.data.toList)) R) w' → wpList P ops Q rest (a.put o.dst (.slice A s.size c)) w') : wpList P ops Q (o :: rest) a w := by
  have hrun := Lib.run_convert_string_bytes (P := P) w src dst e s hs hd he
  refine wpList_plain hgd fun _ hK => ?_
  unfold Oper.wp
  simp only [execOp, ho, hx, Sem.run_bind, hrun, Result.andThen_ok, Sem.run_pure]
  refine hK _ _ (K _ _ _ ?_)
  have hb := h.new_blk (w' := Lib.bytesWorld w e s) rfl rfl rfl (by rw [Lib.bytesWorld_size]; omega) (Lib.bytesWorld_at_old w e s) (Lib.bytesWorld_at_new w e s)
  refine hb.ro_of_blk 1 s.size _ (grownCap_ge w s.size 0 e) (grownCap_le_maxLen w s.size 0 e hlen) (by simp [bcells_length]) ?_
  intro j v hj
  have hj' : j < s.data.toList.length := by rw [← bcells_length]; exact (List.getElem?_eq_some_iff.1 hj).1
  rw [bcells_get hj'] at hj
  simp only [Array.length_toList] at hj'
  rw [← hj]
  have hj2 : j < s.size := hj'
  simp [Lib.bytesCells, Array.getElem?_append, hj2]
/-- string(b) -/
theorem wp_string (hgd : o.guard = none) (src dst e : TypeId) (x : Operand) (ho : o.op = .convert src dst x)
    (hs : P.underlying src = some (.slice e)) (he : P.underlying e = some (.int .u8)) (hd : P.underlying dst = some .string)
    {v : Value} {n : Nat} {l : List UInt8} (hx : a.eval x = v) (hr : Rd 1 w v n (bcells l))
    (K : wpList P ops Q rest (a.put o.dst (.string ⟨l.toArray⟩)) w) : wpList P ops Q (o :: rest) a w := by
  have hrun : (convert src dst v).run P w = .ok (.string ⟨l.toArray⟩) w := by
    obtain ⟨hl, A, cap, rfl, hnc, hcm, ⟨rfl, rfl⟩ | ⟨ad, rfl, hc⟩⟩ := hr
    · obtain rfl : n = 0 := by omega
      have : l = [] := List.eq_nil_of_length_eq_zero (by rw [bcells_length] at hl; omega)
      subst this
      rw [run_convert_bytes_string w src dst e none 0 0 hs he hd]
      rfl
    · have hn : n = l.length := by rw [bcells_length] at hl; omega
      subst hn
      exact run_convert_bytes_back w src dst e ad cap l hs he hd fun j hj => by obtain ⟨b, off, sp⟩ := ad; obtain ⟨h2, h3⟩ := hc j _ (bcells_get hj); simp only at h2; subst h2; rw [addr_add]; exact h3
  refine wpList_plain hgd fun _ hK => ?_
  unfold Oper.wp
  simp only [execOp, ho, hx, Sem.run_bind, hrun, Result.andThen_ok, Sem.run_pure]
  exact hK _ _ K
end conv
end Go.Sl
