/-
  Words for memory: which blocks a call may have turned; lists of structs as cells.
-/
import Derived.Test.YtjcmmgjaopejgaaWds
import Derived.Maps.AppendAt
import Derived.Deep.AppendLies
import Derived.Deep.RegionHeld3
import Derived.Deep.RegionLaw
import Derived.Laws.MakeOwn
import Derived.Laws.OwnMore
import Derived.Lib.Hide
namespace Go.Proofs.Ytjcmmgjaopejgaa
open Go.RowKit
set_option linter.unusedVariables false
set_option linter.unusedSimpArgs false

/-- Of the blocks that were there only those in S may have turned. -/
structure Turns (S : Nat → Prop) (w w' : World) : Prop where
  os : w'.os = w.os
  tape : w'.tape = w.tape
  output : w'.output = w.output
  size : w.heap.size ≤ w'.heap.size
  block : ∀ k, k < w.heap.size → ¬ S k → w'.heap[k]? = w.heap[k]?

section
variable {S S' : Nat → Prop} {w w' w'' : World}
theorem Turns.refl (S : Nat → Prop) (w : World) : Turns S w w := ⟨rfl, rfl, rfl, Nat.le_refl _, fun _ _ _ => rfl⟩
theorem Turns.trans (h : Turns S w w') (k : Turns S w' w'') : Turns S w w'' :=
  ⟨k.os.trans h.os, k.tape.trans h.tape, k.output.trans h.output, Nat.le_trans h.size k.size, fun i hi hn => (k.block i (Nat.lt_of_lt_of_le hi h.size) hn).trans (h.block i hi hn)⟩
theorem Turns.mono (h : Turns S w w') (hS : ∀ k, k < w.heap.size → S k → S' k) : Turns S' w w' := ⟨h.os, h.tape, h.output, h.size, fun k hk hn => h.block k hk fun hs => hn (hS k hk hs)⟩
/-- The second step may turn new blocks besides. -/
theorem Turns.then (h : Turns S w w') (k : Turns S' w' w'') (hS : ∀ b, b < w.heap.size → S' b → S b) : Turns S w w'' :=
  ⟨k.os.trans h.os, k.tape.trans h.tape, k.output.trans h.output, Nat.le_trans h.size k.size, fun i hi hn => (k.block i (Nat.lt_of_lt_of_le hi h.size) (fun hs => hn (hS i hi hs))).trans (h.block i hi hn)⟩
theorem Turns.drew (h : Turns S w w') : Turns S w w'.drew := ⟨h.os, h.tape, h.output, h.size, h.block⟩
theorem Turns.drewN (h : Turns S w w') (n : Nat) : Turns S w (w'.drewN n) := ⟨h.os, h.tape, h.output, h.size, h.block⟩
theorem Turns.alloc (h : Turns S w w') (o : Obj) : Turns S w (w'.alloc o) :=
  h.trans ⟨rfl, rfl, rfl, by simp, fun _ hk _ => Below.heap_alloc _ _ _ hk⟩
theorem Turns.setCell (h : Turns S w w') {p : Addr} (hp : p.block < w.heap.size → S p.block) (u : Value) : Turns S w (w'.setCell p u) :=
  ⟨h.os, h.tape, h.output, by simpa [World.setCell] using h.size, fun k hk hn => (Below.heap_setCell _ _ _ _ (fun e => hn (by subst e; exact hp hk))).trans (h.block k hk hn)⟩
theorem Turns.grown {row : Option Nat} (h : Turns S w w') (hg : w'.grownBy w'' row) (hr : ∀ k, row = some k → k < w.heap.size → S k) : Turns S w w'' :=
  ⟨hg.os.trans h.os, hg.tape.trans h.tape, hg.output.trans h.output, Nat.le_trans h.size hg.size, fun i hi hn => (hg.block i (Nat.lt_of_lt_of_le hi h.size) (fun e => hn (hr i e.symm hi))).trans (h.block i hi hn)⟩
theorem Turns.of_below {B : Nat} (h : Below B w w') (hS : ∀ k, B ≤ k → k < w.heap.size → S k) : Turns S w w' :=
  ⟨h.os, h.tape, h.output, h.size, fun k hk hn => h.block k (by rcases Nat.lt_or_ge k B with h1 | h1; exact h1; exact absurd (hS k h1 hk) hn)⟩
theorem Turns.below {B : Nat} (h : Turns S w w') (hB : B ≤ w.heap.size) (hS : ∀ k, k < B → ¬ S k) : Below B w w' := ⟨h.os, h.tape, h.output, h.size, fun k hk => h.block k (by omega) (hS k hk)⟩
theorem Turns.cell (h : Turns S w w') {p : Addr} (hp : p.block < w.heap.size) (hn : ¬ S p.block) : w'.cell? p = w.cell? p := World.cell?_of_block (w := w) (h.block p.block hp hn)
theorem Turns.frozen (h : Turns S w w') {p : Addr} (hp : p.block < w.heap.size) (hn : ¬ S p.block) : w'.frozen? p = w.frozen? p := World.frozen?_of_block (w := w) (h.block p.block hp hn)
theorem Turns.owns (h : Turns S w w') {base : Nat} {e : TypeId} {size : Nat} {v : Value} {n : Nat} {xs : List Value} (ho : w.ownsRow base e size v n xs) (hn : ∀ k, v.ownBlock = some k → ¬ S k) : w'.ownsRow base e size v n xs := by
  refine ⟨ho.1, ?_⟩
  rcases ho.2 with h0 | ⟨g, cap, cur, rfl, hb, hg, r⟩
  · exact .inl h0
  · exact .inr ⟨g, cap, cur, rfl, hb, (h.block g (Array.getElem?_eq_some_iff.1 hg).1 (hn g rfl)).trans hg, r⟩
end

/-- Nothing that was there has turned. -/
abbrev Made (w w' : World) : Prop := Turns (fun _ => False) w w'

theorem Made.below {w w' : World} (h : Made w w') : Below w.heap.size w w' := Turns.below h (Nat.le_refl _) (fun _ _ h => h)
theorem Made.of_below {w w' : World} (h : Below w.heap.size w w') : Made w w' := Turns.of_below h (fun k h1 h2 => by omega)

/-- A block that is known whole. -/
def Blk (w : World) (g : Nat) (t : TypeId) (cs : Array Value) : Prop := w.heap[g]? = some (.cells cs t (0, 0))
section
variable {w w' : World} {g : Nat} {t : TypeId} {cs : Array Value}
theorem Blk.lt (h : Blk w g t cs) : g < w.heap.size := (Array.getElem?_eq_some_iff.1 h).1
theorem Blk.cell (h : Blk w g t cs) (i : Nat) : w.cell? ⟨g, i, none⟩ = cs[i]? := cell_of_row w g i cs t (0, 0) h
theorem Blk.free (h : Blk w g t cs) (i : Nat) : w.frozen? ⟨g, i, none⟩ = false := by
  unfold Blk at h
  simp [World.frozen?, h]
theorem Blk.new (w : World) (t : TypeId) (cs : Array Value) : Blk (w.alloc (.cells cs t)) w.heap.size t cs := heap_alloc_new w _
theorem Blk.turns {S : Nat → Prop} (h : Blk w g t cs) (hb : Turns S w w') (hn : ¬ S g) : Blk w' g t cs := (hb.block g h.lt hn).trans h
theorem Blk.alloc (h : Blk w g t cs) (o : Obj) : Blk (w.alloc o) g t cs := (Below.heap_alloc w o g h.lt).trans h
theorem Blk.put (h : Blk w g t cs) (i : Nat) (u : Value) : Blk (w.setCell ⟨g, i, none⟩ u) g t (cs.setIfInBounds i u) := by
  unfold Blk at h ⊢
  simp [World.setCell, Array.getElem?_modify, h]
theorem Blk.far (h : Blk w g t cs) {p : Addr} (hp : g ≠ p.block) (u : Value) : Blk (w.setCell p u) g t cs := (Below.heap_setCell w p u g hp).trans h
end

/-- A one-cell block that was laid last. -/
theorem one_new2 (w : World) (o : Obj) (x : Value) (t : TypeId) : ∀ j u, [x][j]? = some u → ((w.alloc o).alloc (.cells #[x] t)).cell? ((⟨w.heap.size + 1, 0, none⟩ : Addr).add j) = some u := by
  have h := cell_one_new (w.alloc o) x t
  simpa using h

/-! Lists of elements of 'size' cells each. -/
def flat {α : Type} (enc : α → List Value) (xs : List α) : List Value := xs.flatMap enc

theorem flat_length {α : Type} {enc : α → List Value} {size : Nat} (he : ∀ x, (enc x).length = size) (xs : List α) : (flat enc xs).length = xs.length * size := by
  induction xs with
  | nil => simp [flat]
  | cons x l ih =>
    have : (flat enc (x :: l)).length = (enc x).length + (flat enc l).length := by simp [flat]
    rw [this, ih, he, List.length_cons, Nat.add_mul]; omega

theorem flat_get {α : Type} {enc : α → List Value} {size : Nat} (he : ∀ x, (enc x).length = size) {xs : List α} {i : Nat} {x : α} (hx : xs[i]? = some x) {j : Nat} {v : Value} (hv : (enc x)[j]? = some v) :
    (flat enc xs)[i * size + j]? = some v := by
  induction xs generalizing i with
  | nil => cases hx
  | cons y l ih =>
    have e : flat enc (y :: l) = enc y ++ flat enc l := by simp [flat]
    have hj : j < size := by
      rw [← he x]
      exact (List.getElem?_eq_some_iff.1 hv).1
    rw [e]
    cases i with
    | zero =>
      simp only [List.getElem?_cons_zero, Option.some.injEq] at hx
      subst hx
      rw [Nat.zero_mul, Nat.zero_add, List.getElem?_append_left (by rw [he]; exact hj)]
      exact hv
    | succ i =>
      rw [List.getElem?_cons_succ] at hx
      have hge : (enc y).length ≤ (i + 1) * size + j := by rw [he, Nat.add_mul]; omega
      rw [List.getElem?_append_right hge]
      have := ih hx
      rw [show (i + 1) * size + j - (enc y).length = i * size + j from by rw [he, Nat.add_mul]; omega]
      exact this

theorem flat_append {α : Type} (enc : α → List Value) (xs ys : List α) : flat enc (xs ++ ys) = flat enc xs ++ flat enc ys := by simp [flat]

theorem owns_zero {w : World} {B : Nat} {e : TypeId} {size : Nat} {v : Value} {n : Nat} {xs : List Value} (h : w.ownsRow B e size v n xs) : w.ownsRow 0 e size v n xs := by
  refine ⟨h.1, ?_⟩
  rcases h.2 with h0 | ⟨g, cap, cur, hv, _, r⟩
  · exact .inl h0
  · exact .inr ⟨g, cap, cur, hv, Nat.zero_le _, r⟩

/-- A slice value that the call owns reads as a list. -/
def Owns {α : Type} (enc : α → List Value) (e : TypeId) (size : Nat) (w : World) (v : Value) (xs : List α) : Prop := w.ownsRow 0 e size v xs.length (flat enc xs)

section
variable {α : Type} {enc : α → List Value} {e : TypeId} {size : Nat} {w w' : World} {v : Value} {xs : List α}
theorem Owns.form (h : Owns enc e size w v xs) : (v = .slice none 0 0 ∧ xs = []) ∨ ∃ g cap, v = .slice (some ⟨g, 0, none⟩) xs.length cap ∧ g < w.heap.size ∧ xs.length ≤ cap ∧ cap ≤ maxLen := by
  rcases h.2 with ⟨h1, h2⟩ | ⟨g, cap, cur, hv, _, hg, h3, h4, _⟩
  · exact .inl ⟨h1, List.eq_nil_of_length_eq_zero h2⟩
  · exact .inr ⟨g, cap, hv, (Array.getElem?_eq_some_iff.1 hg).1, h3, h4⟩
theorem Owns.turns {S : Nat → Prop} (h : Owns enc e size w v xs) (hb : Turns S w w') (hn : ∀ k, v.ownBlock = some k → ¬ S k) : Owns enc e size w' v xs := hb.owns h hn
theorem Owns.lt (h : Owns enc e size w v xs) {k : Nat} (hk : v.ownBlock = some k) : k < w.heap.size := (World.ownsRow.lt h k hk).2
theorem Owns.cell (he : ∀ x, (enc x).length = size) {g cap : Nat} (h : Owns enc e size w (.slice (some ⟨g, 0, none⟩) xs.length cap) xs) {i : Nat} {x : α} (hx : xs[i]? = some x) {j : Nat} {u : Value} (hu : (enc x)[j]? = some u) :
    w.cell? ⟨g, i * size + j, none⟩ = some u := by
  have := World.ownsRow.cells (g := g) h rfl (i * size + j) u (flat_get he hx hu)
  rw [Addr.add_lit] at this
  simpa using this
theorem flat_set {enc : α → List Value} {size : Nat} (he : ∀ x, (enc x).length = size) {xs : List α} {i : Nat} {x x' : α} {j : Nat} {u : Value} (hx : xs[i]? = some x) (hu : enc x' = (enc x).set j u) (hj : j < size) :
    flat enc (xs.set i x') = (flat enc xs).set (i * size + j) u := by
  induction xs generalizing i with
  | nil => cases hx
  | cons y l ih =>
    have e : ∀ (y : α) (l : List α), flat enc (y :: l) = enc y ++ flat enc l := fun y l => by simp [flat]
    cases i with
    | zero =>
      simp only [List.getElem?_cons_zero, Option.some.injEq] at hx
      subst hx
      rw [List.set_cons_zero, e, e, hu, Nat.zero_mul, Nat.zero_add, List.set_append_left _ _ (by rw [he]; exact hj)]
    | succ i =>
      rw [List.getElem?_cons_succ] at hx
      rw [List.set_cons_succ, e, e, ih hx, List.set_append_right _ _ (by rw [he, Nat.add_mul]; omega)]
      congr 2
      rw [he, Nat.add_mul]; omega
/-- A field of an element is written. -/
theorem Owns.put (he : ∀ x, (enc x).length = size) {g cap : Nat} (h : Owns enc e size w (.slice (some ⟨g, 0, none⟩) xs.length cap) xs) {i : Nat} {x x' : α} {j : Nat} {u : Value} (hx : xs[i]? = some x) (hu : enc x' = (enc x).set j u) (hj : j < size) :
    Owns enc e size (w.setCell ⟨g, i * size + j, none⟩ u) (.slice (some ⟨g, 0, none⟩) xs.length cap) (xs.set i x') := by
  unfold Owns at h ⊢
  rw [List.length_set]
  have hi : i < xs.length := (List.getElem?_eq_some_iff.1 hx).1
  have hlt : i * size + j < xs.length * size := by
    have := Nat.mul_le_mul_right size (show i + 1 ≤ xs.length from hi)
    rw [Nat.add_mul] at this
    omega
  refine ⟨by rw [flat_length he, List.length_set], ?_⟩
  rcases h.2 with ⟨h0, _⟩ | ⟨g', cap', cur, hv, hb, hg, h1, h2, h3, h4⟩
  · cases h0
  · simp only [Value.slice.injEq, Option.some.injEq, Addr.mk.injEq, and_true, true_and] at hv
    obtain ⟨rfl, rfl⟩ := hv
    refine .inr ⟨g, cap, cur.setIfInBounds (i * size + j) u, rfl, hb, ?_, h1, h2, by simpa using h3, ?_⟩
    · simp [World.setCell, Array.getElem?_modify, hg]
    · rw [Array.toList_setIfInBounds, flat_set he hx hu hj, ← h4, List.take_set]
theorem Owns.free {g cap : Nat} (h : Owns enc e size w (.slice (some ⟨g, 0, none⟩) xs.length cap) xs) (o : Nat) : w.frozen? ⟨g, o, none⟩ = false := by
  rcases h.2 with ⟨h0, _⟩ | ⟨g', cap', cur, hv, hb, hg, _⟩
  · cases h0
  · simp only [Value.slice.injEq, Option.some.injEq, Addr.mk.injEq, and_true, true_and] at hv
    obtain ⟨rfl, rfl⟩ := hv
    simp [World.frozen?, hg]

/-- As a slice that came in. -/
theorem Owns.rowIn (he : ∀ x, (enc x).length = size) (h : Owns enc e size w v xs) : ∃ a cap, v = .slice a xs.length cap ∧ RowIn enc size w a xs.length xs ∧ xs.length ≤ cap ∧ cap ≤ maxLen ∧ (a = none → cap = 0) ∧ (∀ k, v.ownBlock = some k ↔ ∃ o, a = some ⟨k, o, none⟩) := by
  rcases h.form with ⟨rfl, rfl⟩ | ⟨g, cap, rfl, hg, hl, hm⟩
  · exact ⟨none, 0, rfl, ⟨rfl, .inl (Nat.le_refl _)⟩, Nat.le_refl _, by unfold maxLen; omega, fun _ => rfl, fun k => by simp [Value.ownBlock]⟩
  · refine ⟨_, cap, rfl, ⟨rfl, .inr ⟨g, 0, rfl, hg, fun i x hx j u hu => ?_⟩⟩, hl, hm, fun h => (by cases h), fun k => ⟨fun hk => ⟨0, ?_⟩, ?_⟩⟩
    · rw [Nat.zero_add]
      exact Owns.cell he h hx hu
    · simp only [Value.ownBlock, Option.some.injEq] at hk
      rw [hk]
    · rintro ⟨o, ho⟩
      simp only [Option.some.injEq, Addr.mk.injEq] at ho
      simp [Value.ownBlock, ho.1]
end

end Go.Proofs.Ytjcmmgjaopejgaa
