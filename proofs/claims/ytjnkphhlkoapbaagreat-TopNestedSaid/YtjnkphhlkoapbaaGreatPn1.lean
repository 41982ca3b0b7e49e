/-
  Walks and laws under LawTopNested, part 1.
-/
import Derived.Below
import Derived.ChangeArms
import Derived.Deep.Slices
import Derived.Deep.Draws
import Derived.Laws.Rows
import Derived.Laws.OwnMore
import Derived.ChangeSame
import Derived.ProofKit
import Derived.Maps.AppendAt
import Derived.Deep.AppendLies
import Derived.Deep.RegionHeld3
import Derived.Deep.RegionLaw
import Derived.Laws.MakeOwn
import Derived.Lib.Hide
import Derived.MapKept
import Derived.ChangeMaps4
import Derived.Maps.OwnOps
import Derived.Maps.OwnSet
import Derived.Deep.RegionHeld
import Derived.Test.YtjnkphhlkoapbaaGreatProg
import Derived.WalkKit
import Derived.WalkSpells
import Derived.WalkLawsBesides
import Derived.BigQuiet
import Derived.Deep.QuietTactic
import Derived.Deep.DeepFit
import Derived.Deep.DeepCutAuto
import Derived.Deep.CutBlock
set_option linter.unusedVariables false
set_option linter.unusedSimpArgs false
set_option maxRecDepth 100000
set_option maxHeartbeats 16000000
namespace Go.Proofs.YtjnkphhlkoapbaaGreat
open Go.RowKit
theorem zh {p : Prop} (h : p) : Hid p := Lib.hid h
theorem zR {P : Program} {ops : Array Oper} {Q : Exit → Act → World → Prop} {md : Region.Mode} {S : World → Prop} (i : Nat) {o : Oper} {fuel : Nat} {listed : Array Bool} {a : Act} {w : World} (h : ∀ K' : Act → World → Prop, Shut (∀ a w, S w → (S w → wpAnyH P md ops Q S fuel (listed.setIfInBounds i true) a w) → K' a w) → if Region.wanted o (yielded ops a.tmps) = true then Oper.wp P o a w K' Q else K' (a.put o.dst undef) w) (hr : Region.ready md ops listed = [i] := by kernel_rfl) (ho : ops[i]? = some o := by rfl) : wpAnyH P md ops Q S (fuel + 1) listed a w := wpAnyH_ready hr (by simp) (AllReadyH.cons ho h AllReadyH.nil)
theorem zP : (∀ (a : Act) (d : Tmp) (v : Value), a.put (some d) v = { a with tmps := a.tmps.setIfInBounds d v }) ∧ (∀ (a : Act) (v : Value), a.put none v = a) ∧ (∀ (α : Type) (l : List α) (i : Nat) (x : α), l.toArray.setIfInBounds i x = (l.set i x).toArray) ∧ (∀ (α : Type) (l : List α) (x y : α), (y :: l).set 0 x = x :: l) ∧ (∀ (α : Type) (l : List α) (i : Nat) (x y : α), (y :: l).set (i + 1) x = y :: l.set i x) :=
 ⟨fun _ _ _ => rfl, fun _ _ => rfl, fun _ _ _ _ => List.setIfInBounds_toArray .., fun _ _ _ _ => rfl, fun _ _ _ _ _ => rfl⟩
theorem zG : (∀ (α : Type) (l : List α) (i : Nat), l.toArray[i]? = l[i]?) ∧ (∀ (α : Type) (l : List α) (x : α), (x :: l)[0]? = some x) ∧ (∀ (α : Type) (l : List α) (i : Nat) (x : α), (x :: l)[i + 1]? = l[i]?) :=
 ⟨fun _ _ _ => List.getElem?_toArray .., fun _ _ _ => rfl, fun _ _ _ _ => List.getElem?_cons_succ ..⟩
section
open Go.RowKit Go.Deep Go.ChangeShapes Go.WideShapes
def Lies {α : Type} (enc : α → List Value) (size : Nat) (w : World) (b off : Nat) (xs : List α) : Prop :=
 ∀ (i : Nat) (x : α), xs[i]? = some x → ∀ (j : Nat) (v : Value), (enc x)[j]? = some v → w.cell? ⟨b, off + i * size + j, none⟩ = some v
def RowIn {α : Type} (enc : α → List Value) (size : Nat) (w : World) (a : Option Addr) (len : Nat) (xs : List α) : Prop :=
 xs.length = len ∧ (len ≤ 0 ∨ ∃ b off, a = some ⟨b, off, none⟩ ∧ b < w.heap.size ∧ Lies enc size w b off xs)
theorem cell_lt {w : World} {p : Addr} {v : Value} (h : w.cell? p = some v) : p.block < w.heap.size := by
 rcases Nat.lt_or_ge p.block w.heap.size with hlt | hge
 ·exact hlt
 ·unfold World.cell? at h
  rw [Array.getElem?_eq_none hge] at h
  simp at h
theorem Lies.keep {α : Type} {enc : α → List Value} {size : Nat} {w w' : World} {b off : Nat} {xs : List α} (h : Lies enc size w b off xs) (hk : ∀ o, w'.cell? ⟨b, o, none⟩ = w.cell? ⟨b, o, none⟩) : Lies enc size w' b off xs :=
 fun i x hx j v hv => (hk _).trans (h i x hx j v hv)
theorem add_cell (a : Addr) (n m : Nat) : (a.add n).add m = a.add (n + m) := by
 unfold Addr.add
 by_cases h1 : n = 0 <;> by_cases h2 : m = 0 <;> simp [h1, h2, Nat.add_assoc]
section
variable {H : Type} {enc0 : TypeId × Value → H} {P : Program} {w : World} {base : Nat} {spare : Nat → Bool} {held : Bool}
theorem open_row {α : Type} (enc : α → List Value) (R : α → Prop) {t e : TypeId} {size : Nat} {fuel : Nat} {a : Option Addr} {len cap : Nat} {x : DataW H × List MemPlace} (ht : P.underlying t = some (.slice e)) (hC : P.cellsOf e = size) (hpos : 0 < size)
  (hQ : ∀ (fuel : Nat) (cs : List Value) (y : DataW H × List MemPlace), DataW.trod enc0 P w base spare held fuel e cs = some y → ∃ z, cs = enc z ∧ R z)
  (h : DataW.trod enc0 P w base spare held fuel t [.slice a len cap] = some x) :
  ∃ xs : List α, RowIn enc size w a len xs ∧ len ≤ cap ∧ cap ≤ maxLen ∧ ∀ z ∈ xs, R z := by
 rcases open_slice ht h with ⟨h0, _⟩ | ⟨ad, len', cap', m, n, D, Pl, hcs, hb, hl, hm, hmm, _, hi⟩
 ·simp only [List.cons.injEq, Value.slice.injEq, and_true] at h0
  obtain ⟨rfl, rfl, rfl⟩ := h0
  exact ⟨[], ⟨rfl, .inl (Nat.le_refl _)⟩, Nat.le_refl _, Nat.zero_le _, fun z hz => by cases hz⟩
 ·simp only [List.cons.injEq, Value.slice.injEq, and_true] at hcs
  obtain ⟨rfl, rfl, rfl⟩ := hcs
  have hlm : len ≤ m := by rw [hmm]; split <;> omega
  have hz : ∀ i : Fin len, ∃ z, w.cells? base (ad.add (i.1 * size)) size = some (enc z) ∧ R z := fun i => by
   obtain ⟨cs', hc, htr⟩ := hi i.1 (by omega)
   obtain ⟨z, rfl, hR⟩ := hQ _ _ _ htr
   rw [hC] at hc
   exact ⟨z, hc, hR⟩
  refine ⟨List.ofFn fun i => (hz i).choose, ⟨by simp, ?_⟩, hl, hm, fun z hmem => ?_⟩
  ·by_cases h0 : len ≤ 0
   ·exact .inl h0
   refine .inr ?_
   have hcell : ∀ i : Fin len, ∀ j v, (enc (hz i).choose)[j]? = some v → w.cell? (ad.add (i.1 * size + j)) = some v := fun i j v hv => by
    obtain ⟨_, hlen, hat⟩ := World.cells?_some (hz i).choose_spec.1
    have hj : j < (enc (hz i).choose).length := by
     rcases Nat.lt_or_ge j (enc (hz i).choose).length with h | h
     ·exact h
     ·rw [List.getElem?_eq_none h] at hv; cases hv
    have := hat j (by omega)
    rw [add_cell] at this
    exact this.trans hv
   have h00 := hcell ⟨0, by omega⟩
   obtain ⟨_, hlen0, _⟩ := World.cells?_some (hz ⟨0, by omega⟩).choose_spec.1
   have hv0 : (enc (hz ⟨0, by omega⟩).choose)[0]? = some ((enc (hz ⟨0, by omega⟩).choose)[0]'(by omega)) := List.getElem?_eq_getElem (by omega)
   have hc0 := h00 0 _ hv0
   have hspot := World.cell?_spot hc0
   have had : ad.add (0 * size + 0) = ad := by unfold Addr.add; simp
   rw [show ((⟨0, by omega⟩ : Fin len).1 * size + 0) = 0 * size + 0 from rfl, had] at hspot hc0
   obtain ⟨b, off, spot⟩ := ad
   simp only at hspot
   subst hspot
   refine ⟨b, off, rfl, cell_lt hc0, fun i z hx j v hv => ?_⟩
   have hi' : i < len := by
    rcases Nat.lt_or_ge i len with h | h
    ·exact h
    ·rw [List.getElem?_eq_none (by simpa using h)] at hx; cases hx
   have hze : z = (hz ⟨i, hi'⟩).choose := by
    rw [List.getElem?_ofFn] at hx
    simp [hi'] at hx
    exact hx.symm
   subst hze
   have := hcell ⟨i, hi'⟩ j v hv
   rw [Addr.add_lit] at this
   rw [show off + i * size + j = off + (i * size + j) from by omega]
   exact this
  ·obtain ⟨i, rfl⟩ := List.mem_ofFn.1 hmem
   exact (hz i).choose_spec.2
end
theorem get_of_lt {α : Type} {xs : List α} {k : Nat} (h : k < xs.length) : ∃ x, xs[k]? = some x := ⟨xs[k], List.getElem?_eq_getElem h⟩
end
structure Turns (S : Nat → Prop) (w w' : World) : Prop where
 os : w'.os = w.os
 tape : w'.tape = w.tape
 output : w'.output = w.output
 size : w.heap.size ≤ w'.heap.size
 block : ∀ k, k < w.heap.size → ¬ S k → w'.heap[k]? = w.heap[k]?
section
variable {S S' : Nat → Prop} {w w' w'' : World}
theorem Turns.refl (S : Nat → Prop) (w : World) : Turns S w w := ⟨rfl, rfl, rfl, Nat.le_refl _, fun _ _ _ => rfl⟩
theorem zT (w : World) : Turns (fun _ => False) w w := Turns.refl _ w
theorem Turns.trans (h : Turns S w w') (k : Turns S w' w'') : Turns S w w'' :=
 ⟨k.os.trans h.os, k.tape.trans h.tape, k.output.trans h.output, Nat.le_trans h.size k.size, fun i hi hn => (k.block i (Nat.lt_of_lt_of_le hi h.size) hn).trans (h.block i hi hn)⟩
theorem Turns.mono (h : Turns S w w') (hS : ∀ k, k < w.heap.size → S k → S' k) : Turns S' w w' := ⟨h.os, h.tape, h.output, h.size, fun k hk hn => h.block k hk fun hs => hn (hS k hk hs)⟩
theorem Turns.then (h : Turns S w w') (k : Turns S' w' w'') (hS : ∀ b, b < w.heap.size → S' b → S b) : Turns S w w'' :=
 ⟨k.os.trans h.os, k.tape.trans h.tape, k.output.trans h.output, Nat.le_trans h.size k.size, fun i hi hn => (k.block i (Nat.lt_of_lt_of_le hi h.size) (fun hs => hn (hS i hi hs))).trans (h.block i hi hn)⟩
theorem Turns.drew (h : Turns S w w') : Turns S w w'.drew := ⟨h.os, h.tape, h.output, h.size, h.block⟩
theorem Turns.drewN (h : Turns S w w') (n : Nat) : Turns S w (w'.drewN n) := ⟨h.os, h.tape, h.output, h.size, h.block⟩
theorem Turns.alloc (h : Turns S w w') (o : Obj) : Turns S w (w'.alloc o) :=
 h.trans ⟨rfl, rfl, rfl, by simp, fun _ hk _ => Below.heap_alloc _ _ _ hk⟩
theorem Turns.setCell (h : Turns S w w') {p : Addr} (hp : p.block < w.heap.size → S p.block) (u : Value) : Turns S w (w'.setCell p u) :=
 ⟨h.os, h.tape, h.output, by simpa [World.setCell] using h.size, fun k hk hn => (Below.heap_setCell _ _ _ _ (fun e => hn (by subst e; exact hp hk))).trans (h.block k hk hn)⟩
theorem Turns.grown {row : Option Nat} (h : Turns S w w') (hg : w'.grownBy w'' row) (hr : ∀ k, row = some k → k < w.heap.size → S k) : Turns S w w'' :=
 ⟨hg.os.trans h.os, hg.tape.trans h.tape, hg.output.trans h.output, Nat.le_trans h.size hg.size, fun i hi hn => (hg.block i (Nat.lt_of_lt_of_le hi h.size) (fun e => hn (hr i e.symm hi))).trans (h.block i hi hn)⟩
theorem Turns.below {B : Nat} (h : Turns S w w') (hB : B ≤ w.heap.size) (hS : ∀ k, k < B → ¬ S k) : Below B w w' := ⟨h.os, h.tape, h.output, h.size, fun k hk => h.block k (by omega) (hS k hk)⟩
theorem Turns.cell (h : Turns S w w') {p : Addr} (hp : p.block < w.heap.size) (hn : ¬ S p.block) : w'.cell? p = w.cell? p := World.cell?_of_block (w := w) (h.block p.block hp hn)
theorem Turns.owns (h : Turns S w w') {base : Nat} {e : TypeId} {size : Nat} {v : Value} {n : Nat} {xs : List Value} (ho : w.ownsRow base e size v n xs) (hn : ∀ k, v.ownBlock = some k → ¬ S k) : w'.ownsRow base e size v n xs := by
 refine ⟨ho.1, ?_⟩
 rcases ho.2 with h0 | ⟨g, cap, cur, rfl, hb, hg, r⟩
 ·exact .inl h0
 ·exact .inr ⟨g, cap, cur, rfl, hb, (h.block g (Array.getElem?_eq_some_iff.1 hg).1 (hn g rfl)).trans hg, r⟩
end
abbrev Made (w w' : World) : Prop := Turns (fun _ => False) w w'
theorem Made.below {w w' : World} (h : Made w w') : Below w.heap.size w w' := Turns.below h (Nat.le_refl _) (fun _ _ h => h)
def Blk (w : World) (g : Nat) (t : TypeId) (cs : Array Value) : Prop := w.heap[g]? = some (.cells cs t (0, 0))
section
variable {w w' : World} {g : Nat} {t : TypeId} {cs : Array Value}
theorem Blk.lt (h : Blk w g t cs) : g < w.heap.size := (Array.getElem?_eq_some_iff.1 h).1
theorem Blk.cell (h : Blk w g t cs) (i : Nat) : w.cell? ⟨g, i, none⟩ = cs[i]? := cell_of_row w g i cs t (0, 0) h
theorem Blk.free (h : Blk w g t cs) (i : Nat) : w.frozen? ⟨g, i, none⟩ = false := by
 unfold Blk at h
 simp [World.frozen?, h]
theorem Blk.new (w : World) (t : TypeId) (cs : Array Value) : Blk (w.alloc (.cells cs t)) w.heap.size t cs := heap_alloc_new w _
theorem Blk.turns {S : Nat → Prop} (h : Blk w g t cs) (hb : Turns S w w') (hn : ¬ S g) : Blk w' g t cs := (hb.block g h.lt hn).trans h
theorem Blk.alloc (h : Blk w g t cs) (o : Obj) : Blk (w.alloc o) g t cs := (Below.heap_alloc w o g h.lt).trans h
theorem Blk.put (h : Blk w g t cs) (i : Nat) (u : Value) : Blk (w.setCell ⟨g, i, none⟩ u) g t (cs.setIfInBounds i u) := by
 unfold Blk at h ⊢
 simp [World.setCell, Array.getElem?_modify, h]
theorem Blk.far (h : Blk w g t cs) {p : Addr} (hp : g ≠ p.block) (u : Value) : Blk (w.setCell p u) g t cs := (Below.heap_setCell w p u g hp).trans h
end
def flat {α : Type} (enc : α → List Value) (xs : List α) : List Value := xs.flatMap enc
theorem flat_length {α : Type} {enc : α → List Value} {size : Nat} (he : ∀ x, (enc x).length = size) (xs : List α) : (flat enc xs).length = xs.length * size := by
 induction xs with
 | nil => simp [flat]
 | cons x l ih =>
  have : (flat enc (x :: l)).length = (enc x).length + (flat enc l).length := by simp [flat]
  rw [this, ih, he, List.length_cons, Nat.add_mul]; omega
theorem flat_get {α : Type} {enc : α → List Value} {size : Nat} (he : ∀ x, (enc x).length = size) {xs : List α} {i : Nat} {x : α} (hx : xs[i]? = some x) {j : Nat} {v : Value} (hv : (enc x)[j]? = some v) :
  (flat enc xs)[i * size + j]? = some v := by
 induction xs generalizing i with
 | nil => cases hx
 | cons y l ih =>
  have e : flat enc (y :: l) = enc y ++ flat enc l := by simp [flat]
  have hj : j < size := by
   rw [← he x]
   exact (List.getElem?_eq_some_iff.1 hv).1
  rw [e]
  cases i with
  | zero =>
   simp only [List.getElem?_cons_zero, Option.some.injEq] at hx
   subst hx
   rw [Nat.zero_mul, Nat.zero_add, List.getElem?_append_left (by rw [he]; exact hj)]
   exact hv
  | succ i =>
   rw [List.getElem?_cons_succ] at hx
   have hge : (enc y).length ≤ (i + 1) * size + j := by rw [he, Nat.add_mul]; omega
   rw [List.getElem?_append_right hge]
   have := ih hx
   rw [show (i + 1) * size + j - (enc y).length = i * size + j from by rw [he, Nat.add_mul]; omega]
   exact this
theorem flat_append {α : Type} (enc : α → List Value) (xs ys : List α) : flat enc (xs ++ ys) = flat enc xs ++ flat enc ys := by simp [flat]
theorem owns_zero {w : World} {B : Nat} {e : TypeId} {size : Nat} {v : Value} {n : Nat} {xs : List Value} (h : w.ownsRow B e size v n xs) : w.ownsRow 0 e size v n xs := by
 refine ⟨h.1, ?_⟩
 rcases h.2 with h0 | ⟨g, cap, cur, hv, _, r⟩
 ·exact .inl h0
 ·exact .inr ⟨g, cap, cur, hv, Nat.zero_le _, r⟩
def Owns {α : Type} (enc : α → List Value) (e : TypeId) (size : Nat) (w : World) (v : Value) (xs : List α) : Prop := w.ownsRow 0 e size v xs.length (flat enc xs)
section
variable {α : Type} {enc : α → List Value} {e : TypeId} {size : Nat} {w w' : World} {v : Value} {xs : List α}
theorem Owns.form (h : Owns enc e size w v xs) : (v = .slice none 0 0 ∧ xs = []) ∨ ∃ g cap, v = .slice (some ⟨g, 0, none⟩) xs.length cap ∧ g < w.heap.size ∧ xs.length ≤ cap ∧ cap ≤ maxLen := by
 rcases h.2 with ⟨h1, h2⟩ | ⟨g, cap, cur, hv, _, hg, h3, h4, _⟩
 ·exact .inl ⟨h1, List.eq_nil_of_length_eq_zero h2⟩
 ·exact .inr ⟨g, cap, hv, (Array.getElem?_eq_some_iff.1 hg).1, h3, h4⟩
theorem Owns.turns {S : Nat → Prop} (h : Owns enc e size w v xs) (hb : Turns S w w') (hn : ∀ k, v.ownBlock = some k → ¬ S k) : Owns enc e size w' v xs := hb.owns h hn
theorem Owns.lt (h : Owns enc e size w v xs) {k : Nat} (hk : v.ownBlock = some k) : k < w.heap.size := (World.ownsRow.lt h k hk).2
theorem Owns.cell (he : ∀ x, (enc x).length = size) {g cap : Nat} (h : Owns enc e size w (.slice (some ⟨g, 0, none⟩) xs.length cap) xs) {i : Nat} {x : α} (hx : xs[i]? = some x) {j : Nat} {u : Value} (hu : (enc x)[j]? = some u) :
  w.cell? ⟨g, i * size + j, none⟩ = some u := by
 have := World.ownsRow.cells (g := g) h rfl (i * size + j) u (flat_get he hx hu)
 rw [Addr.add_lit] at this
 simpa using this
theorem flat_set {enc : α → List Value} {size : Nat} (he : ∀ x, (enc x).length = size) {xs : List α} {i : Nat} {x x' : α} {j : Nat} {u : Value} (hx : xs[i]? = some x) (hu : enc x' = (enc x).set j u) (hj : j < size) :
  flat enc (xs.set i x') = (flat enc xs).set (i * size + j) u := by
 induction xs generalizing i with
 | nil => cases hx
 | cons y l ih =>
  have e : ∀ (y : α) (l : List α), flat enc (y :: l) = enc y ++ flat enc l := fun y l => by simp [flat]
  cases i with
  | zero =>
   simp only [List.getElem?_cons_zero, Option.some.injEq] at hx
   subst hx
   rw [List.set_cons_zero, e, e, hu, Nat.zero_mul, Nat.zero_add, List.set_append_left _ _ (by rw [he]; exact hj)]
  | succ i =>
   rw [List.getElem?_cons_succ] at hx
   rw [List.set_cons_succ, e, e, ih hx, List.set_append_right _ _ (by rw [he, Nat.add_mul]; omega)]
   congr 2
   rw [he, Nat.add_mul]; omega
theorem Owns.put (he : ∀ x, (enc x).length = size) {g cap : Nat} (h : Owns enc e size w (.slice (some ⟨g, 0, none⟩) xs.length cap) xs) {i : Nat} {x x' : α} {j : Nat} {u : Value} (hx : xs[i]? = some x) (hu : enc x' = (enc x).set j u) (hj : j < size) :
  Owns enc e size (w.setCell ⟨g, i * size + j, none⟩ u) (.slice (some ⟨g, 0, none⟩) xs.length cap) (xs.set i x') := by
 unfold Owns at h ⊢
 rw [List.length_set]
 have hi : i < xs.length := (List.getElem?_eq_some_iff.1 hx).1
 have hlt : i * size + j < xs.length * size := by
  have := Nat.mul_le_mul_right size (show i + 1 ≤ xs.length from hi)
  rw [Nat.add_mul] at this
  omega
 refine ⟨by rw [flat_length he, List.length_set], ?_⟩
 rcases h.2 with ⟨h0, _⟩ | ⟨g', cap', cur, hv, hb, hg, h1, h2, h3, h4⟩
 ·cases h0
 ·simp only [Value.slice.injEq, Option.some.injEq, Addr.mk.injEq, and_true, true_and] at hv
  obtain ⟨rfl, rfl⟩ := hv
  refine .inr ⟨g, cap, cur.setIfInBounds (i * size + j) u, rfl, hb, ?_, h1, h2, by simpa using h3, ?_⟩
  ·simp [World.setCell, Array.getElem?_modify, hg]
  ·rw [Array.toList_setIfInBounds, flat_set he hx hu hj, ← h4, List.take_set]
theorem Owns.free {g cap : Nat} (h : Owns enc e size w (.slice (some ⟨g, 0, none⟩) xs.length cap) xs) (o : Nat) : w.frozen? ⟨g, o, none⟩ = false := by
 rcases h.2 with ⟨h0, _⟩ | ⟨g', cap', cur, hv, hb, hg, _⟩
 ·cases h0
 ·simp only [Value.slice.injEq, Option.some.injEq, Addr.mk.injEq, and_true, true_and] at hv
  obtain ⟨rfl, rfl⟩ := hv
  simp [World.frozen?, hg]
theorem Owns.rowIn (he : ∀ x, (enc x).length = size) (h : Owns enc e size w v xs) : ∃ a cap, v = .slice a xs.length cap ∧ RowIn enc size w a xs.length xs ∧ xs.length ≤ cap ∧ cap ≤ maxLen ∧ (a = none → cap = 0) ∧ (∀ k, v.ownBlock = some k ↔ ∃ o, a = some ⟨k, o, none⟩) := by
 rcases h.form with ⟨rfl, rfl⟩ | ⟨g, cap, rfl, hg, hl, hm⟩
 ·exact ⟨none, 0, rfl, ⟨rfl, .inl (Nat.le_refl _)⟩, Nat.le_refl _, by unfold maxLen; omega, fun _ => rfl, fun k => by simp [Value.ownBlock]⟩
 ·refine ⟨_, cap, rfl, ⟨rfl, .inr ⟨g, 0, rfl, hg, fun i x hx j u hu => ?_⟩⟩, hl, hm, fun h => (by cases h), fun k => ⟨fun hk => ⟨0, ?_⟩, ?_⟩⟩
  ·rw [Nat.zero_add]
   exact Owns.cell he h hx hu
  ·simp only [Value.ownBlock, Option.some.injEq] at hk
   rw [hk]
  ·rintro ⟨o, ho⟩
   simp only [Option.some.injEq, Addr.mk.injEq] at ho
   simp [Value.ownBlock, ho.1]
end
section
open Go.RowKit Go.MapKept
def MapI (w : World) (b : Nat) (f : Int → Option Value) : Prop :=
 ∃ es clock, w.heap[b]? = some (.map es clock) ∧ (∀ x ∈ es.toList, ∃ k, x.key = .int .i64 k) ∧ es.toList.Pairwise (fun x y => x.key ≠ y.key) ∧
  ∀ k v, f k = some v ↔ ∃ x ∈ es.toList, x.key = .int .i64 k ∧ x.val = v
theorem modify_set {α : Type} (f : α → α) : ∀ (l : List α) (j : Nat) (x : α), l[j]? = some x → l.modify j f = l.set j (f x)
 | [], _, _, h => by cases h
 | y :: l, 0, x, h => by
  simp only [List.getElem?_cons_zero, Option.some.injEq] at h
  subst h
  rfl
 | y :: l, j + 1, x, h => by
  rw [List.getElem?_cons_succ] at h
  show y :: l.modify j f = y :: l.set j (f x)
  rw [modify_set f l j x h]
theorem isKey_int (k : Int) : IsKey (.int .i64) (.int .i64 k) := rfl
theorem MapI.lt {w : World} {b : Nat} {f : Int → Option Value} (h : MapI w b f) : b < w.heap.size := by
 obtain ⟨es, clock, hb, _⟩ := h
 exact (Array.getElem?_eq_some_iff.1 hb).1
theorem MapI.turns {S : Nat → Prop} {w w' : World} {b : Nat} {f : Int → Option Value} (h : MapI w b f) (ht : Turns S w w') (hn : ¬ S b) : MapI w' b f := by
 have hl := h.lt
 obtain ⟨es, clock, hb, r⟩ := h
 exact ⟨es, clock, (ht.block b hl hn).trans hb, r⟩
theorem MapI.alloc {w : World} {b : Nat} {f : Int → Option Value} (h : MapI w b f) (o : Obj) : MapI (w.alloc o) b f := h.turns ((zT w).alloc o) (fun h => h)
theorem MapI.new (w : World) : MapI (w.alloc (.map #[] 0)) w.heap.size (fun _ => none) :=
 ⟨#[], 0, heap_alloc_new w _, by simp, by simp, by simp⟩
section
variable {P : Program} {w : World} {b : Nat} {f : Int → Option Value} {t kt et : TypeId}
theorem MapI.found (h : MapI w b f) (hk : P.underlying kt = some (.int .i64)) (k : Int) :
  ∃ es clock, w.heap[b]? = some (.map es clock) ∧ (∀ x ∈ es.toList, ∃ k, x.key = .int .i64 k) ∧ es.toList.Pairwise (fun x y => x.key ≠ y.key) ∧ (∀ k v, f k = some v ↔ ∃ x ∈ es.toList, x.key = .int .i64 k ∧ x.val = v) ∧
   ((∀ w', (Instr.findKey kt (.int .i64 k) es.toList).run P w' = .ok none w') ∧ f k = none ∧ (∀ x ∈ es.toList, x.key ≠ .int .i64 k) ∨
     ∃ j e, (∀ w', (Instr.findKey kt (.int .i64 k) es.toList).run P w' = .ok (some (j, e.val)) w') ∧ f k = some e.val ∧ es.toList[j]? = some e ∧ e.key = .int .i64 k) := by
 obtain ⟨es, clock, hb, hks, hd, hf⟩ := h
 refine ⟨es, clock, hb, hks, hd, hf, ?_⟩
 have hks' : ∀ x ∈ es.toList, IsKey (.int .i64) x.key := fun x hx => by
  obtain ⟨k', e⟩ := hks x hx
  rw [e]
  exact isKey_int k'
 rcases findNow_spec (isKey_int k) es.toList 0 hks' with ⟨h1, h2⟩ | ⟨j, e, h1, h2, h3⟩
 ·refine .inl ⟨fun w' => Go.MapKept.run_findKey hk h1, ?_, h2⟩
  cases hfk : f k with
  | none => rfl
  | some v =>
   obtain ⟨x, hx, he, _⟩ := (hf k v).1 hfk
   exact absurd he (h2 x hx)
 ·rw [Nat.zero_add] at h1
  exact .inr ⟨j, e, fun w' => Go.MapKept.run_findKey hk h1, (hf k e.val).2 ⟨e, List.mem_of_getElem? h2, h3, rfl⟩, h2, h3⟩
theorem MapI.look (h : MapI w b f) (ht : P.underlying t = some (.map kt et)) (hk : P.underlying kt = some (.int .i64)) {z : Value} (hz : (zeroValue et).run P w = .ok z w) (k : Int) (c : Bool) :
  (Instr.lookup t (.map (some b)) (.int .i64 k) c).run P w = .ok (if c then .tuple #[(f k).getD z, .bool (f k).isSome] else (f k).getD z) w := by
 obtain ⟨es, clock, hb, hks, hd, hf, h1 | ⟨j, e, h1, h2, h3, h4⟩⟩ := h.found hk k
 ·obtain ⟨h1, h2, h3⟩ := h1
  simp [Instr.lookup, run_underlying ht, Go.MapKept.run_getObj_map hb, Go.MapKept.run_checkKey hk (isKey_int k), h1, hz, Result.andThen, h2]
 ·simp [Instr.lookup, run_underlying ht, Go.MapKept.run_getObj_map hb, Go.MapKept.run_checkKey hk (isKey_int k), h1, Result.andThen, h2]
theorem MapI.store (h : MapI w b f) (ht : P.underlying t = some (.map kt et)) (hk : P.underlying kt = some (.int .i64)) (k : Int) (v : Value) :
  ∃ w', (Instr.mapUpdate t (.map (some b)) (.int .i64 k) v).run P w = .ok () w' ∧ MapI w' b (fun j => if j = k then some v else f j) ∧ Turns (fun x => x = b) w w' ∧ w'.heap.size = w.heap.size := by
 have hl := h.lt
 obtain ⟨es, clock, hb, hks, hd, hf, h1 | ⟨j, e, h1, h2, h3, h4⟩⟩ := h.found hk k
 ·obtain ⟨h1, h2, h3⟩ := h1
  refine ⟨Go.ChangeMaps.setBlock w b (.map (es.push ⟨.int .i64 k, v, clock⟩) (clock + 1)), ?_, ⟨_, _, (Go.MapKept.heap_set hb).1, ?_, ?_, ?_⟩, ?_, ?_⟩
  ·simp [Instr.mapUpdate, run_underlying ht, Go.MapKept.run_getObj_map hb, Go.MapKept.run_checkKey hk (isKey_int k), h1, Go.MapKept.run_setObj_map _ hb, Result.andThen, Go.ChangeMaps.setBlock]
  ·intro x hx
   simp only [Array.toList_push, List.mem_append, List.mem_singleton] at hx
   rcases hx with hx | rfl
   ·exact hks x hx
   ·exact ⟨k, rfl⟩
  ·rw [Array.toList_push, List.pairwise_append]
   refine ⟨hd, by simp, fun x hx y hy => ?_⟩
   simp only [List.mem_singleton] at hy
   subst hy
   exact h3 x hx
  ·intro k' v'
   simp only [Array.toList_push, List.mem_append, List.mem_singleton]
   by_cases hkk : k' = k
   ·subst hkk
    simp only [if_true, Option.some.injEq]
    constructor
    ·rintro rfl
     exact ⟨_, .inr rfl, rfl, rfl⟩
    ·rintro ⟨x, hx | rfl, he, hv⟩
     ·exact absurd he (h3 x hx)
     ·exact hv
   ·simp only [if_neg hkk]
    rw [hf]
    constructor
    ·rintro ⟨x, hx, he, hv⟩
     exact ⟨x, .inl hx, he, hv⟩
    ·rintro ⟨x, hx | rfl, he, hv⟩
     ·exact ⟨x, hx, he, hv⟩
     ·simp only [Value.int.injEq, true_and] at he
      exact absurd he.symm hkk
  ·exact ⟨rfl, rfl, rfl, by simp [Go.ChangeMaps.setBlock], fun i _ hn => (Go.MapKept.heap_set hb).2 i hn⟩
  ·simp [Go.ChangeMaps.setBlock]
 ·have hj : es[j]? = some e := by simpa using h3
  have hjl : j < es.toList.length := (List.getElem?_eq_some_iff.1 h3).1
  have hlist : (es.modify j (fun e' => { e' with key := .int .i64 k, val := v })).toList = es.toList.set j { e with key := .int .i64 k, val := v } := by
   rw [Array.toList_modify, modify_set _ _ _ _ h3]
  have hset : ∀ x, x ∈ es.toList.set j { e with key := .int .i64 k, val := v } → x = { e with key := .int .i64 k, val := v } ∨ (x ∈ es.toList ∧ x.key ≠ .int .i64 k) := by
   intro x hx
   obtain ⟨i, hi, ex⟩ := List.getElem_of_mem hx
   rw [List.getElem_set] at ex
   split at ex
   ·exact .inl ex.symm
   ·rename_i hne
    have hi' : i < es.toList.length := by simpa using hi
    refine .inr ⟨ex ▸ List.getElem_mem hi', fun he => ?_⟩
    have hjj : es.toList[j] = e := (List.getElem?_eq_some_iff.1 h3).2
    rcases Nat.lt_or_gt_of_ne hne with hlt | hgt
    ·exact (List.pairwise_iff_getElem.1 hd) j i hjl hi' hlt (by rw [hjj, ex, he, h4])
    ·exact (List.pairwise_iff_getElem.1 hd) i j hi' hjl hgt (by rw [hjj, ex, he, h4])
  refine ⟨Go.ChangeMaps.setBlock w b (.map (es.modify j (fun e' => { e' with key := .int .i64 k, val := v })) clock), ?_, ⟨_, _, (Go.MapKept.heap_set hb).1, ?_, ?_, ?_⟩, ?_, ?_⟩
  ·simp [Instr.mapUpdate, run_underlying ht, Go.MapKept.run_getObj_map hb, Go.MapKept.run_checkKey hk (isKey_int k), h1, hj, h4, Go.MapKept.run_keyThatStays (isKey_int k), Go.MapKept.run_setObj_map _ hb, Result.andThen, Go.ChangeMaps.setBlock]
  ·intro x hx
   rw [hlist] at hx
   rcases hset x hx with rfl | ⟨hx, _⟩
   ·exact ⟨k, rfl⟩
   ·exact hks x hx
  ·rw [hlist]
   have hm : (es.toList.set j { e with key := .int .i64 k, val := v }).map (·.key) = es.toList.map (·.key) := by
    rw [List.map_set]
    refine List.ext_getElem? fun i => ?_
    rw [List.getElem?_set]
    by_cases hij : j = i
    ·subst hij
     rw [if_pos rfl, if_pos (by simpa using hjl), List.getElem?_map, h3]
     simp [h4]
    ·rw [if_neg hij]
   have h5 : (es.toList.map (·.key)).Pairwise (· ≠ ·) := List.pairwise_map.2 hd
   rw [← hm] at h5
   exact List.pairwise_map.1 h5
  ·intro k' v'
   rw [hlist]
   have hmem : ({ e with key := .int .i64 k, val := v } : MapEntry) ∈ es.toList.set j { e with key := .int .i64 k, val := v } := List.mem_iff_getElem.2 ⟨j, by simpa using hjl, by simp⟩
   by_cases hkk : k' = k
   ·subst hkk
    simp only [if_true, Option.some.injEq]
    constructor
    ·rintro rfl
     exact ⟨_, hmem, rfl, rfl⟩
    ·rintro ⟨x, hx, he, hv⟩
     rcases hset x hx with rfl | ⟨_, hne⟩
     ·exact hv
     ·exact absurd he hne
   ·simp only [if_neg hkk]
    rw [hf]
    constructor
    ·rintro ⟨x, hx, he, hv⟩
     obtain ⟨i, hi, ex⟩ := List.getElem_of_mem hx
     refine ⟨x, List.mem_iff_getElem.2 ⟨i, by simpa using hi, ?_⟩, he, hv⟩
     rw [List.getElem_set, if_neg]
     ·exact ex
     ·rintro rfl
      have hjj : es.toList[j] = e := (List.getElem?_eq_some_iff.1 h3).2
      rw [hjj] at ex
      subst ex
      rw [h4] at he
      simp only [Value.int.injEq, true_and] at he
      exact hkk he.symm
    ·rintro ⟨x, hx, he, hv⟩
     rcases hset x hx with rfl | ⟨hx, _⟩
     ·simp only [Value.int.injEq, true_and] at he
      exact absurd he.symm hkk
     ·exact ⟨x, hx, he, hv⟩
  ·exact ⟨rfl, rfl, rfl, by simp [Go.ChangeMaps.setBlock], fun i _ hn => (Go.MapKept.heap_set hb).2 i hn⟩
  ·simp [Go.ChangeMaps.setBlock]
theorem MapI.drop (h : MapI w b f) (ht : P.underlying t = some (.map kt et)) (hk : P.underlying kt = some (.int .i64)) (k : Int) (ty : TypeId) :
  ∃ w', (Builtin.delete_ #[t, kt] ty #[.map (some b), .int .i64 k]).run P w = .ok (.tuple #[]) w' ∧ MapI w' b (fun j => if j = k then none else f j) ∧ Turns (fun x => x = b) w w' ∧ w'.heap.size = w.heap.size := by
 obtain ⟨es, clock, hb, hks, hd, hf, h1 | ⟨j, e, h1, h2, h3, h4⟩⟩ := h.found hk k
 ·obtain ⟨h1, h2, h3⟩ := h1
  refine ⟨Go.ChangeMaps.setBlock w b (.map es clock), ?_, ⟨_, _, (Go.MapKept.heap_set hb).1, hks, hd, ?_⟩, ?_, ?_⟩
  ·simp [Builtin.delete_, run_underlying ht, Go.MapKept.run_getObj_map hb, Go.MapKept.run_checkKey hk (isKey_int k), h1, Go.MapKept.run_setObj_map _ hb, Result.andThen, Go.ChangeMaps.setBlock]
  ·intro k' v'
   by_cases hkk : k' = k
   ·subst hkk
    simp only [if_true]
    constructor
    ·intro h; cases h
    ·rintro ⟨x, hx, he, _⟩
     exact absurd he (h3 x hx)
   ·simp only [if_neg hkk]
    exact hf k' v'
  ·exact ⟨rfl, rfl, rfl, by simp [Go.ChangeMaps.setBlock], fun i _ hn => (Go.MapKept.heap_set hb).2 i hn⟩
  ·simp [Go.ChangeMaps.setBlock]
 ·have hjl : j < es.toList.length := (List.getElem?_eq_some_iff.1 h3).1
  have hjs : j < es.size := by simpa using hjl
  have hsub : (es.eraseIdxIfInBounds j).toList = es.toList.eraseIdx j := by
   unfold Array.eraseIdxIfInBounds
   rw [dif_pos hjs]
   simp
  have hjj : es.toList[j] = e := (List.getElem?_eq_some_iff.1 h3).2
  refine ⟨Go.ChangeMaps.setBlock w b (.map (es.eraseIdxIfInBounds j) clock), ?_, ⟨_, _, (Go.MapKept.heap_set hb).1, ?_, ?_, ?_⟩, ?_, ?_⟩
  ·simp [Builtin.delete_, run_underlying ht, Go.MapKept.run_getObj_map hb, Go.MapKept.run_checkKey hk (isKey_int k), h1, Go.MapKept.run_setObj_map _ hb, Result.andThen, Go.ChangeMaps.setBlock]
  ·intro x hx
   rw [hsub] at hx
   exact hks x ((List.eraseIdx_sublist _ _).subset hx)
  ·rw [hsub]
   exact hd.sublist (List.eraseIdx_sublist _ _)
  ·intro k' v'
   rw [hsub]
   by_cases hkk : k' = k
   ·subst hkk
    simp only [if_true]
    constructor
    ·intro h; cases h
    ·rintro ⟨x, hx, he, _⟩
     obtain ⟨i, hne, hi⟩ := List.mem_eraseIdx_iff_getElem?.1 hx
     obtain ⟨hi', ex⟩ := List.getElem?_eq_some_iff.1 hi
     exfalso
     rcases Nat.lt_or_gt_of_ne hne with hlt | hgt
     ·exact (List.pairwise_iff_getElem.1 hd) i j hi' hjl hlt (by rw [hjj, ex, he, h4])
     ·exact (List.pairwise_iff_getElem.1 hd) j i hjl hi' hgt (by rw [hjj, ex, he, h4])
   ·simp only [if_neg hkk]
    rw [hf]
    constructor
    ·rintro ⟨x, hx, he, hv⟩
     obtain ⟨i, hi, ex⟩ := List.getElem_of_mem hx
     refine ⟨x, List.mem_eraseIdx_iff_getElem?.2 ⟨i, ?_, by rw [List.getElem?_eq_getElem hi, ex]⟩, he, hv⟩
     rintro rfl
     rw [hjj] at ex
     subst ex
     rw [h4] at he
     simp only [Value.int.injEq, true_and] at he
     exact hkk he.symm
    ·rintro ⟨x, hx, he, hv⟩
     exact ⟨x, (List.eraseIdx_sublist _ _).subset hx, he, hv⟩
  ·exact ⟨rfl, rfl, rfl, by simp [Go.ChangeMaps.setBlock], fun i _ hn => (Go.MapKept.heap_set hb).2 i hn⟩
  ·simp [Go.ChangeMaps.setBlock]
end
section
variable {P : Program} (w : World) {ops : Array Oper} {rest : List Oper} {o : Oper} {a : Act} {Q : Exit → Act → World → Prop}
theorem wpList_lookrun (hg : o.guard = none) (m x : Operand) (t : TypeId) (c : Bool) (hop : o.op = Op.lookup t m x c) (mv kv v : Value) (hm : a.eval m = mv) (hx : a.eval x = kv)
  (hrun : (Instr.lookup t mv kv c).run P w = .ok v w) (hK : wpList P ops Q rest (a.put o.dst v) w) : wpList P ops Q (o :: rest) a w := by
 refine wpList_plain hg fun K' hK' => ?_
 unfold Oper.wp
 simp [execOp, hop, hm, hx, hrun, Result.andThen]
 exact hK' _ _ hK
end
end
section
variable {P : Program} {ops : Array Oper} {Q : Exit → Act → World → Prop} {md : Region.Mode} {S : World → Prop}
theorem takeH {i : Nat} {d : Option Tmp} {oi : Oper} {v : Value} {fuel : Nat} {listed : Array Bool} {a : Act} {w : World} (hi : ops[i]? = some oi) (hd : oi.dst = d)
  (hs : Region.noSelect ops = true) (hf : Region.free md ops listed i = true) (hr : (Region.ready md ops listed).contains i = true)
  (hQ : ∀ c a w, Q (.panic c) (a.put d v) w → Q (.panic c) a w) (hy : YieldsIf P ops S oi v a) (hS : S w)
  (h : wpAnyH P md ops Q S fuel (listed.setIfInBounds i true) (a.put d v) w) : wpAnyH P md ops Q S (fuel + 1) listed a w := by
 subst hd
 exact wpAnyH_take hi hs hf hr hQ hy hS h
theorem tH (i d : Nat) {oi : Oper} (v : Value) {fuel : Nat} {listed : Array Bool} {a : Act} {w : World} (hy : ∀ w, S w → (execOp a.eval oi).run P w = .ok (.value v) w)
(h : wpAnyH P md ops Q S fuel (listed.setIfInBounds i true) (a.put (some d) v) w) (hi : ops[i]? = some oi := by rfl) (hd : oi.dst = some d := by rfl)
(hs : Region.noSelect ops = true := by kernel_rfl) (hf : Region.free md ops listed i = true := by kernel_rfl) (hr : (Region.ready md ops listed).contains i = true := by kernel_rfl)
(hQ : ∀ c a w, Q (.panic c) (a.put (some d) v) w → Q (.panic c) a w := by exact fun _ _ _ h => h) (hw : Region.wanted oi (yielded ops a.tmps) = true := by rfl) (hS : S w := by assumption) : wpAnyH P md ops Q S (fuel + 1) listed a w :=
takeH hi hd hs hf hr hQ (Or.inl ⟨hw, hy⟩) hS h
end
structure It where
 id : Int
 when : Int
 seq : Int
def encT (x : It) : List Value := [.int .i64 x.id, .int .i64 x.when, .int .i64 x.seq]
theorem encT_len (x : It) : (encT x).length = 3 := rfl
def aggT (x : It) : Value := .agg #[.int .i64 x.id, .int .i64 x.when, .int .i64 x.seq]
def cmpI (a b : Int) : Int := if a < b then -1 else if b < a then 1 else 0
def cmpT (a b : It) : Int := if cmpI a.when b.when ≠ 0 then cmpI a.when b.when else cmpI a.seq b.seq
def lt (a b : It) : Prop := a.when < b.when ∨ (a.when = b.when ∧ a.seq < b.seq)
instance (a b : It) : Decidable (lt a b) := by unfold lt; infer_instance
theorem cmpT_lt (a b : It) : cmpT a b < 0 ↔ lt a b := by
 unfold cmpT cmpI lt
 split <;> split <;> (try split) <;> (try split) <;> omega
theorem isNaN_c (a : Int) (w : World) : Calls Tryz.prog 215 #[.int .i64 a] w fun e w' => e = .returned (.bool false) ∧ w = w' := by
 go_enter Tryz.func215, Tryz.ntmps215
 go_wp2
 go_ret
 exact ⟨by simp, rfl⟩
theorem compare_c (a b : Int) (w : World) : Calls Tryz.prog 213 #[.int .i64 a, .int .i64 b] w fun e w' => e = .returned (.int .i64 (cmpI a b)) ∧ w = w' := by
 have H := fun (a : Int) (w : World) => isNaN_c a w
 rcases Int.lt_trichotomy a b with h | h | h
 ·have hc : cmpI a b = -1 := by unfold cmpI; rw [if_pos h]
  rw [hc]
  clear hc
  go_enter Tryz.func213, Tryz.ntmps213
  go_wp2_with fail
  refine (H a w).mono ?_
  rintro e w' ⟨rfl, rfl⟩
  go_wp2_with fail
  refine (H b w).mono ?_
  rintro e w' ⟨rfl, rfl⟩
  go_wp2_with fail
  go_ret
  exact ⟨rfl, rfl⟩
 ·have hc : cmpI a b = 0 := by unfold cmpI; rw [if_neg (by omega), if_neg (by omega)]
  rw [hc]
  subst h
  clear hc
  go_enter Tryz.func213, Tryz.ntmps213
  go_wp2_with fail
  refine (H a w).mono ?_
  rintro e w' ⟨rfl, rfl⟩
  go_wp2_with fail
  refine (H a w).mono ?_
  rintro e w' ⟨rfl, rfl⟩
  go_wp2_with fail
  go_ret
  exact ⟨rfl, rfl⟩
 ·have hc : cmpI a b = 1 := by unfold cmpI; rw [if_neg (by omega), if_pos h]
  rw [hc]
  have h2 : ¬ a < b := by omega
  clear hc
  go_enter Tryz.func213, Tryz.ntmps213
  go_wp2_with fail
  refine (H a w).mono ?_
  rintro e w' ⟨rfl, rfl⟩
  go_wp2_with fail
  refine (H b w).mono ?_
  rintro e w' ⟨rfl, rfl⟩
  go_wp2_with fail
  go_ret
  exact ⟨rfl, rfl⟩
theorem or_c (g : Nat) (x y : Int) (w : World) (h0 : w.cell? ⟨g, 0, none⟩ = some (.int .i64 x)) (h1 : w.cell? ⟨g, 1, none⟩ = some (.int .i64 y)) :
  Calls Tryz.prog 212 #[.slice (some ⟨g, 0, none⟩) 2 2] w fun e w' => e = .returned (.int .i64 (if x ≠ 0 then x else y)) ∧ w = w' := by
 go_enter Tryz.func212, Tryz.ntmps212
 go_wp2_with fail
 go_loopw [8] (fun v8 wr => ∃ k : Nat, k ≤ 2 ∧ v8 = .int .i64 k ∧ (1 ≤ k → x = 0) ∧ (2 ≤ k → y = 0) ∧ wr = w) (fun v8 _ => 2 - (intOf v8).toNat)
 case atStart => exact ⟨0, by omega, rfl, by omega, by omega, rfl⟩
 case round =>
  obtain ⟨k, hk, rfl, hx, hy, rfl⟩ := hrel
  have hk3 : k = 0 ∨ k = 1 ∨ k = 2 := by omega
  rcases hk3 with rfl | rfl | rfl
  ·clear hx hy
   by_cases hx0 : x = 0
   ·subst hx0
    go_wp2_with fail
    go_roundw
    case rel => exact ⟨1, by omega, by go_num, by simp, by omega, by trivial⟩
    case measure => simp [intOf]
   ·have hb : (x != 0) = true := by simp [hx0]
    go_wp2_with fail
    go_ret
    exact ⟨by simp [hx0], rfl⟩
  ·obtain rfl := hx (by omega)
   clear hx hy
   by_cases hy0 : y = 0
   ·subst hy0
    go_wp2_with fail
    go_roundw
    case rel => exact ⟨2, by omega, by go_num, by simp, by simp, by trivial⟩
    case measure => simp [intOf]
   ·have hb : (y != 0) = true := by simp [hy0]
    go_wp2_with fail
    go_ret
    exact ⟨by simp, rfl⟩
  ·obtain rfl := hx (by omega)
   obtain rfl := hy (by omega)
   clear hx hy
   go_wp2_with fail
   go_ret
   exact ⟨by simp, rfl⟩
theorem or_r (g : Nat) (x y r : Int) (w : World) (hr : (if x ≠ 0 then x else y) = r) (h0 : w.cell? ⟨g, 0, none⟩ = some (.int .i64 x)) (h1 : w.cell? ⟨g, 1, none⟩ = some (.int .i64 y)) :
  Calls Tryz.prog 212 #[.slice (some ⟨g, 0, none⟩) 2 2] w fun e w' => e = .returned (.int .i64 r) ∧ w = w' := by
 subst hr
 exact or_c g x y w h0 h1
theorem ahead_c (a b : It) (w : World) : Calls Tryz.prog 204 #[aggT a, aggT b] w fun e w' => e = .returned (.int .i64 (cmpT a b)) ∧ Made w w' := by
 obtain ⟨r, hr⟩ : ∃ r, cmpT a b = r := ⟨_, rfl⟩
 rw [hr]
 have HR : Hid ((if cmpI a.when b.when ≠ 0 then cmpI a.when b.when else cmpI a.seq b.seq) = r) := zh hr
 clear hr
 unfold aggT
 go_enter Tryz.func204, Tryz.ntmps204
 go_wp2_with fail
 have hA : Blk ((w.alloc (.cells (encT a).toArray 186)).alloc (.cells (encT b).toArray 186)) w.heap.size 186 (encT a).toArray := (Blk.new w _ _).alloc _
 have hB : Blk ((w.alloc (.cells (encT a).toArray 186)).alloc (.cells (encT b).toArray 186)) (w.heap.size + 1) 186 (encT b).toArray := by
  have h := Blk.new (w.alloc (.cells (encT a).toArray 186)) 186 (encT b).toArray
  simpa using h
 have hM : Made w ((w.alloc (.cells (encT a).toArray 186)).alloc (.cells (encT b).toArray 186)) := ((Turns.refl _ _).alloc _).alloc _
 unfold encT at hA hB hM
 generalize (w.alloc (.cells [.int .i64 a.id, .int .i64 a.when, .int .i64 a.seq].toArray 186)).alloc (.cells [.int .i64 b.id, .int .i64 b.when, .int .i64 b.seq].toArray 186) = W at *
 generalize w.heap.size = p at *
 have HA := zh hA
 have HB := zh hB
 have HM := zh hM
 clear hA hB hM
 refine wp_region_held_drew (S := (fun w' => Blk w' p 186 (encT a).toArray ∧ Blk w' (p + 1) 186 (encT b).toArray ∧ Made w w')) (by kernel_rfl) ?_ (fun hHeld => ?_)
 ·exact ⟨HA.out, HB.out, HM.out.drew⟩
 refine tH 0 5 ?_ ?_ ?_;rotate_left
 ·intro w hSw
  go_simp
  try with_reducible rfl
 try simp only [zP]
 refine tH 1 6 ?_ ?_ ?_;rotate_left
 ·intro w hSw
  have c1 := hSw.1.cell 1
  have c2 := hSw.1.cell 2
  have d1 := hSw.2.1.cell 1
  have d2 := hSw.2.1.cell 2
  simp only [encT, zG] at c1 c2 d1 d2
  go_simp
  try with_reducible rfl
 try simp only [zP]
 refine tH 2 7 ?_ ?_ ?_;rotate_left
 ·intro w hSw
  go_simp
  try with_reducible rfl
 try simp only [zP]
 refine tH 3 8 ?_ ?_ ?_;rotate_left
 ·intro w hSw
  have c1 := hSw.1.cell 1
  have c2 := hSw.1.cell 2
  have d1 := hSw.2.1.cell 1
  have d2 := hSw.2.1.cell 2
  simp only [encT, zG] at c1 c2 d1 d2
  go_simp
  try with_reducible rfl
 try simp only [zP]
 refine tH 5 10 ?_ ?_ ?_;rotate_left
 ·intro w hSw
  go_simp
  try with_reducible rfl
 try simp only [zP]
 refine tH 6 11 ?_ ?_ ?_;rotate_left
 ·intro w hSw
  have c1 := hSw.1.cell 1
  have c2 := hSw.1.cell 2
  have d1 := hSw.2.1.cell 1
  have d2 := hSw.2.1.cell 2
  simp only [encT, zG] at c1 c2 d1 d2
  go_simp
  try with_reducible rfl
 try simp only [zP]
 refine tH 7 12 ?_ ?_ ?_;rotate_left
 ·intro w hSw
  go_simp
  try with_reducible rfl
 try simp only [zP]
 refine tH 8 13 ?_ ?_ ?_;rotate_left
 ·intro w hSw
  have c1 := hSw.1.cell 1
  have c2 := hSw.1.cell 2
  have d1 := hSw.2.1.cell 1
  have d2 := hSw.2.1.cell 2
  simp only [encT, zG] at c1 c2 d1 d2
  go_simp
  try with_reducible rfl
 try simp only [zP]
 refine zR 4 fun K hK => ?_
 go_simp
 refine (compare_c _ _ _).mono ?_
 rintro e w' ⟨rfl, rfl⟩
 go_wp2_with fail
 refine hK.out _ _ ?_ (fun hHeld => ?_)
 ·exact hHeld
 clear hK K
 try simp only [zP]
 refine zR 9 fun K hK => ?_
 go_simp
 refine (compare_c _ _ _).mono ?_
 rintro e w' ⟨rfl, rfl⟩
 go_wp2_with fail
 refine hK.out _ _ ?_ (fun hHeld => ?_)
 ·exact hHeld
 clear hK K
 try simp only [zP]
 refine zR 10 fun K hK => ?_
 go_simp
 refine hK.out _ _ ?_ (fun hHeld => ?_)
 ·exact ⟨hHeld.1.alloc _, hHeld.2.1.alloc _, hHeld.2.2.alloc _⟩
 clear hK K
 try simp only [zP]
 refine zR 11 fun K hK => ?_
 go_simp
 refine (or_r _ (cmpI a.when b.when) (cmpI a.seq b.seq) r _ HR.out ?o0 ?o1).mono ?_
 case o0 => exact (Blk.new W _ _).cell 0
 case o1 => exact (Blk.new W _ _).cell 1
 rintro e w' ⟨rfl, rfl⟩
 go_wp2_with fail
 refine hK.out _ _ ?_ (fun hHeld => ?_)
 ·exact hHeld
 clear hK K
 try simp only [zP]
 refine tH 12 4 ?_ ?_ ?_;rotate_left
 ·intro w hSw
  go_simp
  try with_reducible rfl
 try simp only [zP]
 refine wpAnyH_done (by kernel_rfl) ?_ _
 go_wp2_with fail
 go_ret
 exact ⟨rfl, hHeld.2.2⟩
structure HRaw (w : World) (p mb : Nat) (lv : Value) (sq : Int) (ys : List It) (f : Int → Option Value) : Prop where
 blk : Blk w p 179 #[lv, .map (some mb), .int .i64 sq]
 own : Owns encT 186 3 w lv ys
 map : MapI w mb f
 np : lv.ownBlock ≠ some p
 nm : lv.ownBlock ≠ some mb
 pm : p ≠ mb
theorem HRaw.turns {S : Nat → Prop} {w w' : World} {p mb : Nat} {lv : Value} {sq : Int} {ys : List It} {f : Int → Option Value} (h : HRaw w p mb lv sq ys f) (ht : Turns S w w') (h1 : ¬ S p) (h2 : ¬ S mb) (h3 : ∀ k, lv.ownBlock = some k → ¬ S k) : HRaw w' p mb lv sq ys f :=
 ⟨h.blk.turns ht h1, h.own.turns ht h3, h.map.turns ht h2, h.np, h.nm, h.pm⟩
theorem HRaw.made {w w' : World} {p mb : Nat} {lv : Value} {sq : Int} {ys : List It} {f : Int → Option Value} (h : HRaw w p mb lv sq ys f) (ht : Made w w') : HRaw w' p mb lv sq ys f := h.turns ht (fun h => h) (fun h => h) (fun _ _ h => h)
def upd (f : Int → Option Value) (k : Int) (v : Value) : Int → Option Value := fun j => if j = k then some v else f j
theorem own_put3 {w : World} {g cap i : Nat} {ys : List It} (h : Owns encT 186 3 w (.slice (some ⟨g, 0, none⟩) ys.length cap) ys) (hi : i < ys.length) (x : It) :
  Owns encT 186 3 (((w.setCell ⟨g, i * 3, none⟩ (.int .i64 x.id)).setCell ⟨g, i * 3 + 1, none⟩ (.int .i64 x.when)).setCell ⟨g, i * 3 + 2, none⟩ (.int .i64 x.seq)) (.slice (some ⟨g, 0, none⟩) ys.length cap) (ys.set i x) := by
 obtain ⟨y, hy⟩ := get_of_lt (xs := ys) (k := i) hi
 have h1 := Owns.put encT_len h (i := i) (x := y) (x' := ⟨x.id, y.when, y.seq⟩) (j := 0) (u := .int .i64 x.id) hy rfl (by decide)
 have l1 : (ys.set i ⟨x.id, y.when, y.seq⟩).length = ys.length := List.length_set
 rw [← l1] at h1
 have h2 := Owns.put encT_len h1 (i := i) (x := ⟨x.id, y.when, y.seq⟩) (x' := ⟨x.id, x.when, y.seq⟩) (j := 1) (u := .int .i64 x.when) (by rw [List.getElem?_set_self hi]) rfl (by decide)
 rw [List.set_set] at h2
 rw [l1, ← (List.length_set : (ys.set i ⟨x.id, x.when, y.seq⟩).length = ys.length)] at h2
 have h3 := Owns.put encT_len h2 (i := i) (x := ⟨x.id, x.when, y.seq⟩) (x' := x) (j := 2) (u := .int .i64 x.seq) (by rw [List.getElem?_set_self hi]) rfl (by decide)
 rw [List.set_set, List.length_set] at h3
 exact h3
theorem put_c (p mb : Nat) (lv : Value) (sq : Int) (ys : List It) (f : Int → Option Value) (i : Nat) (x : It) (w : World) (h : HRaw w p mb lv sq ys f) (hi : i < ys.length) :
  Calls Tryz.prog 186 #[.pointer (some ⟨p, 0, none⟩), .int .i64 i, aggT x] w fun e w' => (∃ v, e = .returned v) ∧ HRaw w' p mb lv sq (ys.set i x) (upd f x.id (.int .i64 i)) ∧ Turns (fun k => lv.ownBlock = some k ∨ k = mb) w w' := by
 rcases h.own.form with ⟨_, h0⟩ | ⟨g, cap, rfl, hg, hlc, hcm⟩
 ·subst h0; simp at hi
 have hB : Blk (w.alloc (.cells (encT x).toArray 186)) w.heap.size 186 (encT x).toArray := Blk.new w _ _
 have hH := h.made ((zT w).alloc (.cells (encT x).toArray 186))
 have hM : Made w (w.alloc (.cells (encT x).toArray 186)) := (Turns.refl _ _).alloc _
 have hpl := h.blk.lt
 have hml := h.map.lt
 clear h
 unfold aggT
 go_enter Tryz.func186, Tryz.ntmps186
 go_wp2_with fail
 unfold encT at hB hH hM
 generalize (w.alloc (.cells [.int .i64 x.id, .int .i64 x.when, .int .i64 x.seq].toArray 186)) = W at *
 generalize hbe : w.heap.size = bx at *
 have HB := zh hB
 have HH := zh hH
 have HM := zh hM
 have HBE := zh hbe
 have i1 : (0 : Int) ≤ (i : Int) := Int.natCast_nonneg _
 have i2 : (i : Int) < (ys.length : Int) := by omega
 obtain ⟨y, hy⟩ := get_of_lt (xs := ys) (k := i) hi
 have f0 : W.frozen? ⟨g, i * 3, none⟩ = false := HH.out.own.free _
 have f1 : W.frozen? ⟨g, i * 3 + 1, none⟩ = false := HH.out.own.free _
 have f2 : W.frozen? ⟨g, i * 3 + 2, none⟩ = false := HH.out.own.free _
 have e0 : W.cell? ⟨g, i * 3, none⟩ = some (.int .i64 y.id) := Owns.cell encT_len HH.out.own hy (j := 0) rfl
 have e1 : W.cell? ⟨g, i * 3 + 1, none⟩ = some (.int .i64 y.when) := Owns.cell encT_len HH.out.own hy (j := 1) rfl
 have e2 : W.cell? ⟨g, i * 3 + 2, none⟩ = some (.int .i64 y.seq) := Owns.cell encT_len HH.out.own hy (j := 2) rfl
 clear hy
 have t3 : Turns (fun k => k = g) W (((W.setCell ⟨g, i * 3, none⟩ (.int .i64 x.id)).setCell ⟨g, i * 3 + 1, none⟩ (.int .i64 x.when)).setCell ⟨g, i * 3 + 2, none⟩ (.int .i64 x.seq)).drew := Turns.drew ((((Turns.refl (fun k => k = g) W).setCell (p := ⟨g, i * 3, none⟩) (fun _ => rfl) _).setCell (p := ⟨g, i * 3 + 1, none⟩) (fun _ => rfl) _).setCell (p := ⟨g, i * 3 + 2, none⟩) (fun _ => rfl) _)
 have o3 : Owns encT 186 3 (((W.setCell ⟨g, i * 3, none⟩ (.int .i64 x.id)).setCell ⟨g, i * 3 + 1, none⟩ (.int .i64 x.when)).setCell ⟨g, i * 3 + 2, none⟩ (.int .i64 x.seq)).drew _ _ := own_put3 HH.out.own hi x
 have hgp : ¬ p = g := fun e => HH.out.np (by rw [e]; rfl)
 have hgm : ¬ mb = g := fun e => HH.out.nm (by rw [e]; rfl)
 have T3 := zh t3
 have O3 := zh o3
 have HGP := zh hgp
 have HGM := zh hgm
 clear hB hH hM hbe t3 o3 hgp hgm
 refine wp_region_held_drew (S := (fun w' => Blk w' p 179 #[.slice (some ⟨g, 0, none⟩) ys.length cap, .map (some mb), .int .i64 sq] ∧ Blk w' bx 186 (encT x).toArray)) (by kernel_rfl) ?_ (fun hHeld => ?_)
 ·exact ⟨HH.out.blk, HB.out⟩
 refine tH 0 6 ?_ ?_ ?_;rotate_left
 ·intro w hSw
  go_simp
  try with_reducible rfl
 try simp only [zP]
 refine tH 1 7 ?_ ?_ ?_;rotate_left
 ·intro w hSw
  go_simp
  try with_reducible rfl
 try simp only [zP]
 refine tH 2 8 ?_ ?_ ?_;rotate_left
 ·intro w hSw
  go_simp
  try with_reducible rfl
 try simp only [zP]
 refine tH 3 9 ?_ ?_ ?_;rotate_left
 ·intro w hSw
  have c0 := hSw.1.cell 0
  have d0 := hSw.2.cell 0
  have d1 := hSw.2.cell 1
  have d2 := hSw.2.cell 2
  simp only [encT, zG] at c0 d0 d1 d2
  go_simp
  try with_reducible rfl
 try simp only [zP]
 refine tH 4 10 ?_ ?_ ?_;rotate_left
 ·intro w hSw
  go_simp
  try with_reducible rfl
 try simp only [zP]
 refine tH 5 11 ?_ ?_ ?_;rotate_left
 ·intro w hSw
  have c0 := hSw.1.cell 0
  have d0 := hSw.2.cell 0
  have d1 := hSw.2.cell 1
  have d2 := hSw.2.cell 2
  simp only [encT, zG] at c0 d0 d1 d2
  go_simp
  try with_reducible rfl
 try simp only [zP]
 refine tH 6 12 ?_ ?_ ?_;rotate_left
 ·intro w hSw
  go_simp
  try with_reducible rfl
 try simp only [zP]
 refine zR 7 fun K hK => ?_
 go_simp
 refine hK.out _ _ ?_ (fun hHeld => ?_)
 ·exact ⟨HH.out.blk.turns T3.out (fun e => by have := HGP.out; omega), HB.out.turns T3.out (fun e => by omega)⟩
 clear hK K
 try simp only [zP]
 refine wpAnyH_done (by kernel_rfl) ?_ _
 go_wp2_with fail
 have hR : HRaw (((W.setCell ⟨g, i * 3, none⟩ (.int .i64 x.id)).setCell ⟨g, i * 3 + 1, none⟩ (.int .i64 x.when)).setCell ⟨g, i * 3 + 2, none⟩ (.int .i64 x.seq)).drew p mb (.slice (some ⟨g, 0, none⟩) ys.length cap) sq (ys.set i x) f :=
  ⟨hHeld.1, O3.out, HH.out.map.turns T3.out HGM.out, HH.out.np, HH.out.nm, HH.out.pm⟩
 have hB2 := hHeld.2
 have hT := T3.out
 clear hHeld f0 f1 f2 e0 e1 e2 T3 O3
 try clear hHeld
 generalize (((W.setCell ⟨g, i * 3, none⟩ (.int .i64 x.id)).setCell ⟨g, i * 3 + 1, none⟩ (.int .i64 x.when)).setCell ⟨g, i * 3 + 2, none⟩ (.int .i64 x.seq)).drew = W2 at *
 obtain ⟨w5, hrun, hm5, ht5, hsz5⟩ := MapI.store (P := Tryz.prog) (w := W2.drew) (b := mb) (f := f) hR.map Tryz.underlying98 Tryz.underlying3 x.id (.int .i64 i)
 have HR2 := zh hR
 have HB2 := zh hB2
 have HT2 := zh hT
 have HM5 := zh hm5
 have HT5 := zh ht5
 clear hR hB2 hT hm5 ht5 hsz5
 refine wp_region_held_drew (S := (fun w' => Blk w' p 179 #[.slice (some ⟨g, 0, none⟩) ys.length cap, .map (some mb), .int .i64 sq] ∧ Blk w' bx 186 (encT x).toArray)) (by kernel_rfl) ?_ (fun hHeld => ?_)
 ·exact ⟨HR2.out.blk, HB2.out⟩
 refine tH 0 13 ?_ ?_ ?_;rotate_left
 ·intro w hSw
  go_simp
  try with_reducible rfl
 try simp only [zP]
 refine tH 1 14 ?_ ?_ ?_;rotate_left
 ·intro w hSw
  go_simp
  try with_reducible rfl
 try simp only [zP]
 refine tH 2 15 ?_ ?_ ?_;rotate_left
 ·intro w hSw
  go_simp
  try with_reducible rfl
 try simp only [zP]
 refine tH 3 16 ?_ ?_ ?_;rotate_left
 ·intro w hSw
  have c1 := hSw.1.cell 1
  have d0 := hSw.2.cell 0
  simp only [encT, zG] at c1 d0
  go_simp
  try with_reducible rfl
 try simp only [zP]
 refine tH 4 17 ?_ ?_ ?_;rotate_left
 ·intro w hSw
  go_simp
  try with_reducible rfl
 try simp only [zP]
 refine tH 5 18 ?_ ?_ ?_;rotate_left
 ·intro w hSw
  have c1 := hSw.1.cell 1
  have d0 := hSw.2.cell 0
  simp only [encT, zG] at c1 d0
  go_simp
  try with_reducible rfl
 try simp only [zP]
 refine tH 6 19 ?_ ?_ ?_;rotate_left
 ·intro w hSw
  go_simp
  try with_reducible rfl
 try simp only [zP]
 refine zR 7 fun K hK => ?_
 go_simp
 refine hK.out _ _ ?_ (fun hHeld => ?_)
 ·exact ⟨(HR2.out.blk.turns (zT _).drew (fun h => h)).turns HT5.out (fun e => HR2.out.pm e), (HB2.out.turns (zT _).drew (fun h => h)).turns HT5.out (fun e => by omega)⟩
 clear hK K
 try simp only [zP]
 refine wpAnyH_done (by kernel_rfl) ?_ _
 go_wp2_with fail
 go_end0
 refine ⟨⟨_, rfl⟩, ⟨hHeld.1, Owns.turns (w := W2.drew) (S := fun k => k = mb) HR2.out.own HT5.out (fun k hk e => ?_), HM5.out, HR2.out.np, HR2.out.nm, HR2.out.pm⟩, ?_⟩
 ·simp only [Value.ownBlock, Option.some.injEq] at hk
  exact HGM.out (by omega)
 ·refine Turns.then (HM.out.mono (fun _ _ h => h.elim)) (Turns.then (S := fun k => k = g ∨ k = mb) (HT2.out.mono (fun k _ h => .inl h)).drew HT5.out (fun b _ h => .inr h)) (fun b _ h => ?_)
  rcases h with h | h
  ·exact .inl (by rw [h]; rfl)
  ·exact .inr h
def par (i : Nat) : Nat := (i - 1) / 4
theorem par_lt {i : Nat} (h : 0 < i) : par i < i := by unfold par; omega
def Uniq (zs : List It) : Prop := ∀ (a b : Nat) (x y : It), zs[a]? = some x → zs[b]? = some y → x.id = y.id → a = b
def PosOK (f : Int → Option Value) (zs : List It) : Prop := ∀ (id : Int) (v : Value), f id = some v ↔ ∃ (k : Nat) (x : It), zs[k]? = some x ∧ x.id = id ∧ v = .int .i64 k
def swp (zs : List It) (i j : Nat) (x y : It) : List It := (zs.set i y).set j x
theorem swp_get {zs : List It} {i j : Nat} {x y : It} (hx : zs[i]? = some x) (hy : zs[j]? = some y) (hij : i ≠ j) (k : Nat) : (swp zs i j x y)[k]? = if k = j then some x else if k = i then some y else zs[k]? := by
 have li : i < zs.length := (List.getElem?_eq_some_iff.1 hx).1
 have lj : j < zs.length := (List.getElem?_eq_some_iff.1 hy).1
 unfold swp
 rw [List.getElem?_set, List.length_set, List.getElem?_set]
 by_cases h1 : k = j
 ·subst h1; simp [lj]
 ·by_cases h2 : k = i
  ·subst h2; simp [li, h1, Ne.symm h1]
  ·simp [h1, h2, Ne.symm h1, Ne.symm h2]
theorem swp_len (zs : List It) (i j : Nat) (x y : It) : (swp zs i j x y).length = zs.length := by unfold swp; rw [List.length_set, List.length_set]
theorem swp_perm {zs : List It} {i j : Nat} {x y : It} (hx : zs[i]? = some x) (hy : zs[j]? = some y) : (swp zs i j x y).Perm zs := by
 obtain ⟨li, rfl⟩ := List.getElem?_eq_some_iff.1 hx
 obtain ⟨lj, rfl⟩ := List.getElem?_eq_some_iff.1 hy
 exact List.set_set_perm li lj
theorem Uniq.swp {zs : List It} {i j : Nat} {x y : It} (h : Uniq zs) (hx : zs[i]? = some x) (hy : zs[j]? = some y) (hij : i ≠ j) : Uniq (swp zs i j x y) := by
 intro a b u v ha hb hid
 rw [swp_get hx hy hij] at ha hb
 split at ha <;> split at hb
 ·omega
 ·cases ha
  split at hb
  ·cases hb
   have := h _ _ _ _ hx hy hid
   omega
  ·have := h _ _ _ _ hx hb hid
   omega
 ·cases hb
  split at ha
  ·cases ha
   have := h _ _ _ _ hy hx hid
   omega
  ·have := h _ _ _ _ ha hx hid
   omega
 ·split at ha <;> split at hb
  ·omega
  ·cases ha
   have := h _ _ _ _ hy hb hid
   omega
  ·cases hb
   have := h _ _ _ _ ha hy hid
   omega
  ·exact h _ _ _ _ ha hb hid
theorem PosOK.swp {f : Int → Option Value} {zs : List It} {i j : Nat} {x y : It} (hu : Uniq zs) (h : PosOK (upd f x.id (.int .i64 i)) zs) (hx : zs[i]? = some x) (hy : zs[j]? = some y) (hij : i ≠ j) :
  PosOK (upd (upd f y.id (.int .i64 i)) x.id (.int .i64 j)) (swp zs i j x y) := by
 intro id v
 have hxy : x.id ≠ y.id := fun e => hij (hu _ _ _ _ hx hy e)
 have hh := h id v
 unfold upd at hh ⊢
 by_cases h1 : id = x.id
 ·subst h1
  simp only [if_true]
  constructor
  ·intro hv
   cases hv
   exact ⟨j, x, by rw [swp_get hx hy hij, if_pos rfl], rfl, rfl⟩
  ·rintro ⟨k, u, hk, hid, rfl⟩
   rw [swp_get hx hy hij] at hk
   split at hk
   ·rename_i hkj; subst hkj; rfl
   ·split at hk
    ·cases hk; exact absurd hid.symm hxy
    ·have := hu _ _ _ _ hk hx hid; omega
 ·rw [if_neg h1] at hh ⊢
  by_cases h2 : id = y.id
  ·subst h2
   simp only [if_true]
   constructor
   ·intro hv
    cases hv
    exact ⟨i, y, by rw [swp_get hx hy hij, if_neg hij, if_pos rfl], rfl, rfl⟩
   ·rintro ⟨k, u, hk, hid, rfl⟩
    rw [swp_get hx hy hij] at hk
    split at hk
    ·cases hk; exact absurd hid hxy
    ·split at hk
     ·rename_i hki; subst hki; rfl
     ·have := hu _ _ _ _ hk hy hid; omega
  ·rw [if_neg h2]
   rw [hh]
   constructor
   ·rintro ⟨k, u, hk, hid, rfl⟩
    have hki : k ≠ i := fun e => by subst e; rw [hx] at hk; cases hk; exact h1 hid.symm
    have hkj : k ≠ j := fun e => by subst e; rw [hy] at hk; cases hk; exact h2 hid.symm
    exact ⟨k, u, by rw [swp_get hx hy hij, if_neg hkj, if_neg hki]; exact hk, hid, rfl⟩
   ·rintro ⟨k, u, hk, hid, rfl⟩
    rw [swp_get hx hy hij] at hk
    split at hk
    ·cases hk; exact absurd hid.symm h1
    ·split at hk
     ·cases hk; exact absurd hid.symm h2
     ·exact ⟨k, u, hk, hid, rfl⟩
def upL (zs : List It) (i : Nat) : List It :=
 if h : 0 < i then
  match zs[i]?, zs[par i]? with
  | some x, some y => if lt x y then upL (swp zs i (par i) x y) (par i) else zs
  | _, _ => zs
 else zs
termination_by i
decreasing_by exact par_lt h
theorem upL_zero (zs : List It) : upL zs 0 = zs := by unfold upL; simp
theorem upL_go {zs : List It} {i : Nat} {x y : It} (h : 0 < i) (hx : zs[i]? = some x) (hy : zs[par i]? = some y) (hl : lt x y) : upL zs i = upL (swp zs i (par i) x y) (par i) := by
 rw [upL, dif_pos h, hx, hy]
 simp [hl]
theorem upL_stop {zs : List It} {i : Nat} {x y : It} (h : 0 < i) (hx : zs[i]? = some x) (hy : zs[par i]? = some y) (hl : ¬ lt x y) : upL zs i = zs := by
 rw [upL, dif_pos h, hx, hy]
 simp [hl]
def leastC (zs : List It) (first : Nat) : Nat → Nat
 | 0 => first
 | m + 1 => match zs[first + 1 + m]?, zs[leastC zs first m]? with
  | some u, some v => if lt u v then first + 1 + m else leastC zs first m
  | _, _ => leastC zs first m
theorem leastC_in (zs : List It) (first m : Nat) : first ≤ leastC zs first m ∧ leastC zs first m ≤ first + m := by
 induction m with
 | zero => simp [leastC]
 | succ m ih =>
  unfold leastC
  split
  ·split <;> omega
  ·omega
theorem leastC_succ {zs : List It} {first m : Nat} {u v : It} (hu : zs[first + 1 + m]? = some u) (hv : zs[leastC zs first m]? = some v) : leastC zs first (m + 1) = if lt u v then first + 1 + m else leastC zs first m := by
 conv => lhs; unfold leastC
 rw [hu, hv]
theorem lt_trans' {a b c : It} (h1 : lt a b) (h2 : lt b c) : lt a c := by unfold lt at *; omega
theorem not_lt_trans {a b c : It} (h1 : ¬ lt b a) (h2 : ¬ lt c b) : ¬ lt c a := by unfold lt at *; omega
theorem lt_irr (a : It) : ¬ lt a a := by unfold lt; omega
theorem lt_asymm {a b : It} (h : lt a b) : ¬ lt b a := by unfold lt at *; omega
theorem leastC_least (zs : List It) (first : Nat) : ∀ (m : Nat), first + m < zs.length → ∀ (k : Nat) (u v : It), first ≤ k → k ≤ first + m → zs[k]? = some u → zs[leastC zs first m]? = some v → ¬ lt u v := by
 intro m
 induction m with
 | zero =>
  intro hm k u v h1 h2 hu hv
  obtain rfl : k = first := by omega
  unfold leastC at hv
  rw [hu] at hv
  cases hv
  exact lt_irr u
 | succ m ih =>
  intro hm k u v h1 h2 hu hv
  obtain ⟨a, ha⟩ := get_of_lt (xs := zs) (k := first + 1 + m) (by omega)
  obtain ⟨b, hb⟩ := get_of_lt (xs := zs) (k := leastC zs first m) (by have := leastC_in zs first m; omega)
  rw [leastC_succ ha hb] at hv
  by_cases hl : lt a b
  ·rw [if_pos hl, ha] at hv
   cases hv
   by_cases hk : k = first + 1 + m
   ·subst hk; rw [ha] at hu; cases hu; exact lt_irr _
   ·exact not_lt_trans (lt_asymm hl) (ih (by omega) k u _ h1 (by omega) hu hb)
  ·rw [if_neg hl, hb] at hv
   cases hv
   by_cases hk : k = first + 1 + m
   ·subst hk; rw [ha] at hu; cases hu; exact hl
   ·exact ih (by omega) k u _ h1 (by omega) hu hb
def kids (n i : Nat) : Nat := min (4 * i + 5) n - (4 * i + 2)
def leastK (zs : List It) (i : Nat) : Nat := leastC zs (4 * i + 1) (kids zs.length i)
theorem leastK_in {zs : List It} {i : Nat} (h : 4 * i + 1 < zs.length) : 4 * i + 1 ≤ leastK zs i ∧ leastK zs i < zs.length ∧ leastK zs i ≤ 4 * i + 4 := by
 have h1 := leastC_in zs (4 * i + 1) (kids zs.length i)
 have h2 : kids zs.length i ≤ 3 ∧ 4 * i + 1 + kids zs.length i < zs.length := by unfold kids; omega
 unfold leastK
 omega
def downL (zs : List It) (i : Nat) : List It :=
 if h : 4 * i + 1 < zs.length then
  match zs[i]?, zs[leastK zs i]? with
  | some x, some y => if lt x y then zs else downL (swp zs i (leastK zs i) x y) (leastK zs i)
  | _, _ => zs
 else zs
termination_by zs.length - i
decreasing_by
 have := leastK_in h
 rw [swp_len]
 omega
theorem downL_end {zs : List It} {i : Nat} (h : ¬ 4 * i + 1 < zs.length) : downL zs i = zs := by rw [downL, dif_neg h]
theorem downL_stop {zs : List It} {i : Nat} {x y : It} (h : 4 * i + 1 < zs.length) (hx : zs[i]? = some x) (hy : zs[leastK zs i]? = some y) (hl : lt x y) : downL zs i = zs := by
 rw [downL, dif_pos h, hx, hy]
 simp [hl]
theorem downL_go {zs : List It} {i : Nat} {x y : It} (h : 4 * i + 1 < zs.length) (hx : zs[i]? = some x) (hy : zs[leastK zs i]? = some y) (hl : ¬ lt x y) : downL zs i = downL (swp zs i (leastK zs i) x y) (leastK zs i) := by
 rw [downL, dif_pos h, hx, hy]
 simp [hl]
theorem leastC_set (zs : List It) (i : Nat) (x : It) (first : Nat) (hf : i < first) (m : Nat) : leastC (zs.set i x) first m = leastC zs first m := by
 induction m with
 | zero => rfl
 | succ m ih =>
  have h1 := leastC_in zs first m
  unfold leastC
  rw [ih, List.getElem?_set_ne (by omega), List.getElem?_set_ne (by omega)]
def HOrd (zs : List It) : Prop := ∀ (k : Nat) (u v : It), 0 < k → zs[k]? = some u → zs[par k]? = some v → ¬ lt u v
def Brd (zs : List It) (i : Nat) : Prop := ∀ (k : Nat) (u v : It), 0 < k → par k = i → 0 < i → zs[k]? = some u → zs[par i]? = some v → ¬ lt u v
def UpA (zs : List It) (i : Nat) : Prop := (∀ (k : Nat) (u v : It), 0 < k → k ≠ i → zs[k]? = some u → zs[par k]? = some v → ¬ lt u v) ∧ Brd zs i
def DnA (zs : List It) (i : Nat) : Prop := (∀ (k : Nat) (u v : It), 0 < k → par k ≠ i → zs[k]? = some u → zs[par k]? = some v → ¬ lt u v) ∧ Brd zs i
def GA (zs : List It) (i : Nat) : Prop := (∀ (k : Nat) (u v : It), 0 < k → k ≠ i → par k ≠ i → zs[k]? = some u → zs[par k]? = some v → ¬ lt u v) ∧ Brd zs i
theorem HOrd.brd {zs : List It} (h : HOrd zs) (i : Nat) : Brd zs i := by
 intro k u v hk hp hi hu hv
 subst hp
 have hkl := (List.getElem?_eq_some_iff.1 hu).1
 obtain ⟨m, hm⟩ := get_of_lt (xs := zs) (k := par k) (by have := par_lt hk; omega)
 exact not_lt_trans (h _ _ _ hi hm hv) (h _ _ _ hk hu hm)
theorem HOrd.dnA {zs : List It} (h : HOrd zs) (i : Nat) : DnA zs i := ⟨fun k u v hk _ => h k u v hk, h.brd i⟩
theorem upL_heap : ∀ (i : Nat) (zs : List It), i < zs.length → UpA zs i → HOrd (upL zs i) := by
 intro i
 induction i using Nat.strongRecOn with
 | _ i ih =>
  intro zs hi ha
  by_cases h0 : 0 < i
  ·have hpi := par_lt h0
   obtain ⟨x, hx⟩ := get_of_lt (xs := zs) (k := i) hi
   obtain ⟨y, hy⟩ := get_of_lt (xs := zs) (k := par i) (by omega)
   by_cases hl : lt x y
   ·rw [upL_go h0 hx hy hl]
    refine ih (par i) hpi _ (by rw [swp_len]; omega) ⟨?_, ?_⟩
    ·intro k u v hk hne hu hv
     have hpk := par_lt hk
     rw [swp_get hx hy (by omega)] at hu hv
     rw [if_neg hne] at hu
     by_cases hki : k = i
     ·subst hki
      rw [if_pos rfl] at hu hv
      cases hu; cases hv
      exact lt_asymm hl
     ·rw [if_neg hki] at hu
      by_cases hpp : par k = par i
      ·rw [if_pos hpp] at hv
       cases hv
       intro hc
       exact ha.1 k u y hk hki hu (by rw [hpp]; exact hy) (lt_trans' hc hl)
      ·rw [if_neg hpp] at hv
       by_cases hpk2 : par k = i
       ·rw [if_pos hpk2] at hv
        cases hv
        exact ha.2 k u _ hk hpk2 h0 hu hy
       ·rw [if_neg hpk2] at hv
        exact ha.1 k u v hk hki hu hv
    ·intro k u v hk hp hpos hu hv
     have hpp := par_lt hpos
     obtain ⟨z, hz⟩ := get_of_lt (xs := zs) (k := par (par i)) (by omega)
     rw [swp_get hx hy (by omega)] at hu hv
     rw [if_neg (by omega), if_neg (by omega), hz] at hv
     cases hv
     have hyz := ha.1 (par i) y _ hpos (by omega) hy hz
     have hpk := par_lt hk
     rw [if_neg (by omega)] at hu
     by_cases hki : k = i
     ·subst hki
      rw [if_pos rfl] at hu
      cases hu
      exact hyz
     ·rw [if_neg hki] at hu
      exact not_lt_trans hyz (ha.1 k u y hk hki hu (by rw [hp]; exact hy))
   ·rw [upL_stop h0 hx hy hl]
    intro k u v hk hu hv
    by_cases hki : k = i
    ·subst hki
     rw [hx] at hu; rw [hy] at hv
     cases hu; cases hv
     exact hl
    ·exact ha.1 k u v hk hki hu hv
  ·obtain rfl : i = 0 := by omega
   rw [upL_zero]
   exact fun k u v hk hu hv => ha.1 k u v hk (by omega) hu hv
theorem kid_in {zs : List It} {k i : Nat} (hk : 0 < k) (hp : par k = i) (hl : k < zs.length) : 4 * i + 1 < zs.length + 0 ∧ 4 * i + 1 ≤ k ∧ k ≤ 4 * i + 1 + kids zs.length i ∧ 4 * i + 1 + kids zs.length i < zs.length := by
 unfold par at hp
 unfold kids
 omega
theorem leastK_least {zs : List It} {k i : Nat} {u v : It} (hk : 0 < k) (hp : par k = i) (hu : zs[k]? = some u) (hv : zs[leastK zs i]? = some v) : ¬ lt u v := by
 have h := kid_in hk hp (List.getElem?_eq_some_iff.1 hu).1
 exact leastC_least zs (4 * i + 1) (kids zs.length i) h.2.2.2 k u v h.2.1 h.2.2.1 hu hv
theorem leastK_par {zs : List It} {i : Nat} (h : 4 * i + 1 < zs.length) : par (leastK zs i) = i := by
 have := leastK_in h
 unfold par
 omega
theorem downL_heap : ∀ (n i : Nat) (zs : List It), zs.length - i ≤ n → i < zs.length → DnA zs i → HOrd (downL zs i) := by
 intro n
 induction n with
 | zero => intro i zs hn hi; omega
 | succ n ih =>
  intro i zs hn hi ha
  by_cases h0 : 4 * i + 1 < zs.length
  ·have hL := leastK_in h0
   have hpL := leastK_par h0
   obtain ⟨x, hx⟩ := get_of_lt (xs := zs) (k := i) hi
   obtain ⟨y, hy⟩ := get_of_lt (xs := zs) (k := leastK zs i) hL.2.1
   by_cases hl : lt x y
   ·rw [downL_stop h0 hx hy hl]
    intro k u v hk hu hv
    by_cases hki : par k = i
    ·have h1 := leastK_least hk hki hu hy
     rw [hki, hx] at hv
     cases hv
     exact not_lt_trans (lt_asymm hl) h1
    ·exact ha.1 k u v hk hki hu hv
   ·rw [downL_go h0 hx hy hl]
    have hLs : ∀ k u, 0 < k → par k = i → zs[k]? = some u → ¬ lt u y := fun k u hk hp hu => leastK_least hk hp hu hy
    generalize leastK zs i = L at *
    refine ih L _ (by rw [swp_len]; omega) (by rw [swp_len]; omega) ⟨?_, ?_⟩
    ·intro k u v hk hne hu hv
     have hpk := par_lt hk
     rw [swp_get hx hy (by omega)] at hu hv
     rw [if_neg hne] at hv
     by_cases hki : par k = i
     ·rw [if_pos hki] at hv
      cases hv
      by_cases hkL : k = L
      ·rw [if_pos hkL] at hu
       cases hu
       exact hl
      ·rw [if_neg hkL, if_neg (by omega)] at hu
       exact hLs k u hk hki hu
     ·rw [if_neg hki] at hv
      rw [if_neg (by rintro rfl; exact hki hpL)] at hu
      by_cases hke : k = i
      ·subst hke
       rw [if_pos rfl] at hu
       cases hu
       exact ha.2 L _ v (by omega) hpL hk hy hv
      ·rw [if_neg hke] at hu
       exact ha.1 k u v hk hki hu hv
    ·intro k u v hk hp hpos hu hv
     have hpk := par_lt hk
     rw [swp_get hx hy (by omega)] at hu hv
     rw [if_neg (by omega), if_pos hpL] at hv
     cases hv
     rw [if_neg (by omega), if_neg (by omega)] at hu
     exact ha.1 k u _ hk (by omega) hu (by rw [hp]; exact hy)
  ·rw [downL_end h0]
   intro k u v hk hu hv
   refine ha.1 k u v hk ?_ hu hv
   intro hp
   have := kid_in hk hp (List.getElem?_eq_some_iff.1 hu).1
   omega
theorem upL_perm : ∀ (i : Nat) (zs : List It), (upL zs i).Perm zs := by
 intro i
 induction i using Nat.strongRecOn with
 | _ i ih =>
  intro zs
  rw [upL]
  split
  ·rename_i h0
   split
   ·rename_i x y hx hy
    split
    ·exact (ih _ (par_lt h0) _).trans (swp_perm hx hy)
    ·exact List.Perm.refl _
   ·exact List.Perm.refl _
  ·exact List.Perm.refl _
theorem downL_perm : ∀ (n i : Nat) (zs : List It), zs.length - i ≤ n → (downL zs i).Perm zs := by
 intro n
 induction n with
 | zero =>
  intro i zs hn
  rw [downL_end (by omega)]
 | succ n ih =>
  intro i zs hn
  by_cases h0 : 4 * i + 1 < zs.length
  ·have hL := leastK_in h0
   obtain ⟨x, hx⟩ := get_of_lt (xs := zs) (k := i) (by omega)
   obtain ⟨y, hy⟩ := get_of_lt (xs := zs) (k := leastK zs i) hL.2.1
   by_cases hl : lt x y
   ·rw [downL_stop h0 hx hy hl]
   ·rw [downL_go h0 hx hy hl]
    exact (ih _ _ (by rw [swp_len]; omega)).trans (swp_perm hx hy)
  ·rw [downL_end h0]
theorem Uniq.iff (zs : List It) : Uniq zs ↔ (zs.map It.id).Nodup := by
 constructor
 ·intro h
  unfold List.Nodup
  rw [List.pairwise_map, List.pairwise_iff_getElem]
  intro i j hi hj hij e
  have := h i j _ _ (List.getElem?_eq_getElem hi) (List.getElem?_eq_getElem hj) e
  omega
 ·intro h a b x y ha hb hid
  unfold List.Nodup at h
  rw [List.pairwise_map, List.pairwise_iff_getElem] at h
  obtain ⟨la, rfl⟩ := List.getElem?_eq_some_iff.1 ha
  obtain ⟨lb, rfl⟩ := List.getElem?_eq_some_iff.1 hb
  rcases Nat.lt_trichotomy a b with h1 | h1 | h1
  ·exact absurd hid (h a b la lb h1)
  ·exact h1
  ·exact absurd hid.symm (h b a lb la h1)
theorem Uniq.perm {zs ys : List It} (h : Uniq zs) (hp : ys.Perm zs) : Uniq ys := by
 rw [Uniq.iff] at h ⊢
 exact (hp.map It.id).nodup_iff.2 h
theorem upL_dnA {zs : List It} {i : Nat} {x : It} (hu : Uniq zs) (hx : zs[i]? = some x) (hg : GA zs i) : ∀ (j : Nat) (u : It), (upL zs i)[j]? = some u → u.id = x.id → DnA (upL zs i) j := by
 intro j u hj hid
 have hi := (List.getElem?_eq_some_iff.1 hx).1
 by_cases h0 : 0 < i
 ·have hpi := par_lt h0
  obtain ⟨y, hy⟩ := get_of_lt (xs := zs) (k := par i) (by omega)
  by_cases hl : lt x y
  ·refine (upL_heap i zs hi ⟨?_, hg.2⟩).dnA j
   intro k u v hk hki hku hkv
   by_cases hp : par k = i
   ·rw [hp, hx] at hkv
    cases hkv
    exact fun hc => hg.2 k u y hk hp h0 hku hy (lt_trans' hc hl)
   ·exact hg.1 k u v hk hki hp hku hkv
  ·rw [upL_stop h0 hx hy hl] at hj ⊢
   obtain rfl := hu _ _ _ _ hj hx hid
   refine ⟨?_, hg.2⟩
   intro k u v hk hki hku hkv
   by_cases hp : k = j
   ·subst hp
    rw [hx] at hku; rw [hy] at hkv
    cases hku; cases hkv
    exact hl
   ·exact hg.1 k u v hk hp hki hku hkv
 ·obtain rfl : i = 0 := by omega
  rw [upL_zero] at hj ⊢
  obtain rfl := hu _ _ _ _ hj hx hid
  exact ⟨fun k u v hk hki => hg.1 k u v hk (by omega) hki, hg.2⟩
theorem HOrd.least {zs : List It} (h : HOrd zs) {m : It} (hm : zs[0]? = some m) : ∀ (k : Nat) (u : It), zs[k]? = some u → ¬ lt u m := by
 intro k
 induction k using Nat.strongRecOn with
 | _ k ih =>
  intro u hu
  by_cases h0 : 0 < k
  ·have hp := par_lt h0
   obtain ⟨v, hv⟩ := get_of_lt (xs := zs) (k := par k) (by have := (List.getElem?_eq_some_iff.1 hu).1; omega)
   exact not_lt_trans (ih _ hp v hv) (h k u v h0 hu hv)
  ·obtain rfl : k = 0 := by omega
   rw [hm] at hu
   cases hu
   exact lt_irr _
theorem HOrd.cut {zs : List It} (h : HOrd zs) : HOrd zs.dropLast := by
 intro k u v hk hu hv
 rw [List.getElem?_dropLast] at hu hv
 split at hu <;> split at hv <;> first | exact h k u v hk hu hv | (cases hu; done) | (cases hv; done)
theorem HOrd.set_GA {zs : List It} (h : HOrd zs) (i : Nat) (z : It) : GA (zs.set i z) i := by
 refine ⟨?_, ?_⟩
 ·intro k u v hk hki hp hu hv
  rw [List.getElem?_set_ne (by omega)] at hu hv
  exact h k u v hk hu hv
 ·intro k u v hk hp hi hu hv
  have h1 := par_lt hk
  have h2 := par_lt hi
  rw [List.getElem?_set_ne (by omega)] at hu hv
  exact h.brd i k u v hk hp hi hu hv
theorem HOrd.add {zs : List It} (h : HOrd zs) (z : It) : UpA (zs ++ [z]) zs.length := by
 refine ⟨?_, ?_⟩
 ·intro k u v hk hki hu hv
  have hkl := (List.getElem?_eq_some_iff.1 hu).1
  rw [List.length_append, List.length_singleton] at hkl
  have := par_lt hk
  rw [List.getElem?_append_left (by omega)] at hu hv
  exact h k u v hk hu hv
 ·intro k u v hk hp hi hu hv
  have hkl := (List.getElem?_eq_some_iff.1 hu).1
  rw [List.length_append, List.length_singleton] at hkl
  have := par_lt hk
  omega
def insL (x : It) : List It → List It
 | [] => [x]
 | y :: l => if lt x y then x :: y :: l else y :: insL x l
def delL (id : Int) (L : List It) : List It := L.filter fun x => x.id != id
def findL (id : Int) (L : List It) : Option It := L.find? fun x => x.id == id
theorem insL_perm (x : It) (L : List It) : (insL x L).Perm (x :: L) := by
 induction L with
 | nil => exact List.Perm.refl _
 | cons y l ih =>
  unfold insL
  split
  ·exact List.Perm.refl _
  ·exact (ih.cons y).trans (List.Perm.swap x y l)
theorem insL_rise {x : It} {L : List It} (h : L.Pairwise lt) (hx : ∀ y ∈ L, lt x y ∨ lt y x) : (insL x L).Pairwise lt := by
 induction L with
 | nil => exact List.pairwise_singleton _ _
 | cons y l ih =>
  unfold insL
  rw [List.pairwise_cons] at h
  split
  ·rename_i hl
   refine List.pairwise_cons.2 ⟨fun z hz => ?_, List.pairwise_cons.2 h⟩
   rcases List.mem_cons.1 hz with rfl | hz
   ·exact hl
   ·exact lt_trans' hl (h.1 z hz)
  ·rename_i hl
   refine List.pairwise_cons.2 ⟨fun z hz => ?_, ih h.2 (fun z hz => hx z (List.mem_cons_of_mem _ hz))⟩
   rcases List.mem_cons.1 ((insL_perm x l).mem_iff.1 hz) with rfl | hz
   ·rcases hx y (List.mem_cons_self ..) with h1 | h1
    ·exact absurd h1 hl
    ·exact h1
   ·exact h.1 z hz
theorem insL_len (x : It) (L : List It) : (insL x L).length = L.length + 1 := (insL_perm x L).length_eq
theorem insL_mem (x z : It) (L : List It) : z ∈ insL x L ↔ z = x ∨ z ∈ L := by rw [(insL_perm x L).mem_iff, List.mem_cons]
theorem findL_some {L : List It} (hu : Uniq L) (id : Int) (x : It) : findL id L = some x ↔ x ∈ L ∧ x.id = id := by
 unfold findL
 constructor
 ·intro h
  exact ⟨List.mem_of_find?_eq_some h, by have := List.find?_some h; simpa using this⟩
 ·rintro ⟨hm, hid⟩
  cases hc : L.find? (fun x => x.id == id) with
  | none =>
   have := List.find?_eq_none.1 hc x hm
   simp [hid] at this
  | some y =>
   have hy := List.mem_of_find?_eq_some hc
   have hyi : y.id = id := by have := List.find?_some hc; simpa using this
   obtain ⟨a, ha⟩ := List.getElem?_of_mem hm
   obtain ⟨b, hb⟩ := List.getElem?_of_mem hy
   have := hu a b x y ha hb (by rw [hid, hyi])
   subst this
   rw [ha] at hb
   exact hb.symm
theorem findL_none {L : List It} (id : Int) : findL id L = none ↔ ∀ x ∈ L, x.id ≠ id := by
 unfold findL
 rw [List.find?_eq_none]
 simp
theorem delL_perm {L : List It} (hu : Uniq L) {x : It} (hx : x ∈ L) : L.Perm (x :: delL x.id L) := by
 induction L with
 | nil => cases hx
 | cons y l ih =>
  have hn := (Uniq.iff _).1 hu
  rw [List.map_cons, List.nodup_cons] at hn
  unfold delL
  rw [List.filter_cons]
  rcases List.mem_cons.1 hx with rfl | hm
  ·simp only [bne_self_eq_false, Bool.false_eq_true, if_false]
   have : l.filter (fun z => z.id != x.id) = l := by
    rw [List.filter_eq_self]
    intro z hz
    simp only [bne_iff_ne, ne_eq]
    exact fun e => hn.1 (by rw [← e]; exact List.mem_map_of_mem hz)
   rw [this]
  ·have hyx : y.id ≠ x.id := fun e => hn.1 (by rw [e]; exact List.mem_map_of_mem hm)
   rw [if_pos (by simpa using hyx)]
   exact ((ih ((Uniq.iff _).2 hn.2) hm).cons y).trans (List.Perm.swap x y _)
theorem delL_rise {L : List It} (h : L.Pairwise lt) (id : Int) : (delL id L).Pairwise lt := h.sublist List.filter_sublist
theorem delL_mem {L : List It} {id : Int} {x : It} : x ∈ delL id L ↔ x ∈ L ∧ x.id ≠ id := by unfold delL; rw [List.mem_filter]; simp
theorem delL_le (L : List It) (id : Int) : (delL id L).length ≤ L.length := List.length_filter_le _ _
theorem upd_idem (f : Int → Option Value) (a : Int) (v : Value) : upd (upd f a v) a v = upd f a v := by funext j; unfold upd; split <;> rfl
theorem upd_self {f : Int → Option Value} {a : Int} {v : Value} (h : f a = some v) : upd f a v = f := by
 funext j
 unfold upd
 split
 ·rename_i e; rw [e, h]
 ·rfl
theorem PosOK.get {f : Int → Option Value} {ys : List It} (h : PosOK f ys) {k : Nat} {x : It} (hx : ys[k]? = some x) : f x.id = some (.int .i64 k) := (h _ _).2 ⟨k, x, hx, rfl, rfl⟩
theorem PosOK.none {f : Int → Option Value} {ys : List It} (h : PosOK f ys) {id : Int} (hn : ∀ x ∈ ys, x.id ≠ id) : f id = none := by
 cases hf : f id with
 | none => rfl
 | some v =>
  obtain ⟨k, x, hk, hid, _⟩ := (h _ _).1 hf
  exact absurd hid (hn x (List.mem_of_getElem? hk))
theorem PosOK.add {f : Int → Option Value} {ys : List It} (h : PosOK f ys) {x : It} (hn : ∀ z ∈ ys, z.id ≠ x.id) : PosOK (upd f x.id (.int .i64 ys.length)) (ys ++ [x]) := by
 intro id v
 unfold upd
 by_cases hid : id = x.id
 ·subst hid
  simp only [if_true]
  constructor
  ·intro hv; cases hv
   exact ⟨ys.length, x, by simp, rfl, rfl⟩
  ·rintro ⟨k, u, hk, hid, rfl⟩
   rcases Nat.lt_or_ge k ys.length with hlt | hge
   ·rw [List.getElem?_append_left hlt] at hk
    exact absurd hid (hn u (List.mem_of_getElem? hk))
   ·have := (List.getElem?_eq_some_iff.1 hk).1
    rw [List.length_append, List.length_singleton] at this
    rw [show k = ys.length from by omega]
 ·rw [if_neg hid, h id v]
  constructor
  ·rintro ⟨k, u, hk, he, rfl⟩
   exact ⟨k, u, by rw [List.getElem?_append_left (List.getElem?_eq_some_iff.1 hk).1]; exact hk, he, rfl⟩
  ·rintro ⟨k, u, hk, he, rfl⟩
   rcases Nat.lt_or_ge k ys.length with hlt | hge
   ·rw [List.getElem?_append_left hlt] at hk
    exact ⟨k, u, hk, he, rfl⟩
   ·rw [List.getElem?_append_right hge] at hk
    obtain ⟨h1, rfl⟩ := List.getElem?_singleton .. ▸ hk |> fun hk => (show k - ys.length = 0 ∧ u = x from by
     by_cases hz : k - ys.length = 0
     ·rw [if_pos hz] at hk; cases hk; exact ⟨hz, rfl⟩
     ·rw [if_neg hz] at hk; cases hk)
    exact absurd he.symm hid
theorem Uniq.add {ys : List It} (h : Uniq ys) {x : It} (hn : ∀ z ∈ ys, z.id ≠ x.id) : Uniq (ys ++ [x]) := by
 refine Uniq.perm ?_ (List.perm_append_comm (l₁ := ys) (l₂ := [x]))
 rw [Uniq.iff] at h ⊢
 rw [List.singleton_append, List.map_cons, List.nodup_cons]
 refine ⟨fun hm => ?_, h⟩
 obtain ⟨z, hz, e⟩ := List.mem_map.1 hm
 exact hn z hz e
theorem cut_end {ys : List It} {e : Nat} {x : It} (he : ys.length = e + 1) (hx : ys[e]? = some x) : ys = ys.dropLast ++ [x] := by
 refine List.ext_getElem? fun k => ?_
 rcases Nat.lt_trichotomy k e with h | h | h
 ·rw [List.getElem?_append_left (by rw [List.length_dropLast]; omega), List.getElem?_dropLast, if_pos (by omega)]
 ·subst h
  rw [hx, List.getElem?_append_right (by rw [List.length_dropLast]; omega), List.length_dropLast, he]
  simp
 ·rw [List.getElem?_eq_none (by omega), List.getElem?_eq_none (by rw [List.length_append, List.length_dropLast, List.length_singleton]; omega)]
theorem cut_mid {ys : List It} {i e : Nat} {x z : It} (he : ys.length = e + 1) (hi : i < e) (hx : ys[i]? = some x) (hz : ys[e]? = some z) : (x :: ys.dropLast.set i z).Perm ys := by
 have h := swp_perm hx hz
 have h2 : swp ys i e x z = ys.dropLast.set i z ++ [x] := by
  refine List.ext_getElem? fun k => ?_
  rw [swp_get hx hz (by omega)]
  rcases Nat.lt_trichotomy k e with h | h | h
  ·rw [if_neg (by omega), List.getElem?_append_left (by rw [List.length_set, List.length_dropLast]; omega)]
   by_cases hk : k = i
   ·subst hk
    rw [if_pos rfl, List.getElem?_set_self (by rw [List.length_dropLast]; omega)]
   ·rw [if_neg hk, List.getElem?_set_ne (by omega), List.getElem?_dropLast, if_pos (by omega)]
  ·subst h
   rw [if_pos rfl, List.getElem?_append_right (by rw [List.length_set, List.length_dropLast]; omega), List.length_set, List.length_dropLast, he]
   simp
  ·rw [if_neg (by omega), if_neg (by omega), List.getElem?_eq_none (by omega), List.getElem?_eq_none (by rw [List.length_append, List.length_set, List.length_dropLast, List.length_singleton]; omega)]
 rw [h2] at h
 exact (List.perm_append_comm (l₁ := [x]) (l₂ := ys.dropLast.set i z)).trans h
def del (f : Int → Option Value) (k : Int) : Int → Option Value := fun j => if j = k then none else f j
theorem PosOK.cut_end {f : Int → Option Value} {ys : List It} (hu : Uniq ys) (h : PosOK f ys) {e : Nat} {x : It} (he : ys.length = e + 1) (hx : ys[e]? = some x) : PosOK (del f x.id) ys.dropLast := by
 intro id v
 unfold del
 by_cases hid : id = x.id
 ·subst hid
  simp only [if_true]
  constructor
  ·intro h; cases h
  ·rintro ⟨k, u, hk, hid, rfl⟩
   rw [List.getElem?_dropLast] at hk
   split at hk
   ·have := hu _ _ _ _ hk hx hid
    omega
   ·cases hk
 ·rw [if_neg hid, h id v]
  constructor
  ·rintro ⟨k, u, hk, hi, rfl⟩
   refine ⟨k, u, ?_, hi, rfl⟩
   have hl := (List.getElem?_eq_some_iff.1 hk).1
   rw [List.getElem?_dropLast, if_pos]
   ·exact hk
   ·have : k ≠ e := fun e' => by subst e'; rw [hx] at hk; cases hk; exact hid hi.symm
    omega
  ·rintro ⟨k, u, hk, hi, rfl⟩
   rw [List.getElem?_dropLast] at hk
   split at hk
   ·exact ⟨k, u, hk, hi, rfl⟩
   ·cases hk
theorem PosOK.cut_mid {f : Int → Option Value} {ys : List It} (hu : Uniq ys) (h : PosOK f ys) {i e : Nat} {x z : It} (he : ys.length = e + 1) (hi : i < e) (hx : ys[i]? = some x) (hz : ys[e]? = some z) : PosOK (upd (del f x.id) z.id (.int .i64 i)) (ys.dropLast.set i z) := by
 have hxz : z.id ≠ x.id := fun e' => by have := hu _ _ _ _ hz hx e'; omega
 intro id v
 unfold upd del
 by_cases h1 : id = z.id
 ·subst h1
  simp only [if_true]
  constructor
  ·intro hv; cases hv
   exact ⟨i, z, by rw [List.getElem?_set_self (by rw [List.length_dropLast]; omega)], rfl, rfl⟩
  ·rintro ⟨k, u, hk, hid, rfl⟩
   by_cases hki : k = i
   ·subst hki; rfl
   ·rw [List.getElem?_set_ne (by omega), List.getElem?_dropLast] at hk
    split at hk
    ·have := hu _ _ _ _ hk hz hid
     omega
    ·cases hk
 ·rw [if_neg h1]
  by_cases h2 : id = x.id
  ·subst h2
   simp only [if_true]
   constructor
   ·intro h; cases h
   ·rintro ⟨k, u, hk, hid, rfl⟩
    by_cases hki : k = i
    ·subst hki
     rw [List.getElem?_set_self (by rw [List.length_dropLast]; omega)] at hk
     cases hk
     exact absurd hid hxz
    ·rw [List.getElem?_set_ne (by omega), List.getElem?_dropLast] at hk
     split at hk
     ·exact absurd (hu _ _ _ _ hk hx hid) hki
     ·cases hk
  ·rw [if_neg h2, h id v]
   constructor
   ·rintro ⟨k, u, hk, hid, rfl⟩
    have hl := (List.getElem?_eq_some_iff.1 hk).1
    have hke : k ≠ e := fun e' => by subst e'; rw [hz] at hk; cases hk; exact h1 hid.symm
    have hki : k ≠ i := fun e' => by subst e'; rw [hx] at hk; cases hk; exact h2 hid.symm
    exact ⟨k, u, by rw [List.getElem?_set_ne (by omega), List.getElem?_dropLast, if_pos (by omega)]; exact hk, hid, rfl⟩
   ·rintro ⟨k, u, hk, hid, rfl⟩
    by_cases hki : k = i
    ·subst hki
     rw [List.getElem?_set_self (by rw [List.length_dropLast]; omega)] at hk
     cases hk
     exact absurd hid.symm h1
    ·rw [List.getElem?_set_ne (by omega), List.getElem?_dropLast] at hk
     split at hk
     ·exact ⟨k, u, hk, hid, rfl⟩
     ·cases hk
structure HeapIn (w : World) (p mb : Nat) (lv : Value) (sq : Int) (ys : List It) (f : Int → Option Value) (F : Nat → Prop) (L : List It) : Prop where
 raw : HRaw w p mb lv sq ys f
 pos : PosOK f ys
 uniq : Uniq ys
 ord : HOrd ys
 perm : ys.Perm L
 rise : L.Pairwise lt
 seqs : ∀ x ∈ L, 1 ≤ x.seq ∧ x.seq ≤ sq
 len : (L.length : Int) ≤ sq
 fp : F p
 fm : F mb
 fl : ∀ k, lv.ownBlock = some k → F k
 fb : ∀ k, F k → k < w.heap.size
def HeapAt (w : World) (p : Nat) (F : Nat → Prop) (L : List It) (sq : Int) : Prop := ∃ mb lv ys f, HeapIn w p mb lv sq ys f F L
theorem HeapIn.turns {S : Nat → Prop} {w w' : World} {p mb : Nat} {lv : Value} {sq : Int} {ys : List It} {f : Int → Option Value} {F : Nat → Prop} {L : List It} (h : HeapIn w p mb lv sq ys f F L) (ht : Turns S w w') (hn : ∀ k, F k → ¬ S k) : HeapIn w' p mb lv sq ys f F L :=
 { h with raw := h.raw.turns ht (hn _ h.fp) (hn _ h.fm) (fun k hk => hn k (h.fl k hk)), fb := fun k hk => Nat.lt_of_lt_of_le (h.fb k hk) ht.size }
theorem HeapAt.turns {S : Nat → Prop} {w w' : World} {p : Nat} {F : Nat → Prop} {L : List It} {sq : Int} (h : HeapAt w p F L sq) (ht : Turns S w w') (hn : ∀ k, F k → ¬ S k) : HeapAt w' p F L sq := by
 obtain ⟨mb, lv, ys, f, h⟩ := h
 exact ⟨mb, lv, ys, f, h.turns ht hn⟩
theorem HeapAt.made {w w' : World} {p : Nat} {F : Nat → Prop} {L : List It} {sq : Int} (h : HeapAt w p F L sq) (ht : Made w w') : HeapAt w' p F L sq := h.turns ht (fun _ _ h => h)
theorem HeapAt.uniq {w : World} {p : Nat} {F : Nat → Prop} {L : List It} {sq : Int} (h : HeapAt w p F L sq) : Uniq L := by obtain ⟨_, _, _, _, h⟩ := h; exact h.uniq.perm h.perm.symm
theorem HeapAt.fb {w : World} {p : Nat} {F : Nat → Prop} {L : List It} {sq : Int} (h : HeapAt w p F L sq) : ∀ k, F k → k < w.heap.size := by obtain ⟨_, _, _, _, h⟩ := h; exact h.fb
structure Stp (w w' : World) (F F' : Nat → Prop) : Prop where
 t : Turns F w w'
 f : ∀ k, F' k → F k ∨ w.heap.size ≤ k
theorem Stp.trans {w w' w'' : World} {F F' F'' : Nat → Prop} (h : Stp w w' F F') (k : Stp w' w'' F' F'') : Stp w w'' F F'' :=
 ⟨h.t.then k.t (fun b hb hs => (h.f b hs).elim id (fun h => by omega)), fun b hb => (k.f b hb).elim (fun h2 => h.f b h2) (fun h2 => .inr (Nat.le_trans h.t.size h2))⟩
theorem Stp.made {w w' : World} {F : Nat → Prop} (h : Made w w') : Stp w w' F F := ⟨h.mono (fun _ _ h => h.elim), fun _ h => .inl h⟩
theorem HeapIn.first {w : World} {p mb : Nat} {lv : Value} {sq : Int} {ys : List It} {f : Int → Option Value} {F : Nat → Prop} {L : List It} (h : HeapIn w p mb lv sq ys f F L) : ys[0]? = L[0]? := by
 cases hL : L with
 | nil =>
  have := h.perm.length_eq
  rw [hL] at this
  rw [List.eq_nil_of_length_eq_zero this]
 | cons m l =>
  obtain ⟨y, hy⟩ := get_of_lt (xs := ys) (k := 0) (by have := h.perm.length_eq; rw [hL] at this; simp at this; omega)
  rw [hy, List.getElem?_cons_zero]
  have hyL : y ∈ L := h.perm.mem_iff.1 (List.mem_of_getElem? hy)
  have hmy : m ∈ ys := h.perm.mem_iff.2 (by rw [hL]; exact List.mem_cons_self ..)
  obtain ⟨k, hk⟩ := List.getElem?_of_mem hmy
  have h1 := h.ord.least hy k m hk
  rw [hL] at hyL
  rcases List.mem_cons.1 hyL with e | hm
  ·rw [e]
  ·have := h.rise
   rw [hL, List.pairwise_cons] at this
   exact absurd (this.1 y hm) h1
theorem HeapIn.find {w : World} {p mb : Nat} {lv : Value} {sq : Int} {ys : List It} {f : Int → Option Value} {F : Nat → Prop} {L : List It} (h : HeapIn w p mb lv sq ys f F L) (id : Int) :
  (findL id L = none ∧ f id = none ∧ ∀ z ∈ ys, z.id ≠ id) ∨ ∃ k x, findL id L = some x ∧ f id = some (.int .i64 (k : Nat)) ∧ ys[k]? = some x ∧ x.id = id ∧ x ∈ L := by
 cases hf : findL id L with
 | none =>
  have hn := (findL_none id).1 hf
  have hn' : ∀ z ∈ ys, z.id ≠ id := fun z hz => hn z (h.perm.mem_iff.1 hz)
  exact .inl ⟨rfl, h.pos.none hn', hn'⟩
 | some x =>
  obtain ⟨hx, hid⟩ := (findL_some (h.uniq.perm h.perm.symm) id x).1 hf
  obtain ⟨k, hk⟩ := List.getElem?_of_mem (h.perm.mem_iff.2 hx)
  exact .inr ⟨k, x, rfl, by rw [← hid]; exact h.pos.get hk, hk, hid, hx⟩
inductive RIn (w : World) (p : Nat) (F : Nat → Prop) : Bool → Option Int → Prop
 | none (a : Option Addr) (c : Nat) (h : Blk w p 249 #[.slice a 0 c, .int .i64 0, .int .i64 0]) (hf : ∀ k, F k ↔ k = p) : RIn w p F false none
 | one (g c : Nat) (v : Int) (o : Option Int) (h : Blk w p 249 #[.slice (some ⟨g, 0, none⟩) 1 c, .int .i64 0, .int .i64 (if o.isSome then 1 else 0)]) (hg : Blk w g 3 #[.int .i64 v]) (hv : ∀ x, o = some x → x = v) (hn : g ≠ p) (hf : ∀ k, F k ↔ k = p ∨ k = g) : RIn w p F true o
theorem RIn.turns {S : Nat → Prop} {w w' : World} {p : Nat} {F : Nat → Prop} {r : Bool} {o : Option Int} (h : RIn w p F r o) (ht : Turns S w w') (hn : ∀ k, F k → ¬ S k) : RIn w' p F r o := by
 cases h with
 | none a c h hf => exact .none a c (h.turns ht (hn _ ((hf _).2 rfl))) hf
 | one g c v o h hg hv hne hf => exact .one g c v o (h.turns ht (hn _ ((hf _).2 (.inl rfl)))) (hg.turns ht (hn _ ((hf _).2 (.inr rfl)))) hv hne hf
theorem RIn.made {w w' : World} {p : Nat} {F : Nat → Prop} {r : Bool} {o : Option Int} (h : RIn w p F r o) (ht : Made w w') : RIn w' p F r o := h.turns ht (fun _ _ h => h)
theorem RIn.fb {w : World} {p : Nat} {F : Nat → Prop} {r : Bool} {o : Option Int} (h : RIn w p F r o) : ∀ k, F k → k < w.heap.size := by
 intro k hk
 cases h with
 | none a c h hf => rw [(hf k).1 hk]; exact h.lt
 | one g c v o h hg hv hne hf => rcases (hf k).1 hk with rfl | rfl; exact h.lt; exact hg.lt
theorem rglen_c {w : World} {p : Nat} {F : Nat → Prop} {r : Bool} {o : Option Int} (h : RIn w p F r o) :
  Calls Tryz.prog 168 #[.pointer (some ⟨p, 0, none⟩)] w fun e w' => e = .returned (.int .i64 (if o.isSome then 1 else 0)) ∧ w = w' := by
 cases h with
 | none a c h hf =>
  have q2 := h.cell 2
  simp only [zG] at q2
  go_enter Tryz.func168, Tryz.ntmps168
  go_wp2_with fail
  go_ret
  exact ⟨rfl, rfl⟩
 | one g c v o h hg hv hne hf =>
  have q2 := h.cell 2
  simp only [zG] at q2
  generalize (if o.isSome then (1 : Int) else 0) = n at *
  go_enter Tryz.func168, Tryz.ntmps168
  go_wp2_with fail
  go_ret
  exact ⟨rfl, rfl⟩
theorem rgpop_none {w : World} {p : Nat} {F : Nat → Prop} {r : Bool} (h : RIn w p F r none) :
  Calls Tryz.prog 200 #[.pointer (some ⟨p, 0, none⟩)] w fun e w' => e = .returned (.tuple #[.int .i64 0, .bool false]) ∧ w = w' := by
 have q2 : w.cell? ⟨p, 2, none⟩ = some (.int .i64 0) := by
  cases h with
  | none a c h hf => simpa using h.cell 2
  | one g c v o h hg hv hne hf => simpa using h.cell 2
 clear h
 go_enter Tryz.func200, Tryz.ntmps200
 go_wp2_with fail
 go_ret2
 exact ⟨rfl, rfl⟩
theorem rgclear_none {w : World} {p : Nat} {F : Nat → Prop} {r : Bool} (h : RIn w p F r none) :
  Calls Tryz.prog 203 #[.pointer (some ⟨p, 0, none⟩)] w fun e w' => e = .returned (.int .i64 0) ∧ w = w' := by
 have H := zh (rglen_c h)
 simp only [Option.isSome_none, Bool.false_eq_true, if_false] at H
 clear h
 go_enter Tryz.func203, Tryz.ntmps203
 go_wp2_with fail
 refine H.out.mono ?_
 rintro e w' ⟨rfl, rfl⟩
 go_wp2_with fail
 go_ret
 exact ⟨rfl, rfl⟩
theorem rgclear_some {w : World} {p : Nat} {F : Nat → Prop} {r : Bool} {x : Int} (h : RIn w p F r (some x)) :
  Calls Tryz.prog 203 #[.pointer (some ⟨p, 0, none⟩)] w fun e w' => e = .returned (.int .i64 1) ∧ RIn w' p F r none ∧ Turns F w w' := by
 have H := zh (rglen_c h)
 simp only [Option.isSome_some, if_true] at H
 cases h with
 | one g c v o h hg hv hne hf =>
  have hF : F p := (hf p).2 (.inl rfl)
  have q2 := h.cell 2
  have f2 := h.free 2
  simp only [zG, Option.isSome_some, if_true] at q2
  go_enter Tryz.func203, Tryz.ntmps203
  go_wp2_with fail
  refine H.out.mono ?_
  rintro e w' ⟨rfl, rfl⟩
  go_wp2_with fail
  go_ret
  have k := h.put 2 (.int .i64 0)
  have k2 := hg.far (p := ⟨p, 2, none⟩) hne (.int .i64 0)
  exact ⟨rfl, .one g c v none (by simpa using k) k2 (by simp) hne hf, (Turns.refl F w).setCell (p := ⟨p, 2, none⟩) (fun _ => hF) _⟩
theorem Tryz.infoI1 : (Tryz.prog.info? 3).map (fun i => (i.zero, i.size, i.bytes)) = some (some (.int .i64 0), 1, 8) := by kernel_rfl
theorem make_one (w : World) : (Instr.makeSlice 42 (.int .i64 1) (.int .i64 1)).run Tryz.prog w = .ok (.slice (some ⟨w.heap.size, 0, none⟩) 1 1) (w.alloc (.cells #[.int .i64 0] 3)) := by
 obtain ⟨i0, hi0, hz0, hz1, hz2⟩ := info_parts Tryz.infoI1
 have h := run_make (P := Tryz.prog) w 42 3 i0 _ Tryz.underlying42 hi0 hz0 .i64 .i64 1 1 (by omega) (by omega) (by rw [hz2]; omega) (by omega)
 rw [h, hz1]
 have e : madeCells (Value.int .i64 0).cells ((1 : Int).toNat * 1) = #[.int .i64 0] := by
  unfold madeCells
  refine Array.ext (by simp) fun k h1 h2 => ?_
  have hk : k = 0 := by simp at h2; omega
  subst hk
  simp [Value.cells]
 rw [e]
 rfl
theorem rgnew1_c (w : World) : Calls Tryz.prog 162 #[.int .i64 1] w fun e w' => ∃ p F, e = .returned (.tuple #[.pointer (some ⟨p, 0, none⟩), .int .i64 0]) ∧ RIn w' p F true none ∧ Made w w' ∧ ∀ k, F k → w.heap.size ≤ k := by
 have hmk := make_one w
 go_enter Tryz.func162, Tryz.ntmps162
 go_wp2_with fail
 go_ret2
 refine ⟨_, fun k => k = w.heap.size + 1 ∨ k = w.heap.size, rfl, .one w.heap.size 1 0 none ?_ ((Blk.new w _ _).alloc _) (by simp) (by omega) (fun k => Iff.rfl), ((Turns.refl _ _).alloc _).alloc _, fun k hk => by omega⟩
 have h := Blk.new (w.alloc (.cells #[.int .i64 0] 3)) 249 #[.slice (some ⟨w.heap.size, 0, none⟩) 1 1, .int .i64 0, .int .i64 0]
 simpa using h
theorem make_none (w : World) : (Instr.makeSlice 42 (.int .i64 0) (.int .i64 0)).run Tryz.prog w = .ok (.slice (some ⟨w.heap.size, 0, none⟩) 0 0) (w.alloc (.cells #[] 3)) := by
 obtain ⟨i0, hi0, hz0, hz1, hz2⟩ := info_parts Tryz.infoI1
 have h := run_make (P := Tryz.prog) w 42 3 i0 _ Tryz.underlying42 hi0 hz0 .i64 .i64 0 0 (by omega) (by omega) (by rw [hz2]; omega) (by omega)
 rw [h, hz1]
 have e : madeCells (Value.int .i64 0).cells ((0 : Int).toNat * 1) = #[] := by
  unfold madeCells
  refine Array.ext (by simp) fun k h1 h2 => ?_
  simp at h2
 rw [e]
 rfl
theorem rgnew0_c (w : World) : Calls Tryz.prog 162 #[.int .i64 0] w fun e w' => ∃ p F, e = .returned (.tuple #[.pointer (some ⟨p, 0, none⟩), .int .i64 0]) ∧ RIn w' p F false none ∧ Made w w' ∧ ∀ k, F k → w.heap.size ≤ k := by
 have hmk := make_none w
 go_enter Tryz.func162, Tryz.ntmps162
 go_wp2_with fail
 go_ret2
 refine ⟨_, fun k => k = w.heap.size + 1, rfl, .none (some ⟨w.heap.size, 0, none⟩) 0 ?_ (fun k => Iff.rfl), ((Turns.refl _ _).alloc _).alloc _, fun k hk => by omega⟩
 have h := Blk.new (w.alloc (.cells #[] 3)) 249 #[.slice (some ⟨w.heap.size, 0, none⟩) 0 0, .int .i64 0, .int .i64 0]
 simpa using h
def pickZ (n count : Int) : Int := n % count
theorem spick_c (n count : Int) (w : World) (h1 : 1 ≤ count) (h2 : count ≤ 1000000) :
  Calls Tryz.prog 120 #[.int .i64 n, .int .i64 count] w fun e w' => e = .returned (.int .i64 (pickZ n count)) ∧ w = w' := by
 have e1 : (n.tmod count < 0 → pickZ n count = n.tmod count + count) ∧ (¬ n.tmod count < 0 → pickZ n count = n.tmod count) ∧ - count < n.tmod count ∧ n.tmod count < count := by
  unfold pickZ
  have h3 := Int.emod_lt_of_pos n (b := count) (by omega)
  have h4 := Int.emod_nonneg n (b := count) (by omega)
  have h5 := Int.tmod_eq_emod (a := n) (b := count)
  rw [h5]
  split
  ·rename_i h
   refine ⟨fun h => ?_, fun h => ?_, ?_, ?_⟩ <;> omega
  ·rename_i h
   have h6 : n % count ≠ 0 := fun e => h (.inr (Int.dvd_of_emod_eq_zero e))
   refine ⟨fun h => ?_, fun h => ?_, ?_, ?_⟩ <;> omega
 obtain ⟨ha, hb, h3, h4⟩ := e1
 have hc0 : (count == 0) = false := by simp; omega
 by_cases hn : n.tmod count < 0
 ·have HA := zh (ha hn)
  clear ha hb
  go_enter Tryz.func120, Tryz.ntmps120
  go_wp2
  go_ret
  rw [HA.out]
  exact ⟨rfl, rfl⟩
 ·have HA := zh (hb hn)
  clear ha hb
  go_enter Tryz.func120, Tryz.ntmps120
  go_wp2
  go_ret
  rw [HA.out]
  exact ⟨rfl, rfl⟩
theorem scheck_run (n d : Int) (w : World) :
  Calls Tryz.prog 23 #[.agg #[.int .i64 1, .int .i64 n, .int .i64 d]] w fun e w' => e = .returned (.int .i64 0) ∧ Made w w' := by
 go_enter Tryz.func23, Tryz.ntmps23
 go_wp2_with fail
 go_ret
 exact ⟨rfl, (Turns.refl _ _).alloc _⟩
theorem scheck_adv (n : Int) (w : World) (h : 0 ≤ n) :
  Calls Tryz.prog 23 #[.agg #[.int .i64 2, .int .i64 n, .int .i64 0]] w fun e w' => e = .returned (.int .i64 0) ∧ Made w w' := by
 go_enter Tryz.func23, Tryz.ntmps23
 go_wp2_with fail
 go_ret
 exact ⟨rfl, (Turns.refl _ _).alloc _⟩
theorem bit_c (b : Bool) (w : World) : Calls Tryz.prog 117 #[.bool b] w fun e w' => e = .returned (.int .i64 (if b then 1 else 0)) ∧ w = w' := by
 cases b
 all_goals
  go_enter Tryz.func117, Tryz.ntmps117
  go_wp2
  go_ret
  exact ⟨rfl, rfl⟩
def mineB (op : Int) : Bool := decide (1 ≤ op ∧ op ≤ 7 ∨ op = 16)
theorem mine_c (op : Int) (w : World) : Calls Tryz.prog 75 #[.int .i64 op] w fun e w' => e = .returned (.bool (mineB op)) ∧ w = w' := by
 by_cases h1 : 1 ≤ op ∧ op ≤ 7
 ·have H : mineB op = true := by unfold mineB; simp; omega
  obtain ⟨h1, h2⟩ := h1
  rw [H]
  clear H
  go_enter Tryz.func75, Tryz.ntmps75
  go_wp2
  go_ret
  exact ⟨rfl, rfl⟩
 ·by_cases h2 : op = 16
  ·subst h2
   go_enter Tryz.func75, Tryz.ntmps75
   go_wp2
   go_ret
   exact ⟨rfl, rfl⟩
  ·have H : mineB op = false := by unfold mineB; simp; omega
   rw [H]
   clear H
   have h3 : (op == 16) = false := by simpa using h2
   by_cases h4 : 1 ≤ op
   ·have h5 : ¬ op ≤ 7 := by omega
    clear h1 h2
    go_enter Tryz.func75, Tryz.ntmps75
    go_wp2
    go_ret
    exact ⟨rfl, rfl⟩
   ·clear h1 h2
    go_enter Tryz.func75, Tryz.ntmps75
    go_wp2
    go_ret
    exact ⟨rfl, rfl⟩
theorem runs_c (st : Int) (w : World) : Calls Tryz.prog 93 #[.int .i64 st] w fun e w' => e = .returned (.bool (st == 0)) ∧ w = w' := by
 go_enter Tryz.func93, Tryz.ntmps93
 go_wp2
 go_ret
 exact ⟨rfl, rfl⟩
theorem live_c (st : Int) (w : World) : Calls Tryz.prog 90 #[.int .i64 st] w fun e w' => e = .returned (.bool (st != 2)) ∧ w = w' := by
 go_enter Tryz.func90, Tryz.ntmps90
 go_wp2
 go_ret
 exact ⟨rfl, rfl⟩
theorem parked_c (st : Int) (w : World) : Calls Tryz.prog 160 #[.int .i64 st] w fun e w' => e = .returned (.bool (st == 1)) ∧ w = w' := by
 go_enter Tryz.func160, Tryz.ntmps160
 go_wp2
 go_ret
 exact ⟨rfl, rfl⟩
theorem tbad_c (now : Int) (w : World) (h1 : 0 ≤ now) (h2 : now ≤ 4611686018427387904) : Calls Tryz.prog 178 #[.int .i64 now] w fun e w' => e = .returned (.bool false) ∧ w = w' := by
 go_enter Tryz.func178, Tryz.ntmps178
 go_wp2
 go_ret
 refine ⟨?_, rfl⟩
 simp
 omega
theorem register_c (n : Int) (w : World) (h1 : 0 ≤ n) (h2 : n < 8) : Calls Tryz.prog 98 #[.int .i64 n] w fun e w' => e = .returned (.bool true) ∧ w = w' := by
 go_enter Tryz.func98, Tryz.ntmps98
 go_wp2
 go_ret
 exact ⟨rfl, rfl⟩
theorem may_r (n p : Int) (w : World) (h1 : 0 ≤ n) (h2 : n < 8) : Calls Tryz.prog 95 #[.int .u8 114, .int .i64 n, .int .i64 p] w fun e w' => e = .returned (.bool true) ∧ w = w' := by
 go_enter Tryz.func95, Tryz.ntmps95
 go_wp2_with fail
 refine (register_c n _ h1 h2).mono ?_
 rintro e w' ⟨rfl, rfl⟩
 go_wp2_with fail
 go_ret
 exact ⟨rfl, rfl⟩
theorem may_0 (p : Int) (w : World) : Calls Tryz.prog 95 #[.int .u8 45, .int .i64 0, .int .i64 p] w fun e w' => e = .returned (.bool true) ∧ w = w' := by
 go_enter Tryz.func95, Tryz.ntmps95
 go_wp2
 go_ret
 exact ⟨rfl, rfl⟩
theorem may_n (n p : Int) (w : World) : Calls Tryz.prog 95 #[.int .u8 110, .int .i64 n, .int .i64 p] w fun e w' => e = .returned (.bool true) ∧ w = w' := by
 go_enter Tryz.func95, Tryz.ntmps95
 go_wp2
 go_ret
 exact ⟨rfl, rfl⟩
structure Ins where
 op : Int
 a : Int
 b : Int
 c : Int
def insC (i : Ins) : List Value := [.int .i64 i.op, .int .i64 i.a, .int .i64 i.b, .int .i64 i.c, .slice none 0 0, .bool false]
abbrev insV (i : Ins) : Value := .agg #[.int .i64 i.op, .int .i64 i.a, .int .i64 i.b, .int .i64 i.c, .slice none 0 0, .bool false]
theorem anyCase_c (f : Value) (w : World) : Calls Tryz.prog 96 #[.slice none 0 0, f] w fun e w' => e = .returned (.bool false) ∧ w = w' := by
 have H : ∀ w, Calls Tryz.prog 148 #[.slice none 0 0, f] w fun e w' => e = .returned (.int .i64 (-1)) ∧ w = w' := by
  intro w
  go_enter Tryz.func148, Tryz.ntmps148
  go_wp2_with fail
  refine wp_loop_rounds 1 ?_
  rw [rounds_succ]
  go_wp2_with fail
  go_ret
  exact ⟨rfl, rfl⟩
 have H := zh H
 go_enter Tryz.func96, Tryz.ntmps96
 go_wp2_with fail
 refine (H.out _).mono ?_
 rintro e w' ⟨rfl, rfl⟩
 go_wp2_with fail
 go_ret
 exact ⟨rfl, rfl⟩
def GoodC (x : Ins) (n : Int) : Prop := ∀ w, Calls Tryz.prog 56 #[insV x, .int .i64 n] w fun e w' => e = .returned (.bool true) ∧ Made w w'
theorem good_1 (a b c n : Int) (ha : 0 ≤ a ∧ a < 8) (hc : c = 0) : GoodC ⟨1, a, b, c⟩ n := by
 intro w
 subst hc
 go_enter Tryz.func56, Tryz.ntmps56
 go_wp2_with fail
 refine wp_loop_rounds 4 ?_
 rw [rounds_succ]
 go_wp2_with fail
 refine (may_r _ _ _ ha.1 ha.2).mono ?_
 rintro e w' ⟨rfl, rfl⟩
 go_wp2_with fail
 rw [rounds_succ]
 go_wp2_with fail
 refine (may_n _ _ _).mono ?_
 rintro e w' ⟨rfl, rfl⟩
 go_wp2_with fail
 rw [rounds_succ]
 go_wp2_with fail
 refine (may_0 _ _).mono ?_
 rintro e w' ⟨rfl, rfl⟩
 go_wp2_with fail
 rw [rounds_succ]
 go_wp2_with fail
 refine (anyCase_c _ _).mono ?_
 rintro e w' ⟨rfl, rfl⟩
 go_wp2_with fail
 go_ret
 exact ⟨rfl, ((Turns.refl _ _).alloc _).alloc _⟩
theorem good_6 (a b c n : Int) (ha : 0 ≤ a ∧ a < 8) (hb : b = 0) (hc : c = 0) : GoodC ⟨6, a, b, c⟩ n := by
 intro w
 subst hb
 subst hc
 go_enter Tryz.func56, Tryz.ntmps56
 go_wp2_with fail
 refine wp_loop_rounds 4 ?_
 rw [rounds_succ]
 go_wp2_with fail
 refine (may_r _ _ _ ha.1 ha.2).mono ?_
 rintro e w' ⟨rfl, rfl⟩
 go_wp2_with fail
 rw [rounds_succ]
 go_wp2_with fail
 refine (may_0 _ _).mono ?_
 rintro e w' ⟨rfl, rfl⟩
 go_wp2_with fail
 rw [rounds_succ]
 go_wp2_with fail
 refine (may_0 _ _).mono ?_
 rintro e w' ⟨rfl, rfl⟩
 go_wp2_with fail
 rw [rounds_succ]
 go_wp2_with fail
 refine (anyCase_c _ _).mono ?_
 rintro e w' ⟨rfl, rfl⟩
 go_wp2_with fail
 go_ret
 exact ⟨rfl, ((Turns.refl _ _).alloc _).alloc _⟩
theorem good_11 (a b c n : Int) (ha : 0 ≤ a ∧ a < 8) (hb : 0 ≤ b ∧ b < 8) (hc : 0 ≤ c ∧ c < 8) : GoodC ⟨11, a, b, c⟩ n := by
 intro w
 go_enter Tryz.func56, Tryz.ntmps56
 go_wp2_with fail
 refine wp_loop_rounds 4 ?_
 rw [rounds_succ]
 go_wp2_with fail
 refine (may_r _ _ _ ha.1 ha.2).mono ?_
 rintro e w' ⟨rfl, rfl⟩
 go_wp2_with fail
 rw [rounds_succ]
 go_wp2_with fail
 refine (may_r _ _ _ hb.1 hb.2).mono ?_
 rintro e w' ⟨rfl, rfl⟩
 go_wp2_with fail
 rw [rounds_succ]
 go_wp2_with fail
 refine (may_r _ _ _ hc.1 hc.2).mono ?_
 rintro e w' ⟨rfl, rfl⟩
 go_wp2_with fail
 rw [rounds_succ]
 go_wp2_with fail
 refine (anyCase_c _ _).mono ?_
 rintro e w' ⟨rfl, rfl⟩
 go_wp2_with fail
 go_ret
 exact ⟨rfl, ((Turns.refl _ _).alloc _).alloc _⟩
theorem good_16 (a b c n : Int) (ha : 0 ≤ a ∧ a < 8) (hb : b = 0) (hc : c = 0) : GoodC ⟨16, a, b, c⟩ n := by
 intro w
 subst hb
 subst hc
 go_enter Tryz.func56, Tryz.ntmps56
 go_wp2_with fail
 refine wp_loop_rounds 4 ?_
 rw [rounds_succ]
 go_wp2_with fail
 refine (may_r _ _ _ ha.1 ha.2).mono ?_
 rintro e w' ⟨rfl, rfl⟩
 go_wp2_with fail
 rw [rounds_succ]
 go_wp2_with fail
 refine (may_0 _ _).mono ?_
 rintro e w' ⟨rfl, rfl⟩
 go_wp2_with fail
 rw [rounds_succ]
 go_wp2_with fail
 refine (may_0 _ _).mono ?_
 rintro e w' ⟨rfl, rfl⟩
 go_wp2_with fail
 rw [rounds_succ]
 go_wp2_with fail
 refine (anyCase_c _ _).mono ?_
 rintro e w' ⟨rfl, rfl⟩
 go_wp2_with fail
 go_ret
 exact ⟨rfl, ((Turns.refl _ _).alloc _).alloc _⟩
theorem good_17 (a b c n : Int) (ha : 0 ≤ a ∧ a < 8) (hb : 0 ≤ b ∧ b < 8) (hc : 0 ≤ c ∧ c < 8) : GoodC ⟨17, a, b, c⟩ n := by
 intro w
 go_enter Tryz.func56, Tryz.ntmps56
 go_wp2_with fail
 refine wp_loop_rounds 4 ?_
 rw [rounds_succ]
 go_wp2_with fail
 refine (may_r _ _ _ ha.1 ha.2).mono ?_
 rintro e w' ⟨rfl, rfl⟩
 go_wp2_with fail
 rw [rounds_succ]
 go_wp2_with fail
 refine (may_r _ _ _ hb.1 hb.2).mono ?_
 rintro e w' ⟨rfl, rfl⟩
 go_wp2_with fail
 rw [rounds_succ]
 go_wp2_with fail
 refine (may_r _ _ _ hc.1 hc.2).mono ?_
 rintro e w' ⟨rfl, rfl⟩
 go_wp2_with fail
 rw [rounds_succ]
 go_wp2_with fail
 refine (anyCase_c _ _).mono ?_
 rintro e w' ⟨rfl, rfl⟩
 go_wp2_with fail
 go_ret
 exact ⟨rfl, ((Turns.refl _ _).alloc _).alloc _⟩
theorem good_20 (a b c n : Int) (ha : 0 ≤ a ∧ a < 8) (hb : 0 ≤ b ∧ b < 8) (hc : c = 0) : GoodC ⟨20, a, b, c⟩ n := by
 intro w
 subst hc
 go_enter Tryz.func56, Tryz.ntmps56
 go_wp2_with fail
 refine wp_loop_rounds 4 ?_
 rw [rounds_succ]
 go_wp2_with fail
 refine (may_r _ _ _ ha.1 ha.2).mono ?_
 rintro e w' ⟨rfl, rfl⟩
 go_wp2_with fail
 rw [rounds_succ]
 go_wp2_with fail
 refine (may_r _ _ _ hb.1 hb.2).mono ?_
 rintro e w' ⟨rfl, rfl⟩
 go_wp2_with fail
 rw [rounds_succ]
 go_wp2_with fail
 refine (may_0 _ _).mono ?_
 rintro e w' ⟨rfl, rfl⟩
 go_wp2_with fail
 rw [rounds_succ]
 go_wp2_with fail
 refine (anyCase_c _ _).mono ?_
 rintro e w' ⟨rfl, rfl⟩
 go_wp2_with fail
 go_ret
 exact ⟨rfl, ((Turns.refl _ _).alloc _).alloc _⟩
theorem good_23 (a b c n : Int) (ha : 0 ≤ a ∧ a < 8) (hb : 0 ≤ b ∧ b < 8) (hc : 0 ≤ c ∧ c < 8) : GoodC ⟨23, a, b, c⟩ n := by
 intro w
 go_enter Tryz.func56, Tryz.ntmps56
 go_wp2_with fail
 refine wp_loop_rounds 4 ?_
 rw [rounds_succ]
 go_wp2_with fail
 refine (may_r _ _ _ ha.1 ha.2).mono ?_
 rintro e w' ⟨rfl, rfl⟩
 go_wp2_with fail
 rw [rounds_succ]
 go_wp2_with fail
 refine (may_r _ _ _ hb.1 hb.2).mono ?_
 rintro e w' ⟨rfl, rfl⟩
 go_wp2_with fail
 rw [rounds_succ]
 go_wp2_with fail
 refine (may_r _ _ _ hc.1 hc.2).mono ?_
 rintro e w' ⟨rfl, rfl⟩
 go_wp2_with fail
 rw [rounds_succ]
 go_wp2_with fail
 refine (anyCase_c _ _).mono ?_
 rintro e w' ⟨rfl, rfl⟩
 go_wp2_with fail
 go_ret
 exact ⟨rfl, ((Turns.refl _ _).alloc _).alloc _⟩
theorem good_27 (a b c n : Int) (ha : 0 ≤ a ∧ a < 8) (hb : 0 ≤ b ∧ b < 8) (hc : c = 0) : GoodC ⟨27, a, b, c⟩ n := by
 intro w
 subst hc
 go_enter Tryz.func56, Tryz.ntmps56
 go_wp2_with fail
 refine wp_loop_rounds 4 ?_
 rw [rounds_succ]
 go_wp2_with fail
 refine (may_r _ _ _ ha.1 ha.2).mono ?_
 rintro e w' ⟨rfl, rfl⟩
 go_wp2_with fail
 rw [rounds_succ]
 go_wp2_with fail
 refine (may_r _ _ _ hb.1 hb.2).mono ?_
 rintro e w' ⟨rfl, rfl⟩
 go_wp2_with fail
 rw [rounds_succ]
 go_wp2_with fail
 refine (may_0 _ _).mono ?_
 rintro e w' ⟨rfl, rfl⟩
 go_wp2_with fail
 rw [rounds_succ]
 go_wp2_with fail
 refine (anyCase_c _ _).mono ?_
 rintro e w' ⟨rfl, rfl⟩
 go_wp2_with fail
 go_ret
 exact ⟨rfl, ((Turns.refl _ _).alloc _).alloc _⟩
theorem good_29 (a b c n : Int) (ha : 0 ≤ a ∧ a < 8) (hb : 0 ≤ b ∧ b < 8) (hc : c = 0) : GoodC ⟨29, a, b, c⟩ n := by
 intro w
 subst hc
 go_enter Tryz.func56, Tryz.ntmps56
 go_wp2_with fail
 refine wp_loop_rounds 4 ?_
 rw [rounds_succ]
 go_wp2_with fail
 refine (may_r _ _ _ ha.1 ha.2).mono ?_
 rintro e w' ⟨rfl, rfl⟩
 go_wp2_with fail
 rw [rounds_succ]
 go_wp2_with fail
 refine (may_r _ _ _ hb.1 hb.2).mono ?_
 rintro e w' ⟨rfl, rfl⟩
 go_wp2_with fail
 rw [rounds_succ]
 go_wp2_with fail
 refine (may_0 _ _).mono ?_
 rintro e w' ⟨rfl, rfl⟩
 go_wp2_with fail
 rw [rounds_succ]
 go_wp2_with fail
 refine (anyCase_c _ _).mono ?_
 rintro e w' ⟨rfl, rfl⟩
 go_wp2_with fail
 go_ret
 exact ⟨rfl, ((Turns.refl _ _).alloc _).alloc _⟩
theorem good_30 (a b c n : Int) (ha : 0 ≤ a ∧ a < 8) (hb : 0 ≤ b ∧ b < 8) (hc : 0 ≤ c ∧ c < 8) : GoodC ⟨30, a, b, c⟩ n := by
 intro w
 go_enter Tryz.func56, Tryz.ntmps56
 go_wp2_with fail
 refine wp_loop_rounds 4 ?_
 rw [rounds_succ]
 go_wp2_with fail
 refine (may_r _ _ _ ha.1 ha.2).mono ?_
 rintro e w' ⟨rfl, rfl⟩
 go_wp2_with fail
 rw [rounds_succ]
 go_wp2_with fail
 refine (may_r _ _ _ hb.1 hb.2).mono ?_
 rintro e w' ⟨rfl, rfl⟩
 go_wp2_with fail
 rw [rounds_succ]
 go_wp2_with fail
 refine (may_r _ _ _ hc.1 hc.2).mono ?_
 rintro e w' ⟨rfl, rfl⟩
 go_wp2_with fail
 rw [rounds_succ]
 go_wp2_with fail
 refine (anyCase_c _ _).mono ?_
 rintro e w' ⟨rfl, rfl⟩
 go_wp2_with fail
 go_ret
 exact ⟨rfl, ((Turns.refl _ _).alloc _).alloc _⟩
theorem chk1_c (x : Ins) (n c g : Nat) (a : Option Addr) (w : World) (hg : Blk w g 26 #[.slice a n c]) (hx : GoodC x n) :
  Calls Tryz.prog 55 #[insV x, .pointer (some ⟨g, 0, none⟩)] w fun e w' => e = .returned (.bool false) ∧ Made w w' := by
 have HX := zh hx
 clear hx
 have q0 := (hg.alloc (.cells #[.int .i64 x.op, .int .i64 x.a, .int .i64 x.b, .int .i64 x.c, .slice none 0 0, .bool false] 25)).cell 0
 simp only [List.getElem?_toArray, List.getElem?_cons_zero] at q0
 go_enter Tryz.func55, Tryz.ntmps55
 go_wp2_with fail
 refine (HX.out _).mono ?_
 rintro e w1 ⟨rfl, hm⟩
 have HM := zh (((zT w).alloc _).trans hm)
 clear hm
 go_wp2_with fail
 go_ret
 exact ⟨rfl, HM.out⟩
theorem starts_go (a b c : Int) (w : World) :
  Calls Tryz.prog 32 #[insV ⟨8, a, b, c⟩] w fun e w' => e = .returned (.int .i64 b) ∧ Made w w' := by
 go_enter Tryz.func32, Tryz.ntmps32
 go_wp2_with fail
 go_ret
 exact ⟨rfl, (Turns.refl _ _).alloc _⟩
theorem starts_no (x : Ins) (w : World) (h1 : x.op ≠ 8) (h2 : x.op ≠ 19) (h3 : x.op ≠ 31) :
  Calls Tryz.prog 32 #[insV x] w fun e w' => e = .returned (.int .i64 (-1)) ∧ Made w w' := by
 have k1 : (x.op == 8) = false := by simpa using h1
 have k2 : (x.op == 19) = false := by simpa using h2
 have k3 : (x.op == 31) = false := by simpa using h3
 clear h1 h2 h3
 go_enter Tryz.func32, Tryz.ntmps32
 go_wp2_with fail
 go_ret
 exact ⟨rfl, (Turns.refl _ _).alloc _⟩
def StartsC (x : Ins) (n : Int) : Prop := (x.op = 8 ∧ x.b < n) ∨ (x.op ≠ 8 ∧ x.op ≠ 19 ∧ x.op ≠ 31 ∧ 0 ≤ n)
theorem starts_c (x : Ins) (n : Int) (h : StartsC x n) : ∃ s : Int, s < n ∧ ∀ w, Calls Tryz.prog 32 #[insV x] w fun e w' => e = .returned (.int .i64 s) ∧ Made w w' := by
 rcases h with ⟨h1, h2⟩ | ⟨h1, h2, h3, h4⟩
 ·obtain ⟨op, a, b, c⟩ := x
  simp only at h1
  subst h1
  exact ⟨b, h2, fun w => starts_go a b c w⟩
 ·exact ⟨-1, by omega, fun w => starts_no x w h1 h2 h3⟩
theorem all1_c (x : Ins) (n c g : Nat) (a : Option Addr) (w : World) (hg : Blk w g 31 #[.slice a n c]) (hx : StartsC x n) :
  Calls Tryz.prog 31 #[insV x, .pointer (some ⟨g, 0, none⟩)] w fun e w' => e = .returned (.bool false) ∧ Made w w' := by
 have HG := zh (hg.alloc (.cells #[.int .i64 x.op, .int .i64 x.a, .int .i64 x.b, .int .i64 x.c, .slice none 0 0, .bool false] 25))
 obtain ⟨s, hs, hc⟩ := starts_c x n hx
 have HX := zh hc
 have hs' : ¬ (n : Int) ≤ s := by omega
 clear hx hc hg
 go_enter Tryz.func31, Tryz.ntmps31
 go_wp2_with fail
 have HB := zh (Blk.new w 25 #[.int .i64 x.op, .int .i64 x.a, .int .i64 x.b, .int .i64 x.c, .slice none 0 0, .bool false])
 have HM := zh ((zT w).alloc (.cells #[.int .i64 x.op, .int .i64 x.a, .int .i64 x.b, .int .i64 x.c, .slice none 0 0, .bool false] 25))
 generalize w.alloc (.cells #[.int .i64 x.op, .int .i64 x.a, .int .i64 x.b, .int .i64 x.c, .slice none 0 0, .bool false] 25) = W at *
 refine wp_region_held_drew (S := fun w' => Blk w' (w.heap.size) 25 #[.int .i64 x.op, .int .i64 x.a, .int .i64 x.b, .int .i64 x.c, .slice none 0 0, .bool false] ∧ Blk w' (g) 31 #[.slice a n c] ∧ Made W w') (by kernel_rfl) ?_ (fun hHeld => ?_)
 ·exact ⟨HB.out, HG.out, (zT W).drew⟩
 refine tH 0 4 ?_ ?_ ?_;rotate_left
 ·intro w hSw
  have q0_0 := hSw.1.cell 0
  have q0_1 := hSw.1.cell 1
  have q0_2 := hSw.1.cell 2
  have q0_3 := hSw.1.cell 3
  have q0_4 := hSw.1.cell 4
  have q0_5 := hSw.1.cell 5
  have q1_0 := hSw.2.1.cell 0
  simp only [zG] at q0_0 q0_1 q0_2 q0_3 q0_4 q0_5 q1_0
  go_simp
  try with_reducible rfl
 try simp only [zP]
 refine tH 2 6 ?_ ?_ ?_;rotate_left
 ·intro w hSw
  have q0_0 := hSw.1.cell 0
  have q0_1 := hSw.1.cell 1
  have q0_2 := hSw.1.cell 2
  have q0_3 := hSw.1.cell 3
  have q0_4 := hSw.1.cell 4
  have q0_5 := hSw.1.cell 5
  have q1_0 := hSw.2.1.cell 0
  simp only [zG] at q0_0 q0_1 q0_2 q0_3 q0_4 q0_5 q1_0
  go_simp
  try with_reducible rfl
 try simp only [zP]
 refine tH 3 7 ?_ ?_ ?_;rotate_left
 ·intro w hSw
  go_simp
  try with_reducible rfl
 try simp only [zP]
 refine zR 1 fun K hK => ?_
 go_simp
 refine (HX.out _).mono ?_
 rintro e w2 ⟨rfl, hm⟩
 refine hK.out _ _ ?_ (fun hHeld => ?_)
 ·exact ⟨hHeld.1.turns hm (fun h => h), hHeld.2.1.turns hm (fun h => h), hHeld.2.2.trans hm⟩
 clear hK K
 try simp only [zP]
 refine tH 4 8 ?_ ?_ ?_;rotate_left
 ·intro w hSw
  go_simp
  try with_reducible rfl
 try simp only [zP]
 refine tH 5 3 ?_ ?_ ?_;rotate_left
 ·intro w hSw
  go_simp
  try with_reducible rfl
 try simp only [zP]
 refine wpAnyH_done (by kernel_rfl) ?_ _
 have HH := zh hHeld.2.2
 clear hHeld
 go_wp2_with fail
 go_ret
 refine ⟨?_, HM.out.trans HH.out⟩
 simp
 try omega
theorem idx_chk1 {a : Option Addr} {xs : List Ins} {len cap n c g : Nat} {a' : Option Addr} (w : World) (hg : Blk w g 26 #[.slice a' n c]) (hgood : ∀ x ∈ xs, GoodC x n) (h : RowIn insC 6 w a len xs) (hl : len ≤ 100) :
  Calls Tryz.prog 57 #[.slice a len cap, .func (.func 55) #[] #[.pointer (some ⟨g, 0, none⟩)]] w fun e w' => e = .returned (.int .i64 (-1)) ∧ Made w w' := by
 obtain ⟨hlen, hrow⟩ := h
 subst hlen
 have HGD := zh hgood
 have HG := zh hg
 have HR := zh hrow
 clear hgood hg hrow
 go_enter Tryz.func57, Tryz.ntmps57
 go_wp2_with fail
 go_loopw [8] (fun v8 wr => ∃ k : Nat, k ≤ xs.length ∧ v8 = .int .i64 k ∧ Made w wr) (fun v8 _ => xs.length - (intOf v8).toNat)
 case atStart => exact ⟨0, Nat.zero_le _, rfl, Turns.refl _ _⟩
 case round =>
  obtain ⟨k, hk, rfl, hmade⟩ := hrel
  by_cases hlt : k < xs.length
  ·rcases HR.out with h0 | ⟨b, off, rfl, hb, hlies⟩
   ·omega
   obtain ⟨x, hx⟩ := get_of_lt (xs := xs) (k := k) hlt
   have hl1 : Lies insC 6 wr b off xs := hlies.keep fun o => hmade.cell (p := ⟨b, o, none⟩) hb (fun h => h)
   have c0 : wr.cell? ⟨b, off + k * 6, none⟩ = some (.int .i64 x.op) := hl1 k x hx 0 _ rfl
   have c1 : wr.cell? ⟨b, off + k * 6 + 1, none⟩ = some (.int .i64 x.a) := hl1 k x hx 1 _ rfl
   have c2 : wr.cell? ⟨b, off + k * 6 + 2, none⟩ = some (.int .i64 x.b) := hl1 k x hx 2 _ rfl
   have c3 : wr.cell? ⟨b, off + k * 6 + 3, none⟩ = some (.int .i64 x.c) := hl1 k x hx 3 _ rfl
   have c4 : wr.cell? ⟨b, off + k * 6 + 4, none⟩ = some (.slice none 0 0) := hl1 k x hx 4 _ rfl
   have c5 : wr.cell? ⟨b, off + k * 6 + 5, none⟩ = some (.bool false) := hl1 k x hx 5 _ rfl
   have HC := zh (chk1_c x n c g a' wr (HG.out.turns hmade (fun h => h)) (HGD.out x (List.mem_of_getElem? hx)))
   have HM := zh hmade
   clear hl1 hlies hx hmade
   go_wp2_with fail
   refine HC.out.mono ?_
   rintro e w2 ⟨rfl, hm⟩
   have HM2 := zh (HM.out.trans hm)
   clear hm c0 c1 c2 c3 c4 c5
   go_wp2_with fail
   go_roundw
   case rel => exact ⟨k + 1, by omega, by go_num, HM2.out⟩
   case measure => simp [intOf]; omega
  ·have HM := zh hmade
   clear hmade
   go_wp2_with fail
   go_ret
   exact ⟨rfl, HM.out⟩
theorem any_chk1 {a : Option Addr} {xs : List Ins} {len cap n c g : Nat} {a' : Option Addr} (w : World) (hg : Blk w g 26 #[.slice a' n c]) (hgood : ∀ x ∈ xs, GoodC x n) (h : RowIn insC 6 w a len xs) (hl : len ≤ 100) :
  Calls Tryz.prog 30 #[.slice a len cap, .func (.func 55) #[] #[.pointer (some ⟨g, 0, none⟩)]] w fun e w' => e = .returned (.bool false) ∧ Made w w' := by
 have H := zh (idx_chk1 (cap := cap) w hg hgood h hl)
 clear hg hgood h
 go_enter Tryz.func30, Tryz.ntmps30
 go_wp2_with fail
 refine H.out.mono ?_
 rintro e w1 ⟨rfl, hm⟩
 have HM := zh hm
 clear hm
 go_wp2_with fail
 go_ret
 exact ⟨rfl, HM.out⟩
theorem idx_all1 {a : Option Addr} {xs : List Ins} {len cap n c g : Nat} {a' : Option Addr} (w : World) (hg : Blk w g 31 #[.slice a' n c]) (hgood : ∀ x ∈ xs, StartsC x n) (h : RowIn insC 6 w a len xs) (hl : len ≤ 100) :
  Calls Tryz.prog 57 #[.slice a len cap, .func (.func 31) #[] #[.pointer (some ⟨g, 0, none⟩)]] w fun e w' => e = .returned (.int .i64 (-1)) ∧ Made w w' := by
 obtain ⟨hlen, hrow⟩ := h
 subst hlen
 have HGD := zh hgood
 have HG := zh hg
 have HR := zh hrow
 clear hgood hg hrow
 go_enter Tryz.func57, Tryz.ntmps57
 go_wp2_with fail
 go_loopw [8] (fun v8 wr => ∃ k : Nat, k ≤ xs.length ∧ v8 = .int .i64 k ∧ Made w wr) (fun v8 _ => xs.length - (intOf v8).toNat)
 case atStart => exact ⟨0, Nat.zero_le _, rfl, Turns.refl _ _⟩
 case round =>
  obtain ⟨k, hk, rfl, hmade⟩ := hrel
  by_cases hlt : k < xs.length
  ·rcases HR.out with h0 | ⟨b, off, rfl, hb, hlies⟩
   ·omega
   obtain ⟨x, hx⟩ := get_of_lt (xs := xs) (k := k) hlt
   have hl1 : Lies insC 6 wr b off xs := hlies.keep fun o => hmade.cell (p := ⟨b, o, none⟩) hb (fun h => h)
   have c0 : wr.cell? ⟨b, off + k * 6, none⟩ = some (.int .i64 x.op) := hl1 k x hx 0 _ rfl
   have c1 : wr.cell? ⟨b, off + k * 6 + 1, none⟩ = some (.int .i64 x.a) := hl1 k x hx 1 _ rfl
   have c2 : wr.cell? ⟨b, off + k * 6 + 2, none⟩ = some (.int .i64 x.b) := hl1 k x hx 2 _ rfl
   have c3 : wr.cell? ⟨b, off + k * 6 + 3, none⟩ = some (.int .i64 x.c) := hl1 k x hx 3 _ rfl
   have c4 : wr.cell? ⟨b, off + k * 6 + 4, none⟩ = some (.slice none 0 0) := hl1 k x hx 4 _ rfl
   have c5 : wr.cell? ⟨b, off + k * 6 + 5, none⟩ = some (.bool false) := hl1 k x hx 5 _ rfl
   have HC := zh (all1_c x n c g a' wr (HG.out.turns hmade (fun h => h)) (HGD.out x (List.mem_of_getElem? hx)))
   have HM := zh hmade
   clear hl1 hlies hx hmade
   go_wp2_with fail
   refine HC.out.mono ?_
   rintro e w2 ⟨rfl, hm⟩
   have HM2 := zh (HM.out.trans hm)
   clear hm c0 c1 c2 c3 c4 c5
   go_wp2_with fail
   go_roundw
   case rel => exact ⟨k + 1, by omega, by go_num, HM2.out⟩
   case measure => simp [intOf]; omega
  ·have HM := zh hmade
   clear hmade
   go_wp2_with fail
   go_ret
   exact ⟨rfl, HM.out⟩
theorem any_all1 {a : Option Addr} {xs : List Ins} {len cap n c g : Nat} {a' : Option Addr} (w : World) (hg : Blk w g 31 #[.slice a' n c]) (hgood : ∀ x ∈ xs, StartsC x n) (h : RowIn insC 6 w a len xs) (hl : len ≤ 100) :
  Calls Tryz.prog 30 #[.slice a len cap, .func (.func 31) #[] #[.pointer (some ⟨g, 0, none⟩)]] w fun e w' => e = .returned (.bool false) ∧ Made w w' := by
 have H := zh (idx_all1 (cap := cap) w hg hgood h hl)
 clear hg hgood h
 go_enter Tryz.func30, Tryz.ntmps30
 go_wp2_with fail
 refine H.out.mono ?_
 rintro e w1 ⟨rfl, hm⟩
 have HM := zh hm
 clear hm
 go_wp2_with fail
 go_ret
 exact ⟨rfl, HM.out⟩
theorem check_c {a : Option Addr} {xs : List Ins} {len cap : Nat} (w : World) (hgood : ∀ x ∈ xs, GoodC x len) (h : RowIn insC 6 w a len xs) (hl : len ≤ 100) :
  Calls Tryz.prog 29 #[.slice a len cap] w fun e w' => e = .returned (.int .i64 0) ∧ Made w w' := by
 have hb := Blk.new w 26 #[.slice a len cap]
 have hm := (zT w).alloc (.cells #[.slice a len cap] 26)
 have hr : RowIn insC 6 (w.alloc (.cells #[.slice a len cap] 26)) a len xs := by
  refine ⟨h.1, h.2.imp id ?_⟩
  rintro ⟨b, off, e, hb, hlies⟩
  exact ⟨b, off, e, Nat.lt_of_lt_of_le hb hm.size, hlies.keep fun o => hm.cell (p := ⟨b, o, none⟩) hb (fun h => h)⟩
 have H := zh (any_chk1 (cap := cap) _ hb hgood hr hl)
 have HM := zh hm
 clear hb hm hr h hgood
 go_enter Tryz.func29, Tryz.ntmps29
 go_wp2_with fail
 refine H.out.mono ?_
 rintro e w1 ⟨rfl, hm1⟩
 have HM1 := zh (HM.out.trans hm1)
 clear hm1
 go_wp2_with fail
 go_ret
 exact ⟨rfl, HM1.out⟩
theorem RowIn.turns {α : Type} {enc : α → List Value} {size : Nat} {w w' : World} {a : Option Addr} {len : Nat} {xs : List α} {S : Nat → Prop} (h : RowIn enc size w a len xs) (ht : Turns S w w') (hn : ∀ b off, a = some ⟨b, off, none⟩ → ¬ S b) : RowIn enc size w' a len xs := by
 refine ⟨h.1, h.2.imp id ?_⟩
 rintro ⟨b, off, e, hb, hlies⟩
 exact ⟨b, off, e, Nat.lt_of_lt_of_le hb ht.size, hlies.keep fun o => ht.cell (p := ⟨b, o, none⟩) hb (hn b off e)⟩
theorem RowIn.made {α : Type} {enc : α → List Value} {size : Nat} {w w' : World} {a : Option Addr} {len : Nat} {xs : List α} (h : RowIn enc size w a len xs) (ht : Made w w') : RowIn enc size w' a len xs := h.turns ht (fun _ _ _ h => h)
structure RowsIn (w : World) (b off : Nat) (ps : List (List Ins)) : Prop where
 lt : b < w.heap.size
 row : ∀ i p, ps[i]? = some p → ∃ a c, w.cell? ⟨b, off + i, none⟩ = some (.slice a p.length c) ∧ RowIn insC 6 w a p.length p
theorem RowsIn.made {w w' : World} {b off : Nat} {ps : List (List Ins)} (h : RowsIn w b off ps) (ht : Made w w') : RowsIn w' b off ps :=
 ⟨Nat.lt_of_lt_of_le h.lt ht.size, fun i p hp => by
  obtain ⟨a, c, hc, hr⟩ := h.row i p hp
  exact ⟨a, c, (ht.cell (p := ⟨b, off + i, none⟩) h.lt (fun h => h)).trans hc, hr.made ht⟩⟩
structure ProgsC (ps : List (List Ins)) : Prop where
 le : ps.length ≤ 16
 ge : 1 ≤ ps.length
 len : ∀ p ∈ ps, p.length ≤ 100
 good : ∀ p ∈ ps, ∀ x ∈ p, GoodC x p.length
 start : ∀ p ∈ ps, ∀ x ∈ p, StartsC x ps.length
theorem all_c {ps : List (List Ins)} {b off cap : Nat} (w : World) (hp : ProgsC ps) (h : RowsIn w b off ps) :
  Calls Tryz.prog 15 #[.slice (some ⟨b, off, none⟩) ps.length cap] w fun e w' => e = .returned (.int .i64 0) ∧ Made w w' := by
 have HB := zh (Blk.new w 31 #[.slice (some ⟨b, off, none⟩) ps.length cap])
 have HM := zh ((zT w).alloc (.cells #[.slice (some ⟨b, off, none⟩) ps.length cap] 31))
 have HR := zh (h.made HM.out)
 have HP := zh hp
 have hle := hp.le
 have hge := hp.ge
 clear h hp
 go_enter Tryz.func15, Tryz.ntmps15
 go_wp2_with fail
 generalize w.alloc (.cells #[.slice (some ⟨b, off, none⟩) ps.length cap] 31) = W at *
 go_loopw [15] (fun v15 wr => ∃ k : Nat, k ≤ ps.length ∧ v15 = .int .i64 k ∧ Made W wr) (fun v15 _ => ps.length - (intOf v15).toNat)
 case atStart => exact ⟨0, Nat.zero_le _, rfl, Turns.refl _ _⟩
 case round =>
  obtain ⟨k, hk, rfl, hmade⟩ := hrel
  by_cases hlt : k < ps.length
  ·obtain ⟨p, hp⟩ := get_of_lt (xs := ps) (k := k) hlt
   obtain ⟨a, c, hc, hrow⟩ := (HR.out.made hmade).row k p hp
   have hmem := List.mem_of_getElem? hp
   have hplen := HP.out.len p hmem
   have HC := zh (fun cap => check_c (cap := cap) wr (HP.out.good p hmem) hrow hplen)
   have HRW := zh hrow
   have HBW := zh (HB.out.turns hmade (fun h => h))
   have HST := zh (HP.out.start p hmem)
   have HMD := zh hmade
   clear hrow hmade hp hmem
   go_wp2_with fail
   refine (HC.out _).mono ?_
   rintro e w2 ⟨rfl, hm⟩
   have HA := zh (fun cap => any_all1 (cap := cap) w2 (HBW.out.turns hm (fun h => h)) HST.out (HRW.out.made hm) hplen)
   have HM2 := zh (HMD.out.trans hm)
   clear hm
   go_wp2_with fail
   refine (HA.out _).mono ?_
   rintro e w3 ⟨rfl, hm⟩
   have HM3 := zh (HM2.out.trans hm)
   clear hm
   go_wp2_with fail
   go_roundw
   case rel => exact ⟨k + 1, by omega, by go_num, HM3.out⟩
   case measure => simp [intOf]; omega
  ·have HMD := zh hmade
   clear hmade
   go_wp2_with fail
   go_ret
   exact ⟨rfl, HM.out.trans HMD.out⟩
structure Reg where
 r0 : Int
 r1 : Int
 r2 : Int
 r3 : Int
 r4 : Int
 r5 : Int
 r6 : Int
 r7 : Int
def Reg.get (r : Reg) : Nat → Int
 | 0 => r.r0 | 1 => r.r1 | 2 => r.r2 | 3 => r.r3 | 4 => r.r4 | 5 => r.r5 | 6 => r.r6 | 7 => r.r7 | _ => 0
def Reg.set (r : Reg) (i : Nat) (v : Int) : Reg :=
 ⟨if i = 0 then v else r.r0, if i = 1 then v else r.r1, if i = 2 then v else r.r2, if i = 3 then v else r.r3, if i = 4 then v else r.r4, if i = 5 then v else r.r5, if i = 6 then v else r.r6, if i = 7 then v else r.r7⟩
abbrev regV (r : Reg) : Value := .agg #[.int .i64 r.r0, .int .i64 r.r1, .int .i64 r.r2, .int .i64 r.r3, .int .i64 r.r4, .int .i64 r.r5, .int .i64 r.r6, .int .i64 r.r7]
theorem lt8 {i : Nat} (h : i < 8) : i = 0 ∨ i = 1 ∨ i = 2 ∨ i = 3 ∨ i = 4 ∨ i = 5 ∨ i = 6 ∨ i = 7 := by omega
structure LOut where
 pc : Int
 regs : Reg
 told : Bool
 value : Int
 ended : Bool
abbrev outA (o : LOut) : Array Value := #[.int .i64 o.pc, .int .i64 o.regs.r0, .int .i64 o.regs.r1, .int .i64 o.regs.r2, .int .i64 o.regs.r3, .int .i64 o.regs.r4, .int .i64 o.regs.r5, .int .i64 o.regs.r6, .int .i64 o.regs.r7, .bool o.told, .int .i64 o.value, .bool o.ended]
theorem res_boxO {fn : Func} {p u : Tmp} (hr : fn.results = #[.cell p 125, .tmp u]) {tmps : Array Value} {w : World} {g : Nat} {o : LOut} {v : Value} (hb : Blk w g 125 (outA o)) (hp : tmps.getD p undef = .pointer (some ⟨g, 0, none⟩)) (hv : tmps.getD u undef = v) :
  (results fn tmps).run Tryz.prog w = .ok (.tuple #[.agg (outA o), v]) w := by
 have c0 := hb.cell 0
 have c1 := hb.cell 1
 have c2 := hb.cell 2
 have c3 := hb.cell 3
 have c4 := hb.cell 4
 have c5 := hb.cell 5
 have c6 := hb.cell 6
 have c7 := hb.cell 7
 have c8 := hb.cell 8
 have c9 := hb.cell 9
 have c10 := hb.cell 10
 have c11 := hb.cell 11
 simp only [zG] at c0 c1 c2 c3 c4 c5 c6 c7 c8 c9 c10 c11
 rw [results_cell_tmp hr, hp, hv]
 go_simp
theorem ins_at {w : World} {a : Option Addr} {n : Nat} {p : List Ins} {pc : Nat} {x : Ins} (h : RowIn insC 6 w a n p) (hx : p[pc]? = some x) :
  ∃ b off, a = some ⟨b, off, none⟩ ∧ b < w.heap.size ∧ pc < n ∧ w.cell? ⟨b, off + pc * 6, none⟩ = some (.int .i64 x.op) ∧ w.cell? ⟨b, off + pc * 6 + 1, none⟩ = some (.int .i64 x.a) ∧ w.cell? ⟨b, off + pc * 6 + 2, none⟩ = some (.int .i64 x.b) ∧ w.cell? ⟨b, off + pc * 6 + 3, none⟩ = some (.int .i64 x.c) ∧ w.cell? ⟨b, off + pc * 6 + 4, none⟩ = some (.slice none 0 0) ∧ w.cell? ⟨b, off + pc * 6 + 5, none⟩ = some (.bool false) := by
 have hlt := (List.getElem?_eq_some_iff.1 hx).1
 have hn := h.1
 rcases h.2 with h0 | ⟨b, off, e, hb, hl⟩
 ·omega
 ·exact ⟨b, off, e, hb, by omega, hl pc x hx 0 _ rfl, hl pc x hx 1 _ rfl, hl pc x hx 2 _ rfl, hl pc x hx 3 _ rfl, hl pc x hx 4 _ rfl, hl pc x hx 5 _ rfl⟩
theorem Blk.put12 {w : World} {g : Nat} {t : TypeId} {u0 u1 u2 u3 u4 u5 u6 u7 u8 u9 u10 u11 : Value} (h : Blk w g t #[u0, u1, u2, u3, u4, u5, u6, u7, u8, u9, u10, u11]) (v0 v1 v2 v3 v4 v5 v6 v7 v8 v9 v10 v11 : Value) : Blk ((((((((((((w.setCell ⟨g, 0, none⟩ v0).setCell ⟨g, 1, none⟩ v1).setCell ⟨g, 2, none⟩ v2).setCell ⟨g, 3, none⟩ v3).setCell ⟨g, 4, none⟩ v4).setCell ⟨g, 5, none⟩ v5).setCell ⟨g, 6, none⟩ v6).setCell ⟨g, 7, none⟩ v7).setCell ⟨g, 8, none⟩ v8).setCell ⟨g, 9, none⟩ v9).setCell ⟨g, 10, none⟩ v10).setCell ⟨g, 11, none⟩ v11) g t #[v0, v1, v2, v3, v4, v5, v6, v7, v8, v9, v10, v11] := by
 have := ((((((((((((h.put 0 v0).put 1 v1).put 2 v2).put 3 v3).put 4 v4).put 5 v5).put 6 v6).put 7 v7).put 8 v8).put 9 v9).put 10 v10).put 11 v11)
 simpa using this
theorem set12 (w : World) (g : Nat) (v0 v1 v2 v3 v4 v5 v6 v7 v8 v9 v10 v11 : Value) : Turns (fun k => k = g) w ((((((((((((w.setCell ⟨g, 0, none⟩ v0).setCell ⟨g, 1, none⟩ v1).setCell ⟨g, 2, none⟩ v2).setCell ⟨g, 3, none⟩ v3).setCell ⟨g, 4, none⟩ v4).setCell ⟨g, 5, none⟩ v5).setCell ⟨g, 6, none⟩ v6).setCell ⟨g, 7, none⟩ v7).setCell ⟨g, 8, none⟩ v8).setCell ⟨g, 9, none⟩ v9).setCell ⟨g, 10, none⟩ v10).setCell ⟨g, 11, none⟩ v11) := (((((((((((((Turns.refl (fun k => k = g) w).setCell (p := ⟨g, 0, none⟩) (fun _ => rfl) v0).setCell (p := ⟨g, 1, none⟩) (fun _ => rfl) v1).setCell (p := ⟨g, 2, none⟩) (fun _ => rfl) v2).setCell (p := ⟨g, 3, none⟩) (fun _ => rfl) v3).setCell (p := ⟨g, 4, none⟩) (fun _ => rfl) v4).setCell (p := ⟨g, 5, none⟩) (fun _ => rfl) v5).setCell (p := ⟨g, 6, none⟩) (fun _ => rfl) v6).setCell (p := ⟨g, 7, none⟩) (fun _ => rfl) v7).setCell (p := ⟨g, 8, none⟩) (fun _ => rfl) v8).setCell (p := ⟨g, 9, none⟩) (fun _ => rfl) v9).setCell (p := ⟨g, 10, none⟩) (fun _ => rfl) v10).setCell (p := ⟨g, 11, none⟩) (fun _ => rfl) v11)
theorem out_set (pc : Int) (r : Reg) (i : Nat) (v : Int) (hi : i < 8) : (outA ⟨pc, r, false, 0, false⟩).setIfInBounds (1 + i) (.int .i64 v) = outA ⟨pc, r.set i v, false, 0, false⟩ := by
 rcases lt8 hi with rfl | rfl | rfl | rfl | rfl | rfl | rfl | rfl <;> rfl
theorem out_get (pc : Int) (r : Reg) (i : Nat) (hi : i < 8) : (outA ⟨pc, r, false, 0, false⟩)[1 + i]? = some (.int .i64 (r.get i)) := by
 rcases lt8 hi with rfl | rfl | rfl | rfl | rfl | rfl | rfl | rfl <;> rfl
theorem reg_get (r : Reg) (i : Nat) (hi : i < 8) : (#[.int .i64 r.r0, .int .i64 r.r1, .int .i64 r.r2, .int .i64 r.r3, .int .i64 r.r4, .int .i64 r.r5, .int .i64 r.r6, .int .i64 r.r7] : Array Value)[i]? = some (.int .i64 (r.get i)) := by
 rcases lt8 hi with rfl | rfl | rfl | rfl | rfl | rfl | rfl | rfl <;> rfl
theorem mine_t {op : Int} (h : mineB op = true) (w : World) : Calls Tryz.prog 75 #[.int .i64 op] w fun e w' => e = .returned (.bool true) ∧ w = w' := by
 have := mine_c op w
 rwa [h] at this
theorem mine_f {op : Int} (h : mineB op = false) (w : World) : Calls Tryz.prog 75 #[.int .i64 op] w fun e w' => e = .returned (.bool false) ∧ w = w' := by
 have := mine_c op w
 rwa [h] at this
theorem ldo_set {a : Option Addr} {p : List Ins} {cap pc i j : Nat} {v u : Int} {r : Reg} {now : Int} (w : World) (hgood : ∀ x ∈ p, GoodC x p.length) (h : RowIn insC 6 w a p.length p) (hl : p.length ≤ 100) (hx : p[pc]? = some ⟨1, i, v, u⟩) (hi : i < 8) :
  Calls Tryz.prog 48 #[.slice a p.length cap, .int .i64 pc, regV r, .int .i64 now] w fun e w' => e = .returned (.tuple #[.agg (outA ⟨pc + 1, r.set i v, false, 0, false⟩), .int .i64 0]) ∧ Made w w' := by
 have HG := zh hgood
 have HR := zh h
 clear hgood h
 go_enter Tryz.func48, Tryz.ntmps48
 go_wp2_with fail
 have H1 := zh ((Blk.new w 36 #[.int .i64 r.r0, .int .i64 r.r1, .int .i64 r.r2, .int .i64 r.r3, .int .i64 r.r4, .int .i64 r.r5, .int .i64 r.r6, .int .i64 r.r7]).alloc (.cells #[.int .i64 0, .int .i64 0, .int .i64 0, .int .i64 0, .int .i64 0, .int .i64 0, .int .i64 0, .int .i64 0, .int .i64 0, .bool false, .int .i64 0, .bool false] 125))
 have H2 := Blk.new (w.alloc (.cells #[.int .i64 r.r0, .int .i64 r.r1, .int .i64 r.r2, .int .i64 r.r3, .int .i64 r.r4, .int .i64 r.r5, .int .i64 r.r6, .int .i64 r.r7] 36)) 125 #[.int .i64 0, .int .i64 0, .int .i64 0, .int .i64 0, .int .i64 0, .int .i64 0, .int .i64 0, .int .i64 0, .int .i64 0, .bool false, .int .i64 0, .bool false]
 rw [World.size_alloc] at H2
 have H2 := zh H2
 have HM := zh (((zT w).alloc (.cells #[.int .i64 r.r0, .int .i64 r.r1, .int .i64 r.r2, .int .i64 r.r3, .int .i64 r.r4, .int .i64 r.r5, .int .i64 r.r6, .int .i64 r.r7] 36)).alloc (.cells #[.int .i64 0, .int .i64 0, .int .i64 0, .int .i64 0, .int .i64 0, .int .i64 0, .int .i64 0, .int .i64 0, .int .i64 0, .bool false, .int .i64 0, .bool false] 125))
 generalize (w.alloc (.cells #[.int .i64 r.r0, .int .i64 r.r1, .int .i64 r.r2, .int .i64 r.r3, .int .i64 r.r4, .int .i64 r.r5, .int .i64 r.r6, .int .i64 r.r7] 36)).alloc (.cells #[.int .i64 0, .int .i64 0, .int .i64 0, .int .i64 0, .int .i64 0, .int .i64 0, .int .i64 0, .int .i64 0, .int .i64 0, .bool false, .int .i64 0, .bool false] 125) = W at *
 refine (check_c (cap := cap) _ HG.out (HR.out.made HM.out) hl).mono ?_
 rintro e w1 ⟨rfl, hm1⟩
 have HM1 := zh (HM.out.trans hm1)
 have HB1 := zh (H1.out.turns hm1 (fun h => h))
 have HB2 := zh (H2.out.turns hm1 (fun h => h))
 have hsz : w.heap.size + 1 < w1.heap.size := HB2.out.lt
 clear H1 H2 HM hm1
 obtain ⟨b, off, rfl, hb1, hlt, c0, c1, c2, c3, c4, c5⟩ := ins_at (HR.out.made HM1.out) hx
 have u0 := HB1.out.cell 0
 have u1 := HB1.out.cell 1
 have u2 := HB1.out.cell 2
 have u3 := HB1.out.cell 3
 have u4 := HB1.out.cell 4
 have u5 := HB1.out.cell 5
 have u6 := HB1.out.cell 6
 have u7 := HB1.out.cell 7
 simp only [zG] at u0 u1 u2 u3 u4 u5 u6 u7
 go_wp2_with fail
 refine (mine_t (by decide) _).mono ?_
 rintro e w2 ⟨rfl, rfl⟩
 go_upto_region 17 with fail
 have HO : Blk ((w1.alloc (.cells (outA ⟨pc + 1, r, false, 0, false⟩) 125)).alloc (.cells #[.int .i64 1, .int .i64 ↑i, .int .i64 v, .int .i64 u, .slice none 0 0, .bool false] 25)) w1.heap.size 125 (outA ⟨pc + 1, r, false, 0, false⟩) := (Blk.new w1 _ _).alloc _
 have HI := Blk.new (w1.alloc (.cells (outA ⟨pc + 1, r, false, 0, false⟩) 125)) 25 #[.int .i64 1, .int .i64 ↑i, .int .i64 v, .int .i64 u, .slice none 0 0, .bool false]
 rw [World.size_alloc] at HI
 have HMV := (((zT w1).alloc (.cells (outA ⟨pc + 1, r, false, 0, false⟩) 125)).alloc (.cells #[.int .i64 1, .int .i64 ↑i, .int .i64 v, .int .i64 u, .slice none 0 0, .bool false] 25))
 have HZ := zh (HB2.out.turns HMV (fun h => h))
 have HU := zh (HB1.out.turns HMV (fun h => h))
 have HMV := zh (HM1.out.trans HMV)
 clear c0 c1 c2 c3 c4 c5 u0 u1 u2 u3 u4 u5 u6 u7
 generalize (w1.alloc (.cells (outA ⟨pc + 1, r, false, 0, false⟩) 125)).alloc (.cells #[.int .i64 1, .int .i64 ↑i, .int .i64 v, .int .i64 u, .slice none 0 0, .bool false] 25) = V at *
 have ok := (HO.cell (1 + i)).trans (out_get _ _ _ hi)
 have ofr := HO.free (1 + i)
 have HO := zh HO
 have i0 := HI.cell 0
 have i1 := HI.cell 1
 have i2 := HI.cell 2
 have i3 := HI.cell 3
 simp only [zG] at i0 i1 i2 i3
 have HI := zh HI
 go_upto_region 26 with fail
 have HO2 := HO.out.put (1 + i) (.int .i64 v)
 rw [out_set _ _ _ _ hi] at HO2
 have hne : w.heap.size + 1 ≠ w1.heap.size := by omega
 have HZ2 := zh (HZ.out.far (p := ⟨w1.heap.size, 1 + i, none⟩) hne (.int .i64 v))
 have HMV2 := zh (HMV.out.setCell (p := ⟨w1.heap.size, 1 + i, none⟩) (fun hk => by simp only at hk; omega) (.int .i64 v))
 have HO2 := zh HO2
 clear ok ofr i0 i1 i2 i3 HI
 generalize V.setCell ⟨w1.heap.size, 1 + i, none⟩ (.int .i64 v) = V2 at *
 have o0 := HO2.out.cell 0
 have o1 := HO2.out.cell 1
 have o2 := HO2.out.cell 2
 have o3 := HO2.out.cell 3
 have o4 := HO2.out.cell 4
 have o5 := HO2.out.cell 5
 have o6 := HO2.out.cell 6
 have o7 := HO2.out.cell 7
 have o8 := HO2.out.cell 8
 have o9 := HO2.out.cell 9
 have o10 := HO2.out.cell 10
 have o11 := HO2.out.cell 11
 simp only [zG] at o0 o1 o2 o3 o4 o5 o6 o7 o8 o9 o10 o11
 have z0 := HZ2.out.cell 0
 have z1 := HZ2.out.cell 1
 have z2 := HZ2.out.cell 2
 have z3 := HZ2.out.cell 3
 have z4 := HZ2.out.cell 4
 have z5 := HZ2.out.cell 5
 have z6 := HZ2.out.cell 6
 have z7 := HZ2.out.cell 7
 have z8 := HZ2.out.cell 8
 have z9 := HZ2.out.cell 9
 have z10 := HZ2.out.cell 10
 have z11 := HZ2.out.cell 11
 simp only [zG] at z0 z1 z2 z3 z4 z5 z6 z7 z8 z9 z10 z11
 have fz0 := HZ2.out.free 0
 have fz1 := HZ2.out.free 1
 have fz2 := HZ2.out.free 2
 have fz3 := HZ2.out.free 3
 have fz4 := HZ2.out.free 4
 have fz5 := HZ2.out.free 5
 have fz6 := HZ2.out.free 6
 have fz7 := HZ2.out.free 7
 have fz8 := HZ2.out.free 8
 have fz9 := HZ2.out.free 9
 have fz10 := HZ2.out.free 10
 have fz11 := HZ2.out.free 11
 go_wp2_with fail
 refine bodyPost_ret (res_boxO (o := ⟨pc + 1, r.set i v, false, 0, false⟩) rfl (HZ2.out.put12 _ _ _ _ _ _ _ _ _ _ _ _) rfl rfl) rfl ?_
 exact ⟨rfl, HMV2.out.then (set12 _ _ _ _ _ _ _ _ _ _ _ _ _ _) (fun k hk (e : k = w.heap.size + 1) => by omega)⟩
theorem ldo_now {a : Option Addr} {p : List Ins} {cap pc i j : Nat} {v u : Int} {r : Reg} {now : Int} (w : World) (hgood : ∀ x ∈ p, GoodC x p.length) (h : RowIn insC 6 w a p.length p) (hl : p.length ≤ 100) (hx : p[pc]? = some ⟨16, i, v, u⟩) (hi : i < 8) :
  Calls Tryz.prog 48 #[.slice a p.length cap, .int .i64 pc, regV r, .int .i64 now] w fun e w' => e = .returned (.tuple #[.agg (outA ⟨pc + 1, r.set i now, false, 0, false⟩), .int .i64 0]) ∧ Made w w' := by
 have HG := zh hgood
 have HR := zh h
 clear hgood h
 go_enter Tryz.func48, Tryz.ntmps48
 go_wp2_with fail
 have H1 := zh ((Blk.new w 36 #[.int .i64 r.r0, .int .i64 r.r1, .int .i64 r.r2, .int .i64 r.r3, .int .i64 r.r4, .int .i64 r.r5, .int .i64 r.r6, .int .i64 r.r7]).alloc (.cells #[.int .i64 0, .int .i64 0, .int .i64 0, .int .i64 0, .int .i64 0, .int .i64 0, .int .i64 0, .int .i64 0, .int .i64 0, .bool false, .int .i64 0, .bool false] 125))
 have H2 := Blk.new (w.alloc (.cells #[.int .i64 r.r0, .int .i64 r.r1, .int .i64 r.r2, .int .i64 r.r3, .int .i64 r.r4, .int .i64 r.r5, .int .i64 r.r6, .int .i64 r.r7] 36)) 125 #[.int .i64 0, .int .i64 0, .int .i64 0, .int .i64 0, .int .i64 0, .int .i64 0, .int .i64 0, .int .i64 0, .int .i64 0, .bool false, .int .i64 0, .bool false]
 rw [World.size_alloc] at H2
 have H2 := zh H2
 have HM := zh (((zT w).alloc (.cells #[.int .i64 r.r0, .int .i64 r.r1, .int .i64 r.r2, .int .i64 r.r3, .int .i64 r.r4, .int .i64 r.r5, .int .i64 r.r6, .int .i64 r.r7] 36)).alloc (.cells #[.int .i64 0, .int .i64 0, .int .i64 0, .int .i64 0, .int .i64 0, .int .i64 0, .int .i64 0, .int .i64 0, .int .i64 0, .bool false, .int .i64 0, .bool false] 125))
 generalize (w.alloc (.cells #[.int .i64 r.r0, .int .i64 r.r1, .int .i64 r.r2, .int .i64 r.r3, .int .i64 r.r4, .int .i64 r.r5, .int .i64 r.r6, .int .i64 r.r7] 36)).alloc (.cells #[.int .i64 0, .int .i64 0, .int .i64 0, .int .i64 0, .int .i64 0, .int .i64 0, .int .i64 0, .int .i64 0, .int .i64 0, .bool false, .int .i64 0, .bool false] 125) = W at *
 refine (check_c (cap := cap) _ HG.out (HR.out.made HM.out) hl).mono ?_
 rintro e w1 ⟨rfl, hm1⟩
 have HM1 := zh (HM.out.trans hm1)
 have HB1 := zh (H1.out.turns hm1 (fun h => h))
 have HB2 := zh (H2.out.turns hm1 (fun h => h))
 have hsz : w.heap.size + 1 < w1.heap.size := HB2.out.lt
 clear H1 H2 HM hm1
 obtain ⟨b, off, rfl, hb1, hlt, c0, c1, c2, c3, c4, c5⟩ := ins_at (HR.out.made HM1.out) hx
 have u0 := HB1.out.cell 0
 have u1 := HB1.out.cell 1
 have u2 := HB1.out.cell 2
 have u3 := HB1.out.cell 3
 have u4 := HB1.out.cell 4
 have u5 := HB1.out.cell 5
 have u6 := HB1.out.cell 6
 have u7 := HB1.out.cell 7
 simp only [zG] at u0 u1 u2 u3 u4 u5 u6 u7
 go_wp2_with fail
 refine (mine_t (by decide) _).mono ?_
 rintro e w2 ⟨rfl, rfl⟩
 go_upto_region 25 with fail
 have HO : Blk ((w1.alloc (.cells (outA ⟨pc + 1, r, false, 0, false⟩) 125)).alloc (.cells #[.int .i64 16, .int .i64 ↑i, .int .i64 v, .int .i64 u, .slice none 0 0, .bool false] 25)) w1.heap.size 125 (outA ⟨pc + 1, r, false, 0, false⟩) := (Blk.new w1 _ _).alloc _
 have HI := Blk.new (w1.alloc (.cells (outA ⟨pc + 1, r, false, 0, false⟩) 125)) 25 #[.int .i64 16, .int .i64 ↑i, .int .i64 v, .int .i64 u, .slice none 0 0, .bool false]
 rw [World.size_alloc] at HI
 have HMV := (((zT w1).alloc (.cells (outA ⟨pc + 1, r, false, 0, false⟩) 125)).alloc (.cells #[.int .i64 16, .int .i64 ↑i, .int .i64 v, .int .i64 u, .slice none 0 0, .bool false] 25))
 have HZ := zh (HB2.out.turns HMV (fun h => h))
 have HU := zh (HB1.out.turns HMV (fun h => h))
 have HMV := zh (HM1.out.trans HMV)
 clear c0 c1 c2 c3 c4 c5 u0 u1 u2 u3 u4 u5 u6 u7
 generalize (w1.alloc (.cells (outA ⟨pc + 1, r, false, 0, false⟩) 125)).alloc (.cells #[.int .i64 16, .int .i64 ↑i, .int .i64 v, .int .i64 u, .slice none 0 0, .bool false] 25) = V at *
 have ok := (HO.cell (1 + i)).trans (out_get _ _ _ hi)
 have ofr := HO.free (1 + i)
 have HO := zh HO
 have i0 := HI.cell 0
 have i1 := HI.cell 1
 have i2 := HI.cell 2
 have i3 := HI.cell 3
 simp only [zG] at i0 i1 i2 i3
 have HI := zh HI
 go_upto_region 26 with fail
 have HO2 := HO.out.put (1 + i) (.int .i64 now)
 rw [out_set _ _ _ _ hi] at HO2
 have hne : w.heap.size + 1 ≠ w1.heap.size := by omega
 have HZ2 := zh (HZ.out.far (p := ⟨w1.heap.size, 1 + i, none⟩) hne (.int .i64 now))
 have HMV2 := zh (HMV.out.setCell (p := ⟨w1.heap.size, 1 + i, none⟩) (fun hk => by simp only at hk; omega) (.int .i64 now))
 have HO2 := zh HO2
 clear ok ofr i0 i1 i2 i3 HI
 generalize V.setCell ⟨w1.heap.size, 1 + i, none⟩ (.int .i64 now) = V2 at *
 have o0 := HO2.out.cell 0
 have o1 := HO2.out.cell 1
 have o2 := HO2.out.cell 2
 have o3 := HO2.out.cell 3
 have o4 := HO2.out.cell 4
 have o5 := HO2.out.cell 5
 have o6 := HO2.out.cell 6
 have o7 := HO2.out.cell 7
 have o8 := HO2.out.cell 8
 have o9 := HO2.out.cell 9
 have o10 := HO2.out.cell 10
 have o11 := HO2.out.cell 11
 simp only [zG] at o0 o1 o2 o3 o4 o5 o6 o7 o8 o9 o10 o11
 have z0 := HZ2.out.cell 0
 have z1 := HZ2.out.cell 1
 have z2 := HZ2.out.cell 2
 have z3 := HZ2.out.cell 3
 have z4 := HZ2.out.cell 4
 have z5 := HZ2.out.cell 5
 have z6 := HZ2.out.cell 6
 have z7 := HZ2.out.cell 7
 have z8 := HZ2.out.cell 8
 have z9 := HZ2.out.cell 9
 have z10 := HZ2.out.cell 10
 have z11 := HZ2.out.cell 11
 simp only [zG] at z0 z1 z2 z3 z4 z5 z6 z7 z8 z9 z10 z11
 have fz0 := HZ2.out.free 0
 have fz1 := HZ2.out.free 1
 have fz2 := HZ2.out.free 2
 have fz3 := HZ2.out.free 3
 have fz4 := HZ2.out.free 4
 have fz5 := HZ2.out.free 5
 have fz6 := HZ2.out.free 6
 have fz7 := HZ2.out.free 7
 have fz8 := HZ2.out.free 8
 have fz9 := HZ2.out.free 9
 have fz10 := HZ2.out.free 10
 have fz11 := HZ2.out.free 11
 go_wp2_with fail
 refine bodyPost_ret (res_boxO (o := ⟨pc + 1, r.set i now, false, 0, false⟩) rfl (HZ2.out.put12 _ _ _ _ _ _ _ _ _ _ _ _) rfl rfl) rfl ?_
 exact ⟨rfl, HMV2.out.then (set12 _ _ _ _ _ _ _ _ _ _ _ _ _ _) (fun k hk (e : k = w.heap.size + 1) => by omega)⟩
theorem ldo_none {a : Option Addr} {p : List Ins} {cap pc i j : Nat} {v u : Int} {r : Reg} {now : Int} (w : World) (hgood : ∀ x ∈ p, GoodC x p.length) (h : RowIn insC 6 w a p.length p) (hl : p.length ≤ 100) (hx : ∃ ia ib ic, p[pc]? = some ⟨v, ia, ib, ic⟩) (hm : mineB v = false) :
  Calls Tryz.prog 48 #[.slice a p.length cap, .int .i64 pc, regV r, .int .i64 now] w fun e w' => e = .returned (.tuple #[.agg (outA ⟨0, ⟨0, 0, 0, 0, 0, 0, 0, 0⟩, false, 0, false⟩), .int .i64 7]) ∧ Made w w' := by
 obtain ⟨ia, ib, ic, hx⟩ := hx
 have HG := zh hgood
 have HR := zh h
 clear hgood h
 go_enter Tryz.func48, Tryz.ntmps48
 go_wp2_with fail
 have H1 := zh ((Blk.new w 36 #[.int .i64 r.r0, .int .i64 r.r1, .int .i64 r.r2, .int .i64 r.r3, .int .i64 r.r4, .int .i64 r.r5, .int .i64 r.r6, .int .i64 r.r7]).alloc (.cells #[.int .i64 0, .int .i64 0, .int .i64 0, .int .i64 0, .int .i64 0, .int .i64 0, .int .i64 0, .int .i64 0, .int .i64 0, .bool false, .int .i64 0, .bool false] 125))
 have H2 := Blk.new (w.alloc (.cells #[.int .i64 r.r0, .int .i64 r.r1, .int .i64 r.r2, .int .i64 r.r3, .int .i64 r.r4, .int .i64 r.r5, .int .i64 r.r6, .int .i64 r.r7] 36)) 125 #[.int .i64 0, .int .i64 0, .int .i64 0, .int .i64 0, .int .i64 0, .int .i64 0, .int .i64 0, .int .i64 0, .int .i64 0, .bool false, .int .i64 0, .bool false]
 rw [World.size_alloc] at H2
 have H2 := zh H2
 have HM := zh (((zT w).alloc (.cells #[.int .i64 r.r0, .int .i64 r.r1, .int .i64 r.r2, .int .i64 r.r3, .int .i64 r.r4, .int .i64 r.r5, .int .i64 r.r6, .int .i64 r.r7] 36)).alloc (.cells #[.int .i64 0, .int .i64 0, .int .i64 0, .int .i64 0, .int .i64 0, .int .i64 0, .int .i64 0, .int .i64 0, .int .i64 0, .bool false, .int .i64 0, .bool false] 125))
 generalize (w.alloc (.cells #[.int .i64 r.r0, .int .i64 r.r1, .int .i64 r.r2, .int .i64 r.r3, .int .i64 r.r4, .int .i64 r.r5, .int .i64 r.r6, .int .i64 r.r7] 36)).alloc (.cells #[.int .i64 0, .int .i64 0, .int .i64 0, .int .i64 0, .int .i64 0, .int .i64 0, .int .i64 0, .int .i64 0, .int .i64 0, .bool false, .int .i64 0, .bool false] 125) = W at *
 refine (check_c (cap := cap) _ HG.out (HR.out.made HM.out) hl).mono ?_
 rintro e w1 ⟨rfl, hm1⟩
 have HM1 := zh (HM.out.trans hm1)
 have HB1 := zh (H1.out.turns hm1 (fun h => h))
 have HB2 := zh (H2.out.turns hm1 (fun h => h))
 have hsz : w.heap.size + 1 < w1.heap.size := HB2.out.lt
 clear H1 H2 HM hm1
 obtain ⟨b, off, rfl, hb1, hlt, c0, c1, c2, c3, c4, c5⟩ := ins_at (HR.out.made HM1.out) hx
 have u0 := HB1.out.cell 0
 have u1 := HB1.out.cell 1
 have u2 := HB1.out.cell 2
 have u3 := HB1.out.cell 3
 have u4 := HB1.out.cell 4
 have u5 := HB1.out.cell 5
 have u6 := HB1.out.cell 6
 have u7 := HB1.out.cell 7
 simp only [zG] at u0 u1 u2 u3 u4 u5 u6 u7
 go_wp2_with fail
 refine (mine_f hm _).mono ?_
 rintro e w2 ⟨rfl, rfl⟩
 have z0 := HB2.out.cell 0
 have z1 := HB2.out.cell 1
 have z2 := HB2.out.cell 2
 have z3 := HB2.out.cell 3
 have z4 := HB2.out.cell 4
 have z5 := HB2.out.cell 5
 have z6 := HB2.out.cell 6
 have z7 := HB2.out.cell 7
 have z8 := HB2.out.cell 8
 have z9 := HB2.out.cell 9
 have z10 := HB2.out.cell 10
 have z11 := HB2.out.cell 11
 simp only [zG] at z0 z1 z2 z3 z4 z5 z6 z7 z8 z9 z10 z11
 have fz0 := HB2.out.free 0
 have fz1 := HB2.out.free 1
 have fz2 := HB2.out.free 2
 have fz3 := HB2.out.free 3
 have fz4 := HB2.out.free 4
 have fz5 := HB2.out.free 5
 have fz6 := HB2.out.free 6
 have fz7 := HB2.out.free 7
 have fz8 := HB2.out.free 8
 have fz9 := HB2.out.free 9
 have fz10 := HB2.out.free 10
 have fz11 := HB2.out.free 11
 have HM1 := HM1
 go_wp2_with fail
 refine bodyPost_ret (res_boxO (o := ⟨0, ⟨0, 0, 0, 0, 0, 0, 0, 0⟩, false, 0, false⟩) rfl (HB2.out.put12 _ _ _ _ _ _ _ _ _ _ _ _) rfl rfl) rfl ?_
 exact ⟨rfl, HM1.out.then (set12 _ _ _ _ _ _ _ _ _ _ _ _ _ _) (fun k hk (e : k = w.heap.size + 1) => by omega)⟩
theorem ldo_end {a : Option Addr} {p : List Ins} {cap pc i j : Nat} {v u : Int} {r : Reg} {now : Int} (w : World) (hgood : ∀ x ∈ p, GoodC x p.length) (h : RowIn insC 6 w a p.length p) (hl : p.length ≤ 100) (hx : pc = p.length)  :
  Calls Tryz.prog 48 #[.slice a p.length cap, .int .i64 pc, regV r, .int .i64 now] w fun e w' => e = .returned (.tuple #[.agg (outA ⟨pc, r, false, 0, true⟩), .int .i64 0]) ∧ Made w w' := by
 obtain rfl : p.length = pc := hx.symm
 have HG := zh hgood
 have HR := zh h
 clear hgood h
 go_enter Tryz.func48, Tryz.ntmps48
 go_wp2_with fail
 have H1 := zh ((Blk.new w 36 #[.int .i64 r.r0, .int .i64 r.r1, .int .i64 r.r2, .int .i64 r.r3, .int .i64 r.r4, .int .i64 r.r5, .int .i64 r.r6, .int .i64 r.r7]).alloc (.cells #[.int .i64 0, .int .i64 0, .int .i64 0, .int .i64 0, .int .i64 0, .int .i64 0, .int .i64 0, .int .i64 0, .int .i64 0, .bool false, .int .i64 0, .bool false] 125))
 have H2 := Blk.new (w.alloc (.cells #[.int .i64 r.r0, .int .i64 r.r1, .int .i64 r.r2, .int .i64 r.r3, .int .i64 r.r4, .int .i64 r.r5, .int .i64 r.r6, .int .i64 r.r7] 36)) 125 #[.int .i64 0, .int .i64 0, .int .i64 0, .int .i64 0, .int .i64 0, .int .i64 0, .int .i64 0, .int .i64 0, .int .i64 0, .bool false, .int .i64 0, .bool false]
 rw [World.size_alloc] at H2
 have H2 := zh H2
 have HM := zh (((zT w).alloc (.cells #[.int .i64 r.r0, .int .i64 r.r1, .int .i64 r.r2, .int .i64 r.r3, .int .i64 r.r4, .int .i64 r.r5, .int .i64 r.r6, .int .i64 r.r7] 36)).alloc (.cells #[.int .i64 0, .int .i64 0, .int .i64 0, .int .i64 0, .int .i64 0, .int .i64 0, .int .i64 0, .int .i64 0, .int .i64 0, .bool false, .int .i64 0, .bool false] 125))
 generalize (w.alloc (.cells #[.int .i64 r.r0, .int .i64 r.r1, .int .i64 r.r2, .int .i64 r.r3, .int .i64 r.r4, .int .i64 r.r5, .int .i64 r.r6, .int .i64 r.r7] 36)).alloc (.cells #[.int .i64 0, .int .i64 0, .int .i64 0, .int .i64 0, .int .i64 0, .int .i64 0, .int .i64 0, .int .i64 0, .int .i64 0, .bool false, .int .i64 0, .bool false] 125) = W at *
 refine (check_c (cap := cap) _ HG.out (HR.out.made HM.out) hl).mono ?_
 rintro e w1 ⟨rfl, hm1⟩
 have HM1 := zh (HM.out.trans hm1)
 have HB1 := zh (H1.out.turns hm1 (fun h => h))
 have HB2 := zh (H2.out.turns hm1 (fun h => h))
 have hsz : w.heap.size + 1 < w1.heap.size := HB2.out.lt
 clear H1 H2 HM hm1
 have u0 := HB1.out.cell 0
 have u1 := HB1.out.cell 1
 have u2 := HB1.out.cell 2
 have u3 := HB1.out.cell 3
 have u4 := HB1.out.cell 4
 have u5 := HB1.out.cell 5
 have u6 := HB1.out.cell 6
 have u7 := HB1.out.cell 7
 simp only [zG] at u0 u1 u2 u3 u4 u5 u6 u7
 have z0 := HB2.out.cell 0
 have z1 := HB2.out.cell 1
 have z2 := HB2.out.cell 2
 have z3 := HB2.out.cell 3
 have z4 := HB2.out.cell 4
 have z5 := HB2.out.cell 5
 have z6 := HB2.out.cell 6
 have z7 := HB2.out.cell 7
 have z8 := HB2.out.cell 8
 have z9 := HB2.out.cell 9
 have z10 := HB2.out.cell 10
 have z11 := HB2.out.cell 11
 simp only [zG] at z0 z1 z2 z3 z4 z5 z6 z7 z8 z9 z10 z11
 have fz0 := HB2.out.free 0
 have fz1 := HB2.out.free 1
 have fz2 := HB2.out.free 2
 have fz3 := HB2.out.free 3
 have fz4 := HB2.out.free 4
 have fz5 := HB2.out.free 5
 have fz6 := HB2.out.free 6
 have fz7 := HB2.out.free 7
 have fz8 := HB2.out.free 8
 have fz9 := HB2.out.free 9
 have fz10 := HB2.out.free 10
 have fz11 := HB2.out.free 11
 go_wp2_with fail
 refine bodyPost_ret (res_boxO (o := ⟨p.length, r, false, 0, true⟩) rfl (HB2.out.put12 _ _ _ _ _ _ _ _ _ _ _ _) rfl rfl) rfl ?_
 exact ⟨rfl, HM1.out.then (set12 _ _ _ _ _ _ _ _ _ _ _ _ _ _) (fun k hk (e : k = w.heap.size + 1) => by omega)⟩
end Go.Proofs.YtjnkphhlkoapbaaGreat
