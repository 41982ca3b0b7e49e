/-
  Words for memory: a slice that came in as a list of elements; a block that is known whole.
-/
import Derived.Below
import Derived.ChangeArms
import Derived.Deep.Slices
import Derived.Deep.Draws
import Derived.Laws.Rows
import Derived.Laws.OwnMore
import Derived.ChangeSame
import Derived.ProofKit
namespace Go.Proofs.Ytjcmmgjaopejgaa
open Go.RowKit Go.Deep Go.ChangeShapes Go.WideShapes

/-- 'xs' lies in memory at address 'a', element by element, each as its cells. -/
def Lies {α : Type} (enc : α → List Value) (size : Nat) (w : World) (b off : Nat) (xs : List α) : Prop :=
  ∀ (i : Nat) (x : α), xs[i]? = some x → ∀ (j : Nat) (v : Value), (enc x)[j]? = some v → w.cell? ⟨b, off + i * size + j, none⟩ = some v

/-- A slice value of 'len' elements reads as 'xs'. -/
def RowIn {α : Type} (enc : α → List Value) (size : Nat) (w : World) (a : Option Addr) (len : Nat) (xs : List α) : Prop :=
  xs.length = len ∧ (len ≤ 0 ∨ ∃ b off, a = some ⟨b, off, none⟩ ∧ b < w.heap.size ∧ Lies enc size w b off xs)

theorem cell_lt {w : World} {p : Addr} {v : Value} (h : w.cell? p = some v) : p.block < w.heap.size := by
  rcases Nat.lt_or_ge p.block w.heap.size with hlt | hge
  · exact hlt
  · unfold World.cell? at h
    rw [Array.getElem?_eq_none hge] at h
    simp at h

theorem Lies.keep {α : Type} {enc : α → List Value} {size : Nat} {w w' : World} {b off : Nat} {xs : List α} (h : Lies enc size w b off xs) (hk : ∀ o, w'.cell? ⟨b, o, none⟩ = w.cell? ⟨b, o, none⟩) : Lies enc size w' b off xs :=
  fun i x hx j v hv => (hk _).trans (h i x hx j v hv)

theorem Lies.below {α : Type} {enc : α → List Value} {size : Nat} {w w' : World} {b off B : Nat} {xs : List α} (h : Lies enc size w b off xs) (hb : Below B w w') (hlt : b < B) : Lies enc size w' b off xs :=
  h.keep fun o => hb.cell (p := ⟨b, o, none⟩) hlt

theorem add_cell (a : Addr) (n m : Nat) : (a.add n).add m = a.add (n + m) := by
  unfold Addr.add
  by_cases h1 : n = 0 <;> by_cases h2 : m = 0 <;> simp [h1, h2, Nat.add_assoc]

section
variable {H : Type} {enc0 : TypeId × Value → H} {P : Program} {w : World} {base : Nat} {spare : Nat → Bool} {held : Bool}

theorem open_row {α : Type} (enc : α → List Value) (R : α → Prop) {t e : TypeId} {size : Nat} {fuel : Nat} {a : Option Addr} {len cap : Nat} {x : DataW H × List MemPlace} (ht : P.underlying t = some (.slice e)) (hC : P.cellsOf e = size) (hpos : 0 < size)
    (hQ : ∀ (fuel : Nat) (cs : List Value) (y : DataW H × List MemPlace), DataW.trod enc0 P w base spare held fuel e cs = some y → ∃ z, cs = enc z ∧ R z)
    (h : DataW.trod enc0 P w base spare held fuel t [.slice a len cap] = some x) :
    ∃ xs : List α, RowIn enc size w a len xs ∧ len ≤ cap ∧ cap ≤ maxLen ∧ ∀ z ∈ xs, R z := by
  rcases open_slice ht h with ⟨h0, _⟩ | ⟨ad, len', cap', m, n, D, Pl, hcs, hb, hl, hm, hmm, _, hi⟩
  · simp only [List.cons.injEq, Value.slice.injEq, and_true] at h0
    obtain ⟨rfl, rfl, rfl⟩ := h0
    exact ⟨[], ⟨rfl, .inl (Nat.le_refl _)⟩, Nat.le_refl _, Nat.zero_le _, fun z hz => by cases hz⟩
  · simp only [List.cons.injEq, Value.slice.injEq, and_true] at hcs
    obtain ⟨rfl, rfl, rfl⟩ := hcs
    have hlm : len ≤ m := by rw [hmm]; split <;> omega
    have hz : ∀ i : Fin len, ∃ z, w.cells? base (ad.add (i.1 * size)) size = some (enc z) ∧ R z := fun i => by
      obtain ⟨cs', hc, htr⟩ := hi i.1 (by omega)
      obtain ⟨z, rfl, hR⟩ := hQ _ _ _ htr
      rw [hC] at hc
      exact ⟨z, hc, hR⟩
    refine ⟨List.ofFn fun i => (hz i).choose, ⟨by simp, ?_⟩, hl, hm, fun z hmem => ?_⟩
    · by_cases h0 : len ≤ 0
      · exact .inl h0
      refine .inr ?_
      have hcell : ∀ i : Fin len, ∀ j v, (enc (hz i).choose)[j]? = some v → w.cell? (ad.add (i.1 * size + j)) = some v := fun i j v hv => by
        obtain ⟨_, hlen, hat⟩ := World.cells?_some (hz i).choose_spec.1
        have hj : j < (enc (hz i).choose).length := by
          rcases Nat.lt_or_ge j (enc (hz i).choose).length with h | h
          · exact h
          · rw [List.getElem?_eq_none h] at hv; cases hv
        have := hat j (by omega)
        rw [add_cell] at this
        exact this.trans hv
      have h00 := hcell ⟨0, by omega⟩
      obtain ⟨_, hlen0, _⟩ := World.cells?_some (hz ⟨0, by omega⟩).choose_spec.1
      have hv0 : (enc (hz ⟨0, by omega⟩).choose)[0]? = some ((enc (hz ⟨0, by omega⟩).choose)[0]'(by omega)) := List.getElem?_eq_getElem (by omega)
      have hc0 := h00 0 _ hv0
      have hspot := World.cell?_spot hc0
      have had : ad.add (0 * size + 0) = ad := by unfold Addr.add; simp
      rw [show ((⟨0, by omega⟩ : Fin len).1 * size + 0) = 0 * size + 0 from rfl, had] at hspot hc0
      obtain ⟨b, off, spot⟩ := ad
      simp only at hspot
      subst hspot
      refine ⟨b, off, rfl, cell_lt hc0, fun i z hx j v hv => ?_⟩
      have hi' : i < len := by
        rcases Nat.lt_or_ge i len with h | h
        · exact h
        · rw [List.getElem?_eq_none (by simpa using h)] at hx; cases hx
      have hze : z = (hz ⟨i, hi'⟩).choose := by
        rw [List.getElem?_ofFn] at hx
        simp [hi'] at hx
        exact hx.symm
      subst hze
      have := hcell ⟨i, hi'⟩ j v hv
      rw [Addr.add_lit] at this
      rw [show off + i * size + j = off + (i * size + j) from by omega]
      exact this
    · obtain ⟨i, rfl⟩ := List.mem_ofFn.1 hmem
      exact (hz i).choose_spec.2
end

/-- An element's cell, of a slice of one-cell elements. -/
theorem Lies.one {α : Type} {f : α → Value} {w : World} {b off : Nat} {xs : List α} (h : Lies (fun x => [f x]) 1 w b off xs) {k : Nat} {x : α} (hx : xs[k]? = some x) : w.cell? ⟨b, off + k, none⟩ = some (f x) := by
  have := h k x hx 0 (f x) rfl
  simpa using this

theorem get_of_lt {α : Type} {xs : List α} {k : Nat} (h : k < xs.length) : ∃ x, xs[k]? = some x := ⟨xs[k], List.getElem?_eq_getElem h⟩

/-- Bounds of an int. -/
theorem int_bd {n : Int} (h : (Lit.int .i64 n).wf = true) : -9223372036854775808 ≤ n ∧ n ≤ 9223372036854775807 := by
  simp only [Lit.wf, Bool.and_eq_true, decide_eq_true_eq] at h
  exact ⟨h.1, h.2⟩

end Go.Proofs.Ytjcmmgjaopejgaa
