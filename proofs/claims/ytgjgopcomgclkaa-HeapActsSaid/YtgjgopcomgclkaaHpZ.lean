/-
  Words for the laws of the heap: rows of bools, what was added.
-/
import Derived.Test.YtgjgopcomgclkaaHpX
namespace Go.Proofs.Ytgjgopcomgclkaa
open Go.RowKit
set_option linter.unusedVariables false
set_option linter.unusedSimpArgs false

def boolsA (n : Nat) (f : Nat → Bool) : Array Value := (Array.range n).map fun i => .bool (f i)
theorem boolsA_get {n : Nat} {f : Nat → Bool} {i : Nat} (h : i < n) : (boolsA n f)[i]? = some (.bool (f i)) := by
  unfold boolsA
  simp [h]
theorem boolsA_set {n : Nat} {f : Nat → Bool} {i : Nat} (b : Bool) : (boolsA n f).setIfInBounds i (.bool b) = boolsA n (fun j => if j = i then b else f j) := by
  unfold boolsA
  refine Array.ext (by simp) fun k h1 h2 => ?_
  simp only [Array.size_setIfInBounds, Array.size_map, Array.size_range] at h1
  rw [Array.getElem_setIfInBounds (by simpa using h1)]
  by_cases hk : i = k
  · subst hk; simp
  · simp [hk, Ne.symm hk]
theorem made_bools (n : Nat) : madeCells #[.bool false] n = boolsA n (fun _ => false) := by
  unfold madeCells boolsA
  refine Array.ext (by simp) fun k h1 h2 => ?_
  have hk : k % 1 = 0 := Nat.mod_one k
  simp [hk]
theorem Try.infoB : (Try.prog.info? 4).map (fun i => (i.zero, i.size, i.bytes)) = some (some (.bool false), 1, 1) := by kernel_rfl
theorem make_bools (n : Nat) (hn : n ≤ 1000000) (w : World) : (Instr.makeSlice 28 (.int .i64 n) (.int .i64 n)).run Try.prog w = .ok (.slice (some ⟨w.heap.size, 0, none⟩) n n) (w.alloc (.cells (boolsA n (fun _ => false)) 4)) := by
  obtain ⟨i0, hi0, hz0, hz1, hz2⟩ := info_parts Try.infoB
  have h := run_make (P := Try.prog) w 28 4 i0 _ Try.underlying28 hi0 hz0 .i64 .i64 n n (by omega) (by omega) (by rw [hz2]; omega) (by omega)
  rw [h, hz1]
  have e : madeCells (Value.bool false).cells ((n : Int).toNat * 1) = boolsA n (fun _ => false) := by
    rw [← made_bools]
    simp [Value.cells]
  rw [e]
  simp

theorem RowIn.made {α : Type} {enc : α → List Value} {size : Nat} {w w' : World} {a : Option Addr} {len : Nat} {xs : List α} (h : RowIn enc size w a len xs) (ht : Made w w') : RowIn enc size w' a len xs := by
  refine ⟨h.1, h.2.imp id ?_⟩
  rintro ⟨b, off, e, hb, hl⟩
  exact ⟨b, off, e, Nat.lt_of_lt_of_le hb ht.size, hl.keep fun o => ht.cell (p := ⟨b, o, none⟩) hb (fun h => h)⟩

/-- What was added, one by one: item i has the time ws[i], and came as the (i+1)th. -/
def itemOf (ws : List Int) (k : Nat) (x : It) : Prop := ∃ (i : Nat) (w0 : Int), i < k ∧ ws[i]? = some w0 ∧ x = ⟨i, w0, i + 1⟩
def Adds (ws : List Int) (k : Nat) (L : List It) : Prop := ∀ x, x ∈ L ↔ itemOf ws k x
theorem Adds.zero (ws : List Int) : Adds ws 0 [] := fun x => ⟨fun h => (by cases h), fun ⟨_, _, h, _⟩ => absurd h (Nat.not_lt_zero _)⟩
theorem Adds.free {ws : List Int} {k : Nat} {L : List It} (h : Adds ws k L) : findL (k : Int) L = none := by
  rw [findL_none]
  intro x hx
  obtain ⟨i, w0, hi, _, rfl⟩ := (h x).1 hx
  simp only
  omega
theorem Adds.next {ws : List Int} {k : Nat} {L : List It} {w0 : Int} (h : Adds ws k L) (hk : ws[k]? = some w0) : Adds ws (k + 1) (insL ⟨k, w0, (k : Int) + 1⟩ L) := by
  intro x
  rw [insL_mem, h x]
  constructor
  · rintro (rfl | ⟨i, w1, hi, hw, rfl⟩)
    · exact ⟨k, w0, Nat.lt_succ_self _, hk, rfl⟩
    · exact ⟨i, w1, by omega, hw, rfl⟩
  · rintro ⟨i, w1, hi, hw, rfl⟩
    by_cases hik : i = k
    · subst hik
      rw [hk] at hw
      cases hw
      exact .inl rfl
    · exact .inr ⟨i, w1, by omega, hw, rfl⟩
theorem insL_count (x : It) (L : List It) : (insL x L).length = L.length + 1 := insL_len x L
end Go.Proofs.Ytgjgopcomgclkaa
