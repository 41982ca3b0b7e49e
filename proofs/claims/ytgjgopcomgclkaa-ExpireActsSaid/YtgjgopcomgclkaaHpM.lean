/-
  The pure model of a heap: rising, sinking, where each stands.
-/
import Derived.Test.YtgjgopcomgclkaaHpB
namespace Go.Proofs.Ytgjgopcomgclkaa
open Go.RowKit
set_option linter.unusedVariables false
set_option linter.unusedSimpArgs false

def par (i : Nat) : Nat := (i - 1) / 4
theorem par_lt {i : Nat} (h : 0 < i) : par i < i := by unfold par; omega
/-- No id stands at two places. -/
def Uniq (zs : List It) : Prop := ∀ (a b : Nat) (x y : It), zs[a]? = some x → zs[b]? = some y → x.id = y.id → a = b
/-- The map tells where each stands. -/
def PosOK (f : Int → Option Value) (zs : List It) : Prop := ∀ (id : Int) (v : Value), f id = some v ↔ ∃ (k : Nat) (x : It), zs[k]? = some x ∧ x.id = id ∧ v = .int .i64 k
def swp (zs : List It) (i j : Nat) (x y : It) : List It := (zs.set i y).set j x

theorem swp_get {zs : List It} {i j : Nat} {x y : It} (hx : zs[i]? = some x) (hy : zs[j]? = some y) (hij : i ≠ j) (k : Nat) : (swp zs i j x y)[k]? = if k = j then some x else if k = i then some y else zs[k]? := by
  have li : i < zs.length := (List.getElem?_eq_some_iff.1 hx).1
  have lj : j < zs.length := (List.getElem?_eq_some_iff.1 hy).1
  unfold swp
  rw [List.getElem?_set, List.length_set, List.getElem?_set]
  by_cases h1 : k = j
  · subst h1; simp [lj]
  · by_cases h2 : k = i
    · subst h2; simp [li, h1, Ne.symm h1]
    · simp [h1, h2, Ne.symm h1, Ne.symm h2]
theorem swp_len (zs : List It) (i j : Nat) (x y : It) : (swp zs i j x y).length = zs.length := by unfold swp; rw [List.length_set, List.length_set]
theorem swp_perm {zs : List It} {i j : Nat} {x y : It} (hx : zs[i]? = some x) (hy : zs[j]? = some y) : (swp zs i j x y).Perm zs := by
  obtain ⟨li, rfl⟩ := List.getElem?_eq_some_iff.1 hx
  obtain ⟨lj, rfl⟩ := List.getElem?_eq_some_iff.1 hy
  exact List.set_set_perm li lj
theorem Uniq.swp {zs : List It} {i j : Nat} {x y : It} (h : Uniq zs) (hx : zs[i]? = some x) (hy : zs[j]? = some y) (hij : i ≠ j) : Uniq (swp zs i j x y) := by
  intro a b u v ha hb hid
  rw [swp_get hx hy hij] at ha hb
  split at ha <;> split at hb
  · omega
  · cases ha
    split at hb
    · cases hb
      have := h _ _ _ _ hx hy hid
      omega
    · have := h _ _ _ _ hx hb hid
      omega
  · cases hb
    split at ha
    · cases ha
      have := h _ _ _ _ hy hx hid
      omega
    · have := h _ _ _ _ ha hx hid
      omega
  · split at ha <;> split at hb
    · omega
    · cases ha
      have := h _ _ _ _ hy hb hid
      omega
    · cases hb
      have := h _ _ _ _ ha hy hid
      omega
    · exact h _ _ _ _ ha hb hid
theorem PosOK.swp {f : Int → Option Value} {zs : List It} {i j : Nat} {x y : It} (hu : Uniq zs) (h : PosOK (upd f x.id (.int .i64 i)) zs) (hx : zs[i]? = some x) (hy : zs[j]? = some y) (hij : i ≠ j) :
    PosOK (upd (upd f y.id (.int .i64 i)) x.id (.int .i64 j)) (swp zs i j x y) := by
  intro id v
  have hxy : x.id ≠ y.id := fun e => hij (hu _ _ _ _ hx hy e)
  have hh := h id v
  unfold upd at hh ⊢
  by_cases h1 : id = x.id
  · subst h1
    simp only [if_true]
    constructor
    · intro hv
      cases hv
      exact ⟨j, x, by rw [swp_get hx hy hij, if_pos rfl], rfl, rfl⟩
    · rintro ⟨k, u, hk, hid, rfl⟩
      rw [swp_get hx hy hij] at hk
      split at hk
      · rename_i hkj; subst hkj; rfl
      · split at hk
        · cases hk; exact absurd hid.symm hxy
        · have := hu _ _ _ _ hk hx hid; omega
  · rw [if_neg h1] at hh ⊢
    by_cases h2 : id = y.id
    · subst h2
      simp only [if_true]
      constructor
      · intro hv
        cases hv
        exact ⟨i, y, by rw [swp_get hx hy hij, if_neg hij, if_pos rfl], rfl, rfl⟩
      · rintro ⟨k, u, hk, hid, rfl⟩
        rw [swp_get hx hy hij] at hk
        split at hk
        · cases hk; exact absurd hid hxy
        · split at hk
          · rename_i hki; subst hki; rfl
          · have := hu _ _ _ _ hk hy hid; omega
    · rw [if_neg h2]
      rw [hh]
      constructor
      · rintro ⟨k, u, hk, hid, rfl⟩
        have hki : k ≠ i := fun e => by subst e; rw [hx] at hk; cases hk; exact h1 hid.symm
        have hkj : k ≠ j := fun e => by subst e; rw [hy] at hk; cases hk; exact h2 hid.symm
        exact ⟨k, u, by rw [swp_get hx hy hij, if_neg hkj, if_neg hki]; exact hk, hid, rfl⟩
      · rintro ⟨k, u, hk, hid, rfl⟩
        rw [swp_get hx hy hij] at hk
        split at hk
        · cases hk; exact absurd hid.symm h1
        · split at hk
          · cases hk; exact absurd hid.symm h2
          · exact ⟨k, u, hk, hid, rfl⟩

/-- An item rises. -/
def upL (zs : List It) (i : Nat) : List It :=
  if h : 0 < i then
    match zs[i]?, zs[par i]? with
    | some x, some y => if lt x y then upL (swp zs i (par i) x y) (par i) else zs
    | _, _ => zs
  else zs
termination_by i
decreasing_by exact par_lt h
theorem upL_zero (zs : List It) : upL zs 0 = zs := by unfold upL; simp
theorem upL_go {zs : List It} {i : Nat} {x y : It} (h : 0 < i) (hx : zs[i]? = some x) (hy : zs[par i]? = some y) (hl : lt x y) : upL zs i = upL (swp zs i (par i) x y) (par i) := by
  rw [upL, dif_pos h, hx, hy]
  simp [hl]
theorem upL_stop {zs : List It} {i : Nat} {x y : It} (h : 0 < i) (hx : zs[i]? = some x) (hy : zs[par i]? = some y) (hl : ¬ lt x y) : upL zs i = zs := by
  rw [upL, dif_pos h, hx, hy]
  simp [hl]
end Go.Proofs.Ytgjgopcomgclkaa
