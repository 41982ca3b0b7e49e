/-
  The pure model of a heap: sinking.
-/
import Derived.Test.YtgjgopcomgclkaaHpM
namespace Go.Proofs.Ytgjgopcomgclkaa
open Go.RowKit
set_option linter.unusedVariables false
set_option linter.unusedSimpArgs false

/-- The least of those from 'first' on, of m + 1. -/
def leastC (zs : List It) (first : Nat) : Nat → Nat
  | 0 => first
  | m + 1 => match zs[first + 1 + m]?, zs[leastC zs first m]? with
    | some u, some v => if lt u v then first + 1 + m else leastC zs first m
    | _, _ => leastC zs first m
theorem leastC_in (zs : List It) (first m : Nat) : first ≤ leastC zs first m ∧ leastC zs first m ≤ first + m := by
  induction m with
  | zero => simp [leastC]
  | succ m ih =>
    unfold leastC
    split
    · split <;> omega
    · omega
theorem leastC_succ {zs : List It} {first m : Nat} {u v : It} (hu : zs[first + 1 + m]? = some u) (hv : zs[leastC zs first m]? = some v) : leastC zs first (m + 1) = if lt u v then first + 1 + m else leastC zs first m := by
  conv => lhs; unfold leastC
  rw [hu, hv]
/-- It is the least. -/
theorem lt_trans' {a b c : It} (h1 : lt a b) (h2 : lt b c) : lt a c := by unfold lt at *; omega
theorem not_lt_trans {a b c : It} (h1 : ¬ lt b a) (h2 : ¬ lt c b) : ¬ lt c a := by unfold lt at *; omega
theorem lt_irr (a : It) : ¬ lt a a := by unfold lt; omega
theorem lt_asymm {a b : It} (h : lt a b) : ¬ lt b a := by unfold lt at *; omega
theorem leastC_least (zs : List It) (first : Nat) : ∀ (m : Nat), first + m < zs.length → ∀ (k : Nat) (u v : It), first ≤ k → k ≤ first + m → zs[k]? = some u → zs[leastC zs first m]? = some v → ¬ lt u v := by
  intro m
  induction m with
  | zero =>
    intro hm k u v h1 h2 hu hv
    obtain rfl : k = first := by omega
    unfold leastC at hv
    rw [hu] at hv
    cases hv
    exact lt_irr u
  | succ m ih =>
    intro hm k u v h1 h2 hu hv
    obtain ⟨a, ha⟩ := get_of_lt (xs := zs) (k := first + 1 + m) (by omega)
    obtain ⟨b, hb⟩ := get_of_lt (xs := zs) (k := leastC zs first m) (by have := leastC_in zs first m; omega)
    rw [leastC_succ ha hb] at hv
    by_cases hl : lt a b
    · rw [if_pos hl, ha] at hv
      cases hv
      by_cases hk : k = first + 1 + m
      · subst hk; rw [ha] at hu; cases hu; exact lt_irr _
      · exact not_lt_trans (lt_asymm hl) (ih (by omega) k u _ h1 (by omega) hu hb)
    · rw [if_neg hl, hb] at hv
      cases hv
      by_cases hk : k = first + 1 + m
      · subst hk; rw [ha] at hu; cases hu; exact hl
      · exact ih (by omega) k u _ h1 (by omega) hu hb

/-- How many more than the first stand below i. -/
def kids (n i : Nat) : Nat := min (4 * i + 5) n - (4 * i + 2)
def leastK (zs : List It) (i : Nat) : Nat := leastC zs (4 * i + 1) (kids zs.length i)
theorem leastK_in {zs : List It} {i : Nat} (h : 4 * i + 1 < zs.length) : 4 * i + 1 ≤ leastK zs i ∧ leastK zs i < zs.length ∧ leastK zs i ≤ 4 * i + 4 := by
  have h1 := leastC_in zs (4 * i + 1) (kids zs.length i)
  have h2 : kids zs.length i ≤ 3 ∧ 4 * i + 1 + kids zs.length i < zs.length := by unfold kids; omega
  unfold leastK
  omega
/-- An item sinks. -/
def downL (zs : List It) (i : Nat) : List It :=
  if h : 4 * i + 1 < zs.length then
    match zs[i]?, zs[leastK zs i]? with
    | some x, some y => if lt x y then zs else downL (swp zs i (leastK zs i) x y) (leastK zs i)
    | _, _ => zs
  else zs
termination_by zs.length - i
decreasing_by
  have := leastK_in h
  rw [swp_len]
  omega
theorem downL_end {zs : List It} {i : Nat} (h : ¬ 4 * i + 1 < zs.length) : downL zs i = zs := by rw [downL, dif_neg h]
theorem downL_stop {zs : List It} {i : Nat} {x y : It} (h : 4 * i + 1 < zs.length) (hx : zs[i]? = some x) (hy : zs[leastK zs i]? = some y) (hl : lt x y) : downL zs i = zs := by
  rw [downL, dif_pos h, hx, hy]
  simp [hl]
theorem downL_go {zs : List It} {i : Nat} {x y : It} (h : 4 * i + 1 < zs.length) (hx : zs[i]? = some x) (hy : zs[leastK zs i]? = some y) (hl : ¬ lt x y) : downL zs i = downL (swp zs i (leastK zs i) x y) (leastK zs i) := by
  rw [downL, dif_pos h, hx, hy]
  simp [hl]
/-- The hole does not matter for those below it. -/
theorem leastC_set (zs : List It) (i : Nat) (x : It) (first : Nat) (hf : i < first) (m : Nat) : leastC (zs.set i x) first m = leastC zs first m := by
  induction m with
  | zero => rfl
  | succ m ih =>
    have h1 := leastC_in zs first m
    unfold leastC
    rw [ih, List.getElem?_set_ne (by omega), List.getElem?_set_ne (by omega)]
end Go.Proofs.Ytgjgopcomgclkaa
