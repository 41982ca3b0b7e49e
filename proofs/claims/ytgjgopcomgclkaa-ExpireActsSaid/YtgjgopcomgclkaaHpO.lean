/-
  The pure model of a heap: rising and sinking keep its order.
-/
import Derived.Test.YtgjgopcomgclkaaHpN
namespace Go.Proofs.Ytgjgopcomgclkaa
open Go.RowKit
set_option linter.unusedVariables false
set_option linter.unusedSimpArgs false

/-- Each stands not ahead of the one above it. -/
def HOrd (zs : List It) : Prop := ∀ (k : Nat) (u v : It), 0 < k → zs[k]? = some u → zs[par k]? = some v → ¬ lt u v
/-- Those below i stand not ahead of the one above i. -/
def Brd (zs : List It) (i : Nat) : Prop := ∀ (k : Nat) (u v : It), 0 < k → par k = i → 0 < i → zs[k]? = some u → zs[par i]? = some v → ¬ lt u v
def UpA (zs : List It) (i : Nat) : Prop := (∀ (k : Nat) (u v : It), 0 < k → k ≠ i → zs[k]? = some u → zs[par k]? = some v → ¬ lt u v) ∧ Brd zs i
def DnA (zs : List It) (i : Nat) : Prop := (∀ (k : Nat) (u v : It), 0 < k → par k ≠ i → zs[k]? = some u → zs[par k]? = some v → ¬ lt u v) ∧ Brd zs i
def GA (zs : List It) (i : Nat) : Prop := (∀ (k : Nat) (u v : It), 0 < k → k ≠ i → par k ≠ i → zs[k]? = some u → zs[par k]? = some v → ¬ lt u v) ∧ Brd zs i

theorem HOrd.brd {zs : List It} (h : HOrd zs) (i : Nat) : Brd zs i := by
  intro k u v hk hp hi hu hv
  subst hp
  have hkl := (List.getElem?_eq_some_iff.1 hu).1
  obtain ⟨m, hm⟩ := get_of_lt (xs := zs) (k := par k) (by have := par_lt hk; omega)
  exact not_lt_trans (h _ _ _ hi hm hv) (h _ _ _ hk hu hm)
theorem HOrd.dnA {zs : List It} (h : HOrd zs) (i : Nat) : DnA zs i := ⟨fun k u v hk _ => h k u v hk, h.brd i⟩
theorem HOrd.upA {zs : List It} (h : HOrd zs) (i : Nat) : UpA zs i := ⟨fun k u v hk _ => h k u v hk, h.brd i⟩

theorem upL_heap : ∀ (i : Nat) (zs : List It), i < zs.length → UpA zs i → HOrd (upL zs i) := by
  intro i
  induction i using Nat.strongRecOn with
  | _ i ih =>
    intro zs hi ha
    by_cases h0 : 0 < i
    · have hpi := par_lt h0
      obtain ⟨x, hx⟩ := get_of_lt (xs := zs) (k := i) hi
      obtain ⟨y, hy⟩ := get_of_lt (xs := zs) (k := par i) (by omega)
      by_cases hl : lt x y
      · rw [upL_go h0 hx hy hl]
        refine ih (par i) hpi _ (by rw [swp_len]; omega) ⟨?_, ?_⟩
        · intro k u v hk hne hu hv
          have hpk := par_lt hk
          rw [swp_get hx hy (by omega)] at hu hv
          rw [if_neg hne] at hu
          by_cases hki : k = i
          · subst hki
            rw [if_pos rfl] at hu hv
            cases hu; cases hv
            exact lt_asymm hl
          · rw [if_neg hki] at hu
            by_cases hpp : par k = par i
            · rw [if_pos hpp] at hv
              cases hv
              intro hc
              exact ha.1 k u y hk hki hu (by rw [hpp]; exact hy) (lt_trans' hc hl)
            · rw [if_neg hpp] at hv
              by_cases hpk2 : par k = i
              · rw [if_pos hpk2] at hv
                cases hv
                exact ha.2 k u _ hk hpk2 h0 hu hy
              · rw [if_neg hpk2] at hv
                exact ha.1 k u v hk hki hu hv
        · intro k u v hk hp hpos hu hv
          have hpp := par_lt hpos
          obtain ⟨z, hz⟩ := get_of_lt (xs := zs) (k := par (par i)) (by omega)
          rw [swp_get hx hy (by omega)] at hu hv
          rw [if_neg (by omega), if_neg (by omega), hz] at hv
          cases hv
          have hyz := ha.1 (par i) y _ hpos (by omega) hy hz
          have hpk := par_lt hk
          rw [if_neg (by omega)] at hu
          by_cases hki : k = i
          · subst hki
            rw [if_pos rfl] at hu
            cases hu
            exact hyz
          · rw [if_neg hki] at hu
            exact not_lt_trans hyz (ha.1 k u y hk hki hu (by rw [hp]; exact hy))
      · rw [upL_stop h0 hx hy hl]
        intro k u v hk hu hv
        by_cases hki : k = i
        · subst hki
          rw [hx] at hu; rw [hy] at hv
          cases hu; cases hv
          exact hl
        · exact ha.1 k u v hk hki hu hv
    · obtain rfl : i = 0 := by omega
      rw [upL_zero]
      exact fun k u v hk hu hv => ha.1 k u v hk (by omega) hu hv

theorem kid_in {zs : List It} {k i : Nat} (hk : 0 < k) (hp : par k = i) (hl : k < zs.length) : 4 * i + 1 < zs.length + 0 ∧ 4 * i + 1 ≤ k ∧ k ≤ 4 * i + 1 + kids zs.length i ∧ 4 * i + 1 + kids zs.length i < zs.length := by
  unfold par at hp
  unfold kids
  omega
theorem leastK_least {zs : List It} {k i : Nat} {u v : It} (hk : 0 < k) (hp : par k = i) (hu : zs[k]? = some u) (hv : zs[leastK zs i]? = some v) : ¬ lt u v := by
  have h := kid_in hk hp (List.getElem?_eq_some_iff.1 hu).1
  exact leastC_least zs (4 * i + 1) (kids zs.length i) h.2.2.2 k u v h.2.1 h.2.2.1 hu hv
theorem leastK_par {zs : List It} {i : Nat} (h : 4 * i + 1 < zs.length) : par (leastK zs i) = i := by
  have := leastK_in h
  unfold par
  omega

theorem downL_heap : ∀ (n i : Nat) (zs : List It), zs.length - i ≤ n → i < zs.length → DnA zs i → HOrd (downL zs i) := by
  intro n
  induction n with
  | zero => intro i zs hn hi; omega
  | succ n ih =>
    intro i zs hn hi ha
    by_cases h0 : 4 * i + 1 < zs.length
    · have hL := leastK_in h0
      have hpL := leastK_par h0
      obtain ⟨x, hx⟩ := get_of_lt (xs := zs) (k := i) hi
      obtain ⟨y, hy⟩ := get_of_lt (xs := zs) (k := leastK zs i) hL.2.1
      by_cases hl : lt x y
      · rw [downL_stop h0 hx hy hl]
        intro k u v hk hu hv
        by_cases hki : par k = i
        · have h1 := leastK_least hk hki hu hy
          rw [hki, hx] at hv
          cases hv
          exact not_lt_trans (lt_asymm hl) h1
        · exact ha.1 k u v hk hki hu hv
      · rw [downL_go h0 hx hy hl]
        have hLs : ∀ k u, 0 < k → par k = i → zs[k]? = some u → ¬ lt u y := fun k u hk hp hu => leastK_least hk hp hu hy
        generalize leastK zs i = L at *
        refine ih L _ (by rw [swp_len]; omega) (by rw [swp_len]; omega) ⟨?_, ?_⟩
        · intro k u v hk hne hu hv
          have hpk := par_lt hk
          rw [swp_get hx hy (by omega)] at hu hv
          rw [if_neg hne] at hv
          by_cases hki : par k = i
          · rw [if_pos hki] at hv
            cases hv
            by_cases hkL : k = L
            · rw [if_pos hkL] at hu
              cases hu
              exact hl
            · rw [if_neg hkL, if_neg (by omega)] at hu
              exact hLs k u hk hki hu
          · rw [if_neg hki] at hv
            rw [if_neg (by rintro rfl; exact hki hpL)] at hu
            by_cases hke : k = i
            · subst hke
              rw [if_pos rfl] at hu
              cases hu
              exact ha.2 L _ v (by omega) hpL hk hy hv
            · rw [if_neg hke] at hu
              exact ha.1 k u v hk hki hu hv
        · intro k u v hk hp hpos hu hv
          have hpk := par_lt hk
          rw [swp_get hx hy (by omega)] at hu hv
          rw [if_neg (by omega), if_pos hpL] at hv
          cases hv
          rw [if_neg (by omega), if_neg (by omega)] at hu
          exact ha.1 k u _ hk (by omega) hu (by rw [hp]; exact hy)
    · rw [downL_end h0]
      intro k u v hk hu hv
      refine ha.1 k u v hk ?_ hu hv
      intro hp
      have := kid_in hk hp (List.getElem?_eq_some_iff.1 hu).1
      omega

theorem upL_perm : ∀ (i : Nat) (zs : List It), (upL zs i).Perm zs := by
  intro i
  induction i using Nat.strongRecOn with
  | _ i ih =>
    intro zs
    rw [upL]
    split
    · rename_i h0
      split
      · rename_i x y hx hy
        split
        · exact (ih _ (par_lt h0) _).trans (swp_perm hx hy)
        · exact List.Perm.refl _
      · exact List.Perm.refl _
    · exact List.Perm.refl _
theorem downL_perm : ∀ (n i : Nat) (zs : List It), zs.length - i ≤ n → (downL zs i).Perm zs := by
  intro n
  induction n with
  | zero =>
    intro i zs hn
    rw [downL_end (by omega)]
  | succ n ih =>
    intro i zs hn
    by_cases h0 : 4 * i + 1 < zs.length
    · have hL := leastK_in h0
      obtain ⟨x, hx⟩ := get_of_lt (xs := zs) (k := i) (by omega)
      obtain ⟨y, hy⟩ := get_of_lt (xs := zs) (k := leastK zs i) hL.2.1
      by_cases hl : lt x y
      · rw [downL_stop h0 hx hy hl]
      · rw [downL_go h0 hx hy hl]
        exact (ih _ _ (by rw [swp_len]; omega)).trans (swp_perm hx hy)
    · rw [downL_end h0]

theorem Uniq.iff (zs : List It) : Uniq zs ↔ (zs.map It.id).Nodup := by
  constructor
  · intro h
    unfold List.Nodup
    rw [List.pairwise_map, List.pairwise_iff_getElem]
    intro i j hi hj hij e
    have := h i j _ _ (List.getElem?_eq_getElem hi) (List.getElem?_eq_getElem hj) e
    omega
  · intro h a b x y ha hb hid
    unfold List.Nodup at h
    rw [List.pairwise_map, List.pairwise_iff_getElem] at h
    obtain ⟨la, rfl⟩ := List.getElem?_eq_some_iff.1 ha
    obtain ⟨lb, rfl⟩ := List.getElem?_eq_some_iff.1 hb
    rcases Nat.lt_trichotomy a b with h1 | h1 | h1
    · exact absurd hid (h a b la lb h1)
    · exact h1
    · exact absurd hid.symm (h b a lb la h1)
theorem Uniq.perm {zs ys : List It} (h : Uniq zs) (hp : ys.Perm zs) : Uniq ys := by
  rw [Uniq.iff] at h ⊢
  exact (hp.map It.id).nodup_iff.2 h

/-- One that was put at i has risen: now it may sink. -/
theorem upL_dnA {zs : List It} {i : Nat} {x : It} (hu : Uniq zs) (hx : zs[i]? = some x) (hg : GA zs i) : ∀ (j : Nat) (u : It), (upL zs i)[j]? = some u → u.id = x.id → DnA (upL zs i) j := by
  intro j u hj hid
  have hi := (List.getElem?_eq_some_iff.1 hx).1
  by_cases h0 : 0 < i
  · have hpi := par_lt h0
    obtain ⟨y, hy⟩ := get_of_lt (xs := zs) (k := par i) (by omega)
    by_cases hl : lt x y
    · refine (upL_heap i zs hi ⟨?_, hg.2⟩).dnA j
      intro k u v hk hki hku hkv
      by_cases hp : par k = i
      · rw [hp, hx] at hkv
        cases hkv
        exact fun hc => hg.2 k u y hk hp h0 hku hy (lt_trans' hc hl)
      · exact hg.1 k u v hk hki hp hku hkv
    · rw [upL_stop h0 hx hy hl] at hj ⊢
      obtain rfl := hu _ _ _ _ hj hx hid
      refine ⟨?_, hg.2⟩
      intro k u v hk hki hku hkv
      by_cases hp : k = j
      · subst hp
        rw [hx] at hku; rw [hy] at hkv
        cases hku; cases hkv
        exact hl
      · exact hg.1 k u v hk hp hki hku hkv
  · obtain rfl : i = 0 := by omega
    rw [upL_zero] at hj ⊢
    obtain rfl := hu _ _ _ _ hj hx hid
    exact ⟨fun k u v hk hki => hg.1 k u v hk (by omega) hki, hg.2⟩

/-- The first one is the least. -/
theorem HOrd.least {zs : List It} (h : HOrd zs) {m : It} (hm : zs[0]? = some m) : ∀ (k : Nat) (u : It), zs[k]? = some u → ¬ lt u m := by
  intro k
  induction k using Nat.strongRecOn with
  | _ k ih =>
    intro u hu
    by_cases h0 : 0 < k
    · have hp := par_lt h0
      obtain ⟨v, hv⟩ := get_of_lt (xs := zs) (k := par k) (by have := (List.getElem?_eq_some_iff.1 hu).1; omega)
      exact not_lt_trans (ih _ hp v hv) (h k u v h0 hu hv)
    · obtain rfl : k = 0 := by omega
      rw [hm] at hu
      cases hu
      exact lt_irr _

/-- Cutting the end keeps the order. -/
theorem HOrd.cut {zs : List It} (h : HOrd zs) : HOrd zs.dropLast := by
  intro k u v hk hu hv
  rw [List.getElem?_dropLast] at hu hv
  split at hu <;> split at hv <;> first | exact h k u v hk hu hv | (cases hu; done) | (cases hv; done)
/-- Another one at i. -/
theorem HOrd.set_GA {zs : List It} (h : HOrd zs) (i : Nat) (z : It) : GA (zs.set i z) i := by
  refine ⟨?_, ?_⟩
  · intro k u v hk hki hp hu hv
    rw [List.getElem?_set_ne (by omega)] at hu hv
    exact h k u v hk hu hv
  · intro k u v hk hp hi hu hv
    have h1 := par_lt hk
    have h2 := par_lt hi
    rw [List.getElem?_set_ne (by omega)] at hu hv
    exact h.brd i k u v hk hp hi hu hv
/-- Another one at the end. -/
theorem HOrd.add {zs : List It} (h : HOrd zs) (z : It) : UpA (zs ++ [z]) zs.length := by
  refine ⟨?_, ?_⟩
  · intro k u v hk hki hu hv
    have hkl := (List.getElem?_eq_some_iff.1 hu).1
    rw [List.length_append, List.length_singleton] at hkl
    have := par_lt hk
    rw [List.getElem?_append_left (by omega)] at hu hv
    exact h k u v hk hu hv
  · intro k u v hk hp hi hu hv
    have hkl := (List.getElem?_eq_some_iff.1 hu).1
    rw [List.length_append, List.length_singleton] at hkl
    have := par_lt hk
    omega
end Go.Proofs.Ytgjgopcomgclkaa
