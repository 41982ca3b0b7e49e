/-
  ExpireOnce, without the program: what its second loop keeps.
-/
import Derived.Test.YtgjgopcomgclkaaEl3
namespace Go.Proofs.Ytgjgopcomgclkaa
open Go.RowKit
set_option linter.unusedVariables false
set_option linter.unusedSimpArgs false

theorem findL_isSome {L : List It} {id : Int} : (findL id L).isSome = true ↔ ∃ x ∈ L, x.id = id := by
  unfold findL
  rw [List.find?_isSome]
  simp
theorem next_free2 {due period now : Int} (h0 : 0 ≤ due) (h1 : 1 ≤ period) (h2 : period ≤ 1099511627776) (h3 : due ≤ now) (h4 : now ≤ 1099511627776) : (nextZ due period now).2 = 0 ∧ now < (nextZ due period now).1 := by
  have e2 := Int.emod_nonneg (now - due) (b := period) (by omega)
  have e3 := Int.emod_lt_of_pos (now - due) (b := period) (by omega)
  unfold nextZ
  rw [if_neg (by omega), if_neg (by omega)]
  unfold addZ
  rw [heldZ_id (t := now) (by omega) (by omega), heldZ_id (t := period - (now - due) % period) (by omega) (by omega), heldZ_id (t := now + (period - (now - due) % period)) (by omega) (by omega)]
  exact ⟨rfl, by simp only; omega⟩
def oldN (N : Nat) (L : List It) : Nat := (L.filter fun x => decide (x.seq ≤ (N : Int))).length
theorem oldN_cons {N : Nat} {x : It} {l : List It} (h : x.seq ≤ (N : Int)) : oldN N (x :: l) = oldN N l + 1 := by
  unfold oldN
  rw [List.filter_cons, if_pos (by simpa using h), List.length_cons]
theorem oldN_ins {N : Nat} {x : It} {l : List It} (h : (N : Int) < x.seq) : oldN N (insL x l) = oldN N l := by
  unfold oldN
  rw [((insL_perm x l).filter _).length_eq, List.filter_cons, if_neg (by simp only [decide_eq_true_eq]; omega)]

/-- What the loop of the takes keeps. -/
structure OnceInv (ws ps : List Int) (N : Nat) (now : Int) (L : List It) (sq : Int) (pf : Int → Option Int) (sn : Nat → Bool) (last idd : Int) (cnt : Nat) : Prop where
  old : ∀ x ∈ L, x.seq ≤ (N : Int) → ∃ (i : Nat) (z : Int), i < N ∧ ws[i]? = some z ∧ x = ⟨i, z, (i : Int) + 1⟩ ∧ sn i = false
  new : ∀ x ∈ L, (N : Int) < x.seq → now < x.when
  all : ∀ (i : Nat) (z : Int), i < N → ws[i]? = some z → sn i = false → (⟨i, z, (i : Int) + 1⟩ : It) ∈ L
  due : ∀ (i : Nat) (z : Int), i < N → ws[i]? = some z → sn i = true → z ≤ now
  agn : ∀ (i : Nat) (pd : Int), i < N → ps[i]? = some pd → sn i = true → ((findL (i : Int) L).isSome = true ↔ 0 < pd)
  per : ∀ x ∈ L, ∃ (i : Nat) (pd : Int), x.id = i ∧ i < N ∧ ps[i]? = some pd ∧ pf x.id = some pd
  ord : ∀ x ∈ L, x.seq ≤ (N : Int) → last < x.when ∨ (last = x.when ∧ idd < x.id)
  count : cnt + oldN N L = N
  sq1 : (N : Int) ≤ sq
  sq2 : sq ≤ (N : Int) + cnt

theorem OnceInv.next {ws ps : List Int} {N : Nat} {now : Int} {x : It} {l : List It} {sq : Int} {pf : Int → Option Int} {sn : Nat → Bool} {last idd : Int} {cnt : Nat} (h : OnceInv ws ps N now (x :: l) sq pf sn last idd cnt) (hu : Uniq (x :: l)) (hr : (x :: l).Pairwise lt) (hx : x.when ≤ now)
    {i : Nat} {z pd : Int} (hi : i < N) (hz : ws[i]? = some z) (hxe : x = ⟨i, z, (i : Int) + 1⟩) (hsn : sn i = false) (hp : ps[i]? = some pd) (hpf : pf x.id = some pd)
    {L' : List It} {sq' : Int} {pf' : Int → Option Int} (hL : (0 < pd ∧ (∃ nx, L' = insL ⟨x.id, nx, sq + 1⟩ l ∧ now < nx) ∧ pf' = pset pf x.id pd ∧ sq' = sq + 1) ∨ (pd ≤ 0 ∧ L' = l ∧ pf' = pdel pf x.id ∧ sq' = sq)) :
    OnceInv ws ps N now L' sq' pf' (fun j => if j = i then true else sn j) z i (cnt + 1) := by
  have hn := (Uniq.iff _).1 hu
  rw [List.map_cons, List.nodup_cons] at hn
  have hxi : x.id = (i : Int) := by rw [hxe]
  have hxs : x.seq = (i : Int) + 1 := by rw [hxe]
  have hxw : x.when = z := by rw [hxe]
  have hnl : ∀ y ∈ l, y.id ≠ x.id := fun y hy e => hn.1 (by rw [← e]; exact List.mem_map_of_mem hy)
  have hseq : x.seq ≤ (N : Int) := by omega
  have hsub : ∀ y ∈ L', y ∈ l ∨ (0 < pd ∧ y.id = x.id ∧ y.seq = sq + 1 ∧ now < y.when ∧ pf' = pset pf x.id pd) := by
    intro y hy
    rcases hL with ⟨h1, ⟨nx, rfl, h2⟩, h3, _⟩ | ⟨h1, rfl, h3, _⟩
    · rcases (insL_mem _ _ _).1 hy with rfl | hy
      · exact .inr ⟨h1, rfl, rfl, h2, h3⟩
      · exact .inl hy
    · exact .inl hy
  have hsup : ∀ y ∈ l, y ∈ L' := by
    intro y hy
    rcases hL with ⟨_, ⟨nx, rfl, _⟩, _⟩ | ⟨_, rfl, _⟩
    · exact (insL_mem _ _ _).2 (.inr hy)
    · exact hy
  have hcons : ∀ y ∈ l, y ∈ x :: l := fun y hy => List.mem_cons_of_mem _ hy
  have hpk : ∀ y ∈ l, pf' y.id = pf y.id := by
    intro y hy
    have := hnl y hy
    rcases hL with ⟨_, _, rfl, _⟩ | ⟨_, _, rfl, _⟩
    · unfold pset; rw [if_neg this]
    · unfold pdel; rw [if_neg this]
  have hsn' : ∀ j, (if j = i then true else sn j) = false → j ≠ i ∧ sn j = false := fun j hj => by
    by_cases e : j = i
    · rw [if_pos e] at hj; cases hj
    · rw [if_neg e] at hj; exact ⟨e, hj⟩
  have hold : oldN N L' = oldN N l := by
    rcases hL with ⟨_, ⟨nx, rfl, _⟩, _⟩ | ⟨_, rfl, _⟩
    · exact oldN_ins (by have := h.sq1; simp only; omega)
    · rfl
  have hc := h.count
  rw [oldN_cons hseq] at hc
  refine ⟨?_, ?_, ?_, ?_, ?_, ?_, ?_, by rw [hold]; omega, ?_, ?_⟩
  · intro y hy hys
    rcases hsub y hy with hy | ⟨_, _, h2, _⟩
    · obtain ⟨j, z', h1, h2, h3, h4⟩ := h.old y (hcons y hy) hys
      refine ⟨j, z', h1, h2, h3, ?_⟩
      rw [if_neg]
      · exact h4
      · intro e
        subst e
        exact hnl y hy (by rw [h3, hxi])
    · have := h.sq1; omega
  · intro y hy hys
    rcases hsub y hy with hy | ⟨_, _, _, h2, _⟩
    · exact h.new y (hcons y hy) hys
    · exact h2
  · intro j z' hj hz' hs
    obtain ⟨hne, hs⟩ := hsn' j hs
    have hm := h.all j z' hj hz' hs
    rcases List.mem_cons.1 hm with e | hm
    · rw [hxe] at e
      simp only [It.mk.injEq] at e
      omega
    · exact hsup _ hm
  · intro j z' hj hz' hs
    by_cases e : j = i
    · subst e
      rw [hz] at hz'
      cases hz'
      omega
    · rw [if_neg e] at hs
      exact h.due j z' hj hz' hs
  · intro j pd' hj hp' hs
    rw [findL_isSome]
    by_cases e : j = i
    · subst e
      rw [hp] at hp'
      cases hp'
      constructor
      · rintro ⟨y, hy, he⟩
        rcases hsub y hy with hy | ⟨h1, _⟩
        · exact absurd (by rw [he, hxi]) (hnl y hy)
        · exact h1
      · intro h1
        rcases hL with ⟨_, ⟨nx, rfl, _⟩, _⟩ | ⟨h2, _⟩
        · exact ⟨_, (insL_mem _ _ _).2 (.inl rfl), hxi⟩
        · omega
    · rw [if_neg e] at hs
      rw [← h.agn j pd' hj hp' hs, findL_isSome]
      constructor
      · rintro ⟨y, hy, he⟩
        rcases hsub y hy with hy | ⟨_, h2, _⟩
        · exact ⟨y, hcons y hy, he⟩
        · omega
      · rintro ⟨y, hy, he⟩
        rcases List.mem_cons.1 hy with rfl | hy
        · omega
        · exact ⟨y, hsup y hy, he⟩
  · intro y hy
    rcases hsub y hy with hy | ⟨_, h2, _, _, h3⟩
    · obtain ⟨j, pd', h1, h2, h3, h4⟩ := h.per y (hcons y hy)
      exact ⟨j, pd', h1, h2, h3, by rw [hpk y hy]; exact h4⟩
    · refine ⟨i, pd, by omega, hi, hp, ?_⟩
      rw [h3, h2]
      simp [pset]
  · intro y hy hys
    rcases hsub y hy with hy | ⟨_, _, h2, _⟩
    · have hl := (List.pairwise_cons.1 hr).1 y hy
      obtain ⟨j, z', h1, h2, h3, h4⟩ := h.old y (hcons y hy) hys
      have hyi : y.id = (j : Int) := by rw [h3]
      have hysq : y.seq = (j : Int) + 1 := by rw [h3]
      unfold lt at hl
      omega
    · have := h.sq1; omega
  · have := h.sq1
    rcases hL with ⟨_, _, _, e⟩ | ⟨_, _, _, e⟩ <;> omega
  · have := h.sq2
    rcases hL with ⟨_, _, _, e⟩ | ⟨_, _, _, e⟩ <;> omega
theorem oldN_all {N : Nat} {L : List It} (h : ∀ x ∈ L, x.seq ≤ (N : Int)) : oldN N L = L.length := by
  unfold oldN
  rw [List.filter_eq_self.2 (fun x hx => by simpa using h x hx)]
theorem OnceInv.start {ws ps : List Int} {N : Nat} {now : Int} {L : List It} {pf : Int → Option Int} (ha : Adds ws N L) (hl : L.length = N) (hw : ∀ (i : Nat) (z : Int), i < N → ws[i]? = some z → 0 ≤ z) (hp : ∀ x ∈ L, ∃ (i : Nat) (pd : Int), x.id = i ∧ i < N ∧ ps[i]? = some pd ∧ pf x.id = some pd) :
    OnceInv ws ps N now L N pf (fun _ => false) (-1) (-1) 0 := by
  have hs : ∀ x ∈ L, x.seq ≤ (N : Int) := fun x hx => by
    obtain ⟨i, z, hi, _, rfl⟩ := (ha x).1 hx
    simp only
    omega
  refine ⟨?_, ?_, ?_, ?_, ?_, hp, ?_, by rw [oldN_all hs, hl]; omega, Int.le_refl _, by omega⟩
  · intro x hx _
    obtain ⟨i, z, hi, hz, e⟩ := (ha x).1 hx
    exact ⟨i, z, hi, hz, e, rfl⟩
  · intro x hx h
    have := hs x hx
    omega
  · intro i z hi hz _
    exact (ha _).2 ⟨i, z, hi, hz, rfl⟩
  · intro _ _ _ _ h; cases h
  · intro _ _ _ _ h; cases h
  · intro x hx _
    obtain ⟨i, z, hi, hz, rfl⟩ := (ha x).1 hx
    have := hw i z hi hz
    exact .inl (by simp only; omega)
end Go.Proofs.Ytgjgopcomgclkaa
