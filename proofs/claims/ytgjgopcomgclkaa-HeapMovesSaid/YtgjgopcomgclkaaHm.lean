/-
  HeapMoves, without the program: two rows of the same ids and times.
-/
import Derived.Test.YtgjgopcomgclkaaHl3a
namespace Go.Proofs.Ytgjgopcomgclkaa
open Go.RowKit
set_option linter.unusedVariables false
set_option linter.unusedSimpArgs false

def pr (x : It) : Int × Int := (x.id, x.when)
/-- An item that came last, and one of another row of the same ids and times: they go to the same place. -/
theorem ins_alike {x y : It} (hxy : pr x = pr y) : ∀ (D E : List It), D.map pr = E.map pr → (∀ z ∈ D, z.seq < x.seq) → (∀ z ∈ E, z.seq < y.seq) → (insL x D).map pr = (insL y E).map pr := by
  intro D
  induction D with
  | nil =>
    intro E h _ _
    have : E = [] := by
      cases E with
      | nil => rfl
      | cons e E => cases h
    subst this
    simp [insL, hxy]
  | cons d D ih =>
    intro E h h1 h2
    cases E with
    | nil => cases h
    | cons e E =>
      rw [List.map_cons, List.map_cons, List.cons.injEq] at h
      have hd := h1 d (List.mem_cons_self ..)
      have he := h2 e (List.mem_cons_self ..)
      have hp := h.1
      unfold pr at hp hxy
      simp only [Prod.mk.injEq] at hp hxy
      unfold insL
      by_cases hl : lt x d
      · have hl2 : lt y e := by unfold lt at *; omega
        rw [if_pos hl, if_pos hl2]
        simp only [List.map_cons]
        rw [h.2, h.1]
        simp [pr, hxy.1, hxy.2]
      · have hl2 : ¬ lt y e := by unfold lt at *; omega
        rw [if_neg hl, if_neg hl2, List.map_cons, List.map_cons, h.1, ih E h.2 (fun z hz => h1 z (List.mem_cons_of_mem _ hz)) (fun z hz => h2 z (List.mem_cons_of_mem _ hz))]
/-- Taking another one out, and putting one in. -/
theorem del_ins {x : It} {K : Int} (hK : x.id ≠ K) : ∀ (L : List It), L.Pairwise lt → delL K (insL x L) = insL x (delL K L) := by
  intro L
  induction L with
  | nil =>
    intro _
    unfold insL delL
    simp [hK, insL]
  | cons y l ih =>
    intro h
    rw [List.pairwise_cons] at h
    have hsub : ∀ z ∈ delL K l, lt y z := fun z hz => h.1 z (delL_mem.1 hz).1
    have hd : ∀ (a : It) (l : List It), delL K (a :: l) = if a.id = K then delL K l else a :: delL K l := fun a l => by
      unfold delL
      rw [List.filter_cons]
      by_cases e : a.id = K <;> simp [e]
    have hins : ∀ (a : It) (l : List It), insL x (a :: l) = if lt x a then x :: a :: l else a :: insL x l := fun a l => rfl
    rw [hins]
    by_cases hl : lt x y
    · rw [if_pos hl, hd, if_neg hK, hd]
      by_cases e : y.id = K
      · rw [if_pos e]
        cases hD : delL K l with
        | nil => rfl
        | cons z D =>
          rw [hins, if_pos (lt_trans' hl (hsub z (by rw [hD]; exact List.mem_cons_self ..)))]
      · rw [if_neg e, hins, if_pos hl]
    · rw [if_neg hl, hd, ih h.2, hd]
      by_cases e : y.id = K
      · rw [if_pos e, if_pos e]
      · rw [if_neg e, if_neg e, hins, if_neg hl]
theorem del_insK {x : It} {K : Int} (hK : x.id = K) (L : List It) : delL K (insL x L) = delL K L := by
  have hd : ∀ (a : It) (l : List It), delL K (a :: l) = if a.id = K then delL K l else a :: delL K l := fun a l => by
    unfold delL
    rw [List.filter_cons]
    by_cases e : a.id = K <;> simp [e]
  induction L with
  | nil => unfold insL; rw [hd, if_pos hK]
  | cons y l ih =>
    unfold insL
    split
    · rw [hd, if_pos hK]
    · rw [hd, hd, ih]
theorem pr_get {D E : List It} (h : D.map pr = E.map pr) {i : Nat} {x : It} (hx : D[i]? = some x) : ∃ y, E[i]? = some y ∧ y.id = x.id ∧ y.when = x.when := by
  have h1 : (D.map pr)[i]? = some (pr x) := by rw [List.getElem?_map, hx]; rfl
  rw [h, List.getElem?_map] at h1
  cases hy : E[i]? with
  | none => rw [hy] at h1; cases h1
  | some y =>
    rw [hy] at h1
    simp only [Option.map_some, Option.some.injEq, pr, Prod.mk.injEq] at h1
    exact ⟨y, rfl, h1.1, h1.2⟩
theorem pr_mem {D E : List It} (h : D.map pr = E.map pr) {y : It} (hy : y ∈ E) : ∃ x ∈ D, x.id = y.id := by
  have h1 : pr y ∈ D.map pr := by rw [h]; exact List.mem_map_of_mem hy
  obtain ⟨x, hx, e⟩ := List.mem_map.1 h1
  unfold pr at e
  simp only [Prod.mk.injEq] at e
  exact ⟨x, hx, e.1⟩
end Go.Proofs.Ytgjgopcomgclkaa
