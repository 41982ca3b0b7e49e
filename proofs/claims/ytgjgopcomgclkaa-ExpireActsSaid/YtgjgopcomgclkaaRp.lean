/-
  The document's heap, without the program: where an item is put, and which one goes.
-/
import Derived.Test.YtgjgopcomgclkaaRf
namespace Go.Proofs.Ytgjgopcomgclkaa
open Go.RowKit
set_option linter.unusedVariables false
set_option linter.unusedSimpArgs false

theorem insL_at {x : It} : ∀ (L : List It) (k : Nat), k ≤ L.length → (∀ y ∈ L.take k, ¬ lt x y) → (∀ y ∈ L.drop k, lt x y) → insL x L = L.take k ++ x :: L.drop k := by
  intro L
  induction L with
  | nil =>
    intro k hk _ _
    simp at hk
    subst hk
    rfl
  | cons y l ih =>
    intro k hk h1 h2
    cases k with
    | zero =>
      unfold insL
      rw [if_pos (h2 y (by simp))]
      rfl
    | succ k =>
      unfold insL
      rw [if_neg (h1 y (by simp)), ih k (by simpa using hk) (fun z hz => h1 z (by simp [hz])) (fun z hz => h2 z (by simpa using hz))]
      rfl
theorem delL_at : ∀ (L : List It) (k : Nat) (x : It), Uniq L → L[k]? = some x → delL x.id L = L.eraseIdx k := by
  intro L
  induction L with
  | nil => intro k x _ h; simp at h
  | cons y l ih =>
    intro k x hu hx
    have hn := (Uniq.iff _).1 hu
    rw [List.map_cons, List.nodup_cons] at hn
    cases k with
    | zero =>
      simp only [List.getElem?_cons_zero, Option.some.injEq] at hx
      subst hx
      rw [delL_head hu]
      rfl
    | succ k =>
      rw [List.getElem?_cons_succ] at hx
      have hxl := List.mem_of_getElem? hx
      have hne : y.id ≠ x.id := fun e => hn.1 (by rw [e]; exact List.mem_map_of_mem hxl)
      have h1 := ih k x ((Uniq.iff _).2 hn.2) hx
      unfold delL at h1 ⊢
      rw [List.filter_cons, if_pos (by simpa using hne), h1]
      rfl
end Go.Proofs.Ytgjgopcomgclkaa
