/-
  Package order: goes.
-/
import Derived.Test.YtjcmmgjaopejgaaOt
namespace Go.Proofs.Ytjcmmgjaopejgaa
open Go.RowKit Go.Sort
set_option linter.unusedVariables false
set_option linter.unusedSimpArgs false

set_option maxHeartbeats 2000000 in
set_option maxRecDepth 100000 in
theorem goes_c (g cap : Nat) (ys : List St) (k : Nat) (x : St) (e : Ev) (w : World) (ho : Owns encS 41 4 w (.slice (some ⟨g, 0, none⟩) ys.length cap) ys) (hk : ys[k]? = some x) :
    Calls Try.prog 18 #[.pointer (some ⟨g, k * 4, none⟩), aggE e] w fun r w' => (∃ v, r = .returned v) ∧ Owns encS 41 4 w' (.slice (some ⟨g, 0, none⟩) ys.length cap) (ys.set k (goesM x e)) ∧ Turns (fun c => c = g) w w' := by
  have hgl : g < w.heap.size := ho.lt rfl
  have hne : g ≠ w.heap.size := by omega
  have e1 := Owns.cell encS_len ho hk (j := 1) rfl
  have e2 := Owns.cell encS_len ho hk (j := 2) rfl
  have f1 := Owns.free ho (k * 4 + 1)
  have f2 := Owns.free ho (k * 4 + 2)
  have HO := Lib.hid ho
  have HK := Lib.hid hk
  clear ho hk
  unfold aggE
  by_cases h4 : e.kind = 4
  · have hG := Lib.hid (show goesM x e = ⟨x.task, 2, e.a, x.prog⟩ by unfold goesM; rw [if_pos h4])
    have b4 : (e.kind == 4) = true := by simp [h4]
    clear h4
    go_enter Try.func18, Try.ntmps18
    go_wp2_with fail
    go_region_law (fail)
    all_goals
      go_wp2_with fail
      go_end0
      exact ⟨⟨_, rfl⟩, by rw [hG.out]; first | exact World.ownsRow.alloc (set_one 2 e.a HO.out HK.out) _ | exact World.ownsRow.drew (World.ownsRow.alloc (set_one 2 e.a HO.out HK.out) _), by first | exact Turns.alloc (turns_two w g _ _ _ _) _ | exact Turns.drew (Turns.alloc (turns_two w g _ _ _ _) _)⟩
  have b4 : (e.kind == 4) = false := by simp [h4]
  by_cases h2 : e.kind = 2
  · have hG := Lib.hid (show goesM x e = ⟨x.task, 1, 0, x.prog⟩ by unfold goesM; rw [if_neg h4, if_pos h2])
    have b2 : (e.kind == 2) = true := by simp [h2]
    clear h4 h2
    go_enter Try.func18, Try.ntmps18
    go_wp2_with fail
    go_end0
    exact ⟨⟨_, rfl⟩, by rw [hG.out]; first | exact World.ownsRow.alloc (set_one 1 0 HO.out HK.out) _ | exact World.ownsRow.drew (World.ownsRow.alloc (set_one 1 0 HO.out HK.out) _), by first | exact Turns.alloc (turns_two w g _ _ _ _) _ | exact Turns.drew (Turns.alloc (turns_two w g _ _ _ _) _)⟩
  have b2 : (e.kind == 2) = false := by simp [h2]
  by_cases h3 : e.kind = 3
  · have hG := Lib.hid (show goesM x e = ⟨x.task, 0, 0, x.prog⟩ by unfold goesM; rw [if_neg h4, if_neg h2, if_pos (.inl h3)])
    have b3 : (e.kind == 3) = true := by simp [h3]
    clear h4 h2 h3
    go_enter Try.func18, Try.ntmps18
    go_wp2_with fail
    go_end0
    exact ⟨⟨_, rfl⟩, by rw [hG.out]; first | exact World.ownsRow.alloc (set_one 0 0 HO.out HK.out) _ | exact World.ownsRow.drew (World.ownsRow.alloc (set_one 0 0 HO.out HK.out) _), by first | exact Turns.alloc (turns_two w g _ _ _ _) _ | exact Turns.drew (Turns.alloc (turns_two w g _ _ _ _) _)⟩
  have b3 : (e.kind == 3) = false := by simp [h3]
  by_cases h1 : e.kind = 1
  · have hG := Lib.hid (show goesM x e = ⟨x.task, 0, 0, x.prog⟩ by unfold goesM; rw [if_neg h4, if_neg h2, if_pos (.inr h1)])
    have b1 : (e.kind == 1) = true := by simp [h1]
    clear h4 h2 h3 h1
    go_enter Try.func18, Try.ntmps18
    go_wp2_with fail
    go_end0
    exact ⟨⟨_, rfl⟩, by rw [hG.out]; first | exact World.ownsRow.alloc (set_one 0 0 HO.out HK.out) _ | exact World.ownsRow.drew (World.ownsRow.alloc (set_one 0 0 HO.out HK.out) _), by first | exact Turns.alloc (turns_two w g _ _ _ _) _ | exact Turns.drew (Turns.alloc (turns_two w g _ _ _ _) _)⟩
  have b1 : (e.kind == 1) = false := by simp [h1]
  have hG := Lib.hid (show ys.set k (goesM x e) = ys by
    unfold goesM
    rw [if_neg h4, if_neg h2, if_neg (by simp [h3, h1])]
    obtain ⟨hl, rfl⟩ := List.getElem?_eq_some_iff.1 HK.out
    exact List.set_getElem_self hl)
  clear h4 h2 h3 h1
  go_enter Try.func18, Try.ntmps18
  go_wp2_with fail
  go_end0
  exact ⟨⟨_, rfl⟩, by rw [hG.out]; exact World.ownsRow.alloc HO.out _, (Turns.refl _ _).alloc _⟩
end Go.Proofs.Ytjcmmgjaopejgaa
