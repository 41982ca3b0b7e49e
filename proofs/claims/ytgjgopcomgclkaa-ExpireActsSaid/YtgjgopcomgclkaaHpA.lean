/-
  Contracts of package heap: ahead, put.
-/
import Derived.Test.YtgjgopcomgclkaaHp
namespace Go.Proofs.Ytgjgopcomgclkaa
open Go.RowKit
set_option linter.unusedVariables false
set_option linter.unusedSimpArgs false

theorem or_r (g : Nat) (x y r : Int) (w : World) (hr : (if x ≠ 0 then x else y) = r) (h0 : w.cell? ⟨g, 0, none⟩ = some (.int .i64 x)) (h1 : w.cell? ⟨g, 1, none⟩ = some (.int .i64 y)) :
    Calls Try.prog 60 #[.slice (some ⟨g, 0, none⟩) 2 2] w fun e w' => e = .returned (.int .i64 r) ∧ w = w' := by
  subst hr
  exact or_c g x y w h0 h1

set_option maxHeartbeats 1000000 in
theorem ahead_c (a b : It) (w : World) : Calls Try.prog 56 #[aggT a, aggT b] w fun e w' => e = .returned (.int .i64 (cmpT a b)) ∧ Made w w' := by
  obtain ⟨r, hr⟩ : ∃ r, cmpT a b = r := ⟨_, rfl⟩
  rw [hr]
  have HR : Hid ((if cmpI a.when b.when ≠ 0 then cmpI a.when b.when else cmpI a.seq b.seq) = r) := Lib.hid hr
  clear hr
  unfold aggT
  go_enter Try.func56, Try.ntmps56
  go_wp2_with fail
  have hA : Blk ((w.alloc (.cells (encT a).toArray 30)).alloc (.cells (encT b).toArray 30)) w.heap.size 30 (encT a).toArray := (Blk.new w _ _).alloc _
  have hB : Blk ((w.alloc (.cells (encT a).toArray 30)).alloc (.cells (encT b).toArray 30)) (w.heap.size + 1) 30 (encT b).toArray := by
    have h := Blk.new (w.alloc (.cells (encT a).toArray 30)) 30 (encT b).toArray
    simpa using h
  have hM : Made w ((w.alloc (.cells (encT a).toArray 30)).alloc (.cells (encT b).toArray 30)) := ((Turns.refl _ _).alloc _).alloc _
  unfold encT at hA hB hM
  generalize (w.alloc (.cells [.int .i64 a.id, .int .i64 a.when, .int .i64 a.seq].toArray 30)).alloc (.cells [.int .i64 b.id, .int .i64 b.when, .int .i64 b.seq].toArray 30) = W at *
  generalize w.heap.size = p at *
  have HA := Lib.hid hA
  have HB := Lib.hid hB
  have HM := Lib.hid hM
  clear hA hB hM
  refine wp_region_held_drew (S := (fun w' => Blk w' p 30 (encT a).toArray ∧ Blk w' (p + 1) 30 (encT b).toArray ∧ Made w w')) (by kernel_rfl) ?_ (fun hHeld => ?_)
  · exact ⟨HA.out, HB.out, HM.out.drew⟩
  refine takeH (i := 0) (d := some 5) (v := ?_) rfl rfl (by kernel_rfl) (by kernel_rfl) (by kernel_rfl) (fun _ _ _ h => h) (Or.inl ⟨by rfl, ?_⟩) (by assumption) ?_
  rotate_left
  · intro w hSw
    try dsimp only at hSw
    go_simp
    try with_reducible rfl
  try simp only [Act.put, List.setIfInBounds_toArray, List.set_cons_zero, List.set_cons_succ]
  refine takeH (i := 1) (d := some 6) (v := ?_) rfl rfl (by kernel_rfl) (by kernel_rfl) (by kernel_rfl) (fun _ _ _ h => h) (Or.inl ⟨by rfl, ?_⟩) (by assumption) ?_
  rotate_left
  · intro w hSw
    try dsimp only at hSw
    have c1 := hSw.1.cell 1
    have c2 := hSw.1.cell 2
    have d1 := hSw.2.1.cell 1
    have d2 := hSw.2.1.cell 2
    simp only [encT, List.getElem?_toArray, List.getElem?_cons_zero, List.getElem?_cons_succ] at c1 c2 d1 d2
    go_simp
    try with_reducible rfl
  try simp only [Act.put, List.setIfInBounds_toArray, List.set_cons_zero, List.set_cons_succ]
  refine takeH (i := 2) (d := some 7) (v := ?_) rfl rfl (by kernel_rfl) (by kernel_rfl) (by kernel_rfl) (fun _ _ _ h => h) (Or.inl ⟨by rfl, ?_⟩) (by assumption) ?_
  rotate_left
  · intro w hSw
    try dsimp only at hSw
    go_simp
    try with_reducible rfl
  try simp only [Act.put, List.setIfInBounds_toArray, List.set_cons_zero, List.set_cons_succ]
  refine takeH (i := 3) (d := some 8) (v := ?_) rfl rfl (by kernel_rfl) (by kernel_rfl) (by kernel_rfl) (fun _ _ _ h => h) (Or.inl ⟨by rfl, ?_⟩) (by assumption) ?_
  rotate_left
  · intro w hSw
    try dsimp only at hSw
    have c1 := hSw.1.cell 1
    have c2 := hSw.1.cell 2
    have d1 := hSw.2.1.cell 1
    have d2 := hSw.2.1.cell 2
    simp only [encT, List.getElem?_toArray, List.getElem?_cons_zero, List.getElem?_cons_succ] at c1 c2 d1 d2
    go_simp
    try with_reducible rfl
  try simp only [Act.put, List.setIfInBounds_toArray, List.set_cons_zero, List.set_cons_succ]
  refine takeH (i := 5) (d := some 10) (v := ?_) rfl rfl (by kernel_rfl) (by kernel_rfl) (by kernel_rfl) (fun _ _ _ h => h) (Or.inl ⟨by rfl, ?_⟩) (by assumption) ?_
  rotate_left
  · intro w hSw
    try dsimp only at hSw
    go_simp
    try with_reducible rfl
  try simp only [Act.put, List.setIfInBounds_toArray, List.set_cons_zero, List.set_cons_succ]
  refine takeH (i := 6) (d := some 11) (v := ?_) rfl rfl (by kernel_rfl) (by kernel_rfl) (by kernel_rfl) (fun _ _ _ h => h) (Or.inl ⟨by rfl, ?_⟩) (by assumption) ?_
  rotate_left
  · intro w hSw
    try dsimp only at hSw
    have c1 := hSw.1.cell 1
    have c2 := hSw.1.cell 2
    have d1 := hSw.2.1.cell 1
    have d2 := hSw.2.1.cell 2
    simp only [encT, List.getElem?_toArray, List.getElem?_cons_zero, List.getElem?_cons_succ] at c1 c2 d1 d2
    go_simp
    try with_reducible rfl
  try simp only [Act.put, List.setIfInBounds_toArray, List.set_cons_zero, List.set_cons_succ]
  refine takeH (i := 7) (d := some 12) (v := ?_) rfl rfl (by kernel_rfl) (by kernel_rfl) (by kernel_rfl) (fun _ _ _ h => h) (Or.inl ⟨by rfl, ?_⟩) (by assumption) ?_
  rotate_left
  · intro w hSw
    try dsimp only at hSw
    go_simp
    try with_reducible rfl
  try simp only [Act.put, List.setIfInBounds_toArray, List.set_cons_zero, List.set_cons_succ]
  refine takeH (i := 8) (d := some 13) (v := ?_) rfl rfl (by kernel_rfl) (by kernel_rfl) (by kernel_rfl) (fun _ _ _ h => h) (Or.inl ⟨by rfl, ?_⟩) (by assumption) ?_
  rotate_left
  · intro w hSw
    try dsimp only at hSw
    have c1 := hSw.1.cell 1
    have c2 := hSw.1.cell 2
    have d1 := hSw.2.1.cell 1
    have d2 := hSw.2.1.cell 2
    simp only [encT, List.getElem?_toArray, List.getElem?_cons_zero, List.getElem?_cons_succ] at c1 c2 d1 d2
    go_simp
    try with_reducible rfl
  try simp only [Act.put, List.setIfInBounds_toArray, List.set_cons_zero, List.set_cons_succ]
  refine wpAnyH_ready (rs := [4]) (by kernel_rfl) (by simp) ?_
  refine AllReadyH.cons rfl (fun K hK => ?_) AllReadyH.nil
  go_simp
  refine (compare_c _ _ _).mono ?_
  rintro e w' ⟨rfl, rfl⟩
  go_wp2_with fail
  refine hK.out _ _ ?_ (fun hHeld => ?_)
  · exact hHeld
  clear hK K
  try simp only [Act.put, List.setIfInBounds_toArray, List.set_cons_zero, List.set_cons_succ]
  refine wpAnyH_ready (rs := [9]) (by kernel_rfl) (by simp) ?_
  refine AllReadyH.cons rfl (fun K hK => ?_) AllReadyH.nil
  go_simp
  refine (compare_c _ _ _).mono ?_
  rintro e w' ⟨rfl, rfl⟩
  go_wp2_with fail
  refine hK.out _ _ ?_ (fun hHeld => ?_)
  · exact hHeld
  clear hK K
  try simp only [Act.put, List.setIfInBounds_toArray, List.set_cons_zero, List.set_cons_succ]
  refine wpAnyH_ready (rs := [10]) (by kernel_rfl) (by simp) ?_
  refine AllReadyH.cons rfl (fun K hK => ?_) AllReadyH.nil
  go_simp
  refine hK.out _ _ ?_ (fun hHeld => ?_)
  · exact ⟨hHeld.1.alloc _, hHeld.2.1.alloc _, hHeld.2.2.alloc _⟩
  clear hK K
  try simp only [Act.put, List.setIfInBounds_toArray, List.set_cons_zero, List.set_cons_succ]
  refine wpAnyH_ready (rs := [11]) (by kernel_rfl) (by simp) ?_
  refine AllReadyH.cons rfl (fun K hK => ?_) AllReadyH.nil
  go_simp
  refine (or_r _ (cmpI a.when b.when) (cmpI a.seq b.seq) r _ HR.out ?o0 ?o1).mono ?_
  case o0 => exact (Blk.new W _ _).cell 0
  case o1 => exact (Blk.new W _ _).cell 1
  rintro e w' ⟨rfl, rfl⟩
  go_wp2_with fail
  refine hK.out _ _ ?_ (fun hHeld => ?_)
  · exact hHeld
  clear hK K
  try simp only [Act.put, List.setIfInBounds_toArray, List.set_cons_zero, List.set_cons_succ]
  refine takeH (i := 12) (d := some 4) (v := ?_) rfl rfl (by kernel_rfl) (by kernel_rfl) (by kernel_rfl) (fun _ _ _ h => h) (Or.inl ⟨by rfl, ?_⟩) (by assumption) ?_
  rotate_left
  · intro w hSw
    try dsimp only at hSw
    go_simp
    try with_reducible rfl
  try simp only [Act.put, List.setIfInBounds_toArray, List.set_cons_zero, List.set_cons_succ]
  refine wpAnyH_done (by kernel_rfl) ?_ _
  go_wp2_with fail
  go_ret
  exact ⟨rfl, hHeld.2.2⟩
end Go.Proofs.Ytgjgopcomgclkaa
