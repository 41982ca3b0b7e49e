/-
  tarpaulinlaw1.awake returns true.
-/
import Derived.Test.YtfbilfdohhcpgaaClk
namespace Go.Proofs.Ytfbilfdohhcpgaa
open Go.RowKit
set_option maxHeartbeats 2000000 in
set_option maxRecDepth 100000 in
theorem awake_c (w : World) : Calls Try.prog 16 #[] w fun e w' => e = .returned (.bool true) ∧ Below w.heap.size w w' := by
  have n1 : nextZ 10 5 22 = (25, 0) := by decide
  have n2 : nextZ 10 5 25 = (30, 0) := by decide
  have n3 : nextZ 10 0 22 = (0, 1) := by decide
  have n4 : addZ 0 7 = 7 := by decide
  have n5 : addZ 4611686018427387904 1 = 4611686018427387904 := by decide
  have n6 : addZ 3 (-heldZ 5) = -2 := by decide
  have k1 := next_c 10 5 22 w
  have k2 := next_c 10 5 25 w
  have k3 := next_c 10 0 22 w
  rw [n1] at k1
  rw [n2] at k2
  rw [n3] at k3
  have H1 := Lib.hid k1
  have H2 := Lib.hid k2
  have H3 := Lib.hid k3
  clear k1 k2 k3 n1 n2 n3
  go_enter Try.func16, Try.ntmps16
  go_wp2_with (fail)
  refine H1.out.mono ?_
  rintro e w' ⟨rfl, rfl⟩
  go_wp2_with (fail)
  refine H2.out.mono ?_
  rintro e w' ⟨rfl, rfl⟩
  go_wp2_with (fail)
  refine H3.out.mono ?_
  rintro e w' ⟨rfl, rfl⟩
  go_wp2_with (fail)
  refine (new_c _).mono ?_
  rintro e w' ⟨rfl, rfl⟩
  go_wp2_with (fail)
  refine (advance_c _ 0 7 _ (by omega) (by simp) (by simp)).mono ?_
  rintro e w' ⟨rfl, rfl⟩
  rw [n4]
  go_wp2_with (fail)
  refine (advance_neg _ (-1) (by omega) _).mono ?_
  rintro e w' ⟨rfl, rfl⟩
  go_wp2_with (fail)
  refine (now_c _ 7 _ (by simp)).mono ?_
  rintro e w' ⟨rfl, rfl⟩
  go_wp2_with (fail)
  refine (add_c _ _ _).mono ?_
  rintro e w' ⟨rfl, rfl⟩
  rw [n5]
  go_wp2_with (fail)
  refine (sub_c _ _ _).mono ?_
  rintro e w' ⟨rfl, rfl⟩
  rw [n6]
  go_wp2_with (fail)
  refine (least_c _ _ _).mono ?_
  rintro e w' ⟨rfl, rfl⟩
  go_wp2_with (fail)
  refine (now_nil _).mono ?_
  rintro e w' ⟨rfl, rfl⟩
  go_wp2_with (fail)
  refine (advance_nil _ _).mono ?_
  rintro e w' ⟨rfl, rfl⟩
  go_wp2
  go_ret
  exact ⟨rfl, by repeat (first | exact Nat.le_refl _ | exact Below.refl _ _ | apply Below.alloc | apply Below.setCell)⟩
end Go.Proofs.Ytfbilfdohhcpgaa
