/-
  The walks of ClockHeld and ClockOrder.
-/
import Derived.Test.YtfbilfdohhcpgaaClkAw
import Derived.Test.YtfbilfdohhcpgaaWds
namespace Go.Proofs.Ytfbilfdohhcpgaa
open Go.RowKit

theorem addZ_comm (t d : Int) : addZ t d = addZ d t := by unfold addZ; rw [Int.add_comm]
theorem addZ_bd (t d : Int) : -4611686018427387904 ≤ addZ t d ∧ addZ t d ≤ 4611686018427387904 := heldZ_bd _

set_option maxHeartbeats 2000000 in
theorem clockHeld_w (t d : Int) (w : World) : Calls Try.prog 6 #[.int .i64 t, .int .i64 d] w fun e w' => e = .returned (.bool true) ∧ Below w.heap.size w w' := by
  have HA := Lib.hid (awake_c w)
  have h1 := add_c t d w
  have h2 := add_c d t w
  rw [addZ_comm d t] at h2
  obtain ⟨b1, b2⟩ := addZ_bd t d
  have hin : t ≤ 1152921504606846976 → -1152921504606846976 ≤ t → d ≤ 1152921504606846976 → -1152921504606846976 ≤ d → addZ t d = t + d ∧ addZ (t + d) (-(heldZ d)) = t := by
    intro q1 q2 q3 q4
    unfold addZ
    rw [heldZ_id (t := t) (by omega) (by omega), heldZ_id (t := d) (by omega) (by omega), heldZ_id (t := t + d) (by omega) (by omega), heldZ_id (t := -d) (by omega) (by omega), heldZ_id (by omega) (by omega)]
    exact ⟨rfl, by omega⟩
  generalize hs : addZ t d = s at *
  have n1 : ¬ 4611686018427387904 < s := by omega
  have n2 : ¬ s < -4611686018427387904 := by omega
  have H1 := Lib.hid h1
  have H2 := Lib.hid h2
  have HI := Lib.hid hin
  clear h1 h2 hs hin
  by_cases h0 : 1152921504606846976 < t
  · go_enter Try.func6, Try.ntmps6
    go_wp2_with (fail)
    refine H1.out.mono ?_
    rintro e w' ⟨rfl, rfl⟩
    go_wp2_with (fail)
    refine H2.out.mono ?_
    rintro e w' ⟨rfl, rfl⟩
    go_wp2_with (fail)
    refine HA.out.mono ?_
    rintro e w' ⟨rfl, hb⟩
    go_wp2_with (fail)
    go_ret
    exact ⟨rfl, hb⟩
  by_cases h1 : t < -1152921504606846976
  · go_enter Try.func6, Try.ntmps6
    go_wp2_with (fail)
    refine H1.out.mono ?_
    rintro e w' ⟨rfl, rfl⟩
    go_wp2_with (fail)
    refine H2.out.mono ?_
    rintro e w' ⟨rfl, rfl⟩
    go_wp2_with (fail)
    refine HA.out.mono ?_
    rintro e w' ⟨rfl, hb⟩
    go_wp2_with (fail)
    go_ret
    exact ⟨rfl, hb⟩
  by_cases h2 : 1152921504606846976 < d
  · go_enter Try.func6, Try.ntmps6
    go_wp2_with (fail)
    refine H1.out.mono ?_
    rintro e w' ⟨rfl, rfl⟩
    go_wp2_with (fail)
    refine H2.out.mono ?_
    rintro e w' ⟨rfl, rfl⟩
    go_wp2_with (fail)
    refine HA.out.mono ?_
    rintro e w' ⟨rfl, hb⟩
    go_wp2_with (fail)
    go_ret
    exact ⟨rfl, hb⟩
  by_cases h3 : d < -1152921504606846976
  · go_enter Try.func6, Try.ntmps6
    go_wp2_with (fail)
    refine H1.out.mono ?_
    rintro e w' ⟨rfl, rfl⟩
    go_wp2_with (fail)
    refine H2.out.mono ?_
    rintro e w' ⟨rfl, rfl⟩
    go_wp2_with (fail)
    refine HA.out.mono ?_
    rintro e w' ⟨rfl, hb⟩
    go_wp2_with (fail)
    go_ret
    exact ⟨rfl, hb⟩
  obtain ⟨e1, e2⟩ := HI.out (by omega) (by omega) (by omega) (by omega)
  subst e1
  have h3 := sub_c (t + d) d w
  rw [e2] at h3
  have H3 := Lib.hid h3
  clear h3 e2 HI
  have w1 : wrap64 (t + d) = t + d := by unfold wrap64; omega
  go_enter Try.func6, Try.ntmps6
  go_wp2_with (fail)
  refine H1.out.mono ?_
  rintro e w' ⟨rfl, rfl⟩
  go_wp2_with (fail)
  refine H2.out.mono ?_
  rintro e w' ⟨rfl, rfl⟩
  go_wp2_with (fail)
  refine H3.out.mono ?_
  rintro e w' ⟨rfl, rfl⟩
  go_wp2_with (fail)
  refine HA.out.mono ?_
  rintro e w' ⟨rfl, hb⟩
  go_wp2_with (fail)
  go_ret
  exact ⟨rfl, hb⟩

set_option maxHeartbeats 2000000 in
theorem clockOrder_w (a b : Int) (w : World) : Calls Try.prog 8 #[.int .i64 a, .int .i64 b] w fun e w' => e = .returned (.bool true) ∧ Below w.heap.size w w' := by
  have HA := Lib.hid (awake_c w)
  have h1 := least_c a b w
  have h2 := least_c b a w
  by_cases hab : a < b
  case pos =>
    rw [if_neg (by omega)] at h1
    rw [if_pos hab] at h2
    have H1 := Lib.hid h1
    have H2 := Lib.hid h2
    clear h1 h2
    have n1 : ¬ b < a := by omega
    have n2 : (a == b) = false := beq_eq_false_iff_ne.mpr (by omega)
    have n3 : (a != b) = true := bne_iff_ne.mpr (by omega)
    have hs := sub_c a b w
    have hz : a ≤ 4611686018427387904 → b ≤ 4611686018427387904 → -4611686018427387904 ≤ a → -4611686018427387904 ≤ b → addZ a (-(heldZ b)) < 0 := by
      intro q1 q2 q3 q4
      unfold addZ
      rw [heldZ_id (t := b) (by omega) (by omega), heldZ_id (t := a) (by omega) (by omega), heldZ_id (t := -b) (by omega) (by omega)]
      unfold heldZ
      split <;> (try split) <;> omega
    generalize addZ a (-(heldZ b)) = z at *
    have HS := Lib.hid hs
    have HZ := Lib.hid hz
    clear hs hz
    by_cases g0 : 4611686018427387904 < a
    · go_enter Try.func8, Try.ntmps8
      go_wp2_with (fail)
      refine H1.out.mono ?_
      rintro e w' ⟨rfl, rfl⟩
      go_wp2_with (fail)
      refine H2.out.mono ?_
      rintro e w' ⟨rfl, rfl⟩
      go_wp2_with (fail)
      refine HA.out.mono ?_
      rintro e w' ⟨rfl, hb⟩
      go_wp2_with (fail)
      go_ret
      exact ⟨rfl, hb⟩
    by_cases g1 : 4611686018427387904 < b
    · go_enter Try.func8, Try.ntmps8
      go_wp2_with (fail)
      refine H1.out.mono ?_
      rintro e w' ⟨rfl, rfl⟩
      go_wp2_with (fail)
      refine H2.out.mono ?_
      rintro e w' ⟨rfl, rfl⟩
      go_wp2_with (fail)
      refine HA.out.mono ?_
      rintro e w' ⟨rfl, hb⟩
      go_wp2_with (fail)
      go_ret
      exact ⟨rfl, hb⟩
    by_cases g2 : a < -4611686018427387904
    · go_enter Try.func8, Try.ntmps8
      go_wp2_with (fail)
      refine H1.out.mono ?_
      rintro e w' ⟨rfl, rfl⟩
      go_wp2_with (fail)
      refine H2.out.mono ?_
      rintro e w' ⟨rfl, rfl⟩
      go_wp2_with (fail)
      refine HA.out.mono ?_
      rintro e w' ⟨rfl, hb⟩
      go_wp2_with (fail)
      go_ret
      exact ⟨rfl, hb⟩
    have z1 := HZ.out (by omega) (by omega) (by omega) (by omega)
    have z2 : (z == 0) = false := beq_eq_false_iff_ne.mpr (by omega)
    go_enter Try.func8, Try.ntmps8
    go_wp2_with (fail)
    refine H1.out.mono ?_
    rintro e w' ⟨rfl, rfl⟩
    go_wp2_with (fail)
    refine H2.out.mono ?_
    rintro e w' ⟨rfl, rfl⟩
    go_wp2_with (fail)
    refine HS.out.mono ?_
    rintro e w' ⟨rfl, rfl⟩
    go_wp2_with (fail)
    refine HA.out.mono ?_
    rintro e w' ⟨rfl, hb⟩
    go_wp2_with (fail)
    go_ret
    exact ⟨rfl, hb⟩
  case neg =>
    by_cases he : a = b
    case pos =>
      subst he
      rw [if_neg (by omega)] at h1
      have H1 := Lib.hid h1
      clear h1 h2
      have hs := sub_c a a w
      have hz : a ≤ 4611686018427387904 → -4611686018427387904 ≤ a → addZ a (-(heldZ a)) = 0 := by
        intro q1 q3
        unfold addZ
        rw [heldZ_id (t := a) (by omega) (by omega), heldZ_id (t := -a) (by omega) (by omega)]
        unfold heldZ
        split <;> (try split) <;> omega
      generalize addZ a (-(heldZ a)) = z at *
      have HS := Lib.hid hs
      have HZ := Lib.hid hz
      clear hs hz
      have H2 := H1
      by_cases g0 : 4611686018427387904 < a
      · go_enter Try.func8, Try.ntmps8
        go_wp2_with (fail)
        refine H1.out.mono ?_
        rintro e w' ⟨rfl, rfl⟩
        go_wp2_with (fail)
        refine H2.out.mono ?_
        rintro e w' ⟨rfl, rfl⟩
        go_wp2_with (fail)
        refine HA.out.mono ?_
        rintro e w' ⟨rfl, hb⟩
        go_wp2_with (fail)
        go_ret
        exact ⟨rfl, hb⟩
      by_cases g1 : a < -4611686018427387904
      · go_enter Try.func8, Try.ntmps8
        go_wp2_with (fail)
        refine H1.out.mono ?_
        rintro e w' ⟨rfl, rfl⟩
        go_wp2_with (fail)
        refine H2.out.mono ?_
        rintro e w' ⟨rfl, rfl⟩
        go_wp2_with (fail)
        refine HA.out.mono ?_
        rintro e w' ⟨rfl, hb⟩
        go_wp2_with (fail)
        go_ret
        exact ⟨rfl, hb⟩
      have z1 := HZ.out (by omega) (by omega)
      subst z1
      go_enter Try.func8, Try.ntmps8
      go_wp2_with (fail)
      refine H1.out.mono ?_
      rintro e w' ⟨rfl, rfl⟩
      go_wp2_with (fail)
      refine H2.out.mono ?_
      rintro e w' ⟨rfl, rfl⟩
      go_wp2_with (fail)
      refine HS.out.mono ?_
      rintro e w' ⟨rfl, rfl⟩
      go_wp2_with (fail)
      refine HA.out.mono ?_
      rintro e w' ⟨rfl, hb⟩
      go_wp2_with (fail)
      go_ret
      exact ⟨rfl, hb⟩
    case neg =>
      rw [if_pos (by omega)] at h1
      rw [if_neg hab] at h2
      have H1 := Lib.hid h1
      have H2 := Lib.hid h2
      clear h1 h2
      have n1 : b < a := by omega
      have n2 : (a == b) = false := beq_eq_false_iff_ne.mpr (by omega)
      have n3 : (b != a) = true := bne_iff_ne.mpr (by omega)
      have n4 : (a != b) = true := bne_iff_ne.mpr (by omega)
      have hs := sub_c a b w
      have hz : a ≤ 4611686018427387904 → b ≤ 4611686018427387904 → -4611686018427387904 ≤ a → -4611686018427387904 ≤ b → 0 < addZ a (-(heldZ b)) := by
        intro q1 q2 q3 q4
        unfold addZ
        rw [heldZ_id (t := b) (by omega) (by omega), heldZ_id (t := a) (by omega) (by omega), heldZ_id (t := -b) (by omega) (by omega)]
        unfold heldZ
        split <;> (try split) <;> omega
      generalize addZ a (-(heldZ b)) = z at *
      have HS := Lib.hid hs
      have HZ := Lib.hid hz
      clear hs hz he
      by_cases g0 : 4611686018427387904 < a
      · go_enter Try.func8, Try.ntmps8
        go_wp2_with (fail)
        refine H1.out.mono ?_
        rintro e w' ⟨rfl, rfl⟩
        go_wp2_with (fail)
        refine H2.out.mono ?_
        rintro e w' ⟨rfl, rfl⟩
        go_wp2_with (fail)
        refine HA.out.mono ?_
        rintro e w' ⟨rfl, hb⟩
        go_wp2_with (fail)
        go_ret
        exact ⟨rfl, hb⟩
      by_cases g2 : a < -4611686018427387904
      · go_enter Try.func8, Try.ntmps8
        go_wp2_with (fail)
        refine H1.out.mono ?_
        rintro e w' ⟨rfl, rfl⟩
        go_wp2_with (fail)
        refine H2.out.mono ?_
        rintro e w' ⟨rfl, rfl⟩
        go_wp2_with (fail)
        refine HA.out.mono ?_
        rintro e w' ⟨rfl, hb⟩
        go_wp2_with (fail)
        go_ret
        exact ⟨rfl, hb⟩
      by_cases g3 : b < -4611686018427387904
      · go_enter Try.func8, Try.ntmps8
        go_wp2_with (fail)
        refine H1.out.mono ?_
        rintro e w' ⟨rfl, rfl⟩
        go_wp2_with (fail)
        refine H2.out.mono ?_
        rintro e w' ⟨rfl, rfl⟩
        go_wp2_with (fail)
        refine HA.out.mono ?_
        rintro e w' ⟨rfl, hb⟩
        go_wp2_with (fail)
        go_ret
        exact ⟨rfl, hb⟩
      have z1 := HZ.out (by omega) (by omega) (by omega) (by omega)
      have z2 : (z == 0) = false := beq_eq_false_iff_ne.mpr (by omega)
      have z3 : ¬ z < 0 := by omega
      go_enter Try.func8, Try.ntmps8
      go_wp2_with (fail)
      refine H1.out.mono ?_
      rintro e w' ⟨rfl, rfl⟩
      go_wp2_with (fail)
      refine H2.out.mono ?_
      rintro e w' ⟨rfl, rfl⟩
      go_wp2_with (fail)
      refine HS.out.mono ?_
      rintro e w' ⟨rfl, rfl⟩
      go_wp2_with (fail)
      refine HA.out.mono ?_
      rintro e w' ⟨rfl, hb⟩
      go_wp2_with (fail)
      go_ret
      exact ⟨rfl, hb⟩
end Go.Proofs.Ytfbilfdohhcpgaa
