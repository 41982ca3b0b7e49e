/-
  The walks of the clock's laws over three or two integers.
-/
import Derived.Test.YtfbilfdohhcpgaaClkAw
import Derived.Test.YtfbilfdohhcpgaaClkNx
import Derived.Test.YtfbilfdohhcpgaaWds
namespace Go.Proofs.Ytfbilfdohhcpgaa
open Go.RowKit

section
attribute [local go_sem] mx2 mn2 mx_two mn_two mx_three

set_option maxHeartbeats 1000000 in
theorem clockTells_w (t d p : Int) (w : World) : Calls Try.prog 3 #[.int .i64 t, .int .i64 d, .int .i64 p] w fun e w' => e = .returned (.bool true) ∧ Below w.heap.size w w' := by
  have h1 := next_c t p d w
  have h2 := rnext_c t p d w
  generalize (nextZ t p d).1 = n1 at *
  generalize (nextZ t p d).2 = n2 at *
  have H1 := Lib.hid h1
  have H2 := Lib.hid h2
  clear h1 h2
  have h3 := least_c t d w
  by_cases hm : d < t
  all_goals
    first | rw [if_pos hm] at h3 | rw [if_neg hm] at h3
    have H3 := Lib.hid h3
    clear h3
    go_enter Try.func3, Try.ntmps3
    go_wp2_with (fail)
    refine H1.out.mono ?_
    rintro e w' ⟨rfl, rfl⟩
    go_wp2_with (fail)
    refine H2.out.mono ?_
    rintro e w' ⟨rfl, rfl⟩
    go_wp2_with (fail)
    refine (add_c _ _ _).mono ?_
    rintro e w' ⟨rfl, rfl⟩
    go_wp2_with (fail)
    refine (radd_c _ _ _).mono ?_
    rintro e w' ⟨rfl, rfl⟩
    go_wp2_with (fail)
    refine (sub_c _ _ _).mono ?_
    rintro e w' ⟨rfl, rfl⟩
    go_wp2_with (fail)
    refine (rsub_c _ _ _).mono ?_
    rintro e w' ⟨rfl, rfl⟩
    go_wp2_with (fail)
    refine H3.out.mono ?_
    rintro e w' ⟨rfl, rfl⟩
    go_wp2_with (fail)
    refine (awake_c _).mono ?_
    rintro e w' ⟨rfl, hb⟩
    go_wp2_with (fail)
    go_ret
    exact ⟨rfl, hb⟩
end

theorem rows_pure {when_ period now : Int} (h1 : 0 ≤ when_) (h2 : when_ ≤ 1099511627776) (h3 : 1 ≤ period) (h4 : period ≤ 1099511627776) (h5 : 0 ≤ now) (h6 : now ≤ 1125899906842624) :
    ∃ n, nextZ when_ period now = (n, 0) ∧ now < n ∧ when_ ≤ n ∧ (n - when_).tmod period = 0 ∧ n ≤ 1126999418470400 ∧ (n = when_ ∨ ¬ n = when_ ∧ n - period ≤ now) := by
  have hbad : ¬ (period < 1 ∨ when_ < 0 ∨ now < 0 ∨ 4611686018427387904 < when_ ∨ 4611686018427387904 < period ∨ 4611686018427387904 < now) := by omega
  unfold nextZ
  rw [if_neg hbad]
  by_cases h : now < when_
  · rw [if_pos h]
    exact ⟨when_, rfl, h, by omega, by simp, by omega, .inl rfl⟩
  · rw [if_neg h]
    have e := Int.emod_add_mul_ediv (now - when_) period
    have q4 : 0 ≤ (now - when_) % period := Int.emod_nonneg _ (by omega)
    have q5 : (now - when_) % period < period := Int.emod_lt_of_pos _ (by omega)
    have hz : (now + (period - (now - when_) % period) - when_) % period = 0 := by
      rw [show now + (period - (now - when_) % period) - when_ = period * ((now - when_) / period + 1) from by rw [Int.mul_add]; omega]
      exact Int.mul_emod_right _ _
    have ht : (now + (period - (now - when_) % period) - when_).tmod period = 0 := by
      rw [Int.tmod_eq_emod_of_nonneg (by omega)]
      exact hz
    unfold addZ
    generalize (now - when_) % period = r at *
    rw [heldZ_id (t := now) (by omega) (by omega), heldZ_id (t := period - r) (by omega) (by omega), heldZ_id (by omega) (by omega)]
    exact ⟨_, rfl, by omega, by omega, ht, by omega, by omega⟩

set_option maxHeartbeats 2000000 in
theorem clockRows_w (when_ period now : Int) (w : World) : Calls Try.prog 5 #[.int .i64 when_, .int .i64 period, .int .i64 now] w fun e w' => e = .returned (.bool true) ∧ Below w.heap.size w w' := by
  have HA := Lib.hid (awake_c w)
  by_cases h0 : when_ < 0
  · go_enter Try.func5, Try.ntmps5
    go_wp2_with (fail)
    refine HA.out.mono ?_
    rintro e w' ⟨rfl, hb⟩
    go_wp2_with (fail)
    go_ret
    exact ⟨rfl, hb⟩
  by_cases h1 : 1099511627776 < when_
  · go_enter Try.func5, Try.ntmps5
    go_wp2_with (fail)
    refine HA.out.mono ?_
    rintro e w' ⟨rfl, hb⟩
    go_wp2_with (fail)
    go_ret
    exact ⟨rfl, hb⟩
  by_cases h2 : period < 1
  · go_enter Try.func5, Try.ntmps5
    go_wp2_with (fail)
    refine HA.out.mono ?_
    rintro e w' ⟨rfl, hb⟩
    go_wp2_with (fail)
    go_ret
    exact ⟨rfl, hb⟩
  by_cases h3 : 1099511627776 < period
  · go_enter Try.func5, Try.ntmps5
    go_wp2_with (fail)
    refine HA.out.mono ?_
    rintro e w' ⟨rfl, hb⟩
    go_wp2_with (fail)
    go_ret
    exact ⟨rfl, hb⟩
  by_cases h4 : now < 0
  · go_enter Try.func5, Try.ntmps5
    go_wp2_with (fail)
    refine HA.out.mono ?_
    rintro e w' ⟨rfl, hb⟩
    go_wp2_with (fail)
    go_ret
    exact ⟨rfl, hb⟩
  by_cases h5 : 1125899906842624 < now
  · go_enter Try.func5, Try.ntmps5
    go_wp2_with (fail)
    refine HA.out.mono ?_
    rintro e w' ⟨rfl, hb⟩
    go_wp2_with (fail)
    go_ret
    exact ⟨rfl, hb⟩
  obtain ⟨n, hn, p1, p2, p3, p4, p5⟩ := rows_pure (when_ := when_) (period := period) (now := now) (by omega) (by omega) (by omega) (by omega) (by omega) (by omega)
  have h := next_c when_ period now w
  rw [hn] at h
  have H := Lib.hid h
  clear h hn
  have w1 : wrap64 (n - when_) = n - when_ := by unfold wrap64; omega
  have w2 : wrap64 (n - period) = n - period := by unfold wrap64; omega
  have w3 : wrap64 ((n - when_).tmod period) = 0 := by rw [p3]; unfold wrap64; omega
  have n1 : ¬ period = 0 := by omega
  have n2 : (period == 0) = false := beq_eq_false_iff_ne.mpr n1
  have n3 : ¬ n ≤ now := by omega
  have n4 : ¬ n < when_ := by omega
  rcases p5 with p5 | ⟨p5, p6⟩
  · subst p5
    go_enter Try.func5, Try.ntmps5
    go_wp2_with (fail)
    refine H.out.mono ?_
    rintro e w' ⟨rfl, rfl⟩
    go_wp2_with (fail)
    refine HA.out.mono ?_
    rintro e w' ⟨rfl, hb⟩
    go_wp2_with (fail)
    go_ret
    exact ⟨rfl, hb⟩
  · have p7 : (n == when_) = false := beq_eq_false_iff_ne.mpr p5
    go_enter Try.func5, Try.ntmps5
    go_wp2_with (fail)
    refine H.out.mono ?_
    rintro e w' ⟨rfl, rfl⟩
    go_wp2_with (fail)
    refine HA.out.mono ?_
    rintro e w' ⟨rfl, hb⟩
    go_wp2_with (fail)
    go_ret
    exact ⟨rfl, hb⟩
end Go.Proofs.Ytfbilfdohhcpgaa
