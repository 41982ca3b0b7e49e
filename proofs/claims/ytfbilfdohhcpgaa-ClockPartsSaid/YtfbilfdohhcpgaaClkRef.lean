/-
  Contracts of tarpaulinref1's held, Add, Sub, Next: the same numbers as package clock's.
-/
import Derived.Test.YtfbilfdohhcpgaaClk
namespace Go.Proofs.Ytfbilfdohhcpgaa
open Go.RowKit

section
attribute [local go_sem] mx2 mn2 mx_two mn_two mx_three
set_option maxHeartbeats 400000 in
theorem rheld_c (t : Int) (w : World) : Calls Try.prog 21 #[.int .i64 t] w fun e w' => e = .returned (.int .i64 (heldZ t)) ∧ w = w' := by
  by_cases h1 : t < -4611686018427387904
  · have e : heldZ t = -4611686018427387904 := by unfold heldZ; rw [if_pos h1]
    rw [e]; clear e
    go_enter Try.func21, Try.ntmps21
    go_wp2
    go_ret
    exact ⟨rfl, rfl⟩
  · by_cases h2 : 4611686018427387904 < t
    · have e : heldZ t = 4611686018427387904 := by unfold heldZ; rw [if_neg h1, if_pos h2]
      rw [e]; clear e
      go_enter Try.func21, Try.ntmps21
      go_wp2
      go_ret
      exact ⟨rfl, rfl⟩
    · have e : heldZ t = t := by unfold heldZ; rw [if_neg h1, if_neg h2]
      rw [e]; clear e
      go_enter Try.func21, Try.ntmps21
      go_wp2
      go_ret
      exact ⟨rfl, rfl⟩

set_option maxHeartbeats 400000 in
theorem radd_c (t d : Int) (w : World) : Calls Try.prog 12 #[.int .i64 t, .int .i64 d] w fun e w' => e = .returned (.int .i64 (addZ t d)) ∧ w = w' := by
  obtain ⟨r, hr⟩ : ∃ r, addZ t d = r := ⟨_, rfl⟩
  rw [hr]
  have ht := rheld_c t w
  have hd := rheld_c d w
  have b1 := heldZ_bd t
  have b2 := heldZ_bd d
  unfold addZ at hr
  generalize heldZ t = x at *
  generalize heldZ d = y at *
  obtain ⟨b1, b1'⟩ := b1
  obtain ⟨b2, b2'⟩ := b2
  have Ht := Lib.hid ht
  have Hd := Lib.hid hd
  clear ht hd
  by_cases h1 : 0 < y
  · by_cases h2 : 4611686018427387904 - y < x
    · obtain rfl : 4611686018427387904 = r := by rw [← hr]; unfold heldZ; rw [if_neg (by omega), if_pos (by omega)]
      clear hr
      go_enter Try.func12, Try.ntmps12
      go_wp2_with (first | ((with_reducible refine Ht.out.mono ?_); rintro e w' ⟨rfl, rfl⟩) | ((with_reducible refine Hd.out.mono ?_); rintro e w' ⟨rfl, rfl⟩))
      go_ret
      exact ⟨rfl, rfl⟩
    · obtain rfl : x + y = r := by rw [← hr]; unfold heldZ; rw [if_neg (by omega), if_neg (by omega)]
      clear hr
      go_enter Try.func12, Try.ntmps12
      go_wp2_with (first | ((with_reducible refine Ht.out.mono ?_); rintro e w' ⟨rfl, rfl⟩) | ((with_reducible refine Hd.out.mono ?_); rintro e w' ⟨rfl, rfl⟩))
      go_ret
      exact ⟨rfl, rfl⟩
  · by_cases h2 : y < 0
    · by_cases h3 : x < -4611686018427387904 - y
      · obtain rfl : -4611686018427387904 = r := by rw [← hr]; unfold heldZ; rw [if_pos (by omega)]
        clear hr
        go_enter Try.func12, Try.ntmps12
        go_wp2_with (first | ((with_reducible refine Ht.out.mono ?_); rintro e w' ⟨rfl, rfl⟩) | ((with_reducible refine Hd.out.mono ?_); rintro e w' ⟨rfl, rfl⟩))
        go_ret
        exact ⟨rfl, rfl⟩
      · obtain rfl : x + y = r := by rw [← hr]; unfold heldZ; rw [if_neg (by omega), if_neg (by omega)]
        clear hr
        go_enter Try.func12, Try.ntmps12
        go_wp2_with (first | ((with_reducible refine Ht.out.mono ?_); rintro e w' ⟨rfl, rfl⟩) | ((with_reducible refine Hd.out.mono ?_); rintro e w' ⟨rfl, rfl⟩))
        go_ret
        exact ⟨rfl, rfl⟩
    · obtain rfl : 0 = y := by omega
      obtain rfl : x = r := by rw [← hr]; unfold heldZ; rw [if_neg (by omega), if_neg (by omega)]; omega
      clear hr
      go_enter Try.func12, Try.ntmps12
      go_wp2_with (first | ((with_reducible refine Ht.out.mono ?_); rintro e w' ⟨rfl, rfl⟩) | ((with_reducible refine Hd.out.mono ?_); rintro e w' ⟨rfl, rfl⟩))
      go_ret
      exact ⟨rfl, rfl⟩

theorem rsub_c (t u : Int) (w : World) : Calls Try.prog 14 #[.int .i64 t, .int .i64 u] w fun e w' => e = .returned (.int .i64 (addZ t (-(heldZ u)))) ∧ w = w' := by
  have b := heldZ_bd u
  have hu := rheld_c u w
  generalize heldZ u = y at *
  obtain ⟨b1, b2⟩ := b
  have Hu := Lib.hid hu
  clear hu
  go_enter Try.func14, Try.ntmps14
  go_wp2_with (first | ((with_reducible refine Hu.out.mono ?_); rintro e w' ⟨rfl, rfl⟩) | (go_at_call 12; refine (radd_c _ _ _).mono ?_; rintro e w' ⟨rfl, rfl⟩))
  go_ret
  exact ⟨rfl, rfl⟩

/-- The next time of a row, as the document's own text reckons it. -/
theorem nextZ_ref {when_ period now : Int} (h1 : 1 ≤ period) (h2 : 0 ≤ when_) (h3 : when_ ≤ now) (h4 : now ≤ 4611686018427387904) (h5 : period ≤ 4611686018427387904) :
    nextZ when_ period now = (if (4611686018427387904 - when_) / ((now - when_) / period + 1) < period then 4611686018427387904 else when_ + ((now - when_) / period + 1) * period, 0) := by
  have hbad : ¬ (period < 1 ∨ when_ < 0 ∨ now < 0 ∨ 4611686018427387904 < when_ ∨ 4611686018427387904 < period ∨ 4611686018427387904 < now) := by omega
  unfold nextZ
  rw [if_neg hbad, if_neg (by omega)]
  have e := Int.emod_add_mul_ediv (now - when_) period
  have q4 : 0 ≤ (now - when_) % period := Int.emod_nonneg _ (by omega)
  have q5 : (now - when_) % period < period := Int.emod_lt_of_pos _ (by omega)
  have q6 : 0 ≤ (now - when_) / period := Int.ediv_nonneg (by omega) (by omega)
  generalize (now - when_) % period = r at *
  generalize (now - when_) / period = q at *
  have e2 : (q + 1) * period = period * q + period := by rw [Int.add_mul, Int.mul_comm q period]; omega
  have hk : 0 < q + 1 := by omega
  have hdiv : ((4611686018427387904 - when_) / (q + 1) < period) ↔ 4611686018427387904 - when_ < period * (q + 1) := Int.ediv_lt_iff_lt_mul hk
  have e3 : period * (q + 1) = period * q + period := by rw [Int.mul_add]; omega
  rw [e2]
  generalize period * q = pq at *
  unfold addZ
  rw [heldZ_id (t := now) (by omega) (by omega), heldZ_id (t := period - r) (by omega) (by omega)]
  by_cases h : (4611686018427387904 - when_) / (q + 1) < period
  · rw [if_pos h]
    have := hdiv.1 h
    unfold heldZ
    rw [if_neg (by omega)]
    congr 1
    split <;> omega
  · rw [if_neg h]
    have : ¬ 4611686018427387904 - when_ < period * (q + 1) := fun hh => h (hdiv.2 hh)
    unfold heldZ
    rw [if_neg (by omega), if_neg (by omega)]
    congr 1
    omega
end
end Go.Proofs.Ytfbilfdohhcpgaa
