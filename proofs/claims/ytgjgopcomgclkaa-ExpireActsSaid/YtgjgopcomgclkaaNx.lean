/-
  Contract of tarpaulinref1.Next: the same as clock.Next.
-/
import Derived.Test.YtgjgopcomgclkaaClkE
namespace Go.Proofs.Ytgjgopcomgclkaa
open Go.RowKit

theorem nextZ_ref {when_ period now : Int} (h1 : 1 ≤ period) (h2 : 0 ≤ when_) (h3 : when_ ≤ now) (h4 : now ≤ 4611686018427387904) (h5 : period ≤ 4611686018427387904) :
    nextZ when_ period now = (if (4611686018427387904 - when_) / ((now - when_) / period + 1) < period then 4611686018427387904 else when_ + ((now - when_) / period + 1) * period, 0) := by
  have hbad : ¬ (period < 1 ∨ when_ < 0 ∨ now < 0 ∨ 4611686018427387904 < when_ ∨ 4611686018427387904 < period ∨ 4611686018427387904 < now) := by omega
  unfold nextZ
  rw [if_neg hbad, if_neg (by omega)]
  have e := Int.emod_add_mul_ediv (now - when_) period
  have q4 : 0 ≤ (now - when_) % period := Int.emod_nonneg _ (by omega)
  have q5 : (now - when_) % period < period := Int.emod_lt_of_pos _ (by omega)
  have q6 : 0 ≤ (now - when_) / period := Int.ediv_nonneg (by omega) (by omega)
  generalize (now - when_) % period = r at *
  generalize (now - when_) / period = q at *
  have e2 : (q + 1) * period = period * q + period := by rw [Int.add_mul, Int.mul_comm q period]; omega
  have hk : 0 < q + 1 := by omega
  have hdiv : ((4611686018427387904 - when_) / (q + 1) < period) ↔ 4611686018427387904 - when_ < period * (q + 1) := Int.ediv_lt_iff_lt_mul hk
  have e3 : period * (q + 1) = period * q + period := by rw [Int.mul_add]; omega
  rw [e2]
  generalize period * q = pq at *
  unfold addZ
  rw [heldZ_id (t := now) (by omega) (by omega), heldZ_id (t := period - r) (by omega) (by omega)]
  by_cases h : (4611686018427387904 - when_) / (q + 1) < period
  · rw [if_pos h]
    have := hdiv.1 h
    unfold heldZ
    rw [if_neg (by omega)]
    congr 1
    split <;> omega
  · rw [if_neg h]
    have : ¬ 4611686018427387904 - when_ < period * (q + 1) := fun hh => h (hdiv.2 hh)
    unfold heldZ
    rw [if_neg (by omega), if_neg (by omega)]
    congr 1
    omega
theorem rnext_bad (when_ period now : Int) (w : World) (hbad : period < 1 ∨ when_ < 0 ∨ now < 0 ∨ 4611686018427387904 < when_ ∨ 4611686018427387904 < period ∨ 4611686018427387904 < now) :
    Calls Try.prog 52 #[.int .i64 when_, .int .i64 period, .int .i64 now] w fun e w' => e = .returned (.tuple #[.int .i64 0, .int .i64 1]) ∧ w = w' := by
  by_cases h0 : period < 1
  · clear hbad
    go_enter Try.func52, Try.ntmps52
    go_wp2
    go_ret2
    exact ⟨rfl, rfl⟩
  by_cases h1 : when_ < 0
  · clear hbad
    go_enter Try.func52, Try.ntmps52
    go_wp2
    go_ret2
    exact ⟨rfl, rfl⟩
  by_cases h2 : now < 0
  · clear hbad
    go_enter Try.func52, Try.ntmps52
    go_wp2
    go_ret2
    exact ⟨rfl, rfl⟩
  by_cases h3 : 4611686018427387904 < period
  · clear hbad
    go_enter Try.func52, Try.ntmps52
    go_wp2
    go_ret2
    exact ⟨rfl, rfl⟩
  by_cases h4 : 4611686018427387904 < when_
  · clear hbad
    go_enter Try.func52, Try.ntmps52
    go_wp2
    go_ret2
    exact ⟨rfl, rfl⟩
  by_cases h5 : 4611686018427387904 < now
  · clear hbad
    go_enter Try.func52, Try.ntmps52
    go_wp2
    go_ret2
    exact ⟨rfl, rfl⟩
  omega

theorem rnext_far (when_ period now : Int) (w : World) (h1 : ¬ period < 1) (h2 : ¬ now < 0) (h3 : now < when_) (h4 : ¬ 4611686018427387904 < when_) (h5 : ¬ 4611686018427387904 < period) :
    Calls Try.prog 52 #[.int .i64 when_, .int .i64 period, .int .i64 now] w fun e w' => e = .returned (.tuple #[.int .i64 when_, .int .i64 0]) ∧ w = w' := by
  have h6 : ¬ 4611686018427387904 < now := by omega
  have h7 : ¬ when_ < 0 := by omega
  go_enter Try.func52, Try.ntmps52
  go_wp2
  go_ret2
  exact ⟨rfl, rfl⟩

set_option maxHeartbeats 400000 in
theorem rnext_near (when_ period now : Int) (w : World) (h1 : 1 ≤ period) (h2 : 0 ≤ when_) (h3 : when_ ≤ now) (h4 : now ≤ 4611686018427387904) (h5 : period ≤ 4611686018427387904) :
    Calls Try.prog 52 #[.int .i64 when_, .int .i64 period, .int .i64 now] w fun e w' => e = .returned (.tuple #[.int .i64 (nextZ when_ period now).1, .int .i64 (nextZ when_ period now).2]) ∧ w = w' := by
  rw [nextZ_ref h1 h2 h3 h4 h5]
  have t1 : (now - when_).tdiv period = (now - when_) / period := Int.tdiv_eq_ediv_of_nonneg (by omega)
  have q6 : 0 ≤ (now - when_) / period := Int.ediv_nonneg (by omega) (by omega)
  have q7 : (now - when_) / period ≤ now - when_ := Int.ediv_le_self _ (by omega)
  have t2 : (4611686018427387904 - when_).tdiv ((now - when_) / period + 1) = (4611686018427387904 - when_) / ((now - when_) / period + 1) := Int.tdiv_eq_ediv_of_nonneg (by omega)
  have q8 : 0 ≤ (4611686018427387904 - when_) / ((now - when_) / period + 1) := Int.ediv_nonneg (by omega) (by omega)
  have q9 : (4611686018427387904 - when_) / ((now - when_) / period + 1) ≤ 4611686018427387904 - when_ := Int.ediv_le_self _ (by omega)
  have q10 : 1 ≤ (now - when_) / period + 1 := by omega
  have hdiv : ((4611686018427387904 - when_) / ((now - when_) / period + 1) < period) ↔ 4611686018427387904 - when_ < period * ((now - when_) / period + 1) := Int.ediv_lt_iff_lt_mul (by omega)
  have q11 : 0 ≤ ((now - when_) / period + 1) * period := Int.mul_nonneg (by omega) (by omega)
  have q12 : period * ((now - when_) / period + 1) = ((now - when_) / period + 1) * period := Int.mul_comm _ _
  rw [q12] at hdiv
  clear q12
  have w1 : wrap64 (now - when_) = now - when_ := by unfold wrap64; omega
  generalize hq : (now - when_) / period = q at *
  have w2 : wrap64 q = q := by unfold wrap64; omega
  have w3 : wrap64 (q + 1) = q + 1 := by unfold wrap64; omega
  have w4 : wrap64 (4611686018427387904 - when_) = 4611686018427387904 - when_ := by unfold wrap64; omega
  generalize hk : q + 1 = k at *
  generalize hu : (4611686018427387904 - when_) / k = u at *
  have w5 : wrap64 u = u := by unfold wrap64; omega
  by_cases hlt : u < period
  · rw [if_pos hlt]
    clear hq q7 hdiv q11
    have e1 : (period == 0) = false := beq_eq_false_iff_ne.mpr (by omega)
    have e2 : (k == 0) = false := beq_eq_false_iff_ne.mpr (by omega)
    have n1 : ¬ period = 0 := by omega
    have n2 : ¬ k = 0 := by omega
    go_enter Try.func52, Try.ntmps52
    go_wp2
    go_ret2
    exact ⟨rfl, rfl⟩
  · rw [if_neg hlt]
    have w6 : wrap64 (k * period) = k * period := by unfold wrap64; omega
    have w7 : wrap64 (when_ + k * period) = when_ + k * period := by unfold wrap64; omega
    clear hq q7 hdiv q11
    have e1 : (period == 0) = false := beq_eq_false_iff_ne.mpr (by omega)
    have e2 : (k == 0) = false := beq_eq_false_iff_ne.mpr (by omega)
    have n1 : ¬ period = 0 := by omega
    have n2 : ¬ k = 0 := by omega
    go_enter Try.func52, Try.ntmps52
    go_wp2
    go_ret2
    exact ⟨rfl, rfl⟩

theorem rnext_c (when_ period now : Int) (w : World) : Calls Try.prog 52 #[.int .i64 when_, .int .i64 period, .int .i64 now] w fun e w' => e = .returned (.tuple #[.int .i64 (nextZ when_ period now).1, .int .i64 (nextZ when_ period now).2]) ∧ w = w' := by
  by_cases hbad : period < 1 ∨ when_ < 0 ∨ now < 0 ∨ 4611686018427387904 < when_ ∨ 4611686018427387904 < period ∨ 4611686018427387904 < now
  · have e : nextZ when_ period now = (0, 1) := by unfold nextZ; rw [if_pos hbad]
    rw [e]
    exact rnext_bad when_ period now w hbad
  · by_cases h : now < when_
    · have e : nextZ when_ period now = (when_, 0) := by unfold nextZ; rw [if_neg hbad, if_pos h]
      rw [e]
      exact rnext_far when_ period now w (by omega) (by omega) h (by omega) (by omega)
    · exact rnext_near when_ period now w (by omega) (by omega) (by omega) (by omega) (by omega)
end Go.Proofs.Ytgjgopcomgclkaa
