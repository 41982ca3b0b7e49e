/-
  Contracts of package clock: held, Add, Next.
-/
import Derived.Test.YtgjgopcomgclkaaProg
import Derived.WalkKit
import Derived.Below
import Derived.Lib.Hide
import Derived.IntWalk
import Derived.WalkLawsBesides
namespace Go.Proofs.Ytgjgopcomgclkaa
open Go.RowKit

theorem mx2 (k k' : IntKind) (x y : Int) : Builtin.max2 (.int k x) (.int k' y) = pure (.int k (if x < y then y else x)) := by simp only [Builtin.max2, gt_iff_lt]
theorem mn2 (k k' : IntKind) (x y : Int) : Builtin.min2 (.int k x) (.int k' y) = pure (.int k (if y < x then y else x)) := by simp only [Builtin.min2]
theorem mx_two (ats : Array TypeId) (ty : TypeId) (a b : Value) : Builtin.max_ ats ty #[a, b] = (Builtin.max2 a b >>= fun s => pure s) := by simp only [Builtin.max_, List.foldlM_cons, List.foldlM_nil]
theorem mn_two (ats : Array TypeId) (ty : TypeId) (a b : Value) : Builtin.min_ ats ty #[a, b] = (Builtin.min2 a b >>= fun s => pure s) := by simp only [Builtin.min_, List.foldlM_cons, List.foldlM_nil]
theorem mx_three (ats : Array TypeId) (ty : TypeId) (a b c : Value) : Builtin.max_ ats ty #[a, b, c] = (Builtin.max2 a b >>= fun s => Builtin.max2 s c >>= fun s => pure s) := by simp only [Builtin.max_, List.foldlM_cons, List.foldlM_nil]

/-- A number within what a time may be. -/
def heldZ (t : Int) : Int := if t < -4611686018427387904 then -4611686018427387904 else if 4611686018427387904 < t then 4611686018427387904 else t
theorem heldZ_bd (t : Int) : -4611686018427387904 ≤ heldZ t ∧ heldZ t ≤ 4611686018427387904 := by unfold heldZ; split <;> (try split) <;> omega
/-- A time and what goes by. -/
def addZ (t d : Int) : Int := heldZ (heldZ t + heldZ d)

section
attribute [local go_sem] mx2 mn2 mx_two mn_two mx_three
set_option maxHeartbeats 400000 in
theorem held_c (t : Int) (w : World) : Calls Try.prog 62 #[.int .i64 t] w fun e w' => e = .returned (.int .i64 (heldZ t)) ∧ w = w' := by
  by_cases h1 : t < -4611686018427387904
  · have e : heldZ t = -4611686018427387904 := by unfold heldZ; rw [if_pos h1]
    rw [e]; clear e
    go_enter Try.func62, Try.ntmps62
    go_wp2
    go_ret
    exact ⟨rfl, rfl⟩
  · by_cases h2 : 4611686018427387904 < t
    · have e : heldZ t = 4611686018427387904 := by unfold heldZ; rw [if_neg h1, if_pos h2]
      rw [e]; clear e
      go_enter Try.func62, Try.ntmps62
      go_wp2
      go_ret
      exact ⟨rfl, rfl⟩
    · have e : heldZ t = t := by unfold heldZ; rw [if_neg h1, if_neg h2]
      rw [e]; clear e
      go_enter Try.func62, Try.ntmps62
      go_wp2
      go_ret
      exact ⟨rfl, rfl⟩

set_option maxHeartbeats 400000 in
theorem add_c (t d : Int) (w : World) : Calls Try.prog 57 #[.int .i64 t, .int .i64 d] w fun e w' => e = .returned (.int .i64 (addZ t d)) ∧ w = w' := by
  obtain ⟨r, hr⟩ : ∃ r, addZ t d = r := ⟨_, rfl⟩
  rw [hr]
  have ht := held_c t w
  have hd := held_c d w
  have b1 := heldZ_bd t
  have b2 := heldZ_bd d
  unfold addZ at hr
  generalize heldZ t = x at *
  generalize heldZ d = y at *
  obtain ⟨b1, b1'⟩ := b1
  obtain ⟨b2, b2'⟩ := b2
  have Ht := Lib.hid ht
  have Hd := Lib.hid hd
  clear ht hd
  by_cases h1 : 0 < y
  · by_cases h2 : 4611686018427387904 - y < x
    · obtain rfl : 4611686018427387904 = r := by rw [← hr]; unfold heldZ; rw [if_neg (by omega), if_pos (by omega)]
      clear hr
      go_enter Try.func57, Try.ntmps57
      go_wp2_with (first | ((with_reducible refine Ht.out.mono ?_); rintro e w' ⟨rfl, rfl⟩) | ((with_reducible refine Hd.out.mono ?_); rintro e w' ⟨rfl, rfl⟩))
      go_ret
      exact ⟨rfl, rfl⟩
    · obtain rfl : x + y = r := by rw [← hr]; unfold heldZ; rw [if_neg (by omega), if_neg (by omega)]
      clear hr
      go_enter Try.func57, Try.ntmps57
      go_wp2_with (first | ((with_reducible refine Ht.out.mono ?_); rintro e w' ⟨rfl, rfl⟩) | ((with_reducible refine Hd.out.mono ?_); rintro e w' ⟨rfl, rfl⟩))
      go_ret
      exact ⟨rfl, rfl⟩
  · by_cases h2 : y < 0
    · by_cases h3 : x < -4611686018427387904 - y
      · obtain rfl : -4611686018427387904 = r := by rw [← hr]; unfold heldZ; rw [if_pos (by omega)]
        clear hr
        go_enter Try.func57, Try.ntmps57
        go_wp2_with (first | ((with_reducible refine Ht.out.mono ?_); rintro e w' ⟨rfl, rfl⟩) | ((with_reducible refine Hd.out.mono ?_); rintro e w' ⟨rfl, rfl⟩))
        go_ret
        exact ⟨rfl, rfl⟩
      · obtain rfl : x + y = r := by rw [← hr]; unfold heldZ; rw [if_neg (by omega), if_neg (by omega)]
        clear hr
        go_enter Try.func57, Try.ntmps57
        go_wp2_with (first | ((with_reducible refine Ht.out.mono ?_); rintro e w' ⟨rfl, rfl⟩) | ((with_reducible refine Hd.out.mono ?_); rintro e w' ⟨rfl, rfl⟩))
        go_ret
        exact ⟨rfl, rfl⟩
    · obtain rfl : 0 = y := by omega
      obtain rfl : x = r := by rw [← hr]; unfold heldZ; rw [if_neg (by omega), if_neg (by omega)]; omega
      clear hr
      go_enter Try.func57, Try.ntmps57
      go_wp2_with (first | ((with_reducible refine Ht.out.mono ?_); rintro e w' ⟨rfl, rfl⟩) | ((with_reducible refine Hd.out.mono ?_); rintro e w' ⟨rfl, rfl⟩))
      go_ret
      exact ⟨rfl, rfl⟩

theorem heldZ_id {t : Int} (h1 : -4611686018427387904 ≤ t) (h2 : t ≤ 4611686018427387904) : heldZ t = t := by unfold heldZ; rw [if_neg (by omega), if_neg (by omega)]

/-- The first of a row that is after now; an error's number. -/
def nextZ (when_ period now : Int) : Int × Int :=
  if period < 1 ∨ when_ < 0 ∨ now < 0 ∨ 4611686018427387904 < when_ ∨ 4611686018427387904 < period ∨ 4611686018427387904 < now then (0, 1)
  else if now < when_ then (when_, 0) else (addZ now (period - (now - when_) % period), 0)

set_option maxHeartbeats 1000000 in
theorem next_c (when_ period now : Int) (w : World) : Calls Try.prog 50 #[.int .i64 when_, .int .i64 period, .int .i64 now] w fun e w' => e = .returned (.tuple #[.int .i64 (nextZ when_ period now).1, .int .i64 (nextZ when_ period now).2]) ∧ w = w' := by
  by_cases hbad : period < 1 ∨ when_ < 0 ∨ now < 0 ∨ 4611686018427387904 < when_ ∨ 4611686018427387904 < period ∨ 4611686018427387904 < now
  · have e : nextZ when_ period now = (0, 1) := by unfold nextZ; rw [if_pos hbad]
    rw [e]; clear e
    by_cases h1 : period < 1
    · clear hbad
      go_enter Try.func50, Try.ntmps50
      go_wp2
      go_ret2
      exact ⟨rfl, rfl⟩
    · by_cases h2 : when_ < 0 ∨ now < 0
      · have h2' : (if now < when_ then now else when_) < 0 := by split <;> omega
        generalize hm : (if now < when_ then now else when_) = m at h2'
        clear h2 hbad
        go_enter Try.func50, Try.ntmps50
        go_wp2
        go_ret2
        exact ⟨rfl, rfl⟩
      · have h2' : ¬ (if now < when_ then now else when_) < 0 := by split <;> omega
        generalize hm : (if now < when_ then now else when_) = m at h2'
        have h3 : 4611686018427387904 < (if (if when_ < period then period else when_) < now then now else (if when_ < period then period else when_)) := by
          by_cases q : when_ < period
          · simp only [if_pos q]; split <;> omega
          · simp only [if_neg q]; split <;> omega
        generalize hn : (if when_ < period then period else when_) = n at h3
        generalize hk : (if n < now then now else n) = k at h3
        clear h2 hbad
        go_enter Try.func50, Try.ntmps50
        go_wp2
        go_ret2
        exact ⟨rfl, rfl⟩
  · have h1 : ¬ period < 1 := by omega
    have h2' : ¬ (if now < when_ then now else when_) < 0 := by split <;> omega
    generalize hm : (if now < when_ then now else when_) = m at h2'
    have h3 : ¬ 4611686018427387904 < (if (if when_ < period then period else when_) < now then now else (if when_ < period then period else when_)) := by
      by_cases q : when_ < period
      · simp only [if_pos q]; split <;> omega
      · simp only [if_neg q]; split <;> omega
    generalize hn : (if when_ < period then period else when_) = n at h3
    generalize hk : (if n < now then now else n) = k at h3
    by_cases h4 : now < when_
    · have e : nextZ when_ period now = (when_, 0) := by unfold nextZ; rw [if_neg hbad, if_pos h4]
      rw [e]; clear e hbad
      go_enter Try.func50, Try.ntmps50
      go_wp2
      go_ret2
      exact ⟨rfl, rfl⟩
    · have e : nextZ when_ period now = (addZ now (period - (now - when_) % period), 0) := by unfold nextZ; rw [if_neg hbad, if_neg h4]
      have q1 : 0 ≤ when_ := by omega
      have q2 : now ≤ 4611686018427387904 := by omega
      have q3 : period ≤ 4611686018427387904 := by omega
      have q4 : 0 ≤ (now - when_) % period := Int.emod_nonneg _ (by omega)
      have q5 : (now - when_) % period < period := Int.emod_lt_of_pos _ (by omega)
      have e1 : (now - when_).tmod period = (now - when_) % period := Int.tmod_eq_emod_of_nonneg (by omega)
      have e2 : wrap64 (now - when_) = now - when_ := by unfold wrap64; omega
      have e3 : wrap64 (period - (now - when_) % period) = period - (now - when_) % period := by
        generalize (now - when_) % period = z at *
        unfold wrap64; omega
      have e5 : (period == 0) = false := beq_eq_false_iff_ne.mpr (by omega)
      rw [e]; clear e hbad
      go_enter Try.func50, Try.ntmps50
      go_wp2_with (go_at_call 57; refine (add_c _ _ _).mono ?_; rintro e w' ⟨rfl, rfl⟩)
      go_ret2
      exact ⟨rfl, rfl⟩

end
end Go.Proofs.Ytgjgopcomgclkaa
