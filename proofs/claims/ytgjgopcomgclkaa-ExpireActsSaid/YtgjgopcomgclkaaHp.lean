/-
  Contracts of package heap: the order of two items.
-/
import Derived.Test.YtgjgopcomgclkaaProg
import Derived.Test.YtgjgopcomgclkaaMem
import Derived.Test.YtgjgopcomgclkaaMapI
import Derived.Test.YtgjgopcomgclkaaRg
import Derived.WalkKit
import Derived.WalkSpells
import Derived.WalkLawsBesides
import Derived.BigQuiet
import Derived.Deep.QuietTactic
import Derived.Deep.DeepFit
namespace Go.Proofs.Ytgjgopcomgclkaa
open Go.RowKit
set_option linter.unusedVariables false
set_option linter.unusedSimpArgs false

structure It where
  id : Int
  when : Int
  seq : Int
def encT (x : It) : List Value := [.int .i64 x.id, .int .i64 x.when, .int .i64 x.seq]
theorem encT_len (x : It) : (encT x).length = 3 := rfl
def aggT (x : It) : Value := .agg #[.int .i64 x.id, .int .i64 x.when, .int .i64 x.seq]

def cmpI (a b : Int) : Int := if a < b then -1 else if b < a then 1 else 0
def cmpT (a b : It) : Int := if cmpI a.when b.when ≠ 0 then cmpI a.when b.when else cmpI a.seq b.seq
/-- One stands ahead of another. -/
def lt (a b : It) : Prop := a.when < b.when ∨ (a.when = b.when ∧ a.seq < b.seq)
instance (a b : It) : Decidable (lt a b) := by unfold lt; infer_instance
theorem cmpT_lt (a b : It) : cmpT a b < 0 ↔ lt a b := by
  unfold cmpT cmpI lt
  split <;> split <;> (try split) <;> (try split) <;> omega

theorem isNaN_c (a : Int) (w : World) : Calls Try.prog 73 #[.int .i64 a] w fun e w' => e = .returned (.bool false) ∧ w = w' := by
  go_enter Try.func73, Try.ntmps73
  go_wp2
  go_ret
  exact ⟨by simp, rfl⟩

theorem compare_c (a b : Int) (w : World) : Calls Try.prog 61 #[.int .i64 a, .int .i64 b] w fun e w' => e = .returned (.int .i64 (cmpI a b)) ∧ w = w' := by
  have H := fun (a : Int) (w : World) => isNaN_c a w
  rcases Int.lt_trichotomy a b with h | h | h
  · have hc : cmpI a b = -1 := by unfold cmpI; rw [if_pos h]
    rw [hc]
    clear hc
    go_enter Try.func61, Try.ntmps61
    go_wp2_with fail
    refine (H a w).mono ?_
    rintro e w' ⟨rfl, rfl⟩
    go_wp2_with fail
    refine (H b w).mono ?_
    rintro e w' ⟨rfl, rfl⟩
    go_wp2_with fail
    go_ret
    exact ⟨rfl, rfl⟩
  · have hc : cmpI a b = 0 := by unfold cmpI; rw [if_neg (by omega), if_neg (by omega)]
    rw [hc]
    subst h
    clear hc
    go_enter Try.func61, Try.ntmps61
    go_wp2_with fail
    refine (H a w).mono ?_
    rintro e w' ⟨rfl, rfl⟩
    go_wp2_with fail
    refine (H a w).mono ?_
    rintro e w' ⟨rfl, rfl⟩
    go_wp2_with fail
    go_ret
    exact ⟨rfl, rfl⟩
  · have hc : cmpI a b = 1 := by unfold cmpI; rw [if_neg (by omega), if_pos h]
    rw [hc]
    have h2 : ¬ a < b := by omega
    clear hc
    go_enter Try.func61, Try.ntmps61
    go_wp2_with fail
    refine (H a w).mono ?_
    rintro e w' ⟨rfl, rfl⟩
    go_wp2_with fail
    refine (H b w).mono ?_
    rintro e w' ⟨rfl, rfl⟩
    go_wp2_with fail
    go_ret
    exact ⟨rfl, rfl⟩

theorem or_c (g : Nat) (x y : Int) (w : World) (h0 : w.cell? ⟨g, 0, none⟩ = some (.int .i64 x)) (h1 : w.cell? ⟨g, 1, none⟩ = some (.int .i64 y)) :
    Calls Try.prog 60 #[.slice (some ⟨g, 0, none⟩) 2 2] w fun e w' => e = .returned (.int .i64 (if x ≠ 0 then x else y)) ∧ w = w' := by
  go_enter Try.func60, Try.ntmps60
  go_wp2_with fail
  go_loopw [8] (fun v8 wr => ∃ k : Nat, k ≤ 2 ∧ v8 = .int .i64 k ∧ (1 ≤ k → x = 0) ∧ (2 ≤ k → y = 0) ∧ wr = w) (fun v8 _ => 2 - (intOf v8).toNat)
  case atStart => exact ⟨0, by omega, rfl, by omega, by omega, rfl⟩
  case round =>
    obtain ⟨k, hk, rfl, hx, hy, rfl⟩ := hrel
    have hk3 : k = 0 ∨ k = 1 ∨ k = 2 := by omega
    rcases hk3 with rfl | rfl | rfl
    · clear hx hy
      by_cases hx0 : x = 0
      · subst hx0
        go_wp2_with fail
        go_roundw
        case rel => exact ⟨1, by omega, by go_num, by simp, by omega, by trivial⟩
        case measure => simp [intOf]
      · have hb : (x != 0) = true := by simp [hx0]
        go_wp2_with fail
        go_ret
        exact ⟨by simp [hx0], rfl⟩
    · obtain rfl := hx (by omega)
      clear hx hy
      by_cases hy0 : y = 0
      · subst hy0
        go_wp2_with fail
        go_roundw
        case rel => exact ⟨2, by omega, by go_num, by simp, by simp, by trivial⟩
        case measure => simp [intOf]
      · have hb : (y != 0) = true := by simp [hy0]
        go_wp2_with fail
        go_ret
        exact ⟨by simp, rfl⟩
    · obtain rfl := hx (by omega)
      obtain rfl := hy (by omega)
      clear hx hy
      go_wp2_with fail
      go_ret
      exact ⟨by simp, rfl⟩
end Go.Proofs.Ytgjgopcomgclkaa
