/-
  tarpaulinlaw11.item, same.
-/
import Derived.Test.YtgjgopcomgclkaaHpX
import Derived.Test.YtgjgopcomgclkaaRa
import Derived.Test.YtgjgopcomgclkaaRg3
import Derived.Laws.StructEq
namespace Go.Proofs.Ytgjgopcomgclkaa
open Go.RowKit
set_option linter.unusedVariables false
set_option linter.unusedSimpArgs false

theorem item_c (a b c : Int) (w : World) : Calls Try.prog 42 #[.agg #[.int .i64 a, .int .i64 b, .int .i64 c]] w fun e w' => e = .returned (.agg #[.int .i64 a, .int .i64 b, .int .i64 c]) ∧ Made w w' := by
  go_enter Try.func42, Try.ntmps42
  go_wp2_with fail
  go_returns
  exact ⟨rfl, by first | exact (Turns.refl _ _).alloc _ | exact ((Turns.refl _ _).alloc _).alloc _⟩
theorem neq_item (a b c : Int) (w : World) : (binOp .neq 68 (.agg #[.int .i64 a, .int .i64 b, .int .i64 c]) (.agg #[.int .i64 a, .int .i64 b, .int .i64 c])).run Try.prog w = .ok (.bool false) w := by
  rw [run_neq_struct, run_equalIn_agg (ht := by kernel_rfl) (hp := by kernel_rfl)]
  unfold Program.fieldsOf
  rw [Try.underlying68]
  go_simp
set_option maxHeartbeats 4000000 in
set_option maxRecDepth 100000 in
theorem same_c (va vb : Value) (L : List It) (w : World) (ha : Owns encT 30 3 w va L) (hb : Owns encT 68 3 w vb L) (hn : L.length ≤ 1000000) : Calls Try.prog 45 #[va, vb] w fun e w' => e = .returned (.bool true) ∧ Made w w' := by
  obtain ⟨aa, ca, rfl⟩ := owns_slice ha
  obtain ⟨ab, cb, rfl⟩ := owns_slice hb
  have HA := Lib.hid ha
  have HB := Lib.hid hb
  have hne : ((L.length : Int) != (L.length : Int)) = false := by simp
  clear ha hb
  go_enter Try.func45, Try.ntmps45
  go_wp2_with fail
  go_loopw [5] (fun v5 wr => ∃ j : Nat, v5 = .int .i64 j ∧ Made w wr) (fun v5 _ => L.length - (intOf v5).toNat)
  case atStart => exact ⟨0, rfl, Turns.refl _ _⟩
  case round =>
    obtain ⟨j, rfl, hm⟩ := hrel
    have HM := Lib.hid hm
    clear hm
    by_cases hj : j < L.length
    · obtain ⟨x, hx⟩ := get_of_lt hj
      have HX := Lib.hid hx
      rcases HA.out.form with ⟨h0, h1⟩ | ⟨ga, ca', hva, hga, hla, hcma⟩
      · rw [h1] at hj; simp at hj
      rcases HB.out.form with ⟨h0, h1⟩ | ⟨gb, cb', hvb, hgb, hlb, hcmb⟩
      · rw [h1] at hj; simp at hj
      simp only [Value.slice.injEq, true_and] at hva hvb
      obtain ⟨rfl, rfl⟩ := hva
      obtain ⟨rfl, rfl⟩ := hvb
      have j1 : (0 : Int) ≤ (j : Int) := Int.natCast_nonneg _
      have j2 : (j : Int) < (L.length : Int) := by omega
      clear hga hgb hx
      go_wp2_with fail
      refine wp_region_held_drew (S := fun w' => Made w w') (by kernel_rfl) ?_ (fun hHeld => ?_)
      · exact HM.out.drew
      refine takeH (i := 0) (d := some 17) (v := ?_) rfl rfl (by kernel_rfl) (by kernel_rfl) (by kernel_rfl) (fun _ _ _ h => h) (Or.inl ⟨by rfl, ?_⟩) (by assumption) ?_
      rotate_left
      · intro w hSw
        try dsimp only at hSw
        go_simp
        try with_reducible rfl
      try simp only [Act.put, List.setIfInBounds_toArray, List.set_cons_zero, List.set_cons_succ]
      refine takeH (i := 1) (d := some 18) (v := ?_) rfl rfl (by kernel_rfl) (by kernel_rfl) (by kernel_rfl) (fun _ _ _ h => h) (Or.inl ⟨by rfl, ?_⟩) (by assumption) ?_
      rotate_left
      · intro w hSw
        try dsimp only at hSw
        go_simp
        try with_reducible rfl
      try simp only [Act.put, List.setIfInBounds_toArray, List.set_cons_zero, List.set_cons_succ]
      refine takeH (i := 2) (d := some 19) (v := ?_) rfl rfl (by kernel_rfl) (by kernel_rfl) (by kernel_rfl) (fun _ _ _ h => h) (Or.inl ⟨by rfl, ?_⟩) (by assumption) ?_
      rotate_left
      · intro w hSw
        try dsimp only at hSw
        go_simp
        try with_reducible rfl
      try simp only [Act.put, List.setIfInBounds_toArray, List.set_cons_zero, List.set_cons_succ]
      refine takeH (i := 3) (d := some 20) (v := ?_) rfl rfl (by kernel_rfl) (by kernel_rfl) (by kernel_rfl) (fun _ _ _ h => h) (Or.inl ⟨by rfl, ?_⟩) (by assumption) ?_
      rotate_left
      · intro w hSw
        try dsimp only at hSw
        have q0 := Owns.cell encT_len (HA.out.turns hSw (fun _ _ h => h)) HX.out (j := 0) rfl
        have q1 := Owns.cell encT_len (HA.out.turns hSw (fun _ _ h => h)) HX.out (j := 1) rfl
        have q2 := Owns.cell encT_len (HA.out.turns hSw (fun _ _ h => h)) HX.out (j := 2) rfl
        simp only [Nat.add_zero] at q0
        go_simp
        try with_reducible rfl
      try simp only [Act.put, List.setIfInBounds_toArray, List.set_cons_zero, List.set_cons_succ]
      refine takeH (i := 5) (d := some 22) (v := ?_) rfl rfl (by kernel_rfl) (by kernel_rfl) (by kernel_rfl) (fun _ _ _ h => h) (Or.inl ⟨by rfl, ?_⟩) (by assumption) ?_
      rotate_left
      · intro w hSw
        try dsimp only at hSw
        go_simp
        try with_reducible rfl
      try simp only [Act.put, List.setIfInBounds_toArray, List.set_cons_zero, List.set_cons_succ]
      refine takeH (i := 6) (d := some 23) (v := ?_) rfl rfl (by kernel_rfl) (by kernel_rfl) (by kernel_rfl) (fun _ _ _ h => h) (Or.inl ⟨by rfl, ?_⟩) (by assumption) ?_
      rotate_left
      · intro w hSw
        try dsimp only at hSw
        go_simp
        try with_reducible rfl
      try simp only [Act.put, List.setIfInBounds_toArray, List.set_cons_zero, List.set_cons_succ]
      refine takeH (i := 7) (d := some 24) (v := ?_) rfl rfl (by kernel_rfl) (by kernel_rfl) (by kernel_rfl) (fun _ _ _ h => h) (Or.inl ⟨by rfl, ?_⟩) (by assumption) ?_
      rotate_left
      · intro w hSw
        try dsimp only at hSw
        go_simp
        try with_reducible rfl
      try simp only [Act.put, List.setIfInBounds_toArray, List.set_cons_zero, List.set_cons_succ]
      refine takeH (i := 8) (d := some 25) (v := ?_) rfl rfl (by kernel_rfl) (by kernel_rfl) (by kernel_rfl) (fun _ _ _ h => h) (Or.inl ⟨by rfl, ?_⟩) (by assumption) ?_
      rotate_left
      · intro w hSw
        try dsimp only at hSw
        have q0 := Owns.cell encT_len (HB.out.turns hSw (fun _ _ h => h)) HX.out (j := 0) rfl
        have q1 := Owns.cell encT_len (HB.out.turns hSw (fun _ _ h => h)) HX.out (j := 1) rfl
        have q2 := Owns.cell encT_len (HB.out.turns hSw (fun _ _ h => h)) HX.out (j := 2) rfl
        simp only [Nat.add_zero] at q0
        go_simp
        try with_reducible rfl
      try simp only [Act.put, List.setIfInBounds_toArray, List.set_cons_zero, List.set_cons_succ]
      refine wpAnyH_ready (rs := [4]) (by kernel_rfl) (by simp) ?_
      refine AllReadyH.cons rfl (fun K hK => ?_) AllReadyH.nil
      go_simp
      refine (item_c _ _ _ _).mono ?_
      rintro e w' ⟨rfl, hm'⟩
      go_wp2_with fail
      refine hK.out _ _ ?_ (fun hHeld => ?_)
      · exact Turns.trans hHeld hm'
      clear hK K
      try simp only [Act.put, List.setIfInBounds_toArray, List.set_cons_zero, List.set_cons_succ]
      refine wpAnyH_ready (rs := [9]) (by kernel_rfl) (by simp) ?_
      refine AllReadyH.cons rfl (fun K hK => ?_) AllReadyH.nil
      have NQ := neq_item x.id x.when x.seq
      go_simp
      refine hK.out _ _ ?_ (fun hHeld => ?_)
      · exact hHeld
      clear hK K
      try simp only [Act.put, List.setIfInBounds_toArray, List.set_cons_zero, List.set_cons_succ]
      refine wpAnyH_done (by kernel_rfl) ?_ _
      have HM2 := Lib.hid hHeld
      clear hHeld HM
      try clear hHeld
      go_wp2_with fail
      go_roundw
      case rel => exact ⟨j + 1, by go_num, HM2.out⟩
      case measure => simp [intOf]; omega
    · have j2 : ¬ (j : Int) < (L.length : Int) := by omega
      go_wp2_with fail
      go_ret
      exact ⟨rfl, HM.out⟩
end Go.Proofs.Ytgjgopcomgclkaa
