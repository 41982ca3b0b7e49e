/-
  tarpaulinlaw11: behind, heaped; Round.
-/
import Derived.Test.YtgjgopcomgclkaaHpW
namespace Go.Proofs.Ytgjgopcomgclkaa
open Go.RowKit
set_option linter.unusedVariables false
set_option linter.unusedSimpArgs false

theorem ret_int {k : IntKind} {a b : Int} (h : a = b) : Ending.returned (.int k a) = .returned (.int k b) := by rw [h]
theorem tmod_round (k n : Int) (hn : 0 < n) : (k.tmod n + n).tmod n = k % n := by
  have h2 := Int.lt_tmod_of_pos k hn
  rw [Int.tmod_eq_emod_of_nonneg (by omega), Int.add_emod_right]
  have e := Int.tmod_add_mul_tdiv k n
  have e2 : k.tmod n = k - n * k.tdiv n := by omega
  rw [e2, Int.sub_mul_emod_self_left]
theorem round_c (k n : Int) (w : World) (hn : 0 < n) (hb : n ≤ 4611686018427387904) : Calls Try.prog 21 #[.int .i64 k, .int .i64 n] w fun e w' => e = .returned (.int .i64 (k % n)) ∧ w = w' := by
  have h1 := Int.tmod_lt_of_pos k hn
  have h2 := Int.lt_tmod_of_pos k hn
  have h3 := tmod_round k n hn
  have h4 : 0 ≤ k % n := Int.emod_nonneg _ (by omega)
  have h5 : k % n < n := Int.emod_lt_of_pos _ hn
  have n1 : ¬ n = 0 := by omega
  have n2 : (n == 0) = false := beq_eq_false_iff_ne.mpr n1
  generalize hr : k % n = r at *
  generalize ha : k.tmod n = a at *
  have w1 : wrap64 a = a := by unfold wrap64; omega
  have w2 : wrap64 (a + n) = a + n := by unfold wrap64; omega
  generalize hs : a + n = s at *
  have w3 : s % n = r := by rw [← Int.tmod_eq_emod_of_nonneg (by omega)]; exact h3
  have H := Lib.hid hr
  clear hr h3
  go_enter Try.func21, Try.ntmps21
  go_wp2
  go_ret
  exact ⟨ret_int w3, rfl⟩

theorem behind_c (a b : It) (w : World) : Calls Try.prog 19 #[aggT a, aggT b] w fun e w' => e = .returned (.bool (decide (lt b a))) ∧ Made w w' := by
  unfold aggT
  have hM : ∀ o1 o2 : Obj, Made w ((w.alloc o1).alloc o2) := fun o1 o2 => ((Turns.refl _ _).alloc _).alloc _
  by_cases h1 : b.when < a.when
  · have hd : decide (lt b a) = true := decide_eq_true (.inl h1)
    rw [hd]
    clear hd
    go_enter Try.func19, Try.ntmps19
    go_wp2
    go_ret
    exact ⟨rfl, hM _ _⟩
  · by_cases h2 : a.when = b.when
    · by_cases h3 : b.seq < a.seq
      · have hd : decide (lt b a) = true := decide_eq_true (.inr ⟨h2.symm, h3⟩)
        rw [hd]
        clear hd
        have hdb : (a.when == b.when) = true := by simp [h2]
        go_enter Try.func19, Try.ntmps19
        go_wp2
        go_ret
        exact ⟨rfl, hM _ _⟩
      · have hd : decide (lt b a) = false := decide_eq_false (by unfold lt; omega)
        rw [hd]
        clear hd
        have hdb : (a.when == b.when) = true := by simp [h2]
        go_enter Try.func19, Try.ntmps19
        go_wp2
        go_ret
        exact ⟨rfl, hM _ _⟩
    · have hd : decide (lt b a) = false := decide_eq_false (by unfold lt; omega)
      rw [hd]
      clear hd
      have hdb : (a.when == b.when) = false := beq_eq_false_iff_ne.mpr h2
      go_enter Try.func19, Try.ntmps19
      go_wp2
      go_ret
      exact ⟨rfl, hM _ _⟩

/-- Each stands behind the one above it. -/
def HStr (zs : List It) : Prop := ∀ (k : Nat) (u v : It), 0 < k → zs[k]? = some u → zs[par k]? = some v → lt v u
theorem rise_tot {L : List It} (h : L.Pairwise lt) {u v : It} (hu : u ∈ L) (hv : v ∈ L) (hne : u ≠ v) : lt u v ∨ lt v u := by
  induction L with
  | nil => cases hu
  | cons x l ih =>
    rw [List.pairwise_cons] at h
    rcases List.mem_cons.1 hu with e1 | h1
    · rcases List.mem_cons.1 hv with e2 | h2
      · exact absurd (e1.trans e2.symm) hne
      · exact .inl (by rw [e1]; exact h.1 v h2)
    · rcases List.mem_cons.1 hv with e2 | h2
      · exact .inr (by rw [e2]; exact h.1 u h1)
      · exact ih h.2 h1 h2
theorem hstr {ys L : List It} (ho : HOrd ys) (hp : ys.Perm L) (hu : Uniq L) (hr : L.Pairwise lt) : HStr ys := by
  intro k u v hk hku hkv
  have hne : u ≠ v := fun e => by
    have h1 := par_lt hk
    have h2 := (hu.perm hp) _ _ _ _ hku hkv (by rw [e])
    omega
  rcases rise_tot hr (hp.mem_iff.1 (List.mem_of_getElem? hku)) (hp.mem_iff.1 (List.mem_of_getElem? hkv)) hne with h | h
  · exact absurd h (ho k u v hk hku hkv)
  · exact h

set_option maxHeartbeats 1000000 in
theorem heaped_c (v : Value) (ys : List It) (w : World) (ho : Owns encT 30 3 w v ys) (hs : HStr ys) (hn : ys.length ≤ 1000000) : Calls Try.prog 23 #[v] w fun e w' => e = .returned (.bool true) ∧ Made w w' := by
  rcases ho.form with ⟨rfl, rfl⟩ | ⟨bg, cap, rfl, hg, hl, hm⟩
  · clear ho
    go_enter Try.func23, Try.ntmps23
    go_wp2_with fail
    go_loopw [3] (fun v3 wr => v3 = .int .i64 1 ∧ wr = w) (fun v3 _ => 0)
    case atStart => exact ⟨rfl, rfl⟩
    case round =>
      obtain ⟨rfl, rfl⟩ := hrel
      go_wp2_with fail
      go_ret
      exact ⟨rfl, Turns.refl _ _⟩
  have HO := Lib.hid ho
  have HS := Lib.hid hs
  clear ho hs
  go_enter Try.func23, Try.ntmps23
  go_wp2_with fail
  go_loopw [3] (fun v3 wr => ∃ k : Nat, 1 ≤ k ∧ v3 = .int .i64 k ∧ Made w wr) (fun v3 _ => ys.length - (intOf v3).toNat)
  case atStart => exact ⟨1, by omega, rfl, Turns.refl _ _⟩
  case round =>
    obtain ⟨k, hk, rfl, hm⟩ := hrel
    by_cases hkl : k < ys.length
    · clear hg
      obtain ⟨u, hu⟩ := get_of_lt hkl
      obtain ⟨z, hz⟩ := get_of_lt (xs := ys) (k := par k) (by have := par_lt (i := k) (by omega); omega)
      have hlt := decide_eq_true (HS.out k u z (by omega) hu hz)
      have HU := Lib.hid hu
      have HZ := Lib.hid hz
      have HM := Lib.hid hm
      have HB := Lib.hid (fun (w' : World) => (by have := behind_c u z w'; rw [hlt] at this; exact this : Calls Try.prog 19 #[aggT u, aggT z] w' fun e w2 => e = .returned (.bool true) ∧ Made w' w2))
      have hp := par_int k (by omega)
      have hpl := par_lt (i := k) (by omega)
      have i1 : (0 : Int) ≤ (k : Int) := Int.natCast_nonneg _
      have i2 : (k : Int) < (ys.length : Int) := by omega
      have i3 : (0 : Int) ≤ (par k : Int) := Int.natCast_nonneg _
      have i4 : (par k : Int) < (ys.length : Int) := by omega
      have hw1 : IntKind.i64.wrap ((k : Int) - 1) = (k : Int) - 1 := wrap_in _ (by omega)
      have hw2 : IntKind.i64.wrap (par k : Int) = (par k : Int) := wrap_in _ (by omega)
      clear hlt hu hz hm
      go_wp2_with fail
      refine wp_region_held_drew (S := (fun w' => Made wr w')) (by kernel_rfl) ?_ (fun hHeld => ?_)
      · exact (Turns.refl _ _).drew
      refine takeH (i := 0) (d := some 10) (v := ?_) rfl rfl (by kernel_rfl) (by kernel_rfl) (by kernel_rfl) (fun _ _ _ h => h) (Or.inl ⟨by rfl, ?_⟩) (by assumption) ?_
      rotate_left
      · intro w hSw
        try dsimp only at hSw
        go_simp
        try with_reducible rfl
      try simp only [Act.put, List.setIfInBounds_toArray, List.set_cons_zero, List.set_cons_succ]
      refine takeH (i := 1) (d := some 11) (v := ?_) rfl rfl (by kernel_rfl) (by kernel_rfl) (by kernel_rfl) (fun _ _ _ h => h) (Or.inl ⟨by rfl, ?_⟩) (by assumption) ?_
      rotate_left
      · intro w hSw
        try dsimp only at hSw
        go_simp
        try with_reducible rfl
      try simp only [Act.put, List.setIfInBounds_toArray, List.set_cons_zero, List.set_cons_succ]
      refine takeH (i := 2) (d := some 12) (v := ?_) rfl rfl (by kernel_rfl) (by kernel_rfl) (by kernel_rfl) (fun _ _ _ h => h) (Or.inl ⟨by rfl, ?_⟩) (by assumption) ?_
      rotate_left
      · intro w hSw
        try dsimp only at hSw
        go_simp
        try with_reducible rfl
      try simp only [Act.put, List.setIfInBounds_toArray, List.set_cons_zero, List.set_cons_succ]
      refine takeH (i := 3) (d := some 13) (v := ?_) rfl rfl (by kernel_rfl) (by kernel_rfl) (by kernel_rfl) (fun _ _ _ h => h) (Or.inl ⟨by rfl, ?_⟩) (by assumption) ?_
      rotate_left
      · intro w hSw
        try dsimp only at hSw
        have hb2 := HO.out.turns (HM.out.trans hSw) (fun _ _ h => h)
        have d0 := Owns.cell encT_len hb2 HU.out (j := 0) rfl
        have d1 := Owns.cell encT_len hb2 HU.out (j := 1) rfl
        have d2 := Owns.cell encT_len hb2 HU.out (j := 2) rfl
        simp only [Nat.add_zero] at d0
        clear hb2
        go_simp
        try with_reducible rfl
      try simp only [Act.put, List.setIfInBounds_toArray, List.set_cons_zero, List.set_cons_succ]
      refine takeH (i := 4) (d := some 14) (v := ?_) rfl rfl (by kernel_rfl) (by kernel_rfl) (by kernel_rfl) (fun _ _ _ h => h) (Or.inl ⟨by rfl, ?_⟩) (by assumption) ?_
      rotate_left
      · intro w hSw
        try dsimp only at hSw
        go_simp
        try with_reducible rfl
      try simp only [Act.put, List.setIfInBounds_toArray, List.set_cons_zero, List.set_cons_succ]
      refine takeH (i := 5) (d := some 15) (v := ?_) rfl rfl (by kernel_rfl) (by kernel_rfl) (by kernel_rfl) (fun _ _ _ h => h) (Or.inl ⟨by rfl, ?_⟩) (by assumption) ?_
      rotate_left
      · intro w hSw
        try dsimp only at hSw
        go_simp
        try with_reducible rfl
      try simp only [Act.put, List.setIfInBounds_toArray, List.set_cons_zero, List.set_cons_succ]
      refine takeH (i := 6) (d := some 16) (v := ?_) rfl rfl (by kernel_rfl) (by kernel_rfl) (by kernel_rfl) (fun _ _ _ h => h) (Or.inl ⟨by rfl, ?_⟩) (by assumption) ?_
      rotate_left
      · intro w hSw
        try dsimp only at hSw
        go_simp
        try with_reducible rfl
      try simp only [Act.put, List.setIfInBounds_toArray, List.set_cons_zero, List.set_cons_succ]
      refine takeH (i := 7) (d := some 17) (v := ?_) rfl rfl (by kernel_rfl) (by kernel_rfl) (by kernel_rfl) (fun _ _ _ h => h) (Or.inl ⟨by rfl, ?_⟩) (by assumption) ?_
      rotate_left
      · intro w hSw
        try dsimp only at hSw
        go_simp
        try with_reducible rfl
      try simp only [Act.put, List.setIfInBounds_toArray, List.set_cons_zero, List.set_cons_succ]
      refine takeH (i := 8) (d := some 18) (v := ?_) rfl rfl (by kernel_rfl) (by kernel_rfl) (by kernel_rfl) (fun _ _ _ h => h) (Or.inl ⟨by rfl, ?_⟩) (by assumption) ?_
      rotate_left
      · intro w hSw
        try dsimp only at hSw
        go_simp
        try with_reducible rfl
      try simp only [Act.put, List.setIfInBounds_toArray, List.set_cons_zero, List.set_cons_succ]
      refine takeH (i := 9) (d := some 19) (v := ?_) rfl rfl (by kernel_rfl) (by kernel_rfl) (by kernel_rfl) (fun _ _ _ h => h) (Or.inl ⟨by rfl, ?_⟩) (by assumption) ?_
      rotate_left
      · intro w hSw
        try dsimp only at hSw
        have hb2 := HO.out.turns (HM.out.trans hSw) (fun _ _ h => h)
        have d0 := Owns.cell encT_len hb2 HZ.out (j := 0) rfl
        have d1 := Owns.cell encT_len hb2 HZ.out (j := 1) rfl
        have d2 := Owns.cell encT_len hb2 HZ.out (j := 2) rfl
        simp only [Nat.add_zero] at d0
        clear hb2
        go_simp
        try with_reducible rfl
      try simp only [Act.put, List.setIfInBounds_toArray, List.set_cons_zero, List.set_cons_succ]
      refine wpAnyH_ready (rs := [10]) (by kernel_rfl) (by simp) ?_
      refine AllReadyH.cons rfl (fun K hK => ?_) AllReadyH.nil
      go_simp
      refine (HB.out _).mono ?_
      rintro e w' ⟨rfl, hm'⟩
      go_wp2_with fail
      refine hK.out _ _ ?_ (fun hHeld => ?_)
      · exact Turns.trans hHeld hm'
      clear hK K
      try simp only [Act.put, List.setIfInBounds_toArray, List.set_cons_zero, List.set_cons_succ]
      refine wpAnyH_ready (rs := [11]) (by kernel_rfl) (by simp) ?_
      refine AllReadyH.cons rfl (fun K hK => ?_) AllReadyH.nil
      go_simp
      refine hK.out _ _ ?_ (fun hHeld => ?_)
      · exact hHeld
      clear hK K
      try simp only [Act.put, List.setIfInBounds_toArray, List.set_cons_zero, List.set_cons_succ]
      refine wpAnyH_done (by kernel_rfl) ?_ _
      have HMX := Lib.hid (Turns.trans HM.out hHeld)
      clear hHeld
      try clear hHeld
      go_wp2_with fail
      go_roundw
      case rel => exact ⟨k + 1, by omega, by go_num, HMX.out⟩
      case measure => simp [intOf]; omega
    · have i2 : ¬ (k : Int) < (ys.length : Int) := by omega
      have HM := Lib.hid hm
      clear hm
      go_wp2_with fail
      go_ret
      exact ⟨rfl, HM.out⟩
end Go.Proofs.Ytgjgopcomgclkaa
