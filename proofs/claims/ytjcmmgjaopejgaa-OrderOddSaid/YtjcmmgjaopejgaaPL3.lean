/-
  tarpaulinlaw23.OrderOdd: its walk.
-/
import Derived.Test.YtjcmmgjaopejgaaP5
namespace Go.Proofs.Ytjcmmgjaopejgaa
open Go.RowKit Go.Sort
set_option linter.unusedVariables false
set_option linter.unusedSimpArgs false

set_option maxHeartbeats 200000000 in
set_option maxRecDepth 100000 in
theorem odd_w (k n : Int) (w : World) : Calls Try.prog 4 #[.int .i64 k, .int .i64 n] w fun e w' => e = .returned (.bool true) ∧ Made w w' := by
  obtain ⟨i0, hi0, hz0, hz1, hz2⟩ := info_parts Try.infoE
  by_cases hout : n < 1 ∨ 20 < n
  · have hcase : n < 1 ∨ (¬ n < 1 ∧ 20 < n) := by omega
    clear hout
    rcases hcase with h1 | ⟨h1, h2⟩
    all_goals
      go_enter Try.func4, Try.ntmps4
      go_wp2_with fail
      refine (awake_c w).mono ?_
      rintro e w' ⟨rfl, hm⟩
      have HM := Lib.hid hm
      clear hm
      go_wp2_with fail
      go_ret
      exact ⟨rfl, HM.out⟩
  obtain ⟨m, rfl⟩ : ∃ m : Nat, n = m := ⟨n.toNat, by omega⟩
  have hm1 : 1 ≤ m := by omega
  have hm20 : m ≤ 20 := by omega
  have g1 : ¬ (m : Int) < 1 := by omega
  have g2 : ¬ (20 : Int) < (m : Int) := by omega
  have hr0 : 0 ≤ k % 8 := Int.emod_nonneg _ (by omega)
  have hr1 : k % 8 < 8 := Int.emod_lt_of_pos _ (by omega)
  have HRC := Lib.hid (fun w' => round_c k 8 w' (by omega) (by omega))
  obtain ⟨q, hq⟩ : ∃ q : Nat, k % 8 = (q : Int) := ⟨(k % 8).toNat, by omega⟩
  rw [hq] at HRC hr0 hr1
  have hq8 : q < 8 := by omega
  clear hout hq hr0 hr1
  go_enter Try.func4, Try.ntmps4
  go_wp2_with fail
  go_loopw [5, 6] (fun v5 v6 wr => ∃ (j : Nat) (I : Int), j ≤ m ∧ I = (j : Int) + 1 ∧ v6 = .int .i64 I ∧ Grow encE 26 6 w wr v5 (rawL j)) (fun _ v6 _ => m + 1 - (intOf v6).toNat)
  case atStart => exact ⟨0, 1, Nat.zero_le _, rfl, rfl, Grow.nil (Turns.refl _ _)⟩
  case round =>
    obtain ⟨j, I, hj, hI, rfl, hg⟩ := hrel
    have HG := Lib.hid hg
    clear hg
    have hlen := rawL_len j
    by_cases hjm : j < m
    · have HR := Lib.hid (show rawL (j + 1) = rawL j ++ fourE I by rw [hI]; rfl)
      have HII := Lib.hid hI
      have i1 : I ≤ (m : Int) := by omega
      have hwI : IntKind.i64.wrap (I + 1) = I + 1 := wrap_in _ (by omega)
      have hIN : 1 ≤ I ∧ I ≤ 20 := by omega
      generalize rawL j = L at *
      clear hI
      have HGA := Lib.hid (HG.out.alloc (.cells #[.int .i64 I, .int .i64 5, .int .i64 I, .int .i64 0, .int .i64 0, .int .i64 0, .int .i64 I, .int .i64 2, .int .i64 I, .int .i64 0, .int .i64 0, .int .i64 0, .int .i64 (I + 1), .int .i64 3, .int .i64 I, .int .i64 0, .int .i64 0, .int .i64 0, .int .i64 (I + 1), .int .i64 1, .int .i64 I, .int .i64 0, .int .i64 0, .int .i64 0] 26))
      have HS := Lib.hid (SrcAt.block (enc := encE) (N := fourE I) (n := 4) (c := 4) (Blk.new wr 26 #[.int .i64 I, .int .i64 5, .int .i64 I, .int .i64 0, .int .i64 0, .int .i64 0, .int .i64 I, .int .i64 2, .int .i64 I, .int .i64 0, .int .i64 0, .int .i64 0, .int .i64 (I + 1), .int .i64 3, .int .i64 I, .int .i64 0, .int .i64 0, .int .i64 0, .int .i64 (I + 1), .int .i64 1, .int .i64 I, .int .i64 0, .int .i64 0, .int .i64 0]) rfl rfl)
      go_wp2_with (at_builtin; refine wpList_grow rfl (.tmp 26) (.tmp 41) 22 rfl i0 _ 48 Try.underlying22 hi0 hz0 hz1 hz2 rfl (by omega) encE_len encE_one rfl HGA.out rfl HS.out (by simp [maxLen, fourE]; omega) (by simp [fourE]; omega) ?_)
      intro v3 w3 hg3 hF hS hO
      have HG3 := Lib.hid hg3
      clear hg3 hF hS hO HS HGA
      go_wp2_with fail
      go_roundw
      case rel => exact ⟨j + 1, I + 1, by omega, by have := HII.out; omega, rfl, by rw [HR.out]; exact HG3.out⟩
      case measure => have := HII.out; simp [intOf]; omega
    · obtain rfl : m = j := by omega
      have i1 : ¬ I ≤ (m : Int) := by omega
      have HUP := Lib.hid (fun (i : Nat) (x y : Ev) (hx : (rawL m)[i]? = some x) (hy : (rawL m)[i + 1]? = some y) => raw_up hm20 hx hy)
      have HF0 := Lib.hid (facts0 ⟨m, by omega⟩ hm1)
      have HGX := Lib.hid (facts1 ⟨m, by omega⟩ hm1)
      have HOX := Lib.hid (facts2 ⟨m, by omega⟩ hm1)
      simp only at HF0 HGX HOX
      generalize rawL m = L at *
      have hL4 : 4 ≤ L.length := by omega
      have hL80 : L.length ≤ 80 := by omega
      rcases HG.out.own.form with ⟨h0, h1⟩ | ⟨g, cp, rfl, hgl, hlc, hcm⟩
      · rw [h1] at hL4
        simp at hL4
      clear hlen hgl hI
      go_wp2_with fail
      go_loopw [7] (fun v7 wx => ∃ i : Nat, 1 ≤ i ∧ i ≤ L.length ∧ v7 = .int .i64 i ∧ Grow encE 26 6 w wx (.slice (some ⟨g, 0, none⟩) L.length cp) L) (fun v7 _ => L.length - (intOf v7).toNat)
      case atStart => exact ⟨1, Nat.le_refl _, by omega, rfl, HG.out⟩
      case round =>
        obtain ⟨i, hi1, hi, rfl, hg⟩ := hrel
        clear HG
        have HG := Lib.hid hg
        clear hg
        have ii : (0 : Int) ≤ (i : Int) := Int.natCast_nonneg _
        by_cases hil : i < L.length
        · have i2 : (i : Int) < (L.length : Int) := by omega
          obtain ⟨p, hp⟩ : ∃ p, i = p + 1 := ⟨i - 1, by omega⟩
          obtain ⟨x, hx⟩ := get_of_lt (xs := L) (k := i) hil
          obtain ⟨y, hy⟩ := get_of_lt (xs := L) (k := p) (by omega)
          have hup := HUP.out p y x hy (by rw [← hp]; exact hx)
          have hwp : IntKind.i64.wrap ((i : Int) - 1) = (p : Int) := by rw [show (i : Int) - 1 = (p : Int) from by omega]; exact wrap_in _ (by omega)
          have p1 : (0 : Int) ≤ (p : Int) := Int.natCast_nonneg _
          have p2 : (p : Int) < (L.length : Int) := by omega
          have hmax : max x.step y.step = x.step := by omega
          have HGD := Lib.hid HG.out.drew
          have e0 := Owns.cell encE_len HGD.out.own hx (j := 0) rfl
          have e1 := Owns.cell encE_len HGD.out.own hy (j := 0) rfl
          have f0 := Owns.free HGD.out.own (i * 6)
          simp only [Nat.add_zero] at e0 e1
          have HPUT := Lib.hid (Grow.put encE_len HG.out hx (x' := x) (j := 0) (u := .int .i64 x.step) rfl (by decide))
          have hself : L.set i x = L := by
            obtain ⟨hl, rfl⟩ := List.getElem?_eq_some_iff.1 hx
            exact List.set_getElem_self hl
          rw [hself] at HPUT
          have HP := Lib.hid hp
          clear hx hy hup hself hp
          go_wp2_with fail
          refine wp_region_z (S := fun w' => wr.drew = w') 16 (by kernel_rfl) ?_ (fun hHeld => ?_)
          · exact rfl
          refine takeZ (i := 0) (d := some 49) (v := ?_) rfl rfl (by kernel_rfl) (by kernel_rfl) (by kernel_rfl) (by kernel_rfl) (fun _ _ _ h => h) (Or.inl ⟨by rfl, ?_⟩) (by assumption) ?_
          rotate_left
          · intro w hSw
            try dsimp only at hSw
            go_simp
            try with_reducible rfl
          try simp only [Act.put, List.setIfInBounds_toArray, List.set_cons_zero, List.set_cons_succ]
          refine takeZ (i := 1) (d := some 50) (v := ?_) rfl rfl (by kernel_rfl) (by kernel_rfl) (by kernel_rfl) (by kernel_rfl) (fun _ _ _ h => h) (Or.inl ⟨by rfl, ?_⟩) (by assumption) ?_
          rotate_left
          · intro w hSw
            try dsimp only at hSw
            go_simp
            try with_reducible rfl
          try simp only [Act.put, List.setIfInBounds_toArray, List.set_cons_zero, List.set_cons_succ]
          refine takeZ (i := 2) (d := some 51) (v := ?_) rfl rfl (by kernel_rfl) (by kernel_rfl) (by kernel_rfl) (by kernel_rfl) (fun _ _ _ h => h) (Or.inl ⟨by rfl, ?_⟩) (by assumption) ?_
          rotate_left
          · intro w hSw
            try dsimp only at hSw
            go_simp
            try with_reducible rfl
          try simp only [Act.put, List.setIfInBounds_toArray, List.set_cons_zero, List.set_cons_succ]
          refine takeZ (i := 3) (d := some 52) (v := ?_) rfl rfl (by kernel_rfl) (by kernel_rfl) (by kernel_rfl) (by kernel_rfl) (fun _ _ _ h => h) (Or.inl ⟨by rfl, ?_⟩) (by assumption) ?_
          rotate_left
          · intro w hSw
            try dsimp only at hSw
            go_simp
            try with_reducible rfl
          try simp only [Act.put, List.setIfInBounds_toArray, List.set_cons_zero, List.set_cons_succ]
          refine takeZ (i := 4) (d := some 53) (v := ?_) rfl rfl (by kernel_rfl) (by kernel_rfl) (by kernel_rfl) (by kernel_rfl) (fun _ _ _ h => h) (Or.inl ⟨by rfl, ?_⟩) (by assumption) ?_
          rotate_left
          · intro w hSw
            try dsimp only at hSw
            go_simp
            try with_reducible rfl
          try simp only [Act.put, List.setIfInBounds_toArray, List.set_cons_zero, List.set_cons_succ]
          refine takeZ (i := 5) (d := some 54) (v := ?_) rfl rfl (by kernel_rfl) (by kernel_rfl) (by kernel_rfl) (by kernel_rfl) (fun _ _ _ h => h) (Or.inl ⟨by rfl, ?_⟩) (by assumption) ?_
          rotate_left
          · intro w hSw
            try dsimp only at hSw
            go_simp
            try with_reducible rfl
          try simp only [Act.put, List.setIfInBounds_toArray, List.set_cons_zero, List.set_cons_succ]
          refine takeZ (i := 6) (d := some 55) (v := ?_) rfl rfl (by kernel_rfl) (by kernel_rfl) (by kernel_rfl) (by kernel_rfl) (fun _ _ _ h => h) (Or.inl ⟨by rfl, ?_⟩) (by assumption) ?_
          rotate_left
          · intro w hSw
            try dsimp only at hSw
            subst hSw
            go_simp
            try with_reducible rfl
          try simp only [Act.put, List.setIfInBounds_toArray, List.set_cons_zero, List.set_cons_succ]
          refine takeZ (i := 7) (d := some 56) (v := ?_) rfl rfl (by kernel_rfl) (by kernel_rfl) (by kernel_rfl) (by kernel_rfl) (fun _ _ _ h => h) (Or.inl ⟨by rfl, ?_⟩) (by assumption) ?_
          rotate_left
          · intro w hSw
            try dsimp only at hSw
            go_simp
            try with_reducible rfl
          try simp only [Act.put, List.setIfInBounds_toArray, List.set_cons_zero, List.set_cons_succ]
          refine takeZ (i := 8) (d := some 57) (v := ?_) rfl rfl (by kernel_rfl) (by kernel_rfl) (by kernel_rfl) (by kernel_rfl) (fun _ _ _ h => h) (Or.inl ⟨by rfl, ?_⟩) (by assumption) ?_
          rotate_left
          · intro w hSw
            try dsimp only at hSw
            go_simp
            try with_reducible rfl
          try simp only [Act.put, List.setIfInBounds_toArray, List.set_cons_zero, List.set_cons_succ]
          refine takeZ (i := 9) (d := some 58) (v := ?_) rfl rfl (by kernel_rfl) (by kernel_rfl) (by kernel_rfl) (by kernel_rfl) (fun _ _ _ h => h) (Or.inl ⟨by rfl, ?_⟩) (by assumption) ?_
          rotate_left
          · intro w hSw
            try dsimp only at hSw
            go_simp
            try with_reducible rfl
          try simp only [Act.put, List.setIfInBounds_toArray, List.set_cons_zero, List.set_cons_succ]
          refine takeZ (i := 10) (d := some 59) (v := ?_) rfl rfl (by kernel_rfl) (by kernel_rfl) (by kernel_rfl) (by kernel_rfl) (fun _ _ _ h => h) (Or.inl ⟨by rfl, ?_⟩) (by assumption) ?_
          rotate_left
          · intro w hSw
            try dsimp only at hSw
            go_simp
            try with_reducible rfl
          try simp only [Act.put, List.setIfInBounds_toArray, List.set_cons_zero, List.set_cons_succ]
          refine takeZ (i := 11) (d := some 60) (v := ?_) rfl rfl (by kernel_rfl) (by kernel_rfl) (by kernel_rfl) (by kernel_rfl) (fun _ _ _ h => h) (Or.inl ⟨by rfl, ?_⟩) (by assumption) ?_
          rotate_left
          · intro w hSw
            try dsimp only at hSw
            go_simp
            try with_reducible rfl
          try simp only [Act.put, List.setIfInBounds_toArray, List.set_cons_zero, List.set_cons_succ]
          refine takeZ (i := 12) (d := some 61) (v := ?_) rfl rfl (by kernel_rfl) (by kernel_rfl) (by kernel_rfl) (by kernel_rfl) (fun _ _ _ h => h) (Or.inl ⟨by rfl, ?_⟩) (by assumption) ?_
          rotate_left
          · intro w hSw
            try dsimp only at hSw
            subst hSw
            go_simp
            try with_reducible rfl
          try simp only [Act.put, List.setIfInBounds_toArray, List.set_cons_zero, List.set_cons_succ]
          refine takeZ (i := 13) (d := some 62) (v := ?_) rfl rfl (by kernel_rfl) (by kernel_rfl) (by kernel_rfl) (by kernel_rfl) (fun _ _ _ h => h) (Or.inl ⟨by rfl, ?_⟩) (by assumption) ?_
          rotate_left
          · intro w hSw
            try dsimp only at hSw
            go_simp
            try with_reducible rfl
          try simp only [Act.put, List.setIfInBounds_toArray, List.set_cons_zero, List.set_cons_succ]
          refine wpAnyZ_ready (rs := [14]) (by kernel_rfl) (by simp) ?_
          refine AllReadyZ.cons rfl (fun K hK => ?_) AllReadyZ.nil
          go_simp
          refine hK.out _ _ hHeld (fun hHeld => ?_)
          clear hK K
          try simp only [Act.put, List.setIfInBounds_toArray, List.set_cons_zero, List.set_cons_succ]
          refine takeZ (i := 15) (d := some 64) (v := ?_) rfl rfl (by kernel_rfl) (by kernel_rfl) (by kernel_rfl) (by kernel_rfl) (fun _ _ _ h => h) (Or.inl ⟨by rfl, ?_⟩) (by assumption) ?_
          rotate_left
          · intro w hSw
            try dsimp only at hSw
            go_simp
            try with_reducible rfl
          try simp only [Act.put, List.setIfInBounds_toArray, List.set_cons_zero, List.set_cons_succ]
          refine wpAnyZ_ready (rs := [16]) (by kernel_rfl) (by simp) ?_
          refine AllReadyZ.last rfl (fun K hK => ?_) AllReadyZ.nil
          go_simp
          refine hK.out _ _ ?_
          clear hK K
          try simp only [Act.put, List.setIfInBounds_toArray, List.set_cons_zero, List.set_cons_succ]
          refine wpAnyZ_done (by kernel_rfl) ?_ _
          clear e0 e1 f0
          go_wp2_with fail
          go_roundw
          case rel => exact ⟨i + 1, by omega, by omega, by go_num, by have h := HPUT.out.drew; simpa using h⟩
          case measure => simp [intOf]; omega
        · have i2 : ¬ (i : Int) < (L.length : Int) := by omega
          have hw5 : IntKind.i64.wrap ((m : Int) + 5) = (m : Int) + 5 := wrap_in _ (by omega)
          have hw2 : IntKind.i64.wrap ((m : Int) + 2) = (m : Int) + 2 := wrap_in _ (by omega)
          have hw1 : IntKind.i64.wrap ((m : Int) + 1) = (m : Int) + 1 := wrap_in _ (by omega)
          go_wp2_with fail
          have HOO := Lib.hid (owns_blk (n := 8) (l := oddL m) encE_len (show Blk (wr.alloc (.cells #[.int .i64 ((m : Int) + 5), .int .i64 3, .int .i64 m, .int .i64 0, .int .i64 0, .int .i64 0, .int .i64 ((m : Int) + 5), .int .i64 5, .int .i64 ((m : Int) + 2), .int .i64 0, .int .i64 0, .int .i64 0, .int .i64 0, .int .i64 1, .int .i64 m, .int .i64 0, .int .i64 0, .int .i64 0, .int .i64 ((m : Int) + 5), .int .i64 9, .int .i64 m, .int .i64 0, .int .i64 0, .int .i64 0, .int .i64 ((m : Int) + 5), .int .i64 1, .int .i64 ((m : Int) + 1), .int .i64 0, .int .i64 0, .int .i64 0, .int .i64 ((m : Int) + 5), .int .i64 5, .int .i64 m, .int .i64 0, .int .i64 0, .int .i64 0, .int .i64 ((m : Int) + 5), .int .i64 3, .int .i64 0, .int .i64 0, .int .i64 0, .int .i64 0, .int .i64 ((m : Int) + 5), .int .i64 0, .int .i64 0, .int .i64 0, .int .i64 0, .int .i64 0] 26)) wr.heap.size 26 (flat encE (oddL m)).toArray from Blk.new wr 26 _) rfl rfl (by unfold maxLen; omega))
          have HG1 := Lib.hid (HG.out.alloc (.cells #[.int .i64 ((m : Int) + 5), .int .i64 3, .int .i64 m, .int .i64 0, .int .i64 0, .int .i64 0, .int .i64 ((m : Int) + 5), .int .i64 5, .int .i64 ((m : Int) + 2), .int .i64 0, .int .i64 0, .int .i64 0, .int .i64 0, .int .i64 1, .int .i64 m, .int .i64 0, .int .i64 0, .int .i64 0, .int .i64 ((m : Int) + 5), .int .i64 9, .int .i64 m, .int .i64 0, .int .i64 0, .int .i64 0, .int .i64 ((m : Int) + 5), .int .i64 1, .int .i64 ((m : Int) + 1), .int .i64 0, .int .i64 0, .int .i64 0, .int .i64 ((m : Int) + 5), .int .i64 5, .int .i64 m, .int .i64 0, .int .i64 0, .int .i64 0, .int .i64 ((m : Int) + 5), .int .i64 3, .int .i64 0, .int .i64 0, .int .i64 0, .int .i64 0, .int .i64 ((m : Int) + 5), .int .i64 0, .int .i64 0, .int .i64 0, .int .i64 0, .int .i64 0] 26))
          clear HG
          generalize wr.alloc (.cells #[.int .i64 ((m : Int) + 5), .int .i64 3, .int .i64 m, .int .i64 0, .int .i64 0, .int .i64 0, .int .i64 ((m : Int) + 5), .int .i64 5, .int .i64 ((m : Int) + 2), .int .i64 0, .int .i64 0, .int .i64 0, .int .i64 0, .int .i64 1, .int .i64 m, .int .i64 0, .int .i64 0, .int .i64 0, .int .i64 ((m : Int) + 5), .int .i64 9, .int .i64 m, .int .i64 0, .int .i64 0, .int .i64 0, .int .i64 ((m : Int) + 5), .int .i64 1, .int .i64 ((m : Int) + 1), .int .i64 0, .int .i64 0, .int .i64 0, .int .i64 ((m : Int) + 5), .int .i64 5, .int .i64 m, .int .i64 0, .int .i64 0, .int .i64 0, .int .i64 ((m : Int) + 5), .int .i64 3, .int .i64 0, .int .i64 0, .int .i64 0, .int .i64 0, .int .i64 ((m : Int) + 5), .int .i64 0, .int .i64 0, .int .i64 0, .int .i64 0, .int .i64 0] 26) = w1 at *
          generalize wr.heap.size = bO at *
          refine (HRC.out _).mono ?_
          rintro e w2 ⟨rfl, rfl⟩
          clear HRC
          go_wp2_with fail
          have HGO := Lib.hid (owns_blk (n := 4) (l := goodL m) encE_len (show Blk (w1.alloc (.cells #[.int .i64 ((m : Int) + 5), .int .i64 4, .int .i64 m, .int .i64 0, .int .i64 0, .int .i64 0, .int .i64 ((m : Int) + 5), .int .i64 5, .int .i64 ((m : Int) + 1), .int .i64 0, .int .i64 0, .int .i64 0, .int .i64 ((m : Int) + 5), .int .i64 8, .int .i64 0, .int .i64 0, .int .i64 0, .int .i64 0, .int .i64 ((m : Int) + 5), .int .i64 2, .int .i64 0, .int .i64 0, .int .i64 0, .int .i64 0] 26)) w1.heap.size 26 (flat encE (goodL m)).toArray from Blk.new w1 26 _) rfl rfl (by unfold maxLen; omega))
          have HOO2 := Lib.hid (show Owns encE 26 6 _ (.slice (some ⟨bO, 0, none⟩) 8 8) (oddL m) from World.ownsRow.alloc HOO.out (.cells #[.int .i64 ((m : Int) + 5), .int .i64 4, .int .i64 m, .int .i64 0, .int .i64 0, .int .i64 0, .int .i64 ((m : Int) + 5), .int .i64 5, .int .i64 ((m : Int) + 1), .int .i64 0, .int .i64 0, .int .i64 0, .int .i64 ((m : Int) + 5), .int .i64 8, .int .i64 0, .int .i64 0, .int .i64 0, .int .i64 0, .int .i64 ((m : Int) + 5), .int .i64 2, .int .i64 0, .int .i64 0, .int .i64 0, .int .i64 0] 26))
          have HG2 := Lib.hid (HG1.out.alloc (.cells #[.int .i64 ((m : Int) + 5), .int .i64 4, .int .i64 m, .int .i64 0, .int .i64 0, .int .i64 0, .int .i64 ((m : Int) + 5), .int .i64 5, .int .i64 ((m : Int) + 1), .int .i64 0, .int .i64 0, .int .i64 0, .int .i64 ((m : Int) + 5), .int .i64 8, .int .i64 0, .int .i64 0, .int .i64 0, .int .i64 0, .int .i64 ((m : Int) + 5), .int .i64 2, .int .i64 0, .int .i64 0, .int .i64 0, .int .i64 0] 26))
          clear HG1 HOO hw5 hw2 hw1
          generalize w1.alloc (.cells #[.int .i64 ((m : Int) + 5), .int .i64 4, .int .i64 m, .int .i64 0, .int .i64 0, .int .i64 0, .int .i64 ((m : Int) + 5), .int .i64 5, .int .i64 ((m : Int) + 1), .int .i64 0, .int .i64 0, .int .i64 0, .int .i64 ((m : Int) + 5), .int .i64 8, .int .i64 0, .int .i64 0, .int .i64 0, .int .i64 0, .int .i64 ((m : Int) + 5), .int .i64 2, .int .i64 0, .int .i64 0, .int .i64 0, .int .i64 0] 26) = W0 at *
          generalize w1.heap.size = bG at *
          go_loopw [12] (fun v12 wx => ∃ j : Nat, j ≤ 4 ∧ v12 = .int .i64 j ∧ Made W0 wx) (fun v12 _ => 4 - (intOf v12).toNat)
          case atStart => exact ⟨0, by omega, rfl, Turns.refl _ _⟩
          case round =>
            obtain ⟨j, hj, rfl, hmw⟩ := hrel
            have HMW := Lib.hid hmw
            have HLO := Lib.hid (HG2.out.own.turns hmw (fun _ _ h => h))
            have HOO := Lib.hid (HOO2.out.turns hmw (fun _ _ h => h))
            have HGG := Lib.hid (HGO.out.turns hmw (fun _ _ h => h))
            have HMA := Lib.hid (HG2.out.made.trans hmw)
            clear hmw
            have j1 : (0 : Int) ≤ (j : Int) := Int.natCast_nonneg _
            by_cases hj4 : j < 4
            · have j2 : (j : Int) < 4 := by omega
              obtain ⟨x, hx⟩ : ∃ x, (goodL m)[j]? = some x := get_of_lt (xs := goodL m) (k := j) (by simpa [goodL] using hj4)
              have HX := Lib.hid hx
              clear hx
              go_wp2_with fail
              generalize wr = W at *
              have KS := Lib.hid (show ∀ w', Made W w' → Owns encE 26 6 w' (.slice (some ⟨bO, 0, none⟩) 8 8) (oddL m) ∧ Owns encE 26 6 w' (.slice (some ⟨bG, 0, none⟩) 4 4) (goodL m) from fun w' hm => ⟨HOO.out.turns hm (fun _ _ h => h), HGG.out.turns hm (fun _ _ h => h)⟩)
              have SRCL := Lib.hid (show ∀ w', Made W w' → SrcAt encE w' (.slice (some ⟨g, 0, none⟩) L.length cp) L from fun w' hm => by
                have h := SrcAt.pre (c := cp) encE_len (HLO.out.turns hm (fun _ _ h => h)) (Nat.le_refl L.length)
                rw [List.take_length] at h
                exact h)
              refine wp_region_held_drew (S := fun w' => Owns encE 26 6 w' (.slice (some ⟨bO, 0, none⟩) 8 8) (oddL m) ∧ Owns encE 26 6 w' (.slice (some ⟨bG, 0, none⟩) 4 4) (goodL m)) (by kernel_rfl) ?_ (fun hHeld => ?_)
              · exact KS.out _ (Turns.drew (Turns.refl _ W))
              have hMc : Made W W.drew := Turns.drew (Turns.refl _ W)
              generalize W.drew = w0 at *
              refine takeH (i := 1) (d := some 112) (v := ?_) rfl rfl (by kernel_rfl) (by kernel_rfl) (by kernel_rfl) (fun _ _ _ h => h) (Or.inl ⟨by rfl, ?_⟩) (by assumption) ?_
              rotate_left
              · intro w hSw
                try dsimp only at hSw
                go_simp
                try with_reducible rfl
              try simp only [Act.put, List.setIfInBounds_toArray, List.set_cons_zero, List.set_cons_succ]
              refine takeH (i := 3) (d := some 114) (v := ?_) rfl rfl (by kernel_rfl) (by kernel_rfl) (by kernel_rfl) (fun _ _ _ h => h) (Or.inl ⟨by rfl, ?_⟩) (by assumption) ?_
              rotate_left
              · intro w hSw
                try dsimp only at hSw
                go_simp
                try with_reducible rfl
              try simp only [Act.put, List.setIfInBounds_toArray, List.set_cons_zero, List.set_cons_succ]
              refine takeH (i := 4) (d := some 115) (v := ?_) rfl rfl (by kernel_rfl) (by kernel_rfl) (by kernel_rfl) (fun _ _ _ h => h) (Or.inl ⟨by rfl, ?_⟩) (by assumption) ?_
              rotate_left
              · intro w hSw
                try dsimp only at hSw
                go_simp
                try with_reducible rfl
              try simp only [Act.put, List.setIfInBounds_toArray, List.set_cons_zero, List.set_cons_succ]
              refine takeH (i := 5) (d := some 116) (v := ?_) rfl rfl (by kernel_rfl) (by kernel_rfl) (by kernel_rfl) (fun _ _ _ h => h) (Or.inl ⟨by rfl, ?_⟩) (by assumption) ?_
              rotate_left
              · intro w hSw
                try dsimp only at hSw
                go_simp
                try with_reducible rfl
              try simp only [Act.put, List.setIfInBounds_toArray, List.set_cons_zero, List.set_cons_succ]
              refine takeH (i := 6) (d := some 117) (v := ?_) rfl rfl (by kernel_rfl) (by kernel_rfl) (by kernel_rfl) (fun _ _ _ h => h) (Or.inl ⟨by rfl, ?_⟩) (by assumption) ?_
              rotate_left
              · intro w hSw
                try dsimp only at hSw
                have x0 := Owns.cell encE_len hSw.2 HX.out (j := 0) rfl
                have x1 := Owns.cell encE_len hSw.2 HX.out (j := 1) rfl
                have x2 := Owns.cell encE_len hSw.2 HX.out (j := 2) rfl
                have x3 := Owns.cell encE_len hSw.2 HX.out (j := 3) rfl
                have x4 := Owns.cell encE_len hSw.2 HX.out (j := 4) rfl
                have x5 := Owns.cell encE_len hSw.2 HX.out (j := 5) rfl
                simp only [Nat.add_zero, Nat.zero_mul, Nat.zero_add] at x0 x1 x2 x3 x4 x5
                go_simp
                try with_reducible rfl
              try simp only [Act.put, List.setIfInBounds_toArray, List.set_cons_zero, List.set_cons_succ]
              refine wpAnyH_ready (rs := [0, 7]) (by kernel_rfl) (by simp) ?_
              refine AllReadyH.cons rfl (fun K hK => ?_) ?_
              · as_aux_lemma =>
                  refine step_emptyW encE 6 (by rfl) _ (by rfl) i0 _ Try.underlying22 hi0 hz0 hMc ?_
                  intro bE wE hGE hTE hLE
                  refine hK.out _ _ ?_ (fun hHeld => ?_)
                  · exact KS.out _ hGE.made
                  clear hK K
                  try simp only [Act.put, List.setIfInBounds_toArray, List.set_cons_zero, List.set_cons_succ]
                  replace hMc := hGE.made
                  clear hTE
                  refine wpAnyH_ready (rs := [2, 7]) (by kernel_rfl) (by simp) ?_
                  refine AllReadyH.cons rfl (fun K hK => ?_) ?_
                  · as_aux_lemma =>
                      refine step_growW (by rfl) _ _ _ (by rfl) i0 _ 48 Try.underlying22 hi0 hz0 hz1 hz2 rfl (by omega) encE_len encE_one (by rfl) hGE (by rfl) (SRCL.out _ hMc) (by simp only [List.length_append, List.length_nil, List.length_cons, maxLen]; omega) (by simp only [List.length_append, List.length_nil, List.length_cons, maxLen]; omega) ?_
                      intro v1 w1 hG1 hF1 hS1 hO1
                      refine hK.out _ _ ?_ (fun hHeld => ?_)
                      · exact KS.out _ hG1.made
                      clear hK K
                      try simp only [Act.put, List.setIfInBounds_toArray, List.set_cons_zero, List.set_cons_succ]
                      replace hMc := hG1.made
                      clear hF1 hS1 hO1 hGE
                      refine wpAnyH_ready (rs := [7]) (by kernel_rfl) (by simp) ?_
                      refine AllReadyH.cons rfl (fun K hK => ?_) AllReadyH.nil
                      refine step_singleW (by rfl) _ (.tmp 117) (by rfl) i0 _ Try.underlying22 hi0 hz0 (by rw [hz1]; decide) (by rw [hz1]; decide) #[.int .i64 x.step, .int .i64 x.kind, .int .i64 x.task, .int .i64 x.a, .int .i64 x.b, .int .i64 x.c] (by rfl) (fillE hz1 _ _ _ _ _ _) ?_
                      intro bX wX hTX hBX hLX
                      refine hK.out _ _ ?_ (fun hHeld => ?_)
                      · exact KS.out _ (hMc.trans hTX)
                      clear hK K
                      try simp only [Act.put, List.setIfInBounds_toArray, List.set_cons_zero, List.set_cons_succ]
                      replace hMc := hMc.trans hTX
                      have hBXlt := hBX.lt
                      replace hG1 := hG1.turns hTX (fun _ _ h => h) (fun _ _ h => h)
                      clear hTX
                      refine wpAnyH_ready (rs := [8]) (by kernel_rfl) (by simp) ?_
                      refine AllReadyH.cons rfl (fun K hK => ?_) AllReadyH.nil
                      refine step_growW (by rfl) _ _ _ (by rfl) i0 _ 48 Try.underlying22 hi0 hz0 hz1 hz2 rfl (by omega) encE_len encE_one (by rfl) hG1 (by rfl) (SrcAt.block (N := [(x : Ev)]) hBX rfl (by simp [flat, encE, lateE])) (by simp only [List.length_append, List.length_nil, List.length_cons, maxLen]; omega) (by simp only [List.length_append, List.length_nil, List.length_cons, maxLen]; omega) ?_
                      intro v2 w2 hG2 hF2 hS2 hO2
                      refine hK.out _ _ ?_ (fun hHeld => ?_)
                      · exact KS.out _ hG2.made
                      clear hK K
                      try simp only [Act.put, List.setIfInBounds_toArray, List.set_cons_zero, List.set_cons_succ]
                      replace hMc := hG2.made
                      clear hF2 hS2 hO2 hG1
                      refine wpAnyH_ready (rs := [9]) (by kernel_rfl) (by simp) ?_
                      refine AllReadyH.cons rfl (fun K hK => ?_) AllReadyH.nil
                      obtain ⟨M, hM⟩ : ∃ M, [] ++ L ++ [x] = M := ⟨_, rfl⟩
                      rw [hM] at hG2
                      obtain ⟨a2, c2, rfl, hr2⟩ := rowIn_owns encE_len hG2.own
                      have HSN := Lib.hid (sound_c a2 M.length c2 M _ hr2 (by rw [← hM]; simp; omega))
                      rw [show soundM M = true from by rw [← hM]; exact HGX.out x (List.mem_of_getElem? HX.out)] at HSN
                      clear hr2 hM
                      go_simp
                      refine HSN.out.mono ?_
                      rintro e w' ⟨rfl, hm'⟩
                      go_wp2_with fail
                      refine hK.out _ _ ?_ (fun hHeld => ?_)
                      · exact KS.out _ (hMc.trans hm')
                      clear hK K
                      try simp only [Act.put, List.setIfInBounds_toArray, List.set_cons_zero, List.set_cons_succ]
                      replace hMc := hMc.trans hm'
                      clear hm' HSN hG2
                      refine takeH (i := 10) (d := some 121) (v := ?_) rfl rfl (by kernel_rfl) (by kernel_rfl) (by kernel_rfl) (fun _ _ _ h => h) (Or.inl ⟨by rfl, ?_⟩) (by assumption) ?_
                      rotate_left
                      · intro w hSw
                        try dsimp only at hSw
                        go_simp
                        try with_reducible rfl
                      try simp only [Act.put, List.setIfInBounds_toArray, List.set_cons_zero, List.set_cons_succ]
                      refine wpAnyH_done (by kernel_rfl) ?_ _
                      have HMC := Lib.hid hMc
                      clear hMc
                      clear hHeld
                      try clear hHeld
                      try clear hHeld
                      try clear hHeld
                      try clear hHeld
                      try clear hHeld
                      try clear hHeld
                      try clear hHeld
                      go_wp2_with fail
                      go_roundw
                      case rel => exact ⟨j + 1, by omega, by go_num, HMW.out.trans HMC.out⟩
                      case measure => simp [intOf]; omega
                  refine AllReadyH.cons rfl (fun K hK => ?_) ?_
                  · as_aux_lemma =>
                      refine step_singleW (by rfl) _ (.tmp 117) (by rfl) i0 _ Try.underlying22 hi0 hz0 (by rw [hz1]; decide) (by rw [hz1]; decide) #[.int .i64 x.step, .int .i64 x.kind, .int .i64 x.task, .int .i64 x.a, .int .i64 x.b, .int .i64 x.c] (by rfl) (fillE hz1 _ _ _ _ _ _) ?_
                      intro bX wX hTX hBX hLX
                      refine hK.out _ _ ?_ (fun hHeld => ?_)
                      · exact KS.out _ (hMc.trans hTX)
                      clear hK K
                      try simp only [Act.put, List.setIfInBounds_toArray, List.set_cons_zero, List.set_cons_succ]
                      replace hMc := hMc.trans hTX
                      have hBXlt := hBX.lt
                      have hne : bE ≠ bX := by have h : bE < wE.heap.size := hGE.own.lt rfl; omega
                      replace hGE := hGE.turns hTX (fun _ _ h => h) (fun _ _ h => h)
                      clear hTX
                      refine wpAnyH_ready (rs := [2]) (by kernel_rfl) (by simp) ?_
                      refine AllReadyH.cons rfl (fun K hK => ?_) AllReadyH.nil
                      refine step_growW (by rfl) _ _ _ (by rfl) i0 _ 48 Try.underlying22 hi0 hz0 hz1 hz2 rfl (by omega) encE_len encE_one (by rfl) hGE (by rfl) (SRCL.out _ hMc) (by simp only [List.length_append, List.length_nil, List.length_cons, maxLen]; omega) (by simp only [List.length_append, List.length_nil, List.length_cons, maxLen]; omega) ?_
                      intro v1 w1 hG1 hF1 hS1 hO1
                      refine hK.out _ _ ?_ (fun hHeld => ?_)
                      · exact KS.out _ hG1.made
                      clear hK K
                      try simp only [Act.put, List.setIfInBounds_toArray, List.set_cons_zero, List.set_cons_succ]
                      replace hMc := hG1.made
                      replace hBX : Blk w1 bX _ _ := (hF1 bX hBX.lt (fun e => hne (by simpa [Value.ownBlock] using e))).trans hBX
                      clear hF1 hS1 hO1 hGE
                      refine wpAnyH_ready (rs := [8]) (by kernel_rfl) (by simp) ?_
                      refine AllReadyH.cons rfl (fun K hK => ?_) AllReadyH.nil
                      refine step_growW (by rfl) _ _ _ (by rfl) i0 _ 48 Try.underlying22 hi0 hz0 hz1 hz2 rfl (by omega) encE_len encE_one (by rfl) hG1 (by rfl) (SrcAt.block (N := [(x : Ev)]) hBX rfl (by simp [flat, encE, lateE])) (by simp only [List.length_append, List.length_nil, List.length_cons, maxLen]; omega) (by simp only [List.length_append, List.length_nil, List.length_cons, maxLen]; omega) ?_
                      intro v2 w2 hG2 hF2 hS2 hO2
                      refine hK.out _ _ ?_ (fun hHeld => ?_)
                      · exact KS.out _ hG2.made
                      clear hK K
                      try simp only [Act.put, List.setIfInBounds_toArray, List.set_cons_zero, List.set_cons_succ]
                      replace hMc := hG2.made
                      clear hF2 hS2 hO2 hG1
                      refine wpAnyH_ready (rs := [9]) (by kernel_rfl) (by simp) ?_
                      refine AllReadyH.cons rfl (fun K hK => ?_) AllReadyH.nil
                      obtain ⟨M, hM⟩ : ∃ M, [] ++ L ++ [x] = M := ⟨_, rfl⟩
                      rw [hM] at hG2
                      obtain ⟨a2, c2, rfl, hr2⟩ := rowIn_owns encE_len hG2.own
                      have HSN := Lib.hid (sound_c a2 M.length c2 M _ hr2 (by rw [← hM]; simp; omega))
                      rw [show soundM M = true from by rw [← hM]; exact HGX.out x (List.mem_of_getElem? HX.out)] at HSN
                      clear hr2 hM
                      go_simp
                      refine HSN.out.mono ?_
                      rintro e w' ⟨rfl, hm'⟩
                      go_wp2_with fail
                      refine hK.out _ _ ?_ (fun hHeld => ?_)
                      · exact KS.out _ (hMc.trans hm')
                      clear hK K
                      try simp only [Act.put, List.setIfInBounds_toArray, List.set_cons_zero, List.set_cons_succ]
                      replace hMc := hMc.trans hm'
                      clear hm' HSN hG2
                      refine takeH (i := 10) (d := some 121) (v := ?_) rfl rfl (by kernel_rfl) (by kernel_rfl) (by kernel_rfl) (fun _ _ _ h => h) (Or.inl ⟨by rfl, ?_⟩) (by assumption) ?_
                      rotate_left
                      · intro w hSw
                        try dsimp only at hSw
                        go_simp
                        try with_reducible rfl
                      try simp only [Act.put, List.setIfInBounds_toArray, List.set_cons_zero, List.set_cons_succ]
                      refine wpAnyH_done (by kernel_rfl) ?_ _
                      have HMC := Lib.hid hMc
                      clear hMc
                      clear hHeld
                      try clear hHeld
                      try clear hHeld
                      try clear hHeld
                      try clear hHeld
                      try clear hHeld
                      try clear hHeld
                      try clear hHeld
                      go_wp2_with fail
                      go_roundw
                      case rel => exact ⟨j + 1, by omega, by go_num, HMW.out.trans HMC.out⟩
                      case measure => simp [intOf]; omega
                  exact AllReadyH.nil
              refine AllReadyH.cons rfl (fun K hK => ?_) ?_
              · as_aux_lemma =>
                  refine step_singleW (by rfl) _ (.tmp 117) (by rfl) i0 _ Try.underlying22 hi0 hz0 (by rw [hz1]; decide) (by rw [hz1]; decide) #[.int .i64 x.step, .int .i64 x.kind, .int .i64 x.task, .int .i64 x.a, .int .i64 x.b, .int .i64 x.c] (by rfl) (fillE hz1 _ _ _ _ _ _) ?_
                  intro bX wX hTX hBX hLX
                  refine hK.out _ _ ?_ (fun hHeld => ?_)
                  · exact KS.out _ (hMc.trans hTX)
                  clear hK K
                  try simp only [Act.put, List.setIfInBounds_toArray, List.set_cons_zero, List.set_cons_succ]
                  replace hMc := hMc.trans hTX
                  have hBXlt := hBX.lt
                  clear hTX
                  refine wpAnyH_ready (rs := [0]) (by kernel_rfl) (by simp) ?_
                  refine AllReadyH.cons rfl (fun K hK => ?_) AllReadyH.nil
                  refine step_emptyW encE 6 (by rfl) _ (by rfl) i0 _ Try.underlying22 hi0 hz0 hMc ?_
                  intro bE wE hGE hTE hLE
                  refine hK.out _ _ ?_ (fun hHeld => ?_)
                  · exact KS.out _ hGE.made
                  clear hK K
                  try simp only [Act.put, List.setIfInBounds_toArray, List.set_cons_zero, List.set_cons_succ]
                  replace hMc := hGE.made
                  replace hBX := hBX.turns hTE (fun h => h)
                  have hne : bE ≠ bX := by have := hLX; have := hBXlt; omega
                  clear hTE
                  refine wpAnyH_ready (rs := [2]) (by kernel_rfl) (by simp) ?_
                  refine AllReadyH.cons rfl (fun K hK => ?_) AllReadyH.nil
                  refine step_growW (by rfl) _ _ _ (by rfl) i0 _ 48 Try.underlying22 hi0 hz0 hz1 hz2 rfl (by omega) encE_len encE_one (by rfl) hGE (by rfl) (SRCL.out _ hMc) (by simp only [List.length_append, List.length_nil, List.length_cons, maxLen]; omega) (by simp only [List.length_append, List.length_nil, List.length_cons, maxLen]; omega) ?_
                  intro v1 w1 hG1 hF1 hS1 hO1
                  refine hK.out _ _ ?_ (fun hHeld => ?_)
                  · exact KS.out _ hG1.made
                  clear hK K
                  try simp only [Act.put, List.setIfInBounds_toArray, List.set_cons_zero, List.set_cons_succ]
                  replace hMc := hG1.made
                  replace hBX : Blk w1 bX _ _ := (hF1 bX hBX.lt (fun e => hne (by simpa [Value.ownBlock] using e))).trans hBX
                  clear hF1 hS1 hO1 hGE
                  refine wpAnyH_ready (rs := [8]) (by kernel_rfl) (by simp) ?_
                  refine AllReadyH.cons rfl (fun K hK => ?_) AllReadyH.nil
                  refine step_growW (by rfl) _ _ _ (by rfl) i0 _ 48 Try.underlying22 hi0 hz0 hz1 hz2 rfl (by omega) encE_len encE_one (by rfl) hG1 (by rfl) (SrcAt.block (N := [(x : Ev)]) hBX rfl (by simp [flat, encE, lateE])) (by simp only [List.length_append, List.length_nil, List.length_cons, maxLen]; omega) (by simp only [List.length_append, List.length_nil, List.length_cons, maxLen]; omega) ?_
                  intro v2 w2 hG2 hF2 hS2 hO2
                  refine hK.out _ _ ?_ (fun hHeld => ?_)
                  · exact KS.out _ hG2.made
                  clear hK K
                  try simp only [Act.put, List.setIfInBounds_toArray, List.set_cons_zero, List.set_cons_succ]
                  replace hMc := hG2.made
                  clear hF2 hS2 hO2 hG1
                  refine wpAnyH_ready (rs := [9]) (by kernel_rfl) (by simp) ?_
                  refine AllReadyH.cons rfl (fun K hK => ?_) AllReadyH.nil
                  obtain ⟨M, hM⟩ : ∃ M, [] ++ L ++ [x] = M := ⟨_, rfl⟩
                  rw [hM] at hG2
                  obtain ⟨a2, c2, rfl, hr2⟩ := rowIn_owns encE_len hG2.own
                  have HSN := Lib.hid (sound_c a2 M.length c2 M _ hr2 (by rw [← hM]; simp; omega))
                  rw [show soundM M = true from by rw [← hM]; exact HGX.out x (List.mem_of_getElem? HX.out)] at HSN
                  clear hr2 hM
                  go_simp
                  refine HSN.out.mono ?_
                  rintro e w' ⟨rfl, hm'⟩
                  go_wp2_with fail
                  refine hK.out _ _ ?_ (fun hHeld => ?_)
                  · exact KS.out _ (hMc.trans hm')
                  clear hK K
                  try simp only [Act.put, List.setIfInBounds_toArray, List.set_cons_zero, List.set_cons_succ]
                  replace hMc := hMc.trans hm'
                  clear hm' HSN hG2
                  refine takeH (i := 10) (d := some 121) (v := ?_) rfl rfl (by kernel_rfl) (by kernel_rfl) (by kernel_rfl) (fun _ _ _ h => h) (Or.inl ⟨by rfl, ?_⟩) (by assumption) ?_
                  rotate_left
                  · intro w hSw
                    try dsimp only at hSw
                    go_simp
                    try with_reducible rfl
                  try simp only [Act.put, List.setIfInBounds_toArray, List.set_cons_zero, List.set_cons_succ]
                  refine wpAnyH_done (by kernel_rfl) ?_ _
                  have HMC := Lib.hid hMc
                  clear hMc
                  clear hHeld
                  try clear hHeld
                  try clear hHeld
                  try clear hHeld
                  try clear hHeld
                  try clear hHeld
                  try clear hHeld
                  try clear hHeld
                  go_wp2_with fail
                  go_roundw
                  case rel => exact ⟨j + 1, by omega, by go_num, HMW.out.trans HMC.out⟩
                  case measure => simp [intOf]; omega
              exact AllReadyH.nil
            · obtain rfl : j = 4 := by omega
              have j2 : ¬ (4 : Int) < 4 := by omega
              have hwl : L.length ≤ 80 := hL80
              go_upto_region 21 with fail
              generalize wr = W at *
              have KS := Lib.hid (show ∀ w', Made W w' → Owns encE 26 6 w' (.slice (some ⟨bO, 0, none⟩) 8 8) (oddL m) ∧ Owns encE 26 6 w' (.slice (some ⟨bG, 0, none⟩) 4 4) (goodL m) from fun w' hm => ⟨HOO.out.turns hm (fun _ _ h => h), HGG.out.turns hm (fun _ _ h => h)⟩)
              have SRCL := Lib.hid (show ∀ w', Made W w' → SrcAt encE w' (.slice (some ⟨g, 0, none⟩) L.length cp) L from fun w' hm => SrcAt.whole encE_len (HLO.out.turns hm (fun _ _ h => h)))
              have HG00 := Lib.hid (show (goodL m)[0]? = some (good0 m) from rfl)
              go_cut [13] (fun v13 wx => Grow encE 26 6 W wx v13 (L ++ [good0 m]))
              case first =>
                refine wp_region_held_drew (S := fun w' => Owns encE 26 6 w' (.slice (some ⟨bO, 0, none⟩) 8 8) (oddL m) ∧ Owns encE 26 6 w' (.slice (some ⟨bG, 0, none⟩) 4 4) (goodL m)) (by kernel_rfl) ?_ (fun hHeld => ?_)
                · exact KS.out _ (Turns.drew (Turns.refl _ W))
                have hMc : Made W W.drew := Turns.drew (Turns.refl _ W)
                generalize W.drew = w0 at *
                refine takeH (i := 1) (d := some 123) (v := ?_) rfl rfl (by kernel_rfl) (by kernel_rfl) (by kernel_rfl) (fun _ _ _ h => h) (Or.inl ⟨by rfl, ?_⟩) (by assumption) ?_
                rotate_left
                · intro w hSw
                  try dsimp only at hSw
                  go_simp
                  try with_reducible rfl
                try simp only [Act.put, List.setIfInBounds_toArray, List.set_cons_zero, List.set_cons_succ]
                refine takeH (i := 3) (d := some 125) (v := ?_) rfl rfl (by kernel_rfl) (by kernel_rfl) (by kernel_rfl) (fun _ _ _ h => h) (Or.inl ⟨by rfl, ?_⟩) (by assumption) ?_
                rotate_left
                · intro w hSw
                  try dsimp only at hSw
                  go_simp
                  try with_reducible rfl
                try simp only [Act.put, List.setIfInBounds_toArray, List.set_cons_zero, List.set_cons_succ]
                refine takeH (i := 4) (d := some 126) (v := ?_) rfl rfl (by kernel_rfl) (by kernel_rfl) (by kernel_rfl) (fun _ _ _ h => h) (Or.inl ⟨by rfl, ?_⟩) (by assumption) ?_
                rotate_left
                · intro w hSw
                  try dsimp only at hSw
                  go_simp
                  try with_reducible rfl
                try simp only [Act.put, List.setIfInBounds_toArray, List.set_cons_zero, List.set_cons_succ]
                refine takeH (i := 5) (d := some 127) (v := ?_) rfl rfl (by kernel_rfl) (by kernel_rfl) (by kernel_rfl) (fun _ _ _ h => h) (Or.inl ⟨by rfl, ?_⟩) (by assumption) ?_
                rotate_left
                · intro w hSw
                  try dsimp only at hSw
                  have x0 := Owns.cell encE_len hSw.2 HG00.out (j := 0) rfl
                  have x1 := Owns.cell encE_len hSw.2 HG00.out (j := 1) rfl
                  have x2 := Owns.cell encE_len hSw.2 HG00.out (j := 2) rfl
                  have x3 := Owns.cell encE_len hSw.2 HG00.out (j := 3) rfl
                  have x4 := Owns.cell encE_len hSw.2 HG00.out (j := 4) rfl
                  have x5 := Owns.cell encE_len hSw.2 HG00.out (j := 5) rfl
                  simp only [Nat.add_zero, Nat.zero_mul, Nat.zero_add] at x0 x1 x2 x3 x4 x5
                  go_simp
                  try with_reducible rfl
                try simp only [Act.put, List.setIfInBounds_toArray, List.set_cons_zero, List.set_cons_succ]
                refine wpAnyH_ready (rs := [0, 6]) (by kernel_rfl) (by simp) ?_
                refine AllReadyH.cons rfl (fun K hK => ?_) ?_
                · as_aux_lemma =>
                    refine step_emptyW encE 6 (by rfl) _ (by rfl) i0 _ Try.underlying22 hi0 hz0 hMc ?_
                    intro bE wE hGE hTE hLE
                    refine hK.out _ _ ?_ (fun hHeld => ?_)
                    · exact KS.out _ hGE.made
                    clear hK K
                    try simp only [Act.put, List.setIfInBounds_toArray, List.set_cons_zero, List.set_cons_succ]
                    replace hMc := hGE.made
                    clear hTE
                    refine wpAnyH_ready (rs := [2, 6]) (by kernel_rfl) (by simp) ?_
                    refine AllReadyH.cons rfl (fun K hK => ?_) ?_
                    · as_aux_lemma =>
                        refine step_growW (by rfl) _ _ _ (by rfl) i0 _ 48 Try.underlying22 hi0 hz0 hz1 hz2 rfl (by omega) encE_len encE_one (by rfl) hGE (by rfl) (SRCL.out _ hMc) (by simp only [List.length_append, List.length_nil, List.length_cons, maxLen]; omega) (by simp only [List.length_append, List.length_nil, List.length_cons, maxLen]; omega) ?_
                        intro v1 w1 hG1 hF1 hS1 hO1
                        refine hK.out _ _ ?_ (fun hHeld => ?_)
                        · exact KS.out _ hG1.made
                        clear hK K
                        try simp only [Act.put, List.setIfInBounds_toArray, List.set_cons_zero, List.set_cons_succ]
                        replace hMc := hG1.made
                        clear hF1 hS1 hO1 hGE
                        refine wpAnyH_ready (rs := [6]) (by kernel_rfl) (by simp) ?_
                        refine AllReadyH.cons rfl (fun K hK => ?_) AllReadyH.nil
                        refine step_singleW (by rfl) _ (.tmp 127) (by rfl) i0 _ Try.underlying22 hi0 hz0 (by rw [hz1]; decide) (by rw [hz1]; decide) #[.int .i64 (good0 m).step, .int .i64 (good0 m).kind, .int .i64 (good0 m).task, .int .i64 (good0 m).a, .int .i64 (good0 m).b, .int .i64 (good0 m).c] (by rfl) (fillE hz1 _ _ _ _ _ _) ?_
                        intro bX wX hTX hBX hLX
                        refine hK.out _ _ ?_ (fun hHeld => ?_)
                        · exact KS.out _ (hMc.trans hTX)
                        clear hK K
                        try simp only [Act.put, List.setIfInBounds_toArray, List.set_cons_zero, List.set_cons_succ]
                        replace hMc := hMc.trans hTX
                        have hBXlt := hBX.lt
                        replace hG1 := hG1.turns hTX (fun _ _ h => h) (fun _ _ h => h)
                        clear hTX
                        refine wpAnyH_ready (rs := [7]) (by kernel_rfl) (by simp) ?_
                        refine AllReadyH.cons rfl (fun K hK => ?_) AllReadyH.nil
                        refine step_growW (by rfl) _ _ _ (by rfl) i0 _ 48 Try.underlying22 hi0 hz0 hz1 hz2 rfl (by omega) encE_len encE_one (by rfl) hG1 (by rfl) (SrcAt.block (N := [(good0 m : Ev)]) hBX rfl (by simp [flat, encE, lateE])) (by simp only [List.length_append, List.length_nil, List.length_cons, maxLen]; omega) (by simp only [List.length_append, List.length_nil, List.length_cons, maxLen]; omega) ?_
                        intro v2 w2 hG2 hF2 hS2 hO2
                        refine hK.out _ _ ?_ (fun hHeld => ?_)
                        · exact KS.out _ hG2.made
                        clear hK K
                        try simp only [Act.put, List.setIfInBounds_toArray, List.set_cons_zero, List.set_cons_succ]
                        replace hMc := hG2.made
                        clear hF2 hS2 hO2 hG1
                        refine takeH (i := 8) (d := some 13) (v := ?_) rfl rfl (by kernel_rfl) (by kernel_rfl) (by kernel_rfl) (fun _ _ _ h => h) (Or.inl ⟨by rfl, ?_⟩) (by assumption) ?_
                        rotate_left
                        · intro w hSw
                          try dsimp only at hSw
                          go_simp
                          try with_reducible rfl
                        try simp only [Act.put, List.setIfInBounds_toArray, List.set_cons_zero, List.set_cons_succ]
                        refine wpAnyH_done (by kernel_rfl) ?_ _
                        have HG3 := Lib.hid hG2
                        clear hHeld hG2 hMc
                        try clear hHeld
                        try clear hHeld
                        try clear hHeld
                        try clear hHeld
                        try clear hHeld
                        go_wp2_with fail
                        go_meet
                        simpa using HG3.out
                    refine AllReadyH.cons rfl (fun K hK => ?_) ?_
                    · as_aux_lemma =>
                        refine step_singleW (by rfl) _ (.tmp 127) (by rfl) i0 _ Try.underlying22 hi0 hz0 (by rw [hz1]; decide) (by rw [hz1]; decide) #[.int .i64 (good0 m).step, .int .i64 (good0 m).kind, .int .i64 (good0 m).task, .int .i64 (good0 m).a, .int .i64 (good0 m).b, .int .i64 (good0 m).c] (by rfl) (fillE hz1 _ _ _ _ _ _) ?_
                        intro bX wX hTX hBX hLX
                        refine hK.out _ _ ?_ (fun hHeld => ?_)
                        · exact KS.out _ (hMc.trans hTX)
                        clear hK K
                        try simp only [Act.put, List.setIfInBounds_toArray, List.set_cons_zero, List.set_cons_succ]
                        replace hMc := hMc.trans hTX
                        have hBXlt := hBX.lt
                        have hne : bE ≠ bX := by have h : bE < wE.heap.size := hGE.own.lt rfl; omega
                        replace hGE := hGE.turns hTX (fun _ _ h => h) (fun _ _ h => h)
                        clear hTX
                        refine wpAnyH_ready (rs := [2]) (by kernel_rfl) (by simp) ?_
                        refine AllReadyH.cons rfl (fun K hK => ?_) AllReadyH.nil
                        refine step_growW (by rfl) _ _ _ (by rfl) i0 _ 48 Try.underlying22 hi0 hz0 hz1 hz2 rfl (by omega) encE_len encE_one (by rfl) hGE (by rfl) (SRCL.out _ hMc) (by simp only [List.length_append, List.length_nil, List.length_cons, maxLen]; omega) (by simp only [List.length_append, List.length_nil, List.length_cons, maxLen]; omega) ?_
                        intro v1 w1 hG1 hF1 hS1 hO1
                        refine hK.out _ _ ?_ (fun hHeld => ?_)
                        · exact KS.out _ hG1.made
                        clear hK K
                        try simp only [Act.put, List.setIfInBounds_toArray, List.set_cons_zero, List.set_cons_succ]
                        replace hMc := hG1.made
                        replace hBX : Blk w1 bX _ _ := (hF1 bX hBX.lt (fun e => hne (by simpa [Value.ownBlock] using e))).trans hBX
                        clear hF1 hS1 hO1 hGE
                        refine wpAnyH_ready (rs := [7]) (by kernel_rfl) (by simp) ?_
                        refine AllReadyH.cons rfl (fun K hK => ?_) AllReadyH.nil
                        refine step_growW (by rfl) _ _ _ (by rfl) i0 _ 48 Try.underlying22 hi0 hz0 hz1 hz2 rfl (by omega) encE_len encE_one (by rfl) hG1 (by rfl) (SrcAt.block (N := [(good0 m : Ev)]) hBX rfl (by simp [flat, encE, lateE])) (by simp only [List.length_append, List.length_nil, List.length_cons, maxLen]; omega) (by simp only [List.length_append, List.length_nil, List.length_cons, maxLen]; omega) ?_
                        intro v2 w2 hG2 hF2 hS2 hO2
                        refine hK.out _ _ ?_ (fun hHeld => ?_)
                        · exact KS.out _ hG2.made
                        clear hK K
                        try simp only [Act.put, List.setIfInBounds_toArray, List.set_cons_zero, List.set_cons_succ]
                        replace hMc := hG2.made
                        clear hF2 hS2 hO2 hG1
                        refine takeH (i := 8) (d := some 13) (v := ?_) rfl rfl (by kernel_rfl) (by kernel_rfl) (by kernel_rfl) (fun _ _ _ h => h) (Or.inl ⟨by rfl, ?_⟩) (by assumption) ?_
                        rotate_left
                        · intro w hSw
                          try dsimp only at hSw
                          go_simp
                          try with_reducible rfl
                        try simp only [Act.put, List.setIfInBounds_toArray, List.set_cons_zero, List.set_cons_succ]
                        refine wpAnyH_done (by kernel_rfl) ?_ _
                        have HG3 := Lib.hid hG2
                        clear hHeld hG2 hMc
                        try clear hHeld
                        try clear hHeld
                        try clear hHeld
                        try clear hHeld
                        try clear hHeld
                        go_wp2_with fail
                        go_meet
                        simpa using HG3.out
                    exact AllReadyH.nil
                refine AllReadyH.cons rfl (fun K hK => ?_) ?_
                · as_aux_lemma =>
                    refine step_singleW (by rfl) _ (.tmp 127) (by rfl) i0 _ Try.underlying22 hi0 hz0 (by rw [hz1]; decide) (by rw [hz1]; decide) #[.int .i64 (good0 m).step, .int .i64 (good0 m).kind, .int .i64 (good0 m).task, .int .i64 (good0 m).a, .int .i64 (good0 m).b, .int .i64 (good0 m).c] (by rfl) (fillE hz1 _ _ _ _ _ _) ?_
                    intro bX wX hTX hBX hLX
                    refine hK.out _ _ ?_ (fun hHeld => ?_)
                    · exact KS.out _ (hMc.trans hTX)
                    clear hK K
                    try simp only [Act.put, List.setIfInBounds_toArray, List.set_cons_zero, List.set_cons_succ]
                    replace hMc := hMc.trans hTX
                    have hBXlt := hBX.lt
                    clear hTX
                    refine wpAnyH_ready (rs := [0]) (by kernel_rfl) (by simp) ?_
                    refine AllReadyH.cons rfl (fun K hK => ?_) AllReadyH.nil
                    refine step_emptyW encE 6 (by rfl) _ (by rfl) i0 _ Try.underlying22 hi0 hz0 hMc ?_
                    intro bE wE hGE hTE hLE
                    refine hK.out _ _ ?_ (fun hHeld => ?_)
                    · exact KS.out _ hGE.made
                    clear hK K
                    try simp only [Act.put, List.setIfInBounds_toArray, List.set_cons_zero, List.set_cons_succ]
                    replace hMc := hGE.made
                    replace hBX := hBX.turns hTE (fun h => h)
                    have hne : bE ≠ bX := by have := hLX; have := hBXlt; omega
                    clear hTE
                    refine wpAnyH_ready (rs := [2]) (by kernel_rfl) (by simp) ?_
                    refine AllReadyH.cons rfl (fun K hK => ?_) AllReadyH.nil
                    refine step_growW (by rfl) _ _ _ (by rfl) i0 _ 48 Try.underlying22 hi0 hz0 hz1 hz2 rfl (by omega) encE_len encE_one (by rfl) hGE (by rfl) (SRCL.out _ hMc) (by simp only [List.length_append, List.length_nil, List.length_cons, maxLen]; omega) (by simp only [List.length_append, List.length_nil, List.length_cons, maxLen]; omega) ?_
                    intro v1 w1 hG1 hF1 hS1 hO1
                    refine hK.out _ _ ?_ (fun hHeld => ?_)
                    · exact KS.out _ hG1.made
                    clear hK K
                    try simp only [Act.put, List.setIfInBounds_toArray, List.set_cons_zero, List.set_cons_succ]
                    replace hMc := hG1.made
                    replace hBX : Blk w1 bX _ _ := (hF1 bX hBX.lt (fun e => hne (by simpa [Value.ownBlock] using e))).trans hBX
                    clear hF1 hS1 hO1 hGE
                    refine wpAnyH_ready (rs := [7]) (by kernel_rfl) (by simp) ?_
                    refine AllReadyH.cons rfl (fun K hK => ?_) AllReadyH.nil
                    refine step_growW (by rfl) _ _ _ (by rfl) i0 _ 48 Try.underlying22 hi0 hz0 hz1 hz2 rfl (by omega) encE_len encE_one (by rfl) hG1 (by rfl) (SrcAt.block (N := [(good0 m : Ev)]) hBX rfl (by simp [flat, encE, lateE])) (by simp only [List.length_append, List.length_nil, List.length_cons, maxLen]; omega) (by simp only [List.length_append, List.length_nil, List.length_cons, maxLen]; omega) ?_
                    intro v2 w2 hG2 hF2 hS2 hO2
                    refine hK.out _ _ ?_ (fun hHeld => ?_)
                    · exact KS.out _ hG2.made
                    clear hK K
                    try simp only [Act.put, List.setIfInBounds_toArray, List.set_cons_zero, List.set_cons_succ]
                    replace hMc := hG2.made
                    clear hF2 hS2 hO2 hG1
                    refine takeH (i := 8) (d := some 13) (v := ?_) rfl rfl (by kernel_rfl) (by kernel_rfl) (by kernel_rfl) (fun _ _ _ h => h) (Or.inl ⟨by rfl, ?_⟩) (by assumption) ?_
                    rotate_left
                    · intro w hSw
                      try dsimp only at hSw
                      go_simp
                      try with_reducible rfl
                    try simp only [Act.put, List.setIfInBounds_toArray, List.set_cons_zero, List.set_cons_succ]
                    refine wpAnyH_done (by kernel_rfl) ?_ _
                    have HG3 := Lib.hid hG2
                    clear hHeld hG2 hMc
                    try clear hHeld
                    try clear hHeld
                    try clear hHeld
                    try clear hHeld
                    try clear hHeld
                    go_wp2_with fail
                    go_meet
                    simpa using HG3.out
                exact AllReadyH.nil
              case rest =>
                have HEND0 := Lib.hid hcut
                have hel : (L ++ [good0 m]).length = L.length + 1 := by simp
                have hf1 := HF0.out.2.1
                have hf2 := HF0.out.2.2
                generalize L ++ [good0 m] = E1 at *
                have HEL := Lib.hid hel
                have hel2 : E1.length ≤ 81 := by omega
                have HF1 := Lib.hid (show soundM ([] ++ E1 ++ [lateE m]) = false from hf1)
                have HF2 := Lib.hid hf2
                have HEND := HEND0
                have HWC := Lib.hid HEND0.out.made
                clear hcut HEND0 hel hf1 hf2 SRCL
                generalize wc = Wc at *
                have SRCL := Lib.hid (show ∀ w', Made Wc w' → SrcAt encE w' (.slice (some ⟨g, 0, none⟩) L.length cp) L from fun w' hm => SrcAt.whole encE_len (HLO.out.turns (HWC.out.trans hm) (fun _ _ h => h)))
                have SRCE := Lib.hid (show ∀ w', Made Wc w' → SrcAt encE w' u13 E1 from fun w' hm => SrcAt.whole encE_len (HEND.out.own.turns hm (fun _ _ h => h)))
                have HSL := Lib.hid (show ∀ w', Made Wc w' → Calls Try.prog 10 #[.slice (some ⟨g, 0, none⟩) L.length cp] w' fun e w2 => e = .returned (.bool true) ∧ Made w' w2 from fun w' hm => by
                  obtain ⟨a, c, he, hr⟩ := rowIn_owns encE_len (HLO.out.turns (HWC.out.trans hm) (fun _ _ h => h))
                  have h := sound_c a L.length c L w' hr (by omega)
                  rw [HF0.out.1] at h
                  rw [he]
                  exact h)
                obtain ⟨y, hy⟩ : ∃ y, (oddL m)[q]? = some y := get_of_lt (xs := oddL m) (k := q) (by simpa [oddL] using hq8)
                have HY := Lib.hid hy
                clear hy
                go_wp2_with fail
                have q1 : (0 : Int) ≤ (q : Int) := Int.natCast_nonneg _
                have q2 : (q : Int) < 8 := by omega
                have q3 : q < 8 := hq8
                refine wp_region_held_drew (S := fun w' => Owns encE 26 6 w' (.slice (some ⟨bO, 0, none⟩) 8 8) (oddL m) ∧ Owns encE 26 6 w' (.slice (some ⟨bG, 0, none⟩) 4 4) (goodL m)) (by kernel_rfl) ?_ (fun hHeld => ?_)
                · exact KS.out _ (Turns.drew HWC.out)
                have hMc : Made Wc Wc.drew := Turns.drew (Turns.refl _ Wc)
                generalize Wc.drew = w0 at *
                refine takeH (i := 0) (d := some 130) (v := ?_) rfl rfl (by kernel_rfl) (by kernel_rfl) (by kernel_rfl) (fun _ _ _ h => h) (Or.inl ⟨by rfl, ?_⟩) (by assumption) ?_
                rotate_left
                · intro w hSw
                  try dsimp only at hSw
                  go_simp
                  try with_reducible rfl
                try simp only [Act.put, List.setIfInBounds_toArray, List.set_cons_zero, List.set_cons_succ]
                refine wpAnyH_ready (rs := [1]) (by kernel_rfl) (by simp) ?_
                refine AllReadyH.cons rfl (fun K hK => ?_) AllReadyH.nil
                go_simp
                refine (HSL.out _ hMc).mono ?_
                rintro e w' ⟨rfl, hm'⟩
                go_wp2_with fail
                refine hK.out _ _ ?_ (fun hHeld => ?_)
                · exact KS.out _ (HWC.out.trans (hMc.trans hm'))
                clear hK K
                try simp only [Act.put, List.setIfInBounds_toArray, List.set_cons_zero, List.set_cons_succ]
                replace hMc := hMc.trans hm'
                clear hm'
                refine takeH (i := 2) (d := some 132) (v := ?_) rfl rfl (by kernel_rfl) (by kernel_rfl) (by kernel_rfl) (fun _ _ _ h => h) (Or.inl ⟨by rfl, ?_⟩) (by assumption) ?_
                rotate_left
                · intro w hSw
                  try dsimp only at hSw
                  go_simp
                  try with_reducible rfl
                try simp only [Act.put, List.setIfInBounds_toArray, List.set_cons_zero, List.set_cons_succ]
                refine takeH (i := 4) (d := some 134) (v := ?_) rfl rfl (by kernel_rfl) (by kernel_rfl) (by kernel_rfl) (fun _ _ _ h => h) (Or.inl ⟨by rfl, ?_⟩) (by assumption) ?_
                rotate_left
                · intro w hSw
                  try dsimp only at hSw
                  go_simp
                  try with_reducible rfl
                try simp only [Act.put, List.setIfInBounds_toArray, List.set_cons_zero, List.set_cons_succ]
                refine takeH (i := 6) (d := some 136) (v := ?_) rfl rfl (by kernel_rfl) (by kernel_rfl) (by kernel_rfl) (fun _ _ _ h => h) (Or.inl ⟨by rfl, ?_⟩) (by assumption) ?_
                rotate_left
                · intro w hSw
                  try dsimp only at hSw
                  go_simp
                  try with_reducible rfl
                try simp only [Act.put, List.setIfInBounds_toArray, List.set_cons_zero, List.set_cons_succ]
                refine takeH (i := 7) (d := some 137) (v := ?_) rfl rfl (by kernel_rfl) (by kernel_rfl) (by kernel_rfl) (fun _ _ _ h => h) (Or.inl ⟨by rfl, ?_⟩) (by assumption) ?_
                rotate_left
                · intro w hSw
                  try dsimp only at hSw
                  go_simp
                  try with_reducible rfl
                try simp only [Act.put, List.setIfInBounds_toArray, List.set_cons_zero, List.set_cons_succ]
                refine takeH (i := 8) (d := some 138) (v := ?_) rfl rfl (by kernel_rfl) (by kernel_rfl) (by kernel_rfl) (fun _ _ _ h => h) (Or.inl ⟨by rfl, ?_⟩) (by assumption) ?_
                rotate_left
                · intro w hSw
                  try dsimp only at hSw
                  go_simp
                  try with_reducible rfl
                try simp only [Act.put, List.setIfInBounds_toArray, List.set_cons_zero, List.set_cons_succ]
                refine takeH (i := 9) (d := some 139) (v := ?_) rfl rfl (by kernel_rfl) (by kernel_rfl) (by kernel_rfl) (fun _ _ _ h => h) (Or.inl ⟨by rfl, ?_⟩) (by assumption) ?_
                rotate_left
                · intro w hSw
                  try dsimp only at hSw
                  have x0 := Owns.cell encE_len hSw.1 HY.out (j := 0) rfl
                  have x1 := Owns.cell encE_len hSw.1 HY.out (j := 1) rfl
                  have x2 := Owns.cell encE_len hSw.1 HY.out (j := 2) rfl
                  have x3 := Owns.cell encE_len hSw.1 HY.out (j := 3) rfl
                  have x4 := Owns.cell encE_len hSw.1 HY.out (j := 4) rfl
                  have x5 := Owns.cell encE_len hSw.1 HY.out (j := 5) rfl
                  simp only [Nat.add_zero, Nat.zero_mul, Nat.zero_add] at x0 x1 x2 x3 x4 x5
                  go_simp
                  try with_reducible rfl
                try simp only [Act.put, List.setIfInBounds_toArray, List.set_cons_zero, List.set_cons_succ]
                refine wpAnyH_ready (rs := [3, 10]) (by kernel_rfl) (by simp) ?_
                refine AllReadyH.cons rfl (fun K hK => ?_) ?_
                · as_aux_lemma =>
                    refine step_emptyW encE 6 (by rfl) _ (by rfl) i0 _ Try.underlying22 hi0 hz0 hMc ?_
                    intro bE wE hGE hTE hLE
                    refine hK.out _ _ ?_ (fun hHeld => ?_)
                    · exact KS.out _ (HWC.out.trans hGE.made)
                    clear hK K
                    try simp only [Act.put, List.setIfInBounds_toArray, List.set_cons_zero, List.set_cons_succ]
                    replace hMc := hGE.made
                    clear hTE
                    refine wpAnyH_ready (rs := [5, 10]) (by kernel_rfl) (by simp) ?_
                    refine AllReadyH.cons rfl (fun K hK => ?_) ?_
                    · as_aux_lemma =>
                        refine step_growW (by rfl) _ _ _ (by rfl) i0 _ 48 Try.underlying22 hi0 hz0 hz1 hz2 rfl (by omega) encE_len encE_one (by rfl) hGE (by rfl) (SRCL.out _ hMc) (by simp only [List.length_append, List.length_nil, List.length_cons, maxLen]; omega) (by simp only [List.length_append, List.length_nil, List.length_cons, maxLen]; omega) ?_
                        intro v1 w1 hG1 hF1 hS1 hO1
                        refine hK.out _ _ ?_ (fun hHeld => ?_)
                        · exact KS.out _ (HWC.out.trans hG1.made)
                        clear hK K
                        try simp only [Act.put, List.setIfInBounds_toArray, List.set_cons_zero, List.set_cons_succ]
                        replace hMc := hG1.made
                        clear hF1 hS1 hO1 hGE
                        refine wpAnyH_ready (rs := [10]) (by kernel_rfl) (by simp) ?_
                        refine AllReadyH.cons rfl (fun K hK => ?_) AllReadyH.nil
                        refine step_singleW (by rfl) _ (.tmp 139) (by rfl) i0 _ Try.underlying22 hi0 hz0 (by rw [hz1]; decide) (by rw [hz1]; decide) #[.int .i64 y.step, .int .i64 y.kind, .int .i64 y.task, .int .i64 y.a, .int .i64 y.b, .int .i64 y.c] (by rfl) (fillE hz1 _ _ _ _ _ _) ?_
                        intro bX wX hTX hBX hLX
                        refine hK.out _ _ ?_ (fun hHeld => ?_)
                        · exact KS.out _ (HWC.out.trans (hMc.trans hTX))
                        clear hK K
                        try simp only [Act.put, List.setIfInBounds_toArray, List.set_cons_zero, List.set_cons_succ]
                        replace hMc := hMc.trans hTX
                        have hBXlt := hBX.lt
                        replace hG1 := hG1.turns hTX (fun _ _ h => h) (fun _ _ h => h)
                        clear hTX
                        refine wpAnyH_ready (rs := [11]) (by kernel_rfl) (by simp) ?_
                        refine AllReadyH.cons rfl (fun K hK => ?_) AllReadyH.nil
                        refine step_growW (by rfl) _ _ _ (by rfl) i0 _ 48 Try.underlying22 hi0 hz0 hz1 hz2 rfl (by omega) encE_len encE_one (by rfl) hG1 (by rfl) (SrcAt.block (N := [(y : Ev)]) hBX rfl (by simp [flat, encE, lateE])) (by simp only [List.length_append, List.length_nil, List.length_cons, maxLen]; omega) (by simp only [List.length_append, List.length_nil, List.length_cons, maxLen]; omega) ?_
                        intro v2 w2 hG2 hF2 hS2 hO2
                        refine hK.out _ _ ?_ (fun hHeld => ?_)
                        · exact KS.out _ (HWC.out.trans hG2.made)
                        clear hK K
                        try simp only [Act.put, List.setIfInBounds_toArray, List.set_cons_zero, List.set_cons_succ]
                        replace hMc := hG2.made
                        clear hF2 hS2 hO2 hG1
                        refine wpAnyH_ready (rs := [12]) (by kernel_rfl) (by simp) ?_
                        refine AllReadyH.cons rfl (fun K hK => ?_) AllReadyH.nil
                        obtain ⟨M, hM⟩ : ∃ M, [] ++ L ++ [y] = M := ⟨_, rfl⟩
                        rw [hM] at hG2
                        obtain ⟨a2, c2, rfl, hr2⟩ := rowIn_owns encE_len hG2.own
                        have HSN := Lib.hid (sound_c a2 M.length c2 M _ hr2 (by rw [← hM]; simp; omega))
                        rw [show soundM M = false from by rw [← hM]; exact HOX.out y (List.mem_of_getElem? HY.out)] at HSN
                        clear hr2 hM
                        go_simp
                        refine HSN.out.mono ?_
                        rintro e w' ⟨rfl, hm'⟩
                        go_wp2_with fail
                        refine hK.out _ _ ?_ (fun hHeld => ?_)
                        · exact KS.out _ (HWC.out.trans (hMc.trans hm'))
                        clear hK K
                        try simp only [Act.put, List.setIfInBounds_toArray, List.set_cons_zero, List.set_cons_succ]
                        replace hMc := hMc.trans hm'
                        clear hm' HSN hG2
                        refine takeH (i := 13) (d := some 143) (v := ?_) rfl rfl (by kernel_rfl) (by kernel_rfl) (by kernel_rfl) (fun _ _ _ h => h) (Or.inl ⟨by rfl, ?_⟩) (by assumption) ?_
                        rotate_left
                        · intro w hSw
                          try dsimp only at hSw
                          go_simp
                          try with_reducible rfl
                        try simp only [Act.put, List.setIfInBounds_toArray, List.set_cons_zero, List.set_cons_succ]
                        refine takeH (i := 14) (d := some 144) (v := ?_) rfl rfl (by kernel_rfl) (by kernel_rfl) (by kernel_rfl) (fun _ _ _ h => h) (Or.inl ⟨by rfl, ?_⟩) (by assumption) ?_
                        rotate_left
                        · intro w hSw
                          try dsimp only at hSw
                          go_simp
                          try with_reducible rfl
                        try simp only [Act.put, List.setIfInBounds_toArray, List.set_cons_zero, List.set_cons_succ]
                        refine takeH (i := 15) (d := some 145) (v := ?_) rfl rfl (by kernel_rfl) (by kernel_rfl) (by kernel_rfl) (fun _ _ _ h => h) (Or.inl ⟨by rfl, ?_⟩) (by assumption) ?_
                        rotate_left
                        · intro w hSw
                          try dsimp only at hSw
                          go_simp
                          try with_reducible rfl
                        try simp only [Act.put, List.setIfInBounds_toArray, List.set_cons_zero, List.set_cons_succ]
                        refine takeH (i := 17) (d := some 147) (v := ?_) rfl rfl (by kernel_rfl) (by kernel_rfl) (by kernel_rfl) (fun _ _ _ h => h) (Or.inl ⟨by rfl, ?_⟩) (by assumption) ?_
                        rotate_left
                        · intro w hSw
                          try dsimp only at hSw
                          go_simp
                          try with_reducible rfl
                        try simp only [Act.put, List.setIfInBounds_toArray, List.set_cons_zero, List.set_cons_succ]
                        refine takeH (i := 19) (d := some 149) (v := ?_) rfl rfl (by kernel_rfl) (by kernel_rfl) (by kernel_rfl) (fun _ _ _ h => h) (Or.inl ⟨by rfl, ?_⟩) (by assumption) ?_
                        rotate_left
                        · intro w hSw
                          try dsimp only at hSw
                          go_simp
                          try with_reducible rfl
                        try simp only [Act.put, List.setIfInBounds_toArray, List.set_cons_zero, List.set_cons_succ]
                        refine takeH (i := 20) (d := some 150) (v := ?_) rfl rfl (by kernel_rfl) (by kernel_rfl) (by kernel_rfl) (fun _ _ _ h => h) (Or.inl ⟨by rfl, ?_⟩) (by assumption) ?_
                        rotate_left
                        · intro w hSw
                          try dsimp only at hSw
                          go_simp
                          try with_reducible rfl
                        try simp only [Act.put, List.setIfInBounds_toArray, List.set_cons_zero, List.set_cons_succ]
                        refine takeH (i := 21) (d := some 151) (v := ?_) rfl rfl (by kernel_rfl) (by kernel_rfl) (by kernel_rfl) (fun _ _ _ h => h) (Or.inl ⟨by rfl, ?_⟩) (by assumption) ?_
                        rotate_left
                        · intro w hSw
                          try dsimp only at hSw
                          go_simp
                          try with_reducible rfl
                        try simp only [Act.put, List.setIfInBounds_toArray, List.set_cons_zero, List.set_cons_succ]
                        refine wpAnyH_ready (rs := [16, 22]) (by kernel_rfl) (by simp) ?_
                        refine AllReadyH.cons rfl (fun K hK => ?_) ?_
                        · as_aux_lemma =>
                            refine step_emptyW encE 6 (by rfl) _ (by rfl) i0 _ Try.underlying22 hi0 hz0 hMc ?_
                            intro bE wE hGE hTE hLE
                            refine hK.out _ _ ?_ (fun hHeld => ?_)
                            · exact KS.out _ (HWC.out.trans hGE.made)
                            clear hK K
                            try simp only [Act.put, List.setIfInBounds_toArray, List.set_cons_zero, List.set_cons_succ]
                            replace hMc := hGE.made
                            clear hTE
                            refine wpAnyH_ready (rs := [18, 22]) (by kernel_rfl) (by simp) ?_
                            refine AllReadyH.cons rfl (fun K hK => ?_) ?_
                            · as_aux_lemma =>
                                refine step_growW (by rfl) _ _ _ (by rfl) i0 _ 48 Try.underlying22 hi0 hz0 hz1 hz2 rfl (by omega) encE_len encE_one (by rfl) hGE (by rfl) (SRCE.out _ hMc) (by simp only [List.length_append, List.length_nil, List.length_cons, maxLen]; omega) (by simp only [List.length_append, List.length_nil, List.length_cons, maxLen]; omega) ?_
                                intro v1 w1 hG1 hF1 hS1 hO1
                                refine hK.out _ _ ?_ (fun hHeld => ?_)
                                · exact KS.out _ (HWC.out.trans hG1.made)
                                clear hK K
                                try simp only [Act.put, List.setIfInBounds_toArray, List.set_cons_zero, List.set_cons_succ]
                                replace hMc := hG1.made
                                clear hF1 hS1 hO1 hGE
                                refine wpAnyH_ready (rs := [22]) (by kernel_rfl) (by simp) ?_
                                refine AllReadyH.cons rfl (fun K hK => ?_) AllReadyH.nil
                                refine step_singleW (by rfl) _ (.tmp 151) (by rfl) i0 _ Try.underlying22 hi0 hz0 (by rw [hz1]; decide) (by rw [hz1]; decide) #[.int .i64 ((m : Int) + 5), .int .i64 1, .int .i64 m, .int .i64 0, .int .i64 0, .int .i64 0] (by rfl) (fillE hz1 _ _ _ _ _ _) ?_
                                intro bX wX hTX hBX hLX
                                refine hK.out _ _ ?_ (fun hHeld => ?_)
                                · exact KS.out _ (HWC.out.trans (hMc.trans hTX))
                                clear hK K
                                try simp only [Act.put, List.setIfInBounds_toArray, List.set_cons_zero, List.set_cons_succ]
                                replace hMc := hMc.trans hTX
                                have hBXlt := hBX.lt
                                replace hG1 := hG1.turns hTX (fun _ _ h => h) (fun _ _ h => h)
                                clear hTX
                                refine wpAnyH_ready (rs := [23]) (by kernel_rfl) (by simp) ?_
                                refine AllReadyH.cons rfl (fun K hK => ?_) AllReadyH.nil
                                refine step_growW (by rfl) _ _ _ (by rfl) i0 _ 48 Try.underlying22 hi0 hz0 hz1 hz2 rfl (by omega) encE_len encE_one (by rfl) hG1 (by rfl) (SrcAt.block (N := [(lateE m : Ev)]) hBX rfl (by simp [flat, encE, lateE])) (by simp only [List.length_append, List.length_nil, List.length_cons, maxLen]; omega) (by simp only [List.length_append, List.length_nil, List.length_cons, maxLen]; omega) ?_
                                intro v2 w2 hG2 hF2 hS2 hO2
                                refine hK.out _ _ ?_ (fun hHeld => ?_)
                                · exact KS.out _ (HWC.out.trans hG2.made)
                                clear hK K
                                try simp only [Act.put, List.setIfInBounds_toArray, List.set_cons_zero, List.set_cons_succ]
                                replace hMc := hG2.made
                                clear hF2 hS2 hO2 hG1
                                refine wpAnyH_ready (rs := [24]) (by kernel_rfl) (by simp) ?_
                                refine AllReadyH.cons rfl (fun K hK => ?_) AllReadyH.nil
                                obtain ⟨M, hM⟩ : ∃ M, [] ++ E1 ++ [lateE m] = M := ⟨_, rfl⟩
                                rw [hM] at hG2
                                obtain ⟨a2, c2, rfl, hr2⟩ := rowIn_owns encE_len hG2.own
                                have HSN := Lib.hid (sound_c a2 M.length c2 M _ hr2 (by rw [← hM]; simp; omega))
                                rw [show soundM M = false from by rw [← hM]; exact HF1.out] at HSN
                                clear hr2 hM
                                go_simp
                                refine HSN.out.mono ?_
                                rintro e w' ⟨rfl, hm'⟩
                                go_wp2_with fail
                                refine hK.out _ _ ?_ (fun hHeld => ?_)
                                · exact KS.out _ (HWC.out.trans (hMc.trans hm'))
                                clear hK K
                                try simp only [Act.put, List.setIfInBounds_toArray, List.set_cons_zero, List.set_cons_succ]
                                replace hMc := hMc.trans hm'
                                clear hm' HSN hG2
                                refine takeH (i := 25) (d := some 155) (v := ?_) rfl rfl (by kernel_rfl) (by kernel_rfl) (by kernel_rfl) (fun _ _ _ h => h) (Or.inl ⟨by rfl, ?_⟩) (by assumption) ?_
                                rotate_left
                                · intro w hSw
                                  try dsimp only at hSw
                                  go_simp
                                  try with_reducible rfl
                                try simp only [Act.put, List.setIfInBounds_toArray, List.set_cons_zero, List.set_cons_succ]
                                refine takeH (i := 26) (d := some 156) (v := ?_) rfl rfl (by kernel_rfl) (by kernel_rfl) (by kernel_rfl) (fun _ _ _ h => h) (Or.inl ⟨by rfl, ?_⟩) (by assumption) ?_
                                rotate_left
                                · intro w hSw
                                  try dsimp only at hSw
                                  go_simp
                                  try with_reducible rfl
                                try simp only [Act.put, List.setIfInBounds_toArray, List.set_cons_zero, List.set_cons_succ]
                                refine takeH (i := 27) (d := some 157) (v := ?_) rfl rfl (by kernel_rfl) (by kernel_rfl) (by kernel_rfl) (fun _ _ _ h => h) (Or.inl ⟨by rfl, ?_⟩) (by assumption) ?_
                                rotate_left
                                · intro w hSw
                                  try dsimp only at hSw
                                  go_simp
                                  try with_reducible rfl
                                try simp only [Act.put, List.setIfInBounds_toArray, List.set_cons_zero, List.set_cons_succ]
                                refine takeH (i := 28) (d := some 158) (v := ?_) rfl rfl (by kernel_rfl) (by kernel_rfl) (by kernel_rfl) (fun _ _ _ h => h) (Or.inl ⟨by rfl, ?_⟩) (by assumption) ?_
                                rotate_left
                                · intro w hSw
                                  try dsimp only at hSw
                                  go_simp
                                  try with_reducible rfl
                                try simp only [Act.put, List.setIfInBounds_toArray, List.set_cons_zero, List.set_cons_succ]
                                refine takeH (i := 29) (d := some 159) (v := ?_) rfl rfl (by kernel_rfl) (by kernel_rfl) (by kernel_rfl) (fun _ _ _ h => h) (Or.inl ⟨by rfl, ?_⟩) (by assumption) ?_
                                rotate_left
                                · intro w hSw
                                  try dsimp only at hSw
                                  go_simp
                                  try with_reducible rfl
                                try simp only [Act.put, List.setIfInBounds_toArray, List.set_cons_zero, List.set_cons_succ]
                                refine takeH (i := 30) (d := some 160) (v := ?_) rfl rfl (by kernel_rfl) (by kernel_rfl) (by kernel_rfl) (fun _ _ _ h => h) (Or.inl ⟨by rfl, ?_⟩) (by assumption) ?_
                                rotate_left
                                · intro w hSw
                                  try dsimp only at hSw
                                  go_simp
                                  try with_reducible rfl
                                try simp only [Act.put, List.setIfInBounds_toArray, List.set_cons_zero, List.set_cons_succ]
                                refine takeH (i := 31) (d := some 161) (v := ?_) rfl rfl (by kernel_rfl) (by kernel_rfl) (by kernel_rfl) (fun _ _ _ h => h) (Or.inl ⟨by rfl, ?_⟩) (by assumption) ?_
                                rotate_left
                                · intro w hSw
                                  try dsimp only at hSw
                                  have x0 := Owns.cell encE_len hSw.2 HG00.out (j := 0) rfl
                                  have x1 := Owns.cell encE_len hSw.2 HG00.out (j := 1) rfl
                                  have x2 := Owns.cell encE_len hSw.2 HG00.out (j := 2) rfl
                                  have x3 := Owns.cell encE_len hSw.2 HG00.out (j := 3) rfl
                                  have x4 := Owns.cell encE_len hSw.2 HG00.out (j := 4) rfl
                                  have x5 := Owns.cell encE_len hSw.2 HG00.out (j := 5) rfl
                                  simp only [Nat.add_zero, Nat.zero_mul, Nat.zero_add] at x0 x1 x2 x3 x4 x5
                                  go_simp
                                  try with_reducible rfl
                                try simp only [Act.put, List.setIfInBounds_toArray, List.set_cons_zero, List.set_cons_succ]
                                refine wpAnyH_ready (rs := [32]) (by kernel_rfl) (by simp) ?_
                                refine AllReadyH.cons rfl (fun K hK => ?_) AllReadyH.nil
                                refine step_singleW (by rfl) _ (.tmp 161) (by rfl) i0 _ Try.underlying22 hi0 hz0 (by rw [hz1]; decide) (by rw [hz1]; decide) #[.int .i64 (good0 m).step, .int .i64 (good0 m).kind, .int .i64 (good0 m).task, .int .i64 (good0 m).a, .int .i64 (good0 m).b, .int .i64 (good0 m).c] (by rfl) (fillE hz1 _ _ _ _ _ _) ?_
                                intro bX wX hTX hBX hLX
                                refine hK.out _ _ ?_ (fun hHeld => ?_)
                                · exact KS.out _ (HWC.out.trans (hMc.trans hTX))
                                clear hK K
                                try simp only [Act.put, List.setIfInBounds_toArray, List.set_cons_zero, List.set_cons_succ]
                                replace hMc := hMc.trans hTX
                                have hEnd := HEND.out.turns hMc (fun _ _ h => h) (fun _ _ h => h)
                                refine wpAnyH_ready (rs := [33]) (by kernel_rfl) (by simp) ?_
                                refine AllReadyH.cons rfl (fun K hK => ?_) AllReadyH.nil
                                refine step_growW (by rfl) _ _ _ (by rfl) i0 _ 48 Try.underlying22 hi0 hz0 hz1 hz2 rfl (by omega) encE_len encE_one (by rfl) hEnd (by rfl) (SrcAt.block (N := [(good0 m : Ev)]) hBX rfl (by simp [flat, encE])) (by rw [HEL.out]; simp [maxLen]; omega) (by rw [HEL.out]; simp; omega) ?_
                                intro v2 w2 hG2 hF2 hS2 hO2
                                refine hK.out _ _ ?_ (fun hHeld => ?_)
                                · exact KS.out _ hG2.made
                                clear hK K
                                try simp only [Act.put, List.setIfInBounds_toArray, List.set_cons_zero, List.set_cons_succ]
                                have hMw := hG2.made
                                clear hMc hEnd hF2 hS2 hO2
                                refine wpAnyH_ready (rs := [34]) (by kernel_rfl) (by simp) ?_
                                refine AllReadyH.cons rfl (fun K hK => ?_) AllReadyH.nil
                                obtain ⟨M, hM⟩ : ∃ M, E1 ++ [good0 m] = M := ⟨_, rfl⟩
                                rw [hM] at hG2
                                obtain ⟨a2, c2, rfl, hr2⟩ := rowIn_owns encE_len hG2.own
                                have HSN := Lib.hid (sound_c a2 M.length c2 M _ hr2 (by rw [← hM]; simp; omega))
                                rw [show soundM M = false from by rw [← hM]; exact HF2.out] at HSN
                                clear hr2 hM
                                go_simp
                                refine HSN.out.mono ?_
                                rintro e w' ⟨rfl, hm'⟩
                                go_wp2_with fail
                                refine hK.out _ _ ?_ (fun hHeld => ?_)
                                · exact KS.out _ (hMw.trans hm')
                                clear hK K
                                try simp only [Act.put, List.setIfInBounds_toArray, List.set_cons_zero, List.set_cons_succ]
                                replace hMw := hMw.trans hm'
                                clear hm' HSN hG2
                                refine takeH (i := 35) (d := some 165) (v := ?_) rfl rfl (by kernel_rfl) (by kernel_rfl) (by kernel_rfl) (fun _ _ _ h => h) (Or.inl ⟨by rfl, ?_⟩) (by assumption) ?_
                                rotate_left
                                · intro w hSw
                                  try dsimp only at hSw
                                  go_simp
                                  try with_reducible rfl
                                try simp only [Act.put, List.setIfInBounds_toArray, List.set_cons_zero, List.set_cons_succ]
                                refine takeH (i := 36) (d := some 166) (v := ?_) rfl rfl (by kernel_rfl) (by kernel_rfl) (by kernel_rfl) (fun _ _ _ h => h) (Or.inl ⟨by rfl, ?_⟩) (by assumption) ?_
                                rotate_left
                                · intro w hSw
                                  try dsimp only at hSw
                                  go_simp
                                  try with_reducible rfl
                                try simp only [Act.put, List.setIfInBounds_toArray, List.set_cons_zero, List.set_cons_succ]
                                refine takeH (i := 37) (d := some 167) (v := ?_) rfl rfl (by kernel_rfl) (by kernel_rfl) (by kernel_rfl) (fun _ _ _ h => h) (Or.inl ⟨by rfl, ?_⟩) (by assumption) ?_
                                rotate_left
                                · intro w hSw
                                  try dsimp only at hSw
                                  go_simp
                                  try with_reducible rfl
                                try simp only [Act.put, List.setIfInBounds_toArray, List.set_cons_zero, List.set_cons_succ]
                                refine wpAnyH_ready (rs := [38]) (by kernel_rfl) (by simp) ?_
                                refine AllReadyH.cons rfl (fun K hK => ?_) AllReadyH.nil
                                go_simp
                                refine (awake_c _).mono ?_
                                rintro e w' ⟨rfl, hm'⟩
                                go_wp2_with fail
                                refine hK.out _ _ ?_ (fun hHeld => ?_)
                                · exact KS.out _ (hMw.trans hm')
                                clear hK K
                                try simp only [Act.put, List.setIfInBounds_toArray, List.set_cons_zero, List.set_cons_succ]
                                replace hMw := hMw.trans hm'
                                clear hm'
                                refine takeH (i := 39) (d := some 169) (v := ?_) rfl rfl (by kernel_rfl) (by kernel_rfl) (by kernel_rfl) (fun _ _ _ h => h) (Or.inl ⟨by rfl, ?_⟩) (by assumption) ?_
                                rotate_left
                                · intro w hSw
                                  try dsimp only at hSw
                                  go_simp
                                  try with_reducible rfl
                                try simp only [Act.put, List.setIfInBounds_toArray, List.set_cons_zero, List.set_cons_succ]
                                refine takeH (i := 40) (d := some 4) (v := ?_) rfl rfl (by kernel_rfl) (by kernel_rfl) (by kernel_rfl) (fun _ _ _ h => h) (Or.inl ⟨by rfl, ?_⟩) (by assumption) ?_
                                rotate_left
                                · intro w hSw
                                  try dsimp only at hSw
                                  go_simp
                                  try with_reducible rfl
                                try simp only [Act.put, List.setIfInBounds_toArray, List.set_cons_zero, List.set_cons_succ]
                                refine wpAnyH_done (by kernel_rfl) ?_ _
                                have HMW2 := Lib.hid hMw
                                clear hHeld hMw
                                try clear hHeld
                                try clear hHeld
                                try clear hHeld
                                try clear hHeld
                                try clear hHeld
                                try clear hHeld
                                try clear hHeld
                                try clear hHeld
                                try clear hHeld
                                try clear hHeld
                                try clear hHeld
                                try clear hHeld
                                try clear hHeld
                                try clear hHeld
                                try clear hHeld
                                try clear hHeld
                                go_wp2_with fail
                                go_ret
                                exact ⟨rfl, HMA.out.trans HMW2.out⟩
                            refine AllReadyH.cons rfl (fun K hK => ?_) ?_
                            · as_aux_lemma =>
                                refine step_singleW (by rfl) _ (.tmp 151) (by rfl) i0 _ Try.underlying22 hi0 hz0 (by rw [hz1]; decide) (by rw [hz1]; decide) #[.int .i64 ((m : Int) + 5), .int .i64 1, .int .i64 m, .int .i64 0, .int .i64 0, .int .i64 0] (by rfl) (fillE hz1 _ _ _ _ _ _) ?_
                                intro bX wX hTX hBX hLX
                                refine hK.out _ _ ?_ (fun hHeld => ?_)
                                · exact KS.out _ (HWC.out.trans (hMc.trans hTX))
                                clear hK K
                                try simp only [Act.put, List.setIfInBounds_toArray, List.set_cons_zero, List.set_cons_succ]
                                replace hMc := hMc.trans hTX
                                have hBXlt := hBX.lt
                                have hne : bE ≠ bX := by have h : bE < wE.heap.size := hGE.own.lt rfl; omega
                                replace hGE := hGE.turns hTX (fun _ _ h => h) (fun _ _ h => h)
                                clear hTX
                                refine wpAnyH_ready (rs := [18]) (by kernel_rfl) (by simp) ?_
                                refine AllReadyH.cons rfl (fun K hK => ?_) AllReadyH.nil
                                refine step_growW (by rfl) _ _ _ (by rfl) i0 _ 48 Try.underlying22 hi0 hz0 hz1 hz2 rfl (by omega) encE_len encE_one (by rfl) hGE (by rfl) (SRCE.out _ hMc) (by simp only [List.length_append, List.length_nil, List.length_cons, maxLen]; omega) (by simp only [List.length_append, List.length_nil, List.length_cons, maxLen]; omega) ?_
                                intro v1 w1 hG1 hF1 hS1 hO1
                                refine hK.out _ _ ?_ (fun hHeld => ?_)
                                · exact KS.out _ (HWC.out.trans hG1.made)
                                clear hK K
                                try simp only [Act.put, List.setIfInBounds_toArray, List.set_cons_zero, List.set_cons_succ]
                                replace hMc := hG1.made
                                replace hBX : Blk w1 bX _ _ := (hF1 bX hBX.lt (fun e => hne (by simpa [Value.ownBlock] using e))).trans hBX
                                clear hF1 hS1 hO1 hGE
                                refine wpAnyH_ready (rs := [23]) (by kernel_rfl) (by simp) ?_
                                refine AllReadyH.cons rfl (fun K hK => ?_) AllReadyH.nil
                                refine step_growW (by rfl) _ _ _ (by rfl) i0 _ 48 Try.underlying22 hi0 hz0 hz1 hz2 rfl (by omega) encE_len encE_one (by rfl) hG1 (by rfl) (SrcAt.block (N := [(lateE m : Ev)]) hBX rfl (by simp [flat, encE, lateE])) (by simp only [List.length_append, List.length_nil, List.length_cons, maxLen]; omega) (by simp only [List.length_append, List.length_nil, List.length_cons, maxLen]; omega) ?_
                                intro v2 w2 hG2 hF2 hS2 hO2
                                refine hK.out _ _ ?_ (fun hHeld => ?_)
                                · exact KS.out _ (HWC.out.trans hG2.made)
                                clear hK K
                                try simp only [Act.put, List.setIfInBounds_toArray, List.set_cons_zero, List.set_cons_succ]
                                replace hMc := hG2.made
                                clear hF2 hS2 hO2 hG1
                                refine wpAnyH_ready (rs := [24]) (by kernel_rfl) (by simp) ?_
                                refine AllReadyH.cons rfl (fun K hK => ?_) AllReadyH.nil
                                obtain ⟨M, hM⟩ : ∃ M, [] ++ E1 ++ [lateE m] = M := ⟨_, rfl⟩
                                rw [hM] at hG2
                                obtain ⟨a2, c2, rfl, hr2⟩ := rowIn_owns encE_len hG2.own
                                have HSN := Lib.hid (sound_c a2 M.length c2 M _ hr2 (by rw [← hM]; simp; omega))
                                rw [show soundM M = false from by rw [← hM]; exact HF1.out] at HSN
                                clear hr2 hM
                                go_simp
                                refine HSN.out.mono ?_
                                rintro e w' ⟨rfl, hm'⟩
                                go_wp2_with fail
                                refine hK.out _ _ ?_ (fun hHeld => ?_)
                                · exact KS.out _ (HWC.out.trans (hMc.trans hm'))
                                clear hK K
                                try simp only [Act.put, List.setIfInBounds_toArray, List.set_cons_zero, List.set_cons_succ]
                                replace hMc := hMc.trans hm'
                                clear hm' HSN hG2
                                refine takeH (i := 25) (d := some 155) (v := ?_) rfl rfl (by kernel_rfl) (by kernel_rfl) (by kernel_rfl) (fun _ _ _ h => h) (Or.inl ⟨by rfl, ?_⟩) (by assumption) ?_
                                rotate_left
                                · intro w hSw
                                  try dsimp only at hSw
                                  go_simp
                                  try with_reducible rfl
                                try simp only [Act.put, List.setIfInBounds_toArray, List.set_cons_zero, List.set_cons_succ]
                                refine takeH (i := 26) (d := some 156) (v := ?_) rfl rfl (by kernel_rfl) (by kernel_rfl) (by kernel_rfl) (fun _ _ _ h => h) (Or.inl ⟨by rfl, ?_⟩) (by assumption) ?_
                                rotate_left
                                · intro w hSw
                                  try dsimp only at hSw
                                  go_simp
                                  try with_reducible rfl
                                try simp only [Act.put, List.setIfInBounds_toArray, List.set_cons_zero, List.set_cons_succ]
                                refine takeH (i := 27) (d := some 157) (v := ?_) rfl rfl (by kernel_rfl) (by kernel_rfl) (by kernel_rfl) (fun _ _ _ h => h) (Or.inl ⟨by rfl, ?_⟩) (by assumption) ?_
                                rotate_left
                                · intro w hSw
                                  try dsimp only at hSw
                                  go_simp
                                  try with_reducible rfl
                                try simp only [Act.put, List.setIfInBounds_toArray, List.set_cons_zero, List.set_cons_succ]
                                refine takeH (i := 28) (d := some 158) (v := ?_) rfl rfl (by kernel_rfl) (by kernel_rfl) (by kernel_rfl) (fun _ _ _ h => h) (Or.inl ⟨by rfl, ?_⟩) (by assumption) ?_
                                rotate_left
                                · intro w hSw
                                  try dsimp only at hSw
                                  go_simp
                                  try with_reducible rfl
                                try simp only [Act.put, List.setIfInBounds_toArray, List.set_cons_zero, List.set_cons_succ]
                                refine takeH (i := 29) (d := some 159) (v := ?_) rfl rfl (by kernel_rfl) (by kernel_rfl) (by kernel_rfl) (fun _ _ _ h => h) (Or.inl ⟨by rfl, ?_⟩) (by assumption) ?_
                                rotate_left
                                · intro w hSw
                                  try dsimp only at hSw
                                  go_simp
                                  try with_reducible rfl
                                try simp only [Act.put, List.setIfInBounds_toArray, List.set_cons_zero, List.set_cons_succ]
                                refine takeH (i := 30) (d := some 160) (v := ?_) rfl rfl (by kernel_rfl) (by kernel_rfl) (by kernel_rfl) (fun _ _ _ h => h) (Or.inl ⟨by rfl, ?_⟩) (by assumption) ?_
                                rotate_left
                                · intro w hSw
                                  try dsimp only at hSw
                                  go_simp
                                  try with_reducible rfl
                                try simp only [Act.put, List.setIfInBounds_toArray, List.set_cons_zero, List.set_cons_succ]
                                refine takeH (i := 31) (d := some 161) (v := ?_) rfl rfl (by kernel_rfl) (by kernel_rfl) (by kernel_rfl) (fun _ _ _ h => h) (Or.inl ⟨by rfl, ?_⟩) (by assumption) ?_
                                rotate_left
                                · intro w hSw
                                  try dsimp only at hSw
                                  have x0 := Owns.cell encE_len hSw.2 HG00.out (j := 0) rfl
                                  have x1 := Owns.cell encE_len hSw.2 HG00.out (j := 1) rfl
                                  have x2 := Owns.cell encE_len hSw.2 HG00.out (j := 2) rfl
                                  have x3 := Owns.cell encE_len hSw.2 HG00.out (j := 3) rfl
                                  have x4 := Owns.cell encE_len hSw.2 HG00.out (j := 4) rfl
                                  have x5 := Owns.cell encE_len hSw.2 HG00.out (j := 5) rfl
                                  simp only [Nat.add_zero, Nat.zero_mul, Nat.zero_add] at x0 x1 x2 x3 x4 x5
                                  go_simp
                                  try with_reducible rfl
                                try simp only [Act.put, List.setIfInBounds_toArray, List.set_cons_zero, List.set_cons_succ]
                                refine wpAnyH_ready (rs := [32]) (by kernel_rfl) (by simp) ?_
                                refine AllReadyH.cons rfl (fun K hK => ?_) AllReadyH.nil
                                refine step_singleW (by rfl) _ (.tmp 161) (by rfl) i0 _ Try.underlying22 hi0 hz0 (by rw [hz1]; decide) (by rw [hz1]; decide) #[.int .i64 (good0 m).step, .int .i64 (good0 m).kind, .int .i64 (good0 m).task, .int .i64 (good0 m).a, .int .i64 (good0 m).b, .int .i64 (good0 m).c] (by rfl) (fillE hz1 _ _ _ _ _ _) ?_
                                intro bX wX hTX hBX hLX
                                refine hK.out _ _ ?_ (fun hHeld => ?_)
                                · exact KS.out _ (HWC.out.trans (hMc.trans hTX))
                                clear hK K
                                try simp only [Act.put, List.setIfInBounds_toArray, List.set_cons_zero, List.set_cons_succ]
                                replace hMc := hMc.trans hTX
                                have hEnd := HEND.out.turns hMc (fun _ _ h => h) (fun _ _ h => h)
                                refine wpAnyH_ready (rs := [33]) (by kernel_rfl) (by simp) ?_
                                refine AllReadyH.cons rfl (fun K hK => ?_) AllReadyH.nil
                                refine step_growW (by rfl) _ _ _ (by rfl) i0 _ 48 Try.underlying22 hi0 hz0 hz1 hz2 rfl (by omega) encE_len encE_one (by rfl) hEnd (by rfl) (SrcAt.block (N := [(good0 m : Ev)]) hBX rfl (by simp [flat, encE])) (by rw [HEL.out]; simp [maxLen]; omega) (by rw [HEL.out]; simp; omega) ?_
                                intro v2 w2 hG2 hF2 hS2 hO2
                                refine hK.out _ _ ?_ (fun hHeld => ?_)
                                · exact KS.out _ hG2.made
                                clear hK K
                                try simp only [Act.put, List.setIfInBounds_toArray, List.set_cons_zero, List.set_cons_succ]
                                have hMw := hG2.made
                                clear hMc hEnd hF2 hS2 hO2
                                refine wpAnyH_ready (rs := [34]) (by kernel_rfl) (by simp) ?_
                                refine AllReadyH.cons rfl (fun K hK => ?_) AllReadyH.nil
                                obtain ⟨M, hM⟩ : ∃ M, E1 ++ [good0 m] = M := ⟨_, rfl⟩
                                rw [hM] at hG2
                                obtain ⟨a2, c2, rfl, hr2⟩ := rowIn_owns encE_len hG2.own
                                have HSN := Lib.hid (sound_c a2 M.length c2 M _ hr2 (by rw [← hM]; simp; omega))
                                rw [show soundM M = false from by rw [← hM]; exact HF2.out] at HSN
                                clear hr2 hM
                                go_simp
                                refine HSN.out.mono ?_
                                rintro e w' ⟨rfl, hm'⟩
                                go_wp2_with fail
                                refine hK.out _ _ ?_ (fun hHeld => ?_)
                                · exact KS.out _ (hMw.trans hm')
                                clear hK K
                                try simp only [Act.put, List.setIfInBounds_toArray, List.set_cons_zero, List.set_cons_succ]
                                replace hMw := hMw.trans hm'
                                clear hm' HSN hG2
                                refine takeH (i := 35) (d := some 165) (v := ?_) rfl rfl (by kernel_rfl) (by kernel_rfl) (by kernel_rfl) (fun _ _ _ h => h) (Or.inl ⟨by rfl, ?_⟩) (by assumption) ?_
                                rotate_left
                                · intro w hSw
                                  try dsimp only at hSw
                                  go_simp
                                  try with_reducible rfl
                                try simp only [Act.put, List.setIfInBounds_toArray, List.set_cons_zero, List.set_cons_succ]
                                refine takeH (i := 36) (d := some 166) (v := ?_) rfl rfl (by kernel_rfl) (by kernel_rfl) (by kernel_rfl) (fun _ _ _ h => h) (Or.inl ⟨by rfl, ?_⟩) (by assumption) ?_
                                rotate_left
                                · intro w hSw
                                  try dsimp only at hSw
                                  go_simp
                                  try with_reducible rfl
                                try simp only [Act.put, List.setIfInBounds_toArray, List.set_cons_zero, List.set_cons_succ]
                                refine takeH (i := 37) (d := some 167) (v := ?_) rfl rfl (by kernel_rfl) (by kernel_rfl) (by kernel_rfl) (fun _ _ _ h => h) (Or.inl ⟨by rfl, ?_⟩) (by assumption) ?_
                                rotate_left
                                · intro w hSw
                                  try dsimp only at hSw
                                  go_simp
                                  try with_reducible rfl
                                try simp only [Act.put, List.setIfInBounds_toArray, List.set_cons_zero, List.set_cons_succ]
                                refine wpAnyH_ready (rs := [38]) (by kernel_rfl) (by simp) ?_
                                refine AllReadyH.cons rfl (fun K hK => ?_) AllReadyH.nil
                                go_simp
                                refine (awake_c _).mono ?_
                                rintro e w' ⟨rfl, hm'⟩
                                go_wp2_with fail
                                refine hK.out _ _ ?_ (fun hHeld => ?_)
                                · exact KS.out _ (hMw.trans hm')
                                clear hK K
                                try simp only [Act.put, List.setIfInBounds_toArray, List.set_cons_zero, List.set_cons_succ]
                                replace hMw := hMw.trans hm'
                                clear hm'
                                refine takeH (i := 39) (d := some 169) (v := ?_) rfl rfl (by kernel_rfl) (by kernel_rfl) (by kernel_rfl) (fun _ _ _ h => h) (Or.inl ⟨by rfl, ?_⟩) (by assumption) ?_
                                rotate_left
                                · intro w hSw
                                  try dsimp only at hSw
                                  go_simp
                                  try with_reducible rfl
                                try simp only [Act.put, List.setIfInBounds_toArray, List.set_cons_zero, List.set_cons_succ]
                                refine takeH (i := 40) (d := some 4) (v := ?_) rfl rfl (by kernel_rfl) (by kernel_rfl) (by kernel_rfl) (fun _ _ _ h => h) (Or.inl ⟨by rfl, ?_⟩) (by assumption) ?_
                                rotate_left
                                · intro w hSw
                                  try dsimp only at hSw
                                  go_simp
                                  try with_reducible rfl
                                try simp only [Act.put, List.setIfInBounds_toArray, List.set_cons_zero, List.set_cons_succ]
                                refine wpAnyH_done (by kernel_rfl) ?_ _
                                have HMW2 := Lib.hid hMw
                                clear hHeld hMw
                                try clear hHeld
                                try clear hHeld
                                try clear hHeld
                                try clear hHeld
                                try clear hHeld
                                try clear hHeld
                                try clear hHeld
                                try clear hHeld
                                try clear hHeld
                                try clear hHeld
                                try clear hHeld
                                try clear hHeld
                                try clear hHeld
                                try clear hHeld
                                try clear hHeld
                                try clear hHeld
                                go_wp2_with fail
                                go_ret
                                exact ⟨rfl, HMA.out.trans HMW2.out⟩
                            exact AllReadyH.nil
                        refine AllReadyH.cons rfl (fun K hK => ?_) ?_
                        · as_aux_lemma =>
                            refine step_singleW (by rfl) _ (.tmp 151) (by rfl) i0 _ Try.underlying22 hi0 hz0 (by rw [hz1]; decide) (by rw [hz1]; decide) #[.int .i64 ((m : Int) + 5), .int .i64 1, .int .i64 m, .int .i64 0, .int .i64 0, .int .i64 0] (by rfl) (fillE hz1 _ _ _ _ _ _) ?_
                            intro bX wX hTX hBX hLX
                            refine hK.out _ _ ?_ (fun hHeld => ?_)
                            · exact KS.out _ (HWC.out.trans (hMc.trans hTX))
                            clear hK K
                            try simp only [Act.put, List.setIfInBounds_toArray, List.set_cons_zero, List.set_cons_succ]
                            replace hMc := hMc.trans hTX
                            have hBXlt := hBX.lt
                            clear hTX
                            refine wpAnyH_ready (rs := [16]) (by kernel_rfl) (by simp) ?_
                            refine AllReadyH.cons rfl (fun K hK => ?_) AllReadyH.nil
                            refine step_emptyW encE 6 (by rfl) _ (by rfl) i0 _ Try.underlying22 hi0 hz0 hMc ?_
                            intro bE wE hGE hTE hLE
                            refine hK.out _ _ ?_ (fun hHeld => ?_)
                            · exact KS.out _ (HWC.out.trans hGE.made)
                            clear hK K
                            try simp only [Act.put, List.setIfInBounds_toArray, List.set_cons_zero, List.set_cons_succ]
                            replace hMc := hGE.made
                            replace hBX := hBX.turns hTE (fun h => h)
                            have hne : bE ≠ bX := by have := hLX; have := hBXlt; omega
                            clear hTE
                            refine wpAnyH_ready (rs := [18]) (by kernel_rfl) (by simp) ?_
                            refine AllReadyH.cons rfl (fun K hK => ?_) AllReadyH.nil
                            refine step_growW (by rfl) _ _ _ (by rfl) i0 _ 48 Try.underlying22 hi0 hz0 hz1 hz2 rfl (by omega) encE_len encE_one (by rfl) hGE (by rfl) (SRCE.out _ hMc) (by simp only [List.length_append, List.length_nil, List.length_cons, maxLen]; omega) (by simp only [List.length_append, List.length_nil, List.length_cons, maxLen]; omega) ?_
                            intro v1 w1 hG1 hF1 hS1 hO1
                            refine hK.out _ _ ?_ (fun hHeld => ?_)
                            · exact KS.out _ (HWC.out.trans hG1.made)
                            clear hK K
                            try simp only [Act.put, List.setIfInBounds_toArray, List.set_cons_zero, List.set_cons_succ]
                            replace hMc := hG1.made
                            replace hBX : Blk w1 bX _ _ := (hF1 bX hBX.lt (fun e => hne (by simpa [Value.ownBlock] using e))).trans hBX
                            clear hF1 hS1 hO1 hGE
                            refine wpAnyH_ready (rs := [23]) (by kernel_rfl) (by simp) ?_
                            refine AllReadyH.cons rfl (fun K hK => ?_) AllReadyH.nil
                            refine step_growW (by rfl) _ _ _ (by rfl) i0 _ 48 Try.underlying22 hi0 hz0 hz1 hz2 rfl (by omega) encE_len encE_one (by rfl) hG1 (by rfl) (SrcAt.block (N := [(lateE m : Ev)]) hBX rfl (by simp [flat, encE, lateE])) (by simp only [List.length_append, List.length_nil, List.length_cons, maxLen]; omega) (by simp only [List.length_append, List.length_nil, List.length_cons, maxLen]; omega) ?_
                            intro v2 w2 hG2 hF2 hS2 hO2
                            refine hK.out _ _ ?_ (fun hHeld => ?_)
                            · exact KS.out _ (HWC.out.trans hG2.made)
                            clear hK K
                            try simp only [Act.put, List.setIfInBounds_toArray, List.set_cons_zero, List.set_cons_succ]
                            replace hMc := hG2.made
                            clear hF2 hS2 hO2 hG1
                            refine wpAnyH_ready (rs := [24]) (by kernel_rfl) (by simp) ?_
                            refine AllReadyH.cons rfl (fun K hK => ?_) AllReadyH.nil
                            obtain ⟨M, hM⟩ : ∃ M, [] ++ E1 ++ [lateE m] = M := ⟨_, rfl⟩
                            rw [hM] at hG2
                            obtain ⟨a2, c2, rfl, hr2⟩ := rowIn_owns encE_len hG2.own
                            have HSN := Lib.hid (sound_c a2 M.length c2 M _ hr2 (by rw [← hM]; simp; omega))
                            rw [show soundM M = false from by rw [← hM]; exact HF1.out] at HSN
                            clear hr2 hM
                            go_simp
                            refine HSN.out.mono ?_
                            rintro e w' ⟨rfl, hm'⟩
                            go_wp2_with fail
                            refine hK.out _ _ ?_ (fun hHeld => ?_)
                            · exact KS.out _ (HWC.out.trans (hMc.trans hm'))
                            clear hK K
                            try simp only [Act.put, List.setIfInBounds_toArray, List.set_cons_zero, List.set_cons_succ]
                            replace hMc := hMc.trans hm'
                            clear hm' HSN hG2
                            refine takeH (i := 25) (d := some 155) (v := ?_) rfl rfl (by kernel_rfl) (by kernel_rfl) (by kernel_rfl) (fun _ _ _ h => h) (Or.inl ⟨by rfl, ?_⟩) (by assumption) ?_
                            rotate_left
                            · intro w hSw
                              try dsimp only at hSw
                              go_simp
                              try with_reducible rfl
                            try simp only [Act.put, List.setIfInBounds_toArray, List.set_cons_zero, List.set_cons_succ]
                            refine takeH (i := 26) (d := some 156) (v := ?_) rfl rfl (by kernel_rfl) (by kernel_rfl) (by kernel_rfl) (fun _ _ _ h => h) (Or.inl ⟨by rfl, ?_⟩) (by assumption) ?_
                            rotate_left
                            · intro w hSw
                              try dsimp only at hSw
                              go_simp
                              try with_reducible rfl
                            try simp only [Act.put, List.setIfInBounds_toArray, List.set_cons_zero, List.set_cons_succ]
                            refine takeH (i := 27) (d := some 157) (v := ?_) rfl rfl (by kernel_rfl) (by kernel_rfl) (by kernel_rfl) (fun _ _ _ h => h) (Or.inl ⟨by rfl, ?_⟩) (by assumption) ?_
                            rotate_left
                            · intro w hSw
                              try dsimp only at hSw
                              go_simp
                              try with_reducible rfl
                            try simp only [Act.put, List.setIfInBounds_toArray, List.set_cons_zero, List.set_cons_succ]
                            refine takeH (i := 28) (d := some 158) (v := ?_) rfl rfl (by kernel_rfl) (by kernel_rfl) (by kernel_rfl) (fun _ _ _ h => h) (Or.inl ⟨by rfl, ?_⟩) (by assumption) ?_
                            rotate_left
                            · intro w hSw
                              try dsimp only at hSw
                              go_simp
                              try with_reducible rfl
                            try simp only [Act.put, List.setIfInBounds_toArray, List.set_cons_zero, List.set_cons_succ]
                            refine takeH (i := 29) (d := some 159) (v := ?_) rfl rfl (by kernel_rfl) (by kernel_rfl) (by kernel_rfl) (fun _ _ _ h => h) (Or.inl ⟨by rfl, ?_⟩) (by assumption) ?_
                            rotate_left
                            · intro w hSw
                              try dsimp only at hSw
                              go_simp
                              try with_reducible rfl
                            try simp only [Act.put, List.setIfInBounds_toArray, List.set_cons_zero, List.set_cons_succ]
                            refine takeH (i := 30) (d := some 160) (v := ?_) rfl rfl (by kernel_rfl) (by kernel_rfl) (by kernel_rfl) (fun _ _ _ h => h) (Or.inl ⟨by rfl, ?_⟩) (by assumption) ?_
                            rotate_left
                            · intro w hSw
                              try dsimp only at hSw
                              go_simp
                              try with_reducible rfl
                            try simp only [Act.put, List.setIfInBounds_toArray, List.set_cons_zero, List.set_cons_succ]
                            refine takeH (i := 31) (d := some 161) (v := ?_) rfl rfl (by kernel_rfl) (by kernel_rfl) (by kernel_rfl) (fun _ _ _ h => h) (Or.inl ⟨by rfl, ?_⟩) (by assumption) ?_
                            rotate_left
                            · intro w hSw
                              try dsimp only at hSw
                              have x0 := Owns.cell encE_len hSw.2 HG00.out (j := 0) rfl
                              have x1 := Owns.cell encE_len hSw.2 HG00.out (j := 1) rfl
                              have x2 := Owns.cell encE_len hSw.2 HG00.out (j := 2) rfl
                              have x3 := Owns.cell encE_len hSw.2 HG00.out (j := 3) rfl
                              have x4 := Owns.cell encE_len hSw.2 HG00.out (j := 4) rfl
                              have x5 := Owns.cell encE_len hSw.2 HG00.out (j := 5) rfl
                              simp only [Nat.add_zero, Nat.zero_mul, Nat.zero_add] at x0 x1 x2 x3 x4 x5
                              go_simp
                              try with_reducible rfl
                            try simp only [Act.put, List.setIfInBounds_toArray, List.set_cons_zero, List.set_cons_succ]
                            refine wpAnyH_ready (rs := [32]) (by kernel_rfl) (by simp) ?_
                            refine AllReadyH.cons rfl (fun K hK => ?_) AllReadyH.nil
                            refine step_singleW (by rfl) _ (.tmp 161) (by rfl) i0 _ Try.underlying22 hi0 hz0 (by rw [hz1]; decide) (by rw [hz1]; decide) #[.int .i64 (good0 m).step, .int .i64 (good0 m).kind, .int .i64 (good0 m).task, .int .i64 (good0 m).a, .int .i64 (good0 m).b, .int .i64 (good0 m).c] (by rfl) (fillE hz1 _ _ _ _ _ _) ?_
                            intro bX wX hTX hBX hLX
                            refine hK.out _ _ ?_ (fun hHeld => ?_)
                            · exact KS.out _ (HWC.out.trans (hMc.trans hTX))
                            clear hK K
                            try simp only [Act.put, List.setIfInBounds_toArray, List.set_cons_zero, List.set_cons_succ]
                            replace hMc := hMc.trans hTX
                            have hEnd := HEND.out.turns hMc (fun _ _ h => h) (fun _ _ h => h)
                            refine wpAnyH_ready (rs := [33]) (by kernel_rfl) (by simp) ?_
                            refine AllReadyH.cons rfl (fun K hK => ?_) AllReadyH.nil
                            refine step_growW (by rfl) _ _ _ (by rfl) i0 _ 48 Try.underlying22 hi0 hz0 hz1 hz2 rfl (by omega) encE_len encE_one (by rfl) hEnd (by rfl) (SrcAt.block (N := [(good0 m : Ev)]) hBX rfl (by simp [flat, encE])) (by rw [HEL.out]; simp [maxLen]; omega) (by rw [HEL.out]; simp; omega) ?_
                            intro v2 w2 hG2 hF2 hS2 hO2
                            refine hK.out _ _ ?_ (fun hHeld => ?_)
                            · exact KS.out _ hG2.made
                            clear hK K
                            try simp only [Act.put, List.setIfInBounds_toArray, List.set_cons_zero, List.set_cons_succ]
                            have hMw := hG2.made
                            clear hMc hEnd hF2 hS2 hO2
                            refine wpAnyH_ready (rs := [34]) (by kernel_rfl) (by simp) ?_
                            refine AllReadyH.cons rfl (fun K hK => ?_) AllReadyH.nil
                            obtain ⟨M, hM⟩ : ∃ M, E1 ++ [good0 m] = M := ⟨_, rfl⟩
                            rw [hM] at hG2
                            obtain ⟨a2, c2, rfl, hr2⟩ := rowIn_owns encE_len hG2.own
                            have HSN := Lib.hid (sound_c a2 M.length c2 M _ hr2 (by rw [← hM]; simp; omega))
                            rw [show soundM M = false from by rw [← hM]; exact HF2.out] at HSN
                            clear hr2 hM
                            go_simp
                            refine HSN.out.mono ?_
                            rintro e w' ⟨rfl, hm'⟩
                            go_wp2_with fail
                            refine hK.out _ _ ?_ (fun hHeld => ?_)
                            · exact KS.out _ (hMw.trans hm')
                            clear hK K
                            try simp only [Act.put, List.setIfInBounds_toArray, List.set_cons_zero, List.set_cons_succ]
                            replace hMw := hMw.trans hm'
                            clear hm' HSN hG2
                            refine takeH (i := 35) (d := some 165) (v := ?_) rfl rfl (by kernel_rfl) (by kernel_rfl) (by kernel_rfl) (fun _ _ _ h => h) (Or.inl ⟨by rfl, ?_⟩) (by assumption) ?_
                            rotate_left
                            · intro w hSw
                              try dsimp only at hSw
                              go_simp
                              try with_reducible rfl
                            try simp only [Act.put, List.setIfInBounds_toArray, List.set_cons_zero, List.set_cons_succ]
                            refine takeH (i := 36) (d := some 166) (v := ?_) rfl rfl (by kernel_rfl) (by kernel_rfl) (by kernel_rfl) (fun _ _ _ h => h) (Or.inl ⟨by rfl, ?_⟩) (by assumption) ?_
                            rotate_left
                            · intro w hSw
                              try dsimp only at hSw
                              go_simp
                              try with_reducible rfl
                            try simp only [Act.put, List.setIfInBounds_toArray, List.set_cons_zero, List.set_cons_succ]
                            refine takeH (i := 37) (d := some 167) (v := ?_) rfl rfl (by kernel_rfl) (by kernel_rfl) (by kernel_rfl) (fun _ _ _ h => h) (Or.inl ⟨by rfl, ?_⟩) (by assumption) ?_
                            rotate_left
                            · intro w hSw
                              try dsimp only at hSw
                              go_simp
                              try with_reducible rfl
                            try simp only [Act.put, List.setIfInBounds_toArray, List.set_cons_zero, List.set_cons_succ]
                            refine wpAnyH_ready (rs := [38]) (by kernel_rfl) (by simp) ?_
                            refine AllReadyH.cons rfl (fun K hK => ?_) AllReadyH.nil
                            go_simp
                            refine (awake_c _).mono ?_
                            rintro e w' ⟨rfl, hm'⟩
                            go_wp2_with fail
                            refine hK.out _ _ ?_ (fun hHeld => ?_)
                            · exact KS.out _ (hMw.trans hm')
                            clear hK K
                            try simp only [Act.put, List.setIfInBounds_toArray, List.set_cons_zero, List.set_cons_succ]
                            replace hMw := hMw.trans hm'
                            clear hm'
                            refine takeH (i := 39) (d := some 169) (v := ?_) rfl rfl (by kernel_rfl) (by kernel_rfl) (by kernel_rfl) (fun _ _ _ h => h) (Or.inl ⟨by rfl, ?_⟩) (by assumption) ?_
                            rotate_left
                            · intro w hSw
                              try dsimp only at hSw
                              go_simp
                              try with_reducible rfl
                            try simp only [Act.put, List.setIfInBounds_toArray, List.set_cons_zero, List.set_cons_succ]
                            refine takeH (i := 40) (d := some 4) (v := ?_) rfl rfl (by kernel_rfl) (by kernel_rfl) (by kernel_rfl) (fun _ _ _ h => h) (Or.inl ⟨by rfl, ?_⟩) (by assumption) ?_
                            rotate_left
                            · intro w hSw
                              try dsimp only at hSw
                              go_simp
                              try with_reducible rfl
                            try simp only [Act.put, List.setIfInBounds_toArray, List.set_cons_zero, List.set_cons_succ]
                            refine wpAnyH_done (by kernel_rfl) ?_ _
                            have HMW2 := Lib.hid hMw
                            clear hHeld hMw
                            try clear hHeld
                            try clear hHeld
                            try clear hHeld
                            try clear hHeld
                            try clear hHeld
                            try clear hHeld
                            try clear hHeld
                            try clear hHeld
                            try clear hHeld
                            try clear hHeld
                            try clear hHeld
                            try clear hHeld
                            try clear hHeld
                            try clear hHeld
                            try clear hHeld
                            try clear hHeld
                            go_wp2_with fail
                            go_ret
                            exact ⟨rfl, HMA.out.trans HMW2.out⟩
                        exact AllReadyH.nil
                    refine AllReadyH.cons rfl (fun K hK => ?_) ?_
                    · as_aux_lemma =>
                        refine step_singleW (by rfl) _ (.tmp 139) (by rfl) i0 _ Try.underlying22 hi0 hz0 (by rw [hz1]; decide) (by rw [hz1]; decide) #[.int .i64 y.step, .int .i64 y.kind, .int .i64 y.task, .int .i64 y.a, .int .i64 y.b, .int .i64 y.c] (by rfl) (fillE hz1 _ _ _ _ _ _) ?_
                        intro bX wX hTX hBX hLX
                        refine hK.out _ _ ?_ (fun hHeld => ?_)
                        · exact KS.out _ (HWC.out.trans (hMc.trans hTX))
                        clear hK K
                        try simp only [Act.put, List.setIfInBounds_toArray, List.set_cons_zero, List.set_cons_succ]
                        replace hMc := hMc.trans hTX
                        have hBXlt := hBX.lt
                        have hne : bE ≠ bX := by have h : bE < wE.heap.size := hGE.own.lt rfl; omega
                        replace hGE := hGE.turns hTX (fun _ _ h => h) (fun _ _ h => h)
                        clear hTX
                        refine wpAnyH_ready (rs := [5]) (by kernel_rfl) (by simp) ?_
                        refine AllReadyH.cons rfl (fun K hK => ?_) AllReadyH.nil
                        refine step_growW (by rfl) _ _ _ (by rfl) i0 _ 48 Try.underlying22 hi0 hz0 hz1 hz2 rfl (by omega) encE_len encE_one (by rfl) hGE (by rfl) (SRCL.out _ hMc) (by simp only [List.length_append, List.length_nil, List.length_cons, maxLen]; omega) (by simp only [List.length_append, List.length_nil, List.length_cons, maxLen]; omega) ?_
                        intro v1 w1 hG1 hF1 hS1 hO1
                        refine hK.out _ _ ?_ (fun hHeld => ?_)
                        · exact KS.out _ (HWC.out.trans hG1.made)
                        clear hK K
                        try simp only [Act.put, List.setIfInBounds_toArray, List.set_cons_zero, List.set_cons_succ]
                        replace hMc := hG1.made
                        replace hBX : Blk w1 bX _ _ := (hF1 bX hBX.lt (fun e => hne (by simpa [Value.ownBlock] using e))).trans hBX
                        clear hF1 hS1 hO1 hGE
                        refine wpAnyH_ready (rs := [11]) (by kernel_rfl) (by simp) ?_
                        refine AllReadyH.cons rfl (fun K hK => ?_) AllReadyH.nil
                        refine step_growW (by rfl) _ _ _ (by rfl) i0 _ 48 Try.underlying22 hi0 hz0 hz1 hz2 rfl (by omega) encE_len encE_one (by rfl) hG1 (by rfl) (SrcAt.block (N := [(y : Ev)]) hBX rfl (by simp [flat, encE, lateE])) (by simp only [List.length_append, List.length_nil, List.length_cons, maxLen]; omega) (by simp only [List.length_append, List.length_nil, List.length_cons, maxLen]; omega) ?_
                        intro v2 w2 hG2 hF2 hS2 hO2
                        refine hK.out _ _ ?_ (fun hHeld => ?_)
                        · exact KS.out _ (HWC.out.trans hG2.made)
                        clear hK K
                        try simp only [Act.put, List.setIfInBounds_toArray, List.set_cons_zero, List.set_cons_succ]
                        replace hMc := hG2.made
                        clear hF2 hS2 hO2 hG1
                        refine wpAnyH_ready (rs := [12]) (by kernel_rfl) (by simp) ?_
                        refine AllReadyH.cons rfl (fun K hK => ?_) AllReadyH.nil
                        obtain ⟨M, hM⟩ : ∃ M, [] ++ L ++ [y] = M := ⟨_, rfl⟩
                        rw [hM] at hG2
                        obtain ⟨a2, c2, rfl, hr2⟩ := rowIn_owns encE_len hG2.own
                        have HSN := Lib.hid (sound_c a2 M.length c2 M _ hr2 (by rw [← hM]; simp; omega))
                        rw [show soundM M = false from by rw [← hM]; exact HOX.out y (List.mem_of_getElem? HY.out)] at HSN
                        clear hr2 hM
                        go_simp
                        refine HSN.out.mono ?_
                        rintro e w' ⟨rfl, hm'⟩
                        go_wp2_with fail
                        refine hK.out _ _ ?_ (fun hHeld => ?_)
                        · exact KS.out _ (HWC.out.trans (hMc.trans hm'))
                        clear hK K
                        try simp only [Act.put, List.setIfInBounds_toArray, List.set_cons_zero, List.set_cons_succ]
                        replace hMc := hMc.trans hm'
                        clear hm' HSN hG2
                        refine takeH (i := 13) (d := some 143) (v := ?_) rfl rfl (by kernel_rfl) (by kernel_rfl) (by kernel_rfl) (fun _ _ _ h => h) (Or.inl ⟨by rfl, ?_⟩) (by assumption) ?_
                        rotate_left
                        · intro w hSw
                          try dsimp only at hSw
                          go_simp
                          try with_reducible rfl
                        try simp only [Act.put, List.setIfInBounds_toArray, List.set_cons_zero, List.set_cons_succ]
                        refine takeH (i := 14) (d := some 144) (v := ?_) rfl rfl (by kernel_rfl) (by kernel_rfl) (by kernel_rfl) (fun _ _ _ h => h) (Or.inl ⟨by rfl, ?_⟩) (by assumption) ?_
                        rotate_left
                        · intro w hSw
                          try dsimp only at hSw
                          go_simp
                          try with_reducible rfl
                        try simp only [Act.put, List.setIfInBounds_toArray, List.set_cons_zero, List.set_cons_succ]
                        refine takeH (i := 15) (d := some 145) (v := ?_) rfl rfl (by kernel_rfl) (by kernel_rfl) (by kernel_rfl) (fun _ _ _ h => h) (Or.inl ⟨by rfl, ?_⟩) (by assumption) ?_
                        rotate_left
                        · intro w hSw
                          try dsimp only at hSw
                          go_simp
                          try with_reducible rfl
                        try simp only [Act.put, List.setIfInBounds_toArray, List.set_cons_zero, List.set_cons_succ]
                        refine takeH (i := 17) (d := some 147) (v := ?_) rfl rfl (by kernel_rfl) (by kernel_rfl) (by kernel_rfl) (fun _ _ _ h => h) (Or.inl ⟨by rfl, ?_⟩) (by assumption) ?_
                        rotate_left
                        · intro w hSw
                          try dsimp only at hSw
                          go_simp
                          try with_reducible rfl
                        try simp only [Act.put, List.setIfInBounds_toArray, List.set_cons_zero, List.set_cons_succ]
                        refine takeH (i := 19) (d := some 149) (v := ?_) rfl rfl (by kernel_rfl) (by kernel_rfl) (by kernel_rfl) (fun _ _ _ h => h) (Or.inl ⟨by rfl, ?_⟩) (by assumption) ?_
                        rotate_left
                        · intro w hSw
                          try dsimp only at hSw
                          go_simp
                          try with_reducible rfl
                        try simp only [Act.put, List.setIfInBounds_toArray, List.set_cons_zero, List.set_cons_succ]
                        refine takeH (i := 20) (d := some 150) (v := ?_) rfl rfl (by kernel_rfl) (by kernel_rfl) (by kernel_rfl) (fun _ _ _ h => h) (Or.inl ⟨by rfl, ?_⟩) (by assumption) ?_
                        rotate_left
                        · intro w hSw
                          try dsimp only at hSw
                          go_simp
                          try with_reducible rfl
                        try simp only [Act.put, List.setIfInBounds_toArray, List.set_cons_zero, List.set_cons_succ]
                        refine takeH (i := 21) (d := some 151) (v := ?_) rfl rfl (by kernel_rfl) (by kernel_rfl) (by kernel_rfl) (fun _ _ _ h => h) (Or.inl ⟨by rfl, ?_⟩) (by assumption) ?_
                        rotate_left
                        · intro w hSw
                          try dsimp only at hSw
                          go_simp
                          try with_reducible rfl
                        try simp only [Act.put, List.setIfInBounds_toArray, List.set_cons_zero, List.set_cons_succ]
                        refine wpAnyH_ready (rs := [16, 22]) (by kernel_rfl) (by simp) ?_
                        refine AllReadyH.cons rfl (fun K hK => ?_) ?_
                        · as_aux_lemma =>
                            refine step_emptyW encE 6 (by rfl) _ (by rfl) i0 _ Try.underlying22 hi0 hz0 hMc ?_
                            intro bE wE hGE hTE hLE
                            refine hK.out _ _ ?_ (fun hHeld => ?_)
                            · exact KS.out _ (HWC.out.trans hGE.made)
                            clear hK K
                            try simp only [Act.put, List.setIfInBounds_toArray, List.set_cons_zero, List.set_cons_succ]
                            replace hMc := hGE.made
                            clear hTE
                            refine wpAnyH_ready (rs := [18, 22]) (by kernel_rfl) (by simp) ?_
                            refine AllReadyH.cons rfl (fun K hK => ?_) ?_
                            · as_aux_lemma =>
                                refine step_growW (by rfl) _ _ _ (by rfl) i0 _ 48 Try.underlying22 hi0 hz0 hz1 hz2 rfl (by omega) encE_len encE_one (by rfl) hGE (by rfl) (SRCE.out _ hMc) (by simp only [List.length_append, List.length_nil, List.length_cons, maxLen]; omega) (by simp only [List.length_append, List.length_nil, List.length_cons, maxLen]; omega) ?_
                                intro v1 w1 hG1 hF1 hS1 hO1
                                refine hK.out _ _ ?_ (fun hHeld => ?_)
                                · exact KS.out _ (HWC.out.trans hG1.made)
                                clear hK K
                                try simp only [Act.put, List.setIfInBounds_toArray, List.set_cons_zero, List.set_cons_succ]
                                replace hMc := hG1.made
                                clear hF1 hS1 hO1 hGE
                                refine wpAnyH_ready (rs := [22]) (by kernel_rfl) (by simp) ?_
                                refine AllReadyH.cons rfl (fun K hK => ?_) AllReadyH.nil
                                refine step_singleW (by rfl) _ (.tmp 151) (by rfl) i0 _ Try.underlying22 hi0 hz0 (by rw [hz1]; decide) (by rw [hz1]; decide) #[.int .i64 ((m : Int) + 5), .int .i64 1, .int .i64 m, .int .i64 0, .int .i64 0, .int .i64 0] (by rfl) (fillE hz1 _ _ _ _ _ _) ?_
                                intro bX wX hTX hBX hLX
                                refine hK.out _ _ ?_ (fun hHeld => ?_)
                                · exact KS.out _ (HWC.out.trans (hMc.trans hTX))
                                clear hK K
                                try simp only [Act.put, List.setIfInBounds_toArray, List.set_cons_zero, List.set_cons_succ]
                                replace hMc := hMc.trans hTX
                                have hBXlt := hBX.lt
                                replace hG1 := hG1.turns hTX (fun _ _ h => h) (fun _ _ h => h)
                                clear hTX
                                refine wpAnyH_ready (rs := [23]) (by kernel_rfl) (by simp) ?_
                                refine AllReadyH.cons rfl (fun K hK => ?_) AllReadyH.nil
                                refine step_growW (by rfl) _ _ _ (by rfl) i0 _ 48 Try.underlying22 hi0 hz0 hz1 hz2 rfl (by omega) encE_len encE_one (by rfl) hG1 (by rfl) (SrcAt.block (N := [(lateE m : Ev)]) hBX rfl (by simp [flat, encE, lateE])) (by simp only [List.length_append, List.length_nil, List.length_cons, maxLen]; omega) (by simp only [List.length_append, List.length_nil, List.length_cons, maxLen]; omega) ?_
                                intro v2 w2 hG2 hF2 hS2 hO2
                                refine hK.out _ _ ?_ (fun hHeld => ?_)
                                · exact KS.out _ (HWC.out.trans hG2.made)
                                clear hK K
                                try simp only [Act.put, List.setIfInBounds_toArray, List.set_cons_zero, List.set_cons_succ]
                                replace hMc := hG2.made
                                clear hF2 hS2 hO2 hG1
                                refine wpAnyH_ready (rs := [24]) (by kernel_rfl) (by simp) ?_
                                refine AllReadyH.cons rfl (fun K hK => ?_) AllReadyH.nil
                                obtain ⟨M, hM⟩ : ∃ M, [] ++ E1 ++ [lateE m] = M := ⟨_, rfl⟩
                                rw [hM] at hG2
                                obtain ⟨a2, c2, rfl, hr2⟩ := rowIn_owns encE_len hG2.own
                                have HSN := Lib.hid (sound_c a2 M.length c2 M _ hr2 (by rw [← hM]; simp; omega))
                                rw [show soundM M = false from by rw [← hM]; exact HF1.out] at HSN
                                clear hr2 hM
                                go_simp
                                refine HSN.out.mono ?_
                                rintro e w' ⟨rfl, hm'⟩
                                go_wp2_with fail
                                refine hK.out _ _ ?_ (fun hHeld => ?_)
                                · exact KS.out _ (HWC.out.trans (hMc.trans hm'))
                                clear hK K
                                try simp only [Act.put, List.setIfInBounds_toArray, List.set_cons_zero, List.set_cons_succ]
                                replace hMc := hMc.trans hm'
                                clear hm' HSN hG2
                                refine takeH (i := 25) (d := some 155) (v := ?_) rfl rfl (by kernel_rfl) (by kernel_rfl) (by kernel_rfl) (fun _ _ _ h => h) (Or.inl ⟨by rfl, ?_⟩) (by assumption) ?_
                                rotate_left
                                · intro w hSw
                                  try dsimp only at hSw
                                  go_simp
                                  try with_reducible rfl
                                try simp only [Act.put, List.setIfInBounds_toArray, List.set_cons_zero, List.set_cons_succ]
                                refine takeH (i := 26) (d := some 156) (v := ?_) rfl rfl (by kernel_rfl) (by kernel_rfl) (by kernel_rfl) (fun _ _ _ h => h) (Or.inl ⟨by rfl, ?_⟩) (by assumption) ?_
                                rotate_left
                                · intro w hSw
                                  try dsimp only at hSw
                                  go_simp
                                  try with_reducible rfl
                                try simp only [Act.put, List.setIfInBounds_toArray, List.set_cons_zero, List.set_cons_succ]
                                refine takeH (i := 27) (d := some 157) (v := ?_) rfl rfl (by kernel_rfl) (by kernel_rfl) (by kernel_rfl) (fun _ _ _ h => h) (Or.inl ⟨by rfl, ?_⟩) (by assumption) ?_
                                rotate_left
                                · intro w hSw
                                  try dsimp only at hSw
                                  go_simp
                                  try with_reducible rfl
                                try simp only [Act.put, List.setIfInBounds_toArray, List.set_cons_zero, List.set_cons_succ]
                                refine takeH (i := 28) (d := some 158) (v := ?_) rfl rfl (by kernel_rfl) (by kernel_rfl) (by kernel_rfl) (fun _ _ _ h => h) (Or.inl ⟨by rfl, ?_⟩) (by assumption) ?_
                                rotate_left
                                · intro w hSw
                                  try dsimp only at hSw
                                  go_simp
                                  try with_reducible rfl
                                try simp only [Act.put, List.setIfInBounds_toArray, List.set_cons_zero, List.set_cons_succ]
                                refine takeH (i := 29) (d := some 159) (v := ?_) rfl rfl (by kernel_rfl) (by kernel_rfl) (by kernel_rfl) (fun _ _ _ h => h) (Or.inl ⟨by rfl, ?_⟩) (by assumption) ?_
                                rotate_left
                                · intro w hSw
                                  try dsimp only at hSw
                                  go_simp
                                  try with_reducible rfl
                                try simp only [Act.put, List.setIfInBounds_toArray, List.set_cons_zero, List.set_cons_succ]
                                refine takeH (i := 30) (d := some 160) (v := ?_) rfl rfl (by kernel_rfl) (by kernel_rfl) (by kernel_rfl) (fun _ _ _ h => h) (Or.inl ⟨by rfl, ?_⟩) (by assumption) ?_
                                rotate_left
                                · intro w hSw
                                  try dsimp only at hSw
                                  go_simp
                                  try with_reducible rfl
                                try simp only [Act.put, List.setIfInBounds_toArray, List.set_cons_zero, List.set_cons_succ]
                                refine takeH (i := 31) (d := some 161) (v := ?_) rfl rfl (by kernel_rfl) (by kernel_rfl) (by kernel_rfl) (fun _ _ _ h => h) (Or.inl ⟨by rfl, ?_⟩) (by assumption) ?_
                                rotate_left
                                · intro w hSw
                                  try dsimp only at hSw
                                  have x0 := Owns.cell encE_len hSw.2 HG00.out (j := 0) rfl
                                  have x1 := Owns.cell encE_len hSw.2 HG00.out (j := 1) rfl
                                  have x2 := Owns.cell encE_len hSw.2 HG00.out (j := 2) rfl
                                  have x3 := Owns.cell encE_len hSw.2 HG00.out (j := 3) rfl
                                  have x4 := Owns.cell encE_len hSw.2 HG00.out (j := 4) rfl
                                  have x5 := Owns.cell encE_len hSw.2 HG00.out (j := 5) rfl
                                  simp only [Nat.add_zero, Nat.zero_mul, Nat.zero_add] at x0 x1 x2 x3 x4 x5
                                  go_simp
                                  try with_reducible rfl
                                try simp only [Act.put, List.setIfInBounds_toArray, List.set_cons_zero, List.set_cons_succ]
                                refine wpAnyH_ready (rs := [32]) (by kernel_rfl) (by simp) ?_
                                refine AllReadyH.cons rfl (fun K hK => ?_) AllReadyH.nil
                                refine step_singleW (by rfl) _ (.tmp 161) (by rfl) i0 _ Try.underlying22 hi0 hz0 (by rw [hz1]; decide) (by rw [hz1]; decide) #[.int .i64 (good0 m).step, .int .i64 (good0 m).kind, .int .i64 (good0 m).task, .int .i64 (good0 m).a, .int .i64 (good0 m).b, .int .i64 (good0 m).c] (by rfl) (fillE hz1 _ _ _ _ _ _) ?_
                                intro bX wX hTX hBX hLX
                                refine hK.out _ _ ?_ (fun hHeld => ?_)
                                · exact KS.out _ (HWC.out.trans (hMc.trans hTX))
                                clear hK K
                                try simp only [Act.put, List.setIfInBounds_toArray, List.set_cons_zero, List.set_cons_succ]
                                replace hMc := hMc.trans hTX
                                have hEnd := HEND.out.turns hMc (fun _ _ h => h) (fun _ _ h => h)
                                refine wpAnyH_ready (rs := [33]) (by kernel_rfl) (by simp) ?_
                                refine AllReadyH.cons rfl (fun K hK => ?_) AllReadyH.nil
                                refine step_growW (by rfl) _ _ _ (by rfl) i0 _ 48 Try.underlying22 hi0 hz0 hz1 hz2 rfl (by omega) encE_len encE_one (by rfl) hEnd (by rfl) (SrcAt.block (N := [(good0 m : Ev)]) hBX rfl (by simp [flat, encE])) (by rw [HEL.out]; simp [maxLen]; omega) (by rw [HEL.out]; simp; omega) ?_
                                intro v2 w2 hG2 hF2 hS2 hO2
                                refine hK.out _ _ ?_ (fun hHeld => ?_)
                                · exact KS.out _ hG2.made
                                clear hK K
                                try simp only [Act.put, List.setIfInBounds_toArray, List.set_cons_zero, List.set_cons_succ]
                                have hMw := hG2.made
                                clear hMc hEnd hF2 hS2 hO2
                                refine wpAnyH_ready (rs := [34]) (by kernel_rfl) (by simp) ?_
                                refine AllReadyH.cons rfl (fun K hK => ?_) AllReadyH.nil
                                obtain ⟨M, hM⟩ : ∃ M, E1 ++ [good0 m] = M := ⟨_, rfl⟩
                                rw [hM] at hG2
                                obtain ⟨a2, c2, rfl, hr2⟩ := rowIn_owns encE_len hG2.own
                                have HSN := Lib.hid (sound_c a2 M.length c2 M _ hr2 (by rw [← hM]; simp; omega))
                                rw [show soundM M = false from by rw [← hM]; exact HF2.out] at HSN
                                clear hr2 hM
                                go_simp
                                refine HSN.out.mono ?_
                                rintro e w' ⟨rfl, hm'⟩
                                go_wp2_with fail
                                refine hK.out _ _ ?_ (fun hHeld => ?_)
                                · exact KS.out _ (hMw.trans hm')
                                clear hK K
                                try simp only [Act.put, List.setIfInBounds_toArray, List.set_cons_zero, List.set_cons_succ]
                                replace hMw := hMw.trans hm'
                                clear hm' HSN hG2
                                refine takeH (i := 35) (d := some 165) (v := ?_) rfl rfl (by kernel_rfl) (by kernel_rfl) (by kernel_rfl) (fun _ _ _ h => h) (Or.inl ⟨by rfl, ?_⟩) (by assumption) ?_
                                rotate_left
                                · intro w hSw
                                  try dsimp only at hSw
                                  go_simp
                                  try with_reducible rfl
                                try simp only [Act.put, List.setIfInBounds_toArray, List.set_cons_zero, List.set_cons_succ]
                                refine takeH (i := 36) (d := some 166) (v := ?_) rfl rfl (by kernel_rfl) (by kernel_rfl) (by kernel_rfl) (fun _ _ _ h => h) (Or.inl ⟨by rfl, ?_⟩) (by assumption) ?_
                                rotate_left
                                · intro w hSw
                                  try dsimp only at hSw
                                  go_simp
                                  try with_reducible rfl
                                try simp only [Act.put, List.setIfInBounds_toArray, List.set_cons_zero, List.set_cons_succ]
                                refine takeH (i := 37) (d := some 167) (v := ?_) rfl rfl (by kernel_rfl) (by kernel_rfl) (by kernel_rfl) (fun _ _ _ h => h) (Or.inl ⟨by rfl, ?_⟩) (by assumption) ?_
                                rotate_left
                                · intro w hSw
                                  try dsimp only at hSw
                                  go_simp
                                  try with_reducible rfl
                                try simp only [Act.put, List.setIfInBounds_toArray, List.set_cons_zero, List.set_cons_succ]
                                refine wpAnyH_ready (rs := [38]) (by kernel_rfl) (by simp) ?_
                                refine AllReadyH.cons rfl (fun K hK => ?_) AllReadyH.nil
                                go_simp
                                refine (awake_c _).mono ?_
                                rintro e w' ⟨rfl, hm'⟩
                                go_wp2_with fail
                                refine hK.out _ _ ?_ (fun hHeld => ?_)
                                · exact KS.out _ (hMw.trans hm')
                                clear hK K
                                try simp only [Act.put, List.setIfInBounds_toArray, List.set_cons_zero, List.set_cons_succ]
                                replace hMw := hMw.trans hm'
                                clear hm'
                                refine takeH (i := 39) (d := some 169) (v := ?_) rfl rfl (by kernel_rfl) (by kernel_rfl) (by kernel_rfl) (fun _ _ _ h => h) (Or.inl ⟨by rfl, ?_⟩) (by assumption) ?_
                                rotate_left
                                · intro w hSw
                                  try dsimp only at hSw
                                  go_simp
                                  try with_reducible rfl
                                try simp only [Act.put, List.setIfInBounds_toArray, List.set_cons_zero, List.set_cons_succ]
                                refine takeH (i := 40) (d := some 4) (v := ?_) rfl rfl (by kernel_rfl) (by kernel_rfl) (by kernel_rfl) (fun _ _ _ h => h) (Or.inl ⟨by rfl, ?_⟩) (by assumption) ?_
                                rotate_left
                                · intro w hSw
                                  try dsimp only at hSw
                                  go_simp
                                  try with_reducible rfl
                                try simp only [Act.put, List.setIfInBounds_toArray, List.set_cons_zero, List.set_cons_succ]
                                refine wpAnyH_done (by kernel_rfl) ?_ _
                                have HMW2 := Lib.hid hMw
                                clear hHeld hMw
                                try clear hHeld
                                try clear hHeld
                                try clear hHeld
                                try clear hHeld
                                try clear hHeld
                                try clear hHeld
                                try clear hHeld
                                try clear hHeld
                                try clear hHeld
                                try clear hHeld
                                try clear hHeld
                                try clear hHeld
                                try clear hHeld
                                try clear hHeld
                                try clear hHeld
                                try clear hHeld
                                go_wp2_with fail
                                go_ret
                                exact ⟨rfl, HMA.out.trans HMW2.out⟩
                            refine AllReadyH.cons rfl (fun K hK => ?_) ?_
                            · as_aux_lemma =>
                                refine step_singleW (by rfl) _ (.tmp 151) (by rfl) i0 _ Try.underlying22 hi0 hz0 (by rw [hz1]; decide) (by rw [hz1]; decide) #[.int .i64 ((m : Int) + 5), .int .i64 1, .int .i64 m, .int .i64 0, .int .i64 0, .int .i64 0] (by rfl) (fillE hz1 _ _ _ _ _ _) ?_
                                intro bX wX hTX hBX hLX
                                refine hK.out _ _ ?_ (fun hHeld => ?_)
                                · exact KS.out _ (HWC.out.trans (hMc.trans hTX))
                                clear hK K
                                try simp only [Act.put, List.setIfInBounds_toArray, List.set_cons_zero, List.set_cons_succ]
                                replace hMc := hMc.trans hTX
                                have hBXlt := hBX.lt
                                have hne : bE ≠ bX := by have h : bE < wE.heap.size := hGE.own.lt rfl; omega
                                replace hGE := hGE.turns hTX (fun _ _ h => h) (fun _ _ h => h)
                                clear hTX
                                refine wpAnyH_ready (rs := [18]) (by kernel_rfl) (by simp) ?_
                                refine AllReadyH.cons rfl (fun K hK => ?_) AllReadyH.nil
                                refine step_growW (by rfl) _ _ _ (by rfl) i0 _ 48 Try.underlying22 hi0 hz0 hz1 hz2 rfl (by omega) encE_len encE_one (by rfl) hGE (by rfl) (SRCE.out _ hMc) (by simp only [List.length_append, List.length_nil, List.length_cons, maxLen]; omega) (by simp only [List.length_append, List.length_nil, List.length_cons, maxLen]; omega) ?_
                                intro v1 w1 hG1 hF1 hS1 hO1
                                refine hK.out _ _ ?_ (fun hHeld => ?_)
                                · exact KS.out _ (HWC.out.trans hG1.made)
                                clear hK K
                                try simp only [Act.put, List.setIfInBounds_toArray, List.set_cons_zero, List.set_cons_succ]
                                replace hMc := hG1.made
                                replace hBX : Blk w1 bX _ _ := (hF1 bX hBX.lt (fun e => hne (by simpa [Value.ownBlock] using e))).trans hBX
                                clear hF1 hS1 hO1 hGE
                                refine wpAnyH_ready (rs := [23]) (by kernel_rfl) (by simp) ?_
                                refine AllReadyH.cons rfl (fun K hK => ?_) AllReadyH.nil
                                refine step_growW (by rfl) _ _ _ (by rfl) i0 _ 48 Try.underlying22 hi0 hz0 hz1 hz2 rfl (by omega) encE_len encE_one (by rfl) hG1 (by rfl) (SrcAt.block (N := [(lateE m : Ev)]) hBX rfl (by simp [flat, encE, lateE])) (by simp only [List.length_append, List.length_nil, List.length_cons, maxLen]; omega) (by simp only [List.length_append, List.length_nil, List.length_cons, maxLen]; omega) ?_
                                intro v2 w2 hG2 hF2 hS2 hO2
                                refine hK.out _ _ ?_ (fun hHeld => ?_)
                                · exact KS.out _ (HWC.out.trans hG2.made)
                                clear hK K
                                try simp only [Act.put, List.setIfInBounds_toArray, List.set_cons_zero, List.set_cons_succ]
                                replace hMc := hG2.made
                                clear hF2 hS2 hO2 hG1
                                refine wpAnyH_ready (rs := [24]) (by kernel_rfl) (by simp) ?_
                                refine AllReadyH.cons rfl (fun K hK => ?_) AllReadyH.nil
                                obtain ⟨M, hM⟩ : ∃ M, [] ++ E1 ++ [lateE m] = M := ⟨_, rfl⟩
                                rw [hM] at hG2
                                obtain ⟨a2, c2, rfl, hr2⟩ := rowIn_owns encE_len hG2.own
                                have HSN := Lib.hid (sound_c a2 M.length c2 M _ hr2 (by rw [← hM]; simp; omega))
                                rw [show soundM M = false from by rw [← hM]; exact HF1.out] at HSN
                                clear hr2 hM
                                go_simp
                                refine HSN.out.mono ?_
                                rintro e w' ⟨rfl, hm'⟩
                                go_wp2_with fail
                                refine hK.out _ _ ?_ (fun hHeld => ?_)
                                · exact KS.out _ (HWC.out.trans (hMc.trans hm'))
                                clear hK K
                                try simp only [Act.put, List.setIfInBounds_toArray, List.set_cons_zero, List.set_cons_succ]
                                replace hMc := hMc.trans hm'
                                clear hm' HSN hG2
                                refine takeH (i := 25) (d := some 155) (v := ?_) rfl rfl (by kernel_rfl) (by kernel_rfl) (by kernel_rfl) (fun _ _ _ h => h) (Or.inl ⟨by rfl, ?_⟩) (by assumption) ?_
                                rotate_left
                                · intro w hSw
                                  try dsimp only at hSw
                                  go_simp
                                  try with_reducible rfl
                                try simp only [Act.put, List.setIfInBounds_toArray, List.set_cons_zero, List.set_cons_succ]
                                refine takeH (i := 26) (d := some 156) (v := ?_) rfl rfl (by kernel_rfl) (by kernel_rfl) (by kernel_rfl) (fun _ _ _ h => h) (Or.inl ⟨by rfl, ?_⟩) (by assumption) ?_
                                rotate_left
                                · intro w hSw
                                  try dsimp only at hSw
                                  go_simp
                                  try with_reducible rfl
                                try simp only [Act.put, List.setIfInBounds_toArray, List.set_cons_zero, List.set_cons_succ]
                                refine takeH (i := 27) (d := some 157) (v := ?_) rfl rfl (by kernel_rfl) (by kernel_rfl) (by kernel_rfl) (fun _ _ _ h => h) (Or.inl ⟨by rfl, ?_⟩) (by assumption) ?_
                                rotate_left
                                · intro w hSw
                                  try dsimp only at hSw
                                  go_simp
                                  try with_reducible rfl
                                try simp only [Act.put, List.setIfInBounds_toArray, List.set_cons_zero, List.set_cons_succ]
                                refine takeH (i := 28) (d := some 158) (v := ?_) rfl rfl (by kernel_rfl) (by kernel_rfl) (by kernel_rfl) (fun _ _ _ h => h) (Or.inl ⟨by rfl, ?_⟩) (by assumption) ?_
                                rotate_left
                                · intro w hSw
                                  try dsimp only at hSw
                                  go_simp
                                  try with_reducible rfl
                                try simp only [Act.put, List.setIfInBounds_toArray, List.set_cons_zero, List.set_cons_succ]
                                refine takeH (i := 29) (d := some 159) (v := ?_) rfl rfl (by kernel_rfl) (by kernel_rfl) (by kernel_rfl) (fun _ _ _ h => h) (Or.inl ⟨by rfl, ?_⟩) (by assumption) ?_
                                rotate_left
                                · intro w hSw
                                  try dsimp only at hSw
                                  go_simp
                                  try with_reducible rfl
                                try simp only [Act.put, List.setIfInBounds_toArray, List.set_cons_zero, List.set_cons_succ]
                                refine takeH (i := 30) (d := some 160) (v := ?_) rfl rfl (by kernel_rfl) (by kernel_rfl) (by kernel_rfl) (fun _ _ _ h => h) (Or.inl ⟨by rfl, ?_⟩) (by assumption) ?_
                                rotate_left
                                · intro w hSw
                                  try dsimp only at hSw
                                  go_simp
                                  try with_reducible rfl
                                try simp only [Act.put, List.setIfInBounds_toArray, List.set_cons_zero, List.set_cons_succ]
                                refine takeH (i := 31) (d := some 161) (v := ?_) rfl rfl (by kernel_rfl) (by kernel_rfl) (by kernel_rfl) (fun _ _ _ h => h) (Or.inl ⟨by rfl, ?_⟩) (by assumption) ?_
                                rotate_left
                                · intro w hSw
                                  try dsimp only at hSw
                                  have x0 := Owns.cell encE_len hSw.2 HG00.out (j := 0) rfl
                                  have x1 := Owns.cell encE_len hSw.2 HG00.out (j := 1) rfl
                                  have x2 := Owns.cell encE_len hSw.2 HG00.out (j := 2) rfl
                                  have x3 := Owns.cell encE_len hSw.2 HG00.out (j := 3) rfl
                                  have x4 := Owns.cell encE_len hSw.2 HG00.out (j := 4) rfl
                                  have x5 := Owns.cell encE_len hSw.2 HG00.out (j := 5) rfl
                                  simp only [Nat.add_zero, Nat.zero_mul, Nat.zero_add] at x0 x1 x2 x3 x4 x5
                                  go_simp
                                  try with_reducible rfl
                                try simp only [Act.put, List.setIfInBounds_toArray, List.set_cons_zero, List.set_cons_succ]
                                refine wpAnyH_ready (rs := [32]) (by kernel_rfl) (by simp) ?_
                                refine AllReadyH.cons rfl (fun K hK => ?_) AllReadyH.nil
                                refine step_singleW (by rfl) _ (.tmp 161) (by rfl) i0 _ Try.underlying22 hi0 hz0 (by rw [hz1]; decide) (by rw [hz1]; decide) #[.int .i64 (good0 m).step, .int .i64 (good0 m).kind, .int .i64 (good0 m).task, .int .i64 (good0 m).a, .int .i64 (good0 m).b, .int .i64 (good0 m).c] (by rfl) (fillE hz1 _ _ _ _ _ _) ?_
                                intro bX wX hTX hBX hLX
                                refine hK.out _ _ ?_ (fun hHeld => ?_)
                                · exact KS.out _ (HWC.out.trans (hMc.trans hTX))
                                clear hK K
                                try simp only [Act.put, List.setIfInBounds_toArray, List.set_cons_zero, List.set_cons_succ]
                                replace hMc := hMc.trans hTX
                                have hEnd := HEND.out.turns hMc (fun _ _ h => h) (fun _ _ h => h)
                                refine wpAnyH_ready (rs := [33]) (by kernel_rfl) (by simp) ?_
                                refine AllReadyH.cons rfl (fun K hK => ?_) AllReadyH.nil
                                refine step_growW (by rfl) _ _ _ (by rfl) i0 _ 48 Try.underlying22 hi0 hz0 hz1 hz2 rfl (by omega) encE_len encE_one (by rfl) hEnd (by rfl) (SrcAt.block (N := [(good0 m : Ev)]) hBX rfl (by simp [flat, encE])) (by rw [HEL.out]; simp [maxLen]; omega) (by rw [HEL.out]; simp; omega) ?_
                                intro v2 w2 hG2 hF2 hS2 hO2
                                refine hK.out _ _ ?_ (fun hHeld => ?_)
                                · exact KS.out _ hG2.made
                                clear hK K
                                try simp only [Act.put, List.setIfInBounds_toArray, List.set_cons_zero, List.set_cons_succ]
                                have hMw := hG2.made
                                clear hMc hEnd hF2 hS2 hO2
                                refine wpAnyH_ready (rs := [34]) (by kernel_rfl) (by simp) ?_
                                refine AllReadyH.cons rfl (fun K hK => ?_) AllReadyH.nil
                                obtain ⟨M, hM⟩ : ∃ M, E1 ++ [good0 m] = M := ⟨_, rfl⟩
                                rw [hM] at hG2
                                obtain ⟨a2, c2, rfl, hr2⟩ := rowIn_owns encE_len hG2.own
                                have HSN := Lib.hid (sound_c a2 M.length c2 M _ hr2 (by rw [← hM]; simp; omega))
                                rw [show soundM M = false from by rw [← hM]; exact HF2.out] at HSN
                                clear hr2 hM
                                go_simp
                                refine HSN.out.mono ?_
                                rintro e w' ⟨rfl, hm'⟩
                                go_wp2_with fail
                                refine hK.out _ _ ?_ (fun hHeld => ?_)
                                · exact KS.out _ (hMw.trans hm')
                                clear hK K
                                try simp only [Act.put, List.setIfInBounds_toArray, List.set_cons_zero, List.set_cons_succ]
                                replace hMw := hMw.trans hm'
                                clear hm' HSN hG2
                                refine takeH (i := 35) (d := some 165) (v := ?_) rfl rfl (by kernel_rfl) (by kernel_rfl) (by kernel_rfl) (fun _ _ _ h => h) (Or.inl ⟨by rfl, ?_⟩) (by assumption) ?_
                                rotate_left
                                · intro w hSw
                                  try dsimp only at hSw
                                  go_simp
                                  try with_reducible rfl
                                try simp only [Act.put, List.setIfInBounds_toArray, List.set_cons_zero, List.set_cons_succ]
                                refine takeH (i := 36) (d := some 166) (v := ?_) rfl rfl (by kernel_rfl) (by kernel_rfl) (by kernel_rfl) (fun _ _ _ h => h) (Or.inl ⟨by rfl, ?_⟩) (by assumption) ?_
                                rotate_left
                                · intro w hSw
                                  try dsimp only at hSw
                                  go_simp
                                  try with_reducible rfl
                                try simp only [Act.put, List.setIfInBounds_toArray, List.set_cons_zero, List.set_cons_succ]
                                refine takeH (i := 37) (d := some 167) (v := ?_) rfl rfl (by kernel_rfl) (by kernel_rfl) (by kernel_rfl) (fun _ _ _ h => h) (Or.inl ⟨by rfl, ?_⟩) (by assumption) ?_
                                rotate_left
                                · intro w hSw
                                  try dsimp only at hSw
                                  go_simp
                                  try with_reducible rfl
                                try simp only [Act.put, List.setIfInBounds_toArray, List.set_cons_zero, List.set_cons_succ]
                                refine wpAnyH_ready (rs := [38]) (by kernel_rfl) (by simp) ?_
                                refine AllReadyH.cons rfl (fun K hK => ?_) AllReadyH.nil
                                go_simp
                                refine (awake_c _).mono ?_
                                rintro e w' ⟨rfl, hm'⟩
                                go_wp2_with fail
                                refine hK.out _ _ ?_ (fun hHeld => ?_)
                                · exact KS.out _ (hMw.trans hm')
                                clear hK K
                                try simp only [Act.put, List.setIfInBounds_toArray, List.set_cons_zero, List.set_cons_succ]
                                replace hMw := hMw.trans hm'
                                clear hm'
                                refine takeH (i := 39) (d := some 169) (v := ?_) rfl rfl (by kernel_rfl) (by kernel_rfl) (by kernel_rfl) (fun _ _ _ h => h) (Or.inl ⟨by rfl, ?_⟩) (by assumption) ?_
                                rotate_left
                                · intro w hSw
                                  try dsimp only at hSw
                                  go_simp
                                  try with_reducible rfl
                                try simp only [Act.put, List.setIfInBounds_toArray, List.set_cons_zero, List.set_cons_succ]
                                refine takeH (i := 40) (d := some 4) (v := ?_) rfl rfl (by kernel_rfl) (by kernel_rfl) (by kernel_rfl) (fun _ _ _ h => h) (Or.inl ⟨by rfl, ?_⟩) (by assumption) ?_
                                rotate_left
                                · intro w hSw
                                  try dsimp only at hSw
                                  go_simp
                                  try with_reducible rfl
                                try simp only [Act.put, List.setIfInBounds_toArray, List.set_cons_zero, List.set_cons_succ]
                                refine wpAnyH_done (by kernel_rfl) ?_ _
                                have HMW2 := Lib.hid hMw
                                clear hHeld hMw
                                try clear hHeld
                                try clear hHeld
                                try clear hHeld
                                try clear hHeld
                                try clear hHeld
                                try clear hHeld
                                try clear hHeld
                                try clear hHeld
                                try clear hHeld
                                try clear hHeld
                                try clear hHeld
                                try clear hHeld
                                try clear hHeld
                                try clear hHeld
                                try clear hHeld
                                try clear hHeld
                                go_wp2_with fail
                                go_ret
                                exact ⟨rfl, HMA.out.trans HMW2.out⟩
                            exact AllReadyH.nil
                        refine AllReadyH.cons rfl (fun K hK => ?_) ?_
                        · as_aux_lemma =>
                            refine step_singleW (by rfl) _ (.tmp 151) (by rfl) i0 _ Try.underlying22 hi0 hz0 (by rw [hz1]; decide) (by rw [hz1]; decide) #[.int .i64 ((m : Int) + 5), .int .i64 1, .int .i64 m, .int .i64 0, .int .i64 0, .int .i64 0] (by rfl) (fillE hz1 _ _ _ _ _ _) ?_
                            intro bX wX hTX hBX hLX
                            refine hK.out _ _ ?_ (fun hHeld => ?_)
                            · exact KS.out _ (HWC.out.trans (hMc.trans hTX))
                            clear hK K
                            try simp only [Act.put, List.setIfInBounds_toArray, List.set_cons_zero, List.set_cons_succ]
                            replace hMc := hMc.trans hTX
                            have hBXlt := hBX.lt
                            clear hTX
                            refine wpAnyH_ready (rs := [16]) (by kernel_rfl) (by simp) ?_
                            refine AllReadyH.cons rfl (fun K hK => ?_) AllReadyH.nil
                            refine step_emptyW encE 6 (by rfl) _ (by rfl) i0 _ Try.underlying22 hi0 hz0 hMc ?_
                            intro bE wE hGE hTE hLE
                            refine hK.out _ _ ?_ (fun hHeld => ?_)
                            · exact KS.out _ (HWC.out.trans hGE.made)
                            clear hK K
                            try simp only [Act.put, List.setIfInBounds_toArray, List.set_cons_zero, List.set_cons_succ]
                            replace hMc := hGE.made
                            replace hBX := hBX.turns hTE (fun h => h)
                            have hne : bE ≠ bX := by have := hLX; have := hBXlt; omega
                            clear hTE
                            refine wpAnyH_ready (rs := [18]) (by kernel_rfl) (by simp) ?_
                            refine AllReadyH.cons rfl (fun K hK => ?_) AllReadyH.nil
                            refine step_growW (by rfl) _ _ _ (by rfl) i0 _ 48 Try.underlying22 hi0 hz0 hz1 hz2 rfl (by omega) encE_len encE_one (by rfl) hGE (by rfl) (SRCE.out _ hMc) (by simp only [List.length_append, List.length_nil, List.length_cons, maxLen]; omega) (by simp only [List.length_append, List.length_nil, List.length_cons, maxLen]; omega) ?_
                            intro v1 w1 hG1 hF1 hS1 hO1
                            refine hK.out _ _ ?_ (fun hHeld => ?_)
                            · exact KS.out _ (HWC.out.trans hG1.made)
                            clear hK K
                            try simp only [Act.put, List.setIfInBounds_toArray, List.set_cons_zero, List.set_cons_succ]
                            replace hMc := hG1.made
                            replace hBX : Blk w1 bX _ _ := (hF1 bX hBX.lt (fun e => hne (by simpa [Value.ownBlock] using e))).trans hBX
                            clear hF1 hS1 hO1 hGE
                            refine wpAnyH_ready (rs := [23]) (by kernel_rfl) (by simp) ?_
                            refine AllReadyH.cons rfl (fun K hK => ?_) AllReadyH.nil
                            refine step_growW (by rfl) _ _ _ (by rfl) i0 _ 48 Try.underlying22 hi0 hz0 hz1 hz2 rfl (by omega) encE_len encE_one (by rfl) hG1 (by rfl) (SrcAt.block (N := [(lateE m : Ev)]) hBX rfl (by simp [flat, encE, lateE])) (by simp only [List.length_append, List.length_nil, List.length_cons, maxLen]; omega) (by simp only [List.length_append, List.length_nil, List.length_cons, maxLen]; omega) ?_
                            intro v2 w2 hG2 hF2 hS2 hO2
                            refine hK.out _ _ ?_ (fun hHeld => ?_)
                            · exact KS.out _ (HWC.out.trans hG2.made)
                            clear hK K
                            try simp only [Act.put, List.setIfInBounds_toArray, List.set_cons_zero, List.set_cons_succ]
                            replace hMc := hG2.made
                            clear hF2 hS2 hO2 hG1
                            refine wpAnyH_ready (rs := [24]) (by kernel_rfl) (by simp) ?_
                            refine AllReadyH.cons rfl (fun K hK => ?_) AllReadyH.nil
                            obtain ⟨M, hM⟩ : ∃ M, [] ++ E1 ++ [lateE m] = M := ⟨_, rfl⟩
                            rw [hM] at hG2
                            obtain ⟨a2, c2, rfl, hr2⟩ := rowIn_owns encE_len hG2.own
                            have HSN := Lib.hid (sound_c a2 M.length c2 M _ hr2 (by rw [← hM]; simp; omega))
                            rw [show soundM M = false from by rw [← hM]; exact HF1.out] at HSN
                            clear hr2 hM
                            go_simp
                            refine HSN.out.mono ?_
                            rintro e w' ⟨rfl, hm'⟩
                            go_wp2_with fail
                            refine hK.out _ _ ?_ (fun hHeld => ?_)
                            · exact KS.out _ (HWC.out.trans (hMc.trans hm'))
                            clear hK K
                            try simp only [Act.put, List.setIfInBounds_toArray, List.set_cons_zero, List.set_cons_succ]
                            replace hMc := hMc.trans hm'
                            clear hm' HSN hG2
                            refine takeH (i := 25) (d := some 155) (v := ?_) rfl rfl (by kernel_rfl) (by kernel_rfl) (by kernel_rfl) (fun _ _ _ h => h) (Or.inl ⟨by rfl, ?_⟩) (by assumption) ?_
                            rotate_left
                            · intro w hSw
                              try dsimp only at hSw
                              go_simp
                              try with_reducible rfl
                            try simp only [Act.put, List.setIfInBounds_toArray, List.set_cons_zero, List.set_cons_succ]
                            refine takeH (i := 26) (d := some 156) (v := ?_) rfl rfl (by kernel_rfl) (by kernel_rfl) (by kernel_rfl) (fun _ _ _ h => h) (Or.inl ⟨by rfl, ?_⟩) (by assumption) ?_
                            rotate_left
                            · intro w hSw
                              try dsimp only at hSw
                              go_simp
                              try with_reducible rfl
                            try simp only [Act.put, List.setIfInBounds_toArray, List.set_cons_zero, List.set_cons_succ]
                            refine takeH (i := 27) (d := some 157) (v := ?_) rfl rfl (by kernel_rfl) (by kernel_rfl) (by kernel_rfl) (fun _ _ _ h => h) (Or.inl ⟨by rfl, ?_⟩) (by assumption) ?_
                            rotate_left
                            · intro w hSw
                              try dsimp only at hSw
                              go_simp
                              try with_reducible rfl
                            try simp only [Act.put, List.setIfInBounds_toArray, List.set_cons_zero, List.set_cons_succ]
                            refine takeH (i := 28) (d := some 158) (v := ?_) rfl rfl (by kernel_rfl) (by kernel_rfl) (by kernel_rfl) (fun _ _ _ h => h) (Or.inl ⟨by rfl, ?_⟩) (by assumption) ?_
                            rotate_left
                            · intro w hSw
                              try dsimp only at hSw
                              go_simp
                              try with_reducible rfl
                            try simp only [Act.put, List.setIfInBounds_toArray, List.set_cons_zero, List.set_cons_succ]
                            refine takeH (i := 29) (d := some 159) (v := ?_) rfl rfl (by kernel_rfl) (by kernel_rfl) (by kernel_rfl) (fun _ _ _ h => h) (Or.inl ⟨by rfl, ?_⟩) (by assumption) ?_
                            rotate_left
                            · intro w hSw
                              try dsimp only at hSw
                              go_simp
                              try with_reducible rfl
                            try simp only [Act.put, List.setIfInBounds_toArray, List.set_cons_zero, List.set_cons_succ]
                            refine takeH (i := 30) (d := some 160) (v := ?_) rfl rfl (by kernel_rfl) (by kernel_rfl) (by kernel_rfl) (fun _ _ _ h => h) (Or.inl ⟨by rfl, ?_⟩) (by assumption) ?_
                            rotate_left
                            · intro w hSw
                              try dsimp only at hSw
                              go_simp
                              try with_reducible rfl
                            try simp only [Act.put, List.setIfInBounds_toArray, List.set_cons_zero, List.set_cons_succ]
                            refine takeH (i := 31) (d := some 161) (v := ?_) rfl rfl (by kernel_rfl) (by kernel_rfl) (by kernel_rfl) (fun _ _ _ h => h) (Or.inl ⟨by rfl, ?_⟩) (by assumption) ?_
                            rotate_left
                            · intro w hSw
                              try dsimp only at hSw
                              have x0 := Owns.cell encE_len hSw.2 HG00.out (j := 0) rfl
                              have x1 := Owns.cell encE_len hSw.2 HG00.out (j := 1) rfl
                              have x2 := Owns.cell encE_len hSw.2 HG00.out (j := 2) rfl
                              have x3 := Owns.cell encE_len hSw.2 HG00.out (j := 3) rfl
                              have x4 := Owns.cell encE_len hSw.2 HG00.out (j := 4) rfl
                              have x5 := Owns.cell encE_len hSw.2 HG00.out (j := 5) rfl
                              simp only [Nat.add_zero, Nat.zero_mul, Nat.zero_add] at x0 x1 x2 x3 x4 x5
                              go_simp
                              try with_reducible rfl
                            try simp only [Act.put, List.setIfInBounds_toArray, List.set_cons_zero, List.set_cons_succ]
                            refine wpAnyH_ready (rs := [32]) (by kernel_rfl) (by simp) ?_
                            refine AllReadyH.cons rfl (fun K hK => ?_) AllReadyH.nil
                            refine step_singleW (by rfl) _ (.tmp 161) (by rfl) i0 _ Try.underlying22 hi0 hz0 (by rw [hz1]; decide) (by rw [hz1]; decide) #[.int .i64 (good0 m).step, .int .i64 (good0 m).kind, .int .i64 (good0 m).task, .int .i64 (good0 m).a, .int .i64 (good0 m).b, .int .i64 (good0 m).c] (by rfl) (fillE hz1 _ _ _ _ _ _) ?_
                            intro bX wX hTX hBX hLX
                            refine hK.out _ _ ?_ (fun hHeld => ?_)
                            · exact KS.out _ (HWC.out.trans (hMc.trans hTX))
                            clear hK K
                            try simp only [Act.put, List.setIfInBounds_toArray, List.set_cons_zero, List.set_cons_succ]
                            replace hMc := hMc.trans hTX
                            have hEnd := HEND.out.turns hMc (fun _ _ h => h) (fun _ _ h => h)
                            refine wpAnyH_ready (rs := [33]) (by kernel_rfl) (by simp) ?_
                            refine AllReadyH.cons rfl (fun K hK => ?_) AllReadyH.nil
                            refine step_growW (by rfl) _ _ _ (by rfl) i0 _ 48 Try.underlying22 hi0 hz0 hz1 hz2 rfl (by omega) encE_len encE_one (by rfl) hEnd (by rfl) (SrcAt.block (N := [(good0 m : Ev)]) hBX rfl (by simp [flat, encE])) (by rw [HEL.out]; simp [maxLen]; omega) (by rw [HEL.out]; simp; omega) ?_
                            intro v2 w2 hG2 hF2 hS2 hO2
                            refine hK.out _ _ ?_ (fun hHeld => ?_)
                            · exact KS.out _ hG2.made
                            clear hK K
                            try simp only [Act.put, List.setIfInBounds_toArray, List.set_cons_zero, List.set_cons_succ]
                            have hMw := hG2.made
                            clear hMc hEnd hF2 hS2 hO2
                            refine wpAnyH_ready (rs := [34]) (by kernel_rfl) (by simp) ?_
                            refine AllReadyH.cons rfl (fun K hK => ?_) AllReadyH.nil
                            obtain ⟨M, hM⟩ : ∃ M, E1 ++ [good0 m] = M := ⟨_, rfl⟩
                            rw [hM] at hG2
                            obtain ⟨a2, c2, rfl, hr2⟩ := rowIn_owns encE_len hG2.own
                            have HSN := Lib.hid (sound_c a2 M.length c2 M _ hr2 (by rw [← hM]; simp; omega))
                            rw [show soundM M = false from by rw [← hM]; exact HF2.out] at HSN
                            clear hr2 hM
                            go_simp
                            refine HSN.out.mono ?_
                            rintro e w' ⟨rfl, hm'⟩
                            go_wp2_with fail
                            refine hK.out _ _ ?_ (fun hHeld => ?_)
                            · exact KS.out _ (hMw.trans hm')
                            clear hK K
                            try simp only [Act.put, List.setIfInBounds_toArray, List.set_cons_zero, List.set_cons_succ]
                            replace hMw := hMw.trans hm'
                            clear hm' HSN hG2
                            refine takeH (i := 35) (d := some 165) (v := ?_) rfl rfl (by kernel_rfl) (by kernel_rfl) (by kernel_rfl) (fun _ _ _ h => h) (Or.inl ⟨by rfl, ?_⟩) (by assumption) ?_
                            rotate_left
                            · intro w hSw
                              try dsimp only at hSw
                              go_simp
                              try with_reducible rfl
                            try simp only [Act.put, List.setIfInBounds_toArray, List.set_cons_zero, List.set_cons_succ]
                            refine takeH (i := 36) (d := some 166) (v := ?_) rfl rfl (by kernel_rfl) (by kernel_rfl) (by kernel_rfl) (fun _ _ _ h => h) (Or.inl ⟨by rfl, ?_⟩) (by assumption) ?_
                            rotate_left
                            · intro w hSw
                              try dsimp only at hSw
                              go_simp
                              try with_reducible rfl
                            try simp only [Act.put, List.setIfInBounds_toArray, List.set_cons_zero, List.set_cons_succ]
                            refine takeH (i := 37) (d := some 167) (v := ?_) rfl rfl (by kernel_rfl) (by kernel_rfl) (by kernel_rfl) (fun _ _ _ h => h) (Or.inl ⟨by rfl, ?_⟩) (by assumption) ?_
                            rotate_left
                            · intro w hSw
                              try dsimp only at hSw
                              go_simp
                              try with_reducible rfl
                            try simp only [Act.put, List.setIfInBounds_toArray, List.set_cons_zero, List.set_cons_succ]
                            refine wpAnyH_ready (rs := [38]) (by kernel_rfl) (by simp) ?_
                            refine AllReadyH.cons rfl (fun K hK => ?_) AllReadyH.nil
                            go_simp
                            refine (awake_c _).mono ?_
                            rintro e w' ⟨rfl, hm'⟩
                            go_wp2_with fail
                            refine hK.out _ _ ?_ (fun hHeld => ?_)
                            · exact KS.out _ (hMw.trans hm')
                            clear hK K
                            try simp only [Act.put, List.setIfInBounds_toArray, List.set_cons_zero, List.set_cons_succ]
                            replace hMw := hMw.trans hm'
                            clear hm'
                            refine takeH (i := 39) (d := some 169) (v := ?_) rfl rfl (by kernel_rfl) (by kernel_rfl) (by kernel_rfl) (fun _ _ _ h => h) (Or.inl ⟨by rfl, ?_⟩) (by assumption) ?_
                            rotate_left
                            · intro w hSw
                              try dsimp only at hSw
                              go_simp
                              try with_reducible rfl
                            try simp only [Act.put, List.setIfInBounds_toArray, List.set_cons_zero, List.set_cons_succ]
                            refine takeH (i := 40) (d := some 4) (v := ?_) rfl rfl (by kernel_rfl) (by kernel_rfl) (by kernel_rfl) (fun _ _ _ h => h) (Or.inl ⟨by rfl, ?_⟩) (by assumption) ?_
                            rotate_left
                            · intro w hSw
                              try dsimp only at hSw
                              go_simp
                              try with_reducible rfl
                            try simp only [Act.put, List.setIfInBounds_toArray, List.set_cons_zero, List.set_cons_succ]
                            refine wpAnyH_done (by kernel_rfl) ?_ _
                            have HMW2 := Lib.hid hMw
                            clear hHeld hMw
                            try clear hHeld
                            try clear hHeld
                            try clear hHeld
                            try clear hHeld
                            try clear hHeld
                            try clear hHeld
                            try clear hHeld
                            try clear hHeld
                            try clear hHeld
                            try clear hHeld
                            try clear hHeld
                            try clear hHeld
                            try clear hHeld
                            try clear hHeld
                            try clear hHeld
                            try clear hHeld
                            go_wp2_with fail
                            go_ret
                            exact ⟨rfl, HMA.out.trans HMW2.out⟩
                        exact AllReadyH.nil
                    exact AllReadyH.nil
                refine AllReadyH.cons rfl (fun K hK => ?_) ?_
                · as_aux_lemma =>
                    refine step_singleW (by rfl) _ (.tmp 139) (by rfl) i0 _ Try.underlying22 hi0 hz0 (by rw [hz1]; decide) (by rw [hz1]; decide) #[.int .i64 y.step, .int .i64 y.kind, .int .i64 y.task, .int .i64 y.a, .int .i64 y.b, .int .i64 y.c] (by rfl) (fillE hz1 _ _ _ _ _ _) ?_
                    intro bX wX hTX hBX hLX
                    refine hK.out _ _ ?_ (fun hHeld => ?_)
                    · exact KS.out _ (HWC.out.trans (hMc.trans hTX))
                    clear hK K
                    try simp only [Act.put, List.setIfInBounds_toArray, List.set_cons_zero, List.set_cons_succ]
                    replace hMc := hMc.trans hTX
                    have hBXlt := hBX.lt
                    clear hTX
                    refine wpAnyH_ready (rs := [3]) (by kernel_rfl) (by simp) ?_
                    refine AllReadyH.cons rfl (fun K hK => ?_) AllReadyH.nil
                    refine step_emptyW encE 6 (by rfl) _ (by rfl) i0 _ Try.underlying22 hi0 hz0 hMc ?_
                    intro bE wE hGE hTE hLE
                    refine hK.out _ _ ?_ (fun hHeld => ?_)
                    · exact KS.out _ (HWC.out.trans hGE.made)
                    clear hK K
                    try simp only [Act.put, List.setIfInBounds_toArray, List.set_cons_zero, List.set_cons_succ]
                    replace hMc := hGE.made
                    replace hBX := hBX.turns hTE (fun h => h)
                    have hne : bE ≠ bX := by have := hLX; have := hBXlt; omega
                    clear hTE
                    refine wpAnyH_ready (rs := [5]) (by kernel_rfl) (by simp) ?_
                    refine AllReadyH.cons rfl (fun K hK => ?_) AllReadyH.nil
                    refine step_growW (by rfl) _ _ _ (by rfl) i0 _ 48 Try.underlying22 hi0 hz0 hz1 hz2 rfl (by omega) encE_len encE_one (by rfl) hGE (by rfl) (SRCL.out _ hMc) (by simp only [List.length_append, List.length_nil, List.length_cons, maxLen]; omega) (by simp only [List.length_append, List.length_nil, List.length_cons, maxLen]; omega) ?_
                    intro v1 w1 hG1 hF1 hS1 hO1
                    refine hK.out _ _ ?_ (fun hHeld => ?_)
                    · exact KS.out _ (HWC.out.trans hG1.made)
                    clear hK K
                    try simp only [Act.put, List.setIfInBounds_toArray, List.set_cons_zero, List.set_cons_succ]
                    replace hMc := hG1.made
                    replace hBX : Blk w1 bX _ _ := (hF1 bX hBX.lt (fun e => hne (by simpa [Value.ownBlock] using e))).trans hBX
                    clear hF1 hS1 hO1 hGE
                    refine wpAnyH_ready (rs := [11]) (by kernel_rfl) (by simp) ?_
                    refine AllReadyH.cons rfl (fun K hK => ?_) AllReadyH.nil
                    refine step_growW (by rfl) _ _ _ (by rfl) i0 _ 48 Try.underlying22 hi0 hz0 hz1 hz2 rfl (by omega) encE_len encE_one (by rfl) hG1 (by rfl) (SrcAt.block (N := [(y : Ev)]) hBX rfl (by simp [flat, encE, lateE])) (by simp only [List.length_append, List.length_nil, List.length_cons, maxLen]; omega) (by simp only [List.length_append, List.length_nil, List.length_cons, maxLen]; omega) ?_
                    intro v2 w2 hG2 hF2 hS2 hO2
                    refine hK.out _ _ ?_ (fun hHeld => ?_)
                    · exact KS.out _ (HWC.out.trans hG2.made)
                    clear hK K
                    try simp only [Act.put, List.setIfInBounds_toArray, List.set_cons_zero, List.set_cons_succ]
                    replace hMc := hG2.made
                    clear hF2 hS2 hO2 hG1
                    refine wpAnyH_ready (rs := [12]) (by kernel_rfl) (by simp) ?_
                    refine AllReadyH.cons rfl (fun K hK => ?_) AllReadyH.nil
                    obtain ⟨M, hM⟩ : ∃ M, [] ++ L ++ [y] = M := ⟨_, rfl⟩
                    rw [hM] at hG2
                    obtain ⟨a2, c2, rfl, hr2⟩ := rowIn_owns encE_len hG2.own
                    have HSN := Lib.hid (sound_c a2 M.length c2 M _ hr2 (by rw [← hM]; simp; omega))
                    rw [show soundM M = false from by rw [← hM]; exact HOX.out y (List.mem_of_getElem? HY.out)] at HSN
                    clear hr2 hM
                    go_simp
                    refine HSN.out.mono ?_
                    rintro e w' ⟨rfl, hm'⟩
                    go_wp2_with fail
                    refine hK.out _ _ ?_ (fun hHeld => ?_)
                    · exact KS.out _ (HWC.out.trans (hMc.trans hm'))
                    clear hK K
                    try simp only [Act.put, List.setIfInBounds_toArray, List.set_cons_zero, List.set_cons_succ]
                    replace hMc := hMc.trans hm'
                    clear hm' HSN hG2
                    refine takeH (i := 13) (d := some 143) (v := ?_) rfl rfl (by kernel_rfl) (by kernel_rfl) (by kernel_rfl) (fun _ _ _ h => h) (Or.inl ⟨by rfl, ?_⟩) (by assumption) ?_
                    rotate_left
                    · intro w hSw
                      try dsimp only at hSw
                      go_simp
                      try with_reducible rfl
                    try simp only [Act.put, List.setIfInBounds_toArray, List.set_cons_zero, List.set_cons_succ]
                    refine takeH (i := 14) (d := some 144) (v := ?_) rfl rfl (by kernel_rfl) (by kernel_rfl) (by kernel_rfl) (fun _ _ _ h => h) (Or.inl ⟨by rfl, ?_⟩) (by assumption) ?_
                    rotate_left
                    · intro w hSw
                      try dsimp only at hSw
                      go_simp
                      try with_reducible rfl
                    try simp only [Act.put, List.setIfInBounds_toArray, List.set_cons_zero, List.set_cons_succ]
                    refine takeH (i := 15) (d := some 145) (v := ?_) rfl rfl (by kernel_rfl) (by kernel_rfl) (by kernel_rfl) (fun _ _ _ h => h) (Or.inl ⟨by rfl, ?_⟩) (by assumption) ?_
                    rotate_left
                    · intro w hSw
                      try dsimp only at hSw
                      go_simp
                      try with_reducible rfl
                    try simp only [Act.put, List.setIfInBounds_toArray, List.set_cons_zero, List.set_cons_succ]
                    refine takeH (i := 17) (d := some 147) (v := ?_) rfl rfl (by kernel_rfl) (by kernel_rfl) (by kernel_rfl) (fun _ _ _ h => h) (Or.inl ⟨by rfl, ?_⟩) (by assumption) ?_
                    rotate_left
                    · intro w hSw
                      try dsimp only at hSw
                      go_simp
                      try with_reducible rfl
                    try simp only [Act.put, List.setIfInBounds_toArray, List.set_cons_zero, List.set_cons_succ]
                    refine takeH (i := 19) (d := some 149) (v := ?_) rfl rfl (by kernel_rfl) (by kernel_rfl) (by kernel_rfl) (fun _ _ _ h => h) (Or.inl ⟨by rfl, ?_⟩) (by assumption) ?_
                    rotate_left
                    · intro w hSw
                      try dsimp only at hSw
                      go_simp
                      try with_reducible rfl
                    try simp only [Act.put, List.setIfInBounds_toArray, List.set_cons_zero, List.set_cons_succ]
                    refine takeH (i := 20) (d := some 150) (v := ?_) rfl rfl (by kernel_rfl) (by kernel_rfl) (by kernel_rfl) (fun _ _ _ h => h) (Or.inl ⟨by rfl, ?_⟩) (by assumption) ?_
                    rotate_left
                    · intro w hSw
                      try dsimp only at hSw
                      go_simp
                      try with_reducible rfl
                    try simp only [Act.put, List.setIfInBounds_toArray, List.set_cons_zero, List.set_cons_succ]
                    refine takeH (i := 21) (d := some 151) (v := ?_) rfl rfl (by kernel_rfl) (by kernel_rfl) (by kernel_rfl) (fun _ _ _ h => h) (Or.inl ⟨by rfl, ?_⟩) (by assumption) ?_
                    rotate_left
                    · intro w hSw
                      try dsimp only at hSw
                      go_simp
                      try with_reducible rfl
                    try simp only [Act.put, List.setIfInBounds_toArray, List.set_cons_zero, List.set_cons_succ]
                    refine wpAnyH_ready (rs := [16, 22]) (by kernel_rfl) (by simp) ?_
                    refine AllReadyH.cons rfl (fun K hK => ?_) ?_
                    · as_aux_lemma =>
                        refine step_emptyW encE 6 (by rfl) _ (by rfl) i0 _ Try.underlying22 hi0 hz0 hMc ?_
                        intro bE wE hGE hTE hLE
                        refine hK.out _ _ ?_ (fun hHeld => ?_)
                        · exact KS.out _ (HWC.out.trans hGE.made)
                        clear hK K
                        try simp only [Act.put, List.setIfInBounds_toArray, List.set_cons_zero, List.set_cons_succ]
                        replace hMc := hGE.made
                        clear hTE
                        refine wpAnyH_ready (rs := [18, 22]) (by kernel_rfl) (by simp) ?_
                        refine AllReadyH.cons rfl (fun K hK => ?_) ?_
                        · as_aux_lemma =>
                            refine step_growW (by rfl) _ _ _ (by rfl) i0 _ 48 Try.underlying22 hi0 hz0 hz1 hz2 rfl (by omega) encE_len encE_one (by rfl) hGE (by rfl) (SRCE.out _ hMc) (by simp only [List.length_append, List.length_nil, List.length_cons, maxLen]; omega) (by simp only [List.length_append, List.length_nil, List.length_cons, maxLen]; omega) ?_
                            intro v1 w1 hG1 hF1 hS1 hO1
                            refine hK.out _ _ ?_ (fun hHeld => ?_)
                            · exact KS.out _ (HWC.out.trans hG1.made)
                            clear hK K
                            try simp only [Act.put, List.setIfInBounds_toArray, List.set_cons_zero, List.set_cons_succ]
                            replace hMc := hG1.made
                            clear hF1 hS1 hO1 hGE
                            refine wpAnyH_ready (rs := [22]) (by kernel_rfl) (by simp) ?_
                            refine AllReadyH.cons rfl (fun K hK => ?_) AllReadyH.nil
                            refine step_singleW (by rfl) _ (.tmp 151) (by rfl) i0 _ Try.underlying22 hi0 hz0 (by rw [hz1]; decide) (by rw [hz1]; decide) #[.int .i64 ((m : Int) + 5), .int .i64 1, .int .i64 m, .int .i64 0, .int .i64 0, .int .i64 0] (by rfl) (fillE hz1 _ _ _ _ _ _) ?_
                            intro bX wX hTX hBX hLX
                            refine hK.out _ _ ?_ (fun hHeld => ?_)
                            · exact KS.out _ (HWC.out.trans (hMc.trans hTX))
                            clear hK K
                            try simp only [Act.put, List.setIfInBounds_toArray, List.set_cons_zero, List.set_cons_succ]
                            replace hMc := hMc.trans hTX
                            have hBXlt := hBX.lt
                            replace hG1 := hG1.turns hTX (fun _ _ h => h) (fun _ _ h => h)
                            clear hTX
                            refine wpAnyH_ready (rs := [23]) (by kernel_rfl) (by simp) ?_
                            refine AllReadyH.cons rfl (fun K hK => ?_) AllReadyH.nil
                            refine step_growW (by rfl) _ _ _ (by rfl) i0 _ 48 Try.underlying22 hi0 hz0 hz1 hz2 rfl (by omega) encE_len encE_one (by rfl) hG1 (by rfl) (SrcAt.block (N := [(lateE m : Ev)]) hBX rfl (by simp [flat, encE, lateE])) (by simp only [List.length_append, List.length_nil, List.length_cons, maxLen]; omega) (by simp only [List.length_append, List.length_nil, List.length_cons, maxLen]; omega) ?_
                            intro v2 w2 hG2 hF2 hS2 hO2
                            refine hK.out _ _ ?_ (fun hHeld => ?_)
                            · exact KS.out _ (HWC.out.trans hG2.made)
                            clear hK K
                            try simp only [Act.put, List.setIfInBounds_toArray, List.set_cons_zero, List.set_cons_succ]
                            replace hMc := hG2.made
                            clear hF2 hS2 hO2 hG1
                            refine wpAnyH_ready (rs := [24]) (by kernel_rfl) (by simp) ?_
                            refine AllReadyH.cons rfl (fun K hK => ?_) AllReadyH.nil
                            obtain ⟨M, hM⟩ : ∃ M, [] ++ E1 ++ [lateE m] = M := ⟨_, rfl⟩
                            rw [hM] at hG2
                            obtain ⟨a2, c2, rfl, hr2⟩ := rowIn_owns encE_len hG2.own
                            have HSN := Lib.hid (sound_c a2 M.length c2 M _ hr2 (by rw [← hM]; simp; omega))
                            rw [show soundM M = false from by rw [← hM]; exact HF1.out] at HSN
                            clear hr2 hM
                            go_simp
                            refine HSN.out.mono ?_
                            rintro e w' ⟨rfl, hm'⟩
                            go_wp2_with fail
                            refine hK.out _ _ ?_ (fun hHeld => ?_)
                            · exact KS.out _ (HWC.out.trans (hMc.trans hm'))
                            clear hK K
                            try simp only [Act.put, List.setIfInBounds_toArray, List.set_cons_zero, List.set_cons_succ]
                            replace hMc := hMc.trans hm'
                            clear hm' HSN hG2
                            refine takeH (i := 25) (d := some 155) (v := ?_) rfl rfl (by kernel_rfl) (by kernel_rfl) (by kernel_rfl) (fun _ _ _ h => h) (Or.inl ⟨by rfl, ?_⟩) (by assumption) ?_
                            rotate_left
                            · intro w hSw
                              try dsimp only at hSw
                              go_simp
                              try with_reducible rfl
                            try simp only [Act.put, List.setIfInBounds_toArray, List.set_cons_zero, List.set_cons_succ]
                            refine takeH (i := 26) (d := some 156) (v := ?_) rfl rfl (by kernel_rfl) (by kernel_rfl) (by kernel_rfl) (fun _ _ _ h => h) (Or.inl ⟨by rfl, ?_⟩) (by assumption) ?_
                            rotate_left
                            · intro w hSw
                              try dsimp only at hSw
                              go_simp
                              try with_reducible rfl
                            try simp only [Act.put, List.setIfInBounds_toArray, List.set_cons_zero, List.set_cons_succ]
                            refine takeH (i := 27) (d := some 157) (v := ?_) rfl rfl (by kernel_rfl) (by kernel_rfl) (by kernel_rfl) (fun _ _ _ h => h) (Or.inl ⟨by rfl, ?_⟩) (by assumption) ?_
                            rotate_left
                            · intro w hSw
                              try dsimp only at hSw
                              go_simp
                              try with_reducible rfl
                            try simp only [Act.put, List.setIfInBounds_toArray, List.set_cons_zero, List.set_cons_succ]
                            refine takeH (i := 28) (d := some 158) (v := ?_) rfl rfl (by kernel_rfl) (by kernel_rfl) (by kernel_rfl) (fun _ _ _ h => h) (Or.inl ⟨by rfl, ?_⟩) (by assumption) ?_
                            rotate_left
                            · intro w hSw
                              try dsimp only at hSw
                              go_simp
                              try with_reducible rfl
                            try simp only [Act.put, List.setIfInBounds_toArray, List.set_cons_zero, List.set_cons_succ]
                            refine takeH (i := 29) (d := some 159) (v := ?_) rfl rfl (by kernel_rfl) (by kernel_rfl) (by kernel_rfl) (fun _ _ _ h => h) (Or.inl ⟨by rfl, ?_⟩) (by assumption) ?_
                            rotate_left
                            · intro w hSw
                              try dsimp only at hSw
                              go_simp
                              try with_reducible rfl
                            try simp only [Act.put, List.setIfInBounds_toArray, List.set_cons_zero, List.set_cons_succ]
                            refine takeH (i := 30) (d := some 160) (v := ?_) rfl rfl (by kernel_rfl) (by kernel_rfl) (by kernel_rfl) (fun _ _ _ h => h) (Or.inl ⟨by rfl, ?_⟩) (by assumption) ?_
                            rotate_left
                            · intro w hSw
                              try dsimp only at hSw
                              go_simp
                              try with_reducible rfl
                            try simp only [Act.put, List.setIfInBounds_toArray, List.set_cons_zero, List.set_cons_succ]
                            refine takeH (i := 31) (d := some 161) (v := ?_) rfl rfl (by kernel_rfl) (by kernel_rfl) (by kernel_rfl) (fun _ _ _ h => h) (Or.inl ⟨by rfl, ?_⟩) (by assumption) ?_
                            rotate_left
                            · intro w hSw
                              try dsimp only at hSw
                              have x0 := Owns.cell encE_len hSw.2 HG00.out (j := 0) rfl
                              have x1 := Owns.cell encE_len hSw.2 HG00.out (j := 1) rfl
                              have x2 := Owns.cell encE_len hSw.2 HG00.out (j := 2) rfl
                              have x3 := Owns.cell encE_len hSw.2 HG00.out (j := 3) rfl
                              have x4 := Owns.cell encE_len hSw.2 HG00.out (j := 4) rfl
                              have x5 := Owns.cell encE_len hSw.2 HG00.out (j := 5) rfl
                              simp only [Nat.add_zero, Nat.zero_mul, Nat.zero_add] at x0 x1 x2 x3 x4 x5
                              go_simp
                              try with_reducible rfl
                            try simp only [Act.put, List.setIfInBounds_toArray, List.set_cons_zero, List.set_cons_succ]
                            refine wpAnyH_ready (rs := [32]) (by kernel_rfl) (by simp) ?_
                            refine AllReadyH.cons rfl (fun K hK => ?_) AllReadyH.nil
                            refine step_singleW (by rfl) _ (.tmp 161) (by rfl) i0 _ Try.underlying22 hi0 hz0 (by rw [hz1]; decide) (by rw [hz1]; decide) #[.int .i64 (good0 m).step, .int .i64 (good0 m).kind, .int .i64 (good0 m).task, .int .i64 (good0 m).a, .int .i64 (good0 m).b, .int .i64 (good0 m).c] (by rfl) (fillE hz1 _ _ _ _ _ _) ?_
                            intro bX wX hTX hBX hLX
                            refine hK.out _ _ ?_ (fun hHeld => ?_)
                            · exact KS.out _ (HWC.out.trans (hMc.trans hTX))
                            clear hK K
                            try simp only [Act.put, List.setIfInBounds_toArray, List.set_cons_zero, List.set_cons_succ]
                            replace hMc := hMc.trans hTX
                            have hEnd := HEND.out.turns hMc (fun _ _ h => h) (fun _ _ h => h)
                            refine wpAnyH_ready (rs := [33]) (by kernel_rfl) (by simp) ?_
                            refine AllReadyH.cons rfl (fun K hK => ?_) AllReadyH.nil
                            refine step_growW (by rfl) _ _ _ (by rfl) i0 _ 48 Try.underlying22 hi0 hz0 hz1 hz2 rfl (by omega) encE_len encE_one (by rfl) hEnd (by rfl) (SrcAt.block (N := [(good0 m : Ev)]) hBX rfl (by simp [flat, encE])) (by rw [HEL.out]; simp [maxLen]; omega) (by rw [HEL.out]; simp; omega) ?_
                            intro v2 w2 hG2 hF2 hS2 hO2
                            refine hK.out _ _ ?_ (fun hHeld => ?_)
                            · exact KS.out _ hG2.made
                            clear hK K
                            try simp only [Act.put, List.setIfInBounds_toArray, List.set_cons_zero, List.set_cons_succ]
                            have hMw := hG2.made
                            clear hMc hEnd hF2 hS2 hO2
                            refine wpAnyH_ready (rs := [34]) (by kernel_rfl) (by simp) ?_
                            refine AllReadyH.cons rfl (fun K hK => ?_) AllReadyH.nil
                            obtain ⟨M, hM⟩ : ∃ M, E1 ++ [good0 m] = M := ⟨_, rfl⟩
                            rw [hM] at hG2
                            obtain ⟨a2, c2, rfl, hr2⟩ := rowIn_owns encE_len hG2.own
                            have HSN := Lib.hid (sound_c a2 M.length c2 M _ hr2 (by rw [← hM]; simp; omega))
                            rw [show soundM M = false from by rw [← hM]; exact HF2.out] at HSN
                            clear hr2 hM
                            go_simp
                            refine HSN.out.mono ?_
                            rintro e w' ⟨rfl, hm'⟩
                            go_wp2_with fail
                            refine hK.out _ _ ?_ (fun hHeld => ?_)
                            · exact KS.out _ (hMw.trans hm')
                            clear hK K
                            try simp only [Act.put, List.setIfInBounds_toArray, List.set_cons_zero, List.set_cons_succ]
                            replace hMw := hMw.trans hm'
                            clear hm' HSN hG2
                            refine takeH (i := 35) (d := some 165) (v := ?_) rfl rfl (by kernel_rfl) (by kernel_rfl) (by kernel_rfl) (fun _ _ _ h => h) (Or.inl ⟨by rfl, ?_⟩) (by assumption) ?_
                            rotate_left
                            · intro w hSw
                              try dsimp only at hSw
                              go_simp
                              try with_reducible rfl
                            try simp only [Act.put, List.setIfInBounds_toArray, List.set_cons_zero, List.set_cons_succ]
                            refine takeH (i := 36) (d := some 166) (v := ?_) rfl rfl (by kernel_rfl) (by kernel_rfl) (by kernel_rfl) (fun _ _ _ h => h) (Or.inl ⟨by rfl, ?_⟩) (by assumption) ?_
                            rotate_left
                            · intro w hSw
                              try dsimp only at hSw
                              go_simp
                              try with_reducible rfl
                            try simp only [Act.put, List.setIfInBounds_toArray, List.set_cons_zero, List.set_cons_succ]
                            refine takeH (i := 37) (d := some 167) (v := ?_) rfl rfl (by kernel_rfl) (by kernel_rfl) (by kernel_rfl) (fun _ _ _ h => h) (Or.inl ⟨by rfl, ?_⟩) (by assumption) ?_
                            rotate_left
                            · intro w hSw
                              try dsimp only at hSw
                              go_simp
                              try with_reducible rfl
                            try simp only [Act.put, List.setIfInBounds_toArray, List.set_cons_zero, List.set_cons_succ]
                            refine wpAnyH_ready (rs := [38]) (by kernel_rfl) (by simp) ?_
                            refine AllReadyH.cons rfl (fun K hK => ?_) AllReadyH.nil
                            go_simp
                            refine (awake_c _).mono ?_
                            rintro e w' ⟨rfl, hm'⟩
                            go_wp2_with fail
                            refine hK.out _ _ ?_ (fun hHeld => ?_)
                            · exact KS.out _ (hMw.trans hm')
                            clear hK K
                            try simp only [Act.put, List.setIfInBounds_toArray, List.set_cons_zero, List.set_cons_succ]
                            replace hMw := hMw.trans hm'
                            clear hm'
                            refine takeH (i := 39) (d := some 169) (v := ?_) rfl rfl (by kernel_rfl) (by kernel_rfl) (by kernel_rfl) (fun _ _ _ h => h) (Or.inl ⟨by rfl, ?_⟩) (by assumption) ?_
                            rotate_left
                            · intro w hSw
                              try dsimp only at hSw
                              go_simp
                              try with_reducible rfl
                            try simp only [Act.put, List.setIfInBounds_toArray, List.set_cons_zero, List.set_cons_succ]
                            refine takeH (i := 40) (d := some 4) (v := ?_) rfl rfl (by kernel_rfl) (by kernel_rfl) (by kernel_rfl) (fun _ _ _ h => h) (Or.inl ⟨by rfl, ?_⟩) (by assumption) ?_
                            rotate_left
                            · intro w hSw
                              try dsimp only at hSw
                              go_simp
                              try with_reducible rfl
                            try simp only [Act.put, List.setIfInBounds_toArray, List.set_cons_zero, List.set_cons_succ]
                            refine wpAnyH_done (by kernel_rfl) ?_ _
                            have HMW2 := Lib.hid hMw
                            clear hHeld hMw
                            try clear hHeld
                            try clear hHeld
                            try clear hHeld
                            try clear hHeld
                            try clear hHeld
                            try clear hHeld
                            try clear hHeld
                            try clear hHeld
                            try clear hHeld
                            try clear hHeld
                            try clear hHeld
                            try clear hHeld
                            try clear hHeld
                            try clear hHeld
                            try clear hHeld
                            try clear hHeld
                            go_wp2_with fail
                            go_ret
                            exact ⟨rfl, HMA.out.trans HMW2.out⟩
                        refine AllReadyH.cons rfl (fun K hK => ?_) ?_
                        · as_aux_lemma =>
                            refine step_singleW (by rfl) _ (.tmp 151) (by rfl) i0 _ Try.underlying22 hi0 hz0 (by rw [hz1]; decide) (by rw [hz1]; decide) #[.int .i64 ((m : Int) + 5), .int .i64 1, .int .i64 m, .int .i64 0, .int .i64 0, .int .i64 0] (by rfl) (fillE hz1 _ _ _ _ _ _) ?_
                            intro bX wX hTX hBX hLX
                            refine hK.out _ _ ?_ (fun hHeld => ?_)
                            · exact KS.out _ (HWC.out.trans (hMc.trans hTX))
                            clear hK K
                            try simp only [Act.put, List.setIfInBounds_toArray, List.set_cons_zero, List.set_cons_succ]
                            replace hMc := hMc.trans hTX
                            have hBXlt := hBX.lt
                            have hne : bE ≠ bX := by have h : bE < wE.heap.size := hGE.own.lt rfl; omega
                            replace hGE := hGE.turns hTX (fun _ _ h => h) (fun _ _ h => h)
                            clear hTX
                            refine wpAnyH_ready (rs := [18]) (by kernel_rfl) (by simp) ?_
                            refine AllReadyH.cons rfl (fun K hK => ?_) AllReadyH.nil
                            refine step_growW (by rfl) _ _ _ (by rfl) i0 _ 48 Try.underlying22 hi0 hz0 hz1 hz2 rfl (by omega) encE_len encE_one (by rfl) hGE (by rfl) (SRCE.out _ hMc) (by simp only [List.length_append, List.length_nil, List.length_cons, maxLen]; omega) (by simp only [List.length_append, List.length_nil, List.length_cons, maxLen]; omega) ?_
                            intro v1 w1 hG1 hF1 hS1 hO1
                            refine hK.out _ _ ?_ (fun hHeld => ?_)
                            · exact KS.out _ (HWC.out.trans hG1.made)
                            clear hK K
                            try simp only [Act.put, List.setIfInBounds_toArray, List.set_cons_zero, List.set_cons_succ]
                            replace hMc := hG1.made
                            replace hBX : Blk w1 bX _ _ := (hF1 bX hBX.lt (fun e => hne (by simpa [Value.ownBlock] using e))).trans hBX
                            clear hF1 hS1 hO1 hGE
                            refine wpAnyH_ready (rs := [23]) (by kernel_rfl) (by simp) ?_
                            refine AllReadyH.cons rfl (fun K hK => ?_) AllReadyH.nil
                            refine step_growW (by rfl) _ _ _ (by rfl) i0 _ 48 Try.underlying22 hi0 hz0 hz1 hz2 rfl (by omega) encE_len encE_one (by rfl) hG1 (by rfl) (SrcAt.block (N := [(lateE m : Ev)]) hBX rfl (by simp [flat, encE, lateE])) (by simp only [List.length_append, List.length_nil, List.length_cons, maxLen]; omega) (by simp only [List.length_append, List.length_nil, List.length_cons, maxLen]; omega) ?_
                            intro v2 w2 hG2 hF2 hS2 hO2
                            refine hK.out _ _ ?_ (fun hHeld => ?_)
                            · exact KS.out _ (HWC.out.trans hG2.made)
                            clear hK K
                            try simp only [Act.put, List.setIfInBounds_toArray, List.set_cons_zero, List.set_cons_succ]
                            replace hMc := hG2.made
                            clear hF2 hS2 hO2 hG1
                            refine wpAnyH_ready (rs := [24]) (by kernel_rfl) (by simp) ?_
                            refine AllReadyH.cons rfl (fun K hK => ?_) AllReadyH.nil
                            obtain ⟨M, hM⟩ : ∃ M, [] ++ E1 ++ [lateE m] = M := ⟨_, rfl⟩
                            rw [hM] at hG2
                            obtain ⟨a2, c2, rfl, hr2⟩ := rowIn_owns encE_len hG2.own
                            have HSN := Lib.hid (sound_c a2 M.length c2 M _ hr2 (by rw [← hM]; simp; omega))
                            rw [show soundM M = false from by rw [← hM]; exact HF1.out] at HSN
                            clear hr2 hM
                            go_simp
                            refine HSN.out.mono ?_
                            rintro e w' ⟨rfl, hm'⟩
                            go_wp2_with fail
                            refine hK.out _ _ ?_ (fun hHeld => ?_)
                            · exact KS.out _ (HWC.out.trans (hMc.trans hm'))
                            clear hK K
                            try simp only [Act.put, List.setIfInBounds_toArray, List.set_cons_zero, List.set_cons_succ]
                            replace hMc := hMc.trans hm'
                            clear hm' HSN hG2
                            refine takeH (i := 25) (d := some 155) (v := ?_) rfl rfl (by kernel_rfl) (by kernel_rfl) (by kernel_rfl) (fun _ _ _ h => h) (Or.inl ⟨by rfl, ?_⟩) (by assumption) ?_
                            rotate_left
                            · intro w hSw
                              try dsimp only at hSw
                              go_simp
                              try with_reducible rfl
                            try simp only [Act.put, List.setIfInBounds_toArray, List.set_cons_zero, List.set_cons_succ]
                            refine takeH (i := 26) (d := some 156) (v := ?_) rfl rfl (by kernel_rfl) (by kernel_rfl) (by kernel_rfl) (fun _ _ _ h => h) (Or.inl ⟨by rfl, ?_⟩) (by assumption) ?_
                            rotate_left
                            · intro w hSw
                              try dsimp only at hSw
                              go_simp
                              try with_reducible rfl
                            try simp only [Act.put, List.setIfInBounds_toArray, List.set_cons_zero, List.set_cons_succ]
                            refine takeH (i := 27) (d := some 157) (v := ?_) rfl rfl (by kernel_rfl) (by kernel_rfl) (by kernel_rfl) (fun _ _ _ h => h) (Or.inl ⟨by rfl, ?_⟩) (by assumption) ?_
                            rotate_left
                            · intro w hSw
                              try dsimp only at hSw
                              go_simp
                              try with_reducible rfl
                            try simp only [Act.put, List.setIfInBounds_toArray, List.set_cons_zero, List.set_cons_succ]
                            refine takeH (i := 28) (d := some 158) (v := ?_) rfl rfl (by kernel_rfl) (by kernel_rfl) (by kernel_rfl) (fun _ _ _ h => h) (Or.inl ⟨by rfl, ?_⟩) (by assumption) ?_
                            rotate_left
                            · intro w hSw
                              try dsimp only at hSw
                              go_simp
                              try with_reducible rfl
                            try simp only [Act.put, List.setIfInBounds_toArray, List.set_cons_zero, List.set_cons_succ]
                            refine takeH (i := 29) (d := some 159) (v := ?_) rfl rfl (by kernel_rfl) (by kernel_rfl) (by kernel_rfl) (fun _ _ _ h => h) (Or.inl ⟨by rfl, ?_⟩) (by assumption) ?_
                            rotate_left
                            · intro w hSw
                              try dsimp only at hSw
                              go_simp
                              try with_reducible rfl
                            try simp only [Act.put, List.setIfInBounds_toArray, List.set_cons_zero, List.set_cons_succ]
                            refine takeH (i := 30) (d := some 160) (v := ?_) rfl rfl (by kernel_rfl) (by kernel_rfl) (by kernel_rfl) (fun _ _ _ h => h) (Or.inl ⟨by rfl, ?_⟩) (by assumption) ?_
                            rotate_left
                            · intro w hSw
                              try dsimp only at hSw
                              go_simp
                              try with_reducible rfl
                            try simp only [Act.put, List.setIfInBounds_toArray, List.set_cons_zero, List.set_cons_succ]
                            refine takeH (i := 31) (d := some 161) (v := ?_) rfl rfl (by kernel_rfl) (by kernel_rfl) (by kernel_rfl) (fun _ _ _ h => h) (Or.inl ⟨by rfl, ?_⟩) (by assumption) ?_
                            rotate_left
                            · intro w hSw
                              try dsimp only at hSw
                              have x0 := Owns.cell encE_len hSw.2 HG00.out (j := 0) rfl
                              have x1 := Owns.cell encE_len hSw.2 HG00.out (j := 1) rfl
                              have x2 := Owns.cell encE_len hSw.2 HG00.out (j := 2) rfl
                              have x3 := Owns.cell encE_len hSw.2 HG00.out (j := 3) rfl
                              have x4 := Owns.cell encE_len hSw.2 HG00.out (j := 4) rfl
                              have x5 := Owns.cell encE_len hSw.2 HG00.out (j := 5) rfl
                              simp only [Nat.add_zero, Nat.zero_mul, Nat.zero_add] at x0 x1 x2 x3 x4 x5
                              go_simp
                              try with_reducible rfl
                            try simp only [Act.put, List.setIfInBounds_toArray, List.set_cons_zero, List.set_cons_succ]
                            refine wpAnyH_ready (rs := [32]) (by kernel_rfl) (by simp) ?_
                            refine AllReadyH.cons rfl (fun K hK => ?_) AllReadyH.nil
                            refine step_singleW (by rfl) _ (.tmp 161) (by rfl) i0 _ Try.underlying22 hi0 hz0 (by rw [hz1]; decide) (by rw [hz1]; decide) #[.int .i64 (good0 m).step, .int .i64 (good0 m).kind, .int .i64 (good0 m).task, .int .i64 (good0 m).a, .int .i64 (good0 m).b, .int .i64 (good0 m).c] (by rfl) (fillE hz1 _ _ _ _ _ _) ?_
                            intro bX wX hTX hBX hLX
                            refine hK.out _ _ ?_ (fun hHeld => ?_)
                            · exact KS.out _ (HWC.out.trans (hMc.trans hTX))
                            clear hK K
                            try simp only [Act.put, List.setIfInBounds_toArray, List.set_cons_zero, List.set_cons_succ]
                            replace hMc := hMc.trans hTX
                            have hEnd := HEND.out.turns hMc (fun _ _ h => h) (fun _ _ h => h)
                            refine wpAnyH_ready (rs := [33]) (by kernel_rfl) (by simp) ?_
                            refine AllReadyH.cons rfl (fun K hK => ?_) AllReadyH.nil
                            refine step_growW (by rfl) _ _ _ (by rfl) i0 _ 48 Try.underlying22 hi0 hz0 hz1 hz2 rfl (by omega) encE_len encE_one (by rfl) hEnd (by rfl) (SrcAt.block (N := [(good0 m : Ev)]) hBX rfl (by simp [flat, encE])) (by rw [HEL.out]; simp [maxLen]; omega) (by rw [HEL.out]; simp; omega) ?_
                            intro v2 w2 hG2 hF2 hS2 hO2
                            refine hK.out _ _ ?_ (fun hHeld => ?_)
                            · exact KS.out _ hG2.made
                            clear hK K
                            try simp only [Act.put, List.setIfInBounds_toArray, List.set_cons_zero, List.set_cons_succ]
                            have hMw := hG2.made
                            clear hMc hEnd hF2 hS2 hO2
                            refine wpAnyH_ready (rs := [34]) (by kernel_rfl) (by simp) ?_
                            refine AllReadyH.cons rfl (fun K hK => ?_) AllReadyH.nil
                            obtain ⟨M, hM⟩ : ∃ M, E1 ++ [good0 m] = M := ⟨_, rfl⟩
                            rw [hM] at hG2
                            obtain ⟨a2, c2, rfl, hr2⟩ := rowIn_owns encE_len hG2.own
                            have HSN := Lib.hid (sound_c a2 M.length c2 M _ hr2 (by rw [← hM]; simp; omega))
                            rw [show soundM M = false from by rw [← hM]; exact HF2.out] at HSN
                            clear hr2 hM
                            go_simp
                            refine HSN.out.mono ?_
                            rintro e w' ⟨rfl, hm'⟩
                            go_wp2_with fail
                            refine hK.out _ _ ?_ (fun hHeld => ?_)
                            · exact KS.out _ (hMw.trans hm')
                            clear hK K
                            try simp only [Act.put, List.setIfInBounds_toArray, List.set_cons_zero, List.set_cons_succ]
                            replace hMw := hMw.trans hm'
                            clear hm' HSN hG2
                            refine takeH (i := 35) (d := some 165) (v := ?_) rfl rfl (by kernel_rfl) (by kernel_rfl) (by kernel_rfl) (fun _ _ _ h => h) (Or.inl ⟨by rfl, ?_⟩) (by assumption) ?_
                            rotate_left
                            · intro w hSw
                              try dsimp only at hSw
                              go_simp
                              try with_reducible rfl
                            try simp only [Act.put, List.setIfInBounds_toArray, List.set_cons_zero, List.set_cons_succ]
                            refine takeH (i := 36) (d := some 166) (v := ?_) rfl rfl (by kernel_rfl) (by kernel_rfl) (by kernel_rfl) (fun _ _ _ h => h) (Or.inl ⟨by rfl, ?_⟩) (by assumption) ?_
                            rotate_left
                            · intro w hSw
                              try dsimp only at hSw
                              go_simp
                              try with_reducible rfl
                            try simp only [Act.put, List.setIfInBounds_toArray, List.set_cons_zero, List.set_cons_succ]
                            refine takeH (i := 37) (d := some 167) (v := ?_) rfl rfl (by kernel_rfl) (by kernel_rfl) (by kernel_rfl) (fun _ _ _ h => h) (Or.inl ⟨by rfl, ?_⟩) (by assumption) ?_
                            rotate_left
                            · intro w hSw
                              try dsimp only at hSw
                              go_simp
                              try with_reducible rfl
                            try simp only [Act.put, List.setIfInBounds_toArray, List.set_cons_zero, List.set_cons_succ]
                            refine wpAnyH_ready (rs := [38]) (by kernel_rfl) (by simp) ?_
                            refine AllReadyH.cons rfl (fun K hK => ?_) AllReadyH.nil
                            go_simp
                            refine (awake_c _).mono ?_
                            rintro e w' ⟨rfl, hm'⟩
                            go_wp2_with fail
                            refine hK.out _ _ ?_ (fun hHeld => ?_)
                            · exact KS.out _ (hMw.trans hm')
                            clear hK K
                            try simp only [Act.put, List.setIfInBounds_toArray, List.set_cons_zero, List.set_cons_succ]
                            replace hMw := hMw.trans hm'
                            clear hm'
                            refine takeH (i := 39) (d := some 169) (v := ?_) rfl rfl (by kernel_rfl) (by kernel_rfl) (by kernel_rfl) (fun _ _ _ h => h) (Or.inl ⟨by rfl, ?_⟩) (by assumption) ?_
                            rotate_left
                            · intro w hSw
                              try dsimp only at hSw
                              go_simp
                              try with_reducible rfl
                            try simp only [Act.put, List.setIfInBounds_toArray, List.set_cons_zero, List.set_cons_succ]
                            refine takeH (i := 40) (d := some 4) (v := ?_) rfl rfl (by kernel_rfl) (by kernel_rfl) (by kernel_rfl) (fun _ _ _ h => h) (Or.inl ⟨by rfl, ?_⟩) (by assumption) ?_
                            rotate_left
                            · intro w hSw
                              try dsimp only at hSw
                              go_simp
                              try with_reducible rfl
                            try simp only [Act.put, List.setIfInBounds_toArray, List.set_cons_zero, List.set_cons_succ]
                            refine wpAnyH_done (by kernel_rfl) ?_ _
                            have HMW2 := Lib.hid hMw
                            clear hHeld hMw
                            try clear hHeld
                            try clear hHeld
                            try clear hHeld
                            try clear hHeld
                            try clear hHeld
                            try clear hHeld
                            try clear hHeld
                            try clear hHeld
                            try clear hHeld
                            try clear hHeld
                            try clear hHeld
                            try clear hHeld
                            try clear hHeld
                            try clear hHeld
                            try clear hHeld
                            try clear hHeld
                            go_wp2_with fail
                            go_ret
                            exact ⟨rfl, HMA.out.trans HMW2.out⟩
                        exact AllReadyH.nil
                    refine AllReadyH.cons rfl (fun K hK => ?_) ?_
                    · as_aux_lemma =>
                        refine step_singleW (by rfl) _ (.tmp 151) (by rfl) i0 _ Try.underlying22 hi0 hz0 (by rw [hz1]; decide) (by rw [hz1]; decide) #[.int .i64 ((m : Int) + 5), .int .i64 1, .int .i64 m, .int .i64 0, .int .i64 0, .int .i64 0] (by rfl) (fillE hz1 _ _ _ _ _ _) ?_
                        intro bX wX hTX hBX hLX
                        refine hK.out _ _ ?_ (fun hHeld => ?_)
                        · exact KS.out _ (HWC.out.trans (hMc.trans hTX))
                        clear hK K
                        try simp only [Act.put, List.setIfInBounds_toArray, List.set_cons_zero, List.set_cons_succ]
                        replace hMc := hMc.trans hTX
                        have hBXlt := hBX.lt
                        clear hTX
                        refine wpAnyH_ready (rs := [16]) (by kernel_rfl) (by simp) ?_
                        refine AllReadyH.cons rfl (fun K hK => ?_) AllReadyH.nil
                        refine step_emptyW encE 6 (by rfl) _ (by rfl) i0 _ Try.underlying22 hi0 hz0 hMc ?_
                        intro bE wE hGE hTE hLE
                        refine hK.out _ _ ?_ (fun hHeld => ?_)
                        · exact KS.out _ (HWC.out.trans hGE.made)
                        clear hK K
                        try simp only [Act.put, List.setIfInBounds_toArray, List.set_cons_zero, List.set_cons_succ]
                        replace hMc := hGE.made
                        replace hBX := hBX.turns hTE (fun h => h)
                        have hne : bE ≠ bX := by have := hLX; have := hBXlt; omega
                        clear hTE
                        refine wpAnyH_ready (rs := [18]) (by kernel_rfl) (by simp) ?_
                        refine AllReadyH.cons rfl (fun K hK => ?_) AllReadyH.nil
                        refine step_growW (by rfl) _ _ _ (by rfl) i0 _ 48 Try.underlying22 hi0 hz0 hz1 hz2 rfl (by omega) encE_len encE_one (by rfl) hGE (by rfl) (SRCE.out _ hMc) (by simp only [List.length_append, List.length_nil, List.length_cons, maxLen]; omega) (by simp only [List.length_append, List.length_nil, List.length_cons, maxLen]; omega) ?_
                        intro v1 w1 hG1 hF1 hS1 hO1
                        refine hK.out _ _ ?_ (fun hHeld => ?_)
                        · exact KS.out _ (HWC.out.trans hG1.made)
                        clear hK K
                        try simp only [Act.put, List.setIfInBounds_toArray, List.set_cons_zero, List.set_cons_succ]
                        replace hMc := hG1.made
                        replace hBX : Blk w1 bX _ _ := (hF1 bX hBX.lt (fun e => hne (by simpa [Value.ownBlock] using e))).trans hBX
                        clear hF1 hS1 hO1 hGE
                        refine wpAnyH_ready (rs := [23]) (by kernel_rfl) (by simp) ?_
                        refine AllReadyH.cons rfl (fun K hK => ?_) AllReadyH.nil
                        refine step_growW (by rfl) _ _ _ (by rfl) i0 _ 48 Try.underlying22 hi0 hz0 hz1 hz2 rfl (by omega) encE_len encE_one (by rfl) hG1 (by rfl) (SrcAt.block (N := [(lateE m : Ev)]) hBX rfl (by simp [flat, encE, lateE])) (by simp only [List.length_append, List.length_nil, List.length_cons, maxLen]; omega) (by simp only [List.length_append, List.length_nil, List.length_cons, maxLen]; omega) ?_
                        intro v2 w2 hG2 hF2 hS2 hO2
                        refine hK.out _ _ ?_ (fun hHeld => ?_)
                        · exact KS.out _ (HWC.out.trans hG2.made)
                        clear hK K
                        try simp only [Act.put, List.setIfInBounds_toArray, List.set_cons_zero, List.set_cons_succ]
                        replace hMc := hG2.made
                        clear hF2 hS2 hO2 hG1
                        refine wpAnyH_ready (rs := [24]) (by kernel_rfl) (by simp) ?_
                        refine AllReadyH.cons rfl (fun K hK => ?_) AllReadyH.nil
                        obtain ⟨M, hM⟩ : ∃ M, [] ++ E1 ++ [lateE m] = M := ⟨_, rfl⟩
                        rw [hM] at hG2
                        obtain ⟨a2, c2, rfl, hr2⟩ := rowIn_owns encE_len hG2.own
                        have HSN := Lib.hid (sound_c a2 M.length c2 M _ hr2 (by rw [← hM]; simp; omega))
                        rw [show soundM M = false from by rw [← hM]; exact HF1.out] at HSN
                        clear hr2 hM
                        go_simp
                        refine HSN.out.mono ?_
                        rintro e w' ⟨rfl, hm'⟩
                        go_wp2_with fail
                        refine hK.out _ _ ?_ (fun hHeld => ?_)
                        · exact KS.out _ (HWC.out.trans (hMc.trans hm'))
                        clear hK K
                        try simp only [Act.put, List.setIfInBounds_toArray, List.set_cons_zero, List.set_cons_succ]
                        replace hMc := hMc.trans hm'
                        clear hm' HSN hG2
                        refine takeH (i := 25) (d := some 155) (v := ?_) rfl rfl (by kernel_rfl) (by kernel_rfl) (by kernel_rfl) (fun _ _ _ h => h) (Or.inl ⟨by rfl, ?_⟩) (by assumption) ?_
                        rotate_left
                        · intro w hSw
                          try dsimp only at hSw
                          go_simp
                          try with_reducible rfl
                        try simp only [Act.put, List.setIfInBounds_toArray, List.set_cons_zero, List.set_cons_succ]
                        refine takeH (i := 26) (d := some 156) (v := ?_) rfl rfl (by kernel_rfl) (by kernel_rfl) (by kernel_rfl) (fun _ _ _ h => h) (Or.inl ⟨by rfl, ?_⟩) (by assumption) ?_
                        rotate_left
                        · intro w hSw
                          try dsimp only at hSw
                          go_simp
                          try with_reducible rfl
                        try simp only [Act.put, List.setIfInBounds_toArray, List.set_cons_zero, List.set_cons_succ]
                        refine takeH (i := 27) (d := some 157) (v := ?_) rfl rfl (by kernel_rfl) (by kernel_rfl) (by kernel_rfl) (fun _ _ _ h => h) (Or.inl ⟨by rfl, ?_⟩) (by assumption) ?_
                        rotate_left
                        · intro w hSw
                          try dsimp only at hSw
                          go_simp
                          try with_reducible rfl
                        try simp only [Act.put, List.setIfInBounds_toArray, List.set_cons_zero, List.set_cons_succ]
                        refine takeH (i := 28) (d := some 158) (v := ?_) rfl rfl (by kernel_rfl) (by kernel_rfl) (by kernel_rfl) (fun _ _ _ h => h) (Or.inl ⟨by rfl, ?_⟩) (by assumption) ?_
                        rotate_left
                        · intro w hSw
                          try dsimp only at hSw
                          go_simp
                          try with_reducible rfl
                        try simp only [Act.put, List.setIfInBounds_toArray, List.set_cons_zero, List.set_cons_succ]
                        refine takeH (i := 29) (d := some 159) (v := ?_) rfl rfl (by kernel_rfl) (by kernel_rfl) (by kernel_rfl) (fun _ _ _ h => h) (Or.inl ⟨by rfl, ?_⟩) (by assumption) ?_
                        rotate_left
                        · intro w hSw
                          try dsimp only at hSw
                          go_simp
                          try with_reducible rfl
                        try simp only [Act.put, List.setIfInBounds_toArray, List.set_cons_zero, List.set_cons_succ]
                        refine takeH (i := 30) (d := some 160) (v := ?_) rfl rfl (by kernel_rfl) (by kernel_rfl) (by kernel_rfl) (fun _ _ _ h => h) (Or.inl ⟨by rfl, ?_⟩) (by assumption) ?_
                        rotate_left
                        · intro w hSw
                          try dsimp only at hSw
                          go_simp
                          try with_reducible rfl
                        try simp only [Act.put, List.setIfInBounds_toArray, List.set_cons_zero, List.set_cons_succ]
                        refine takeH (i := 31) (d := some 161) (v := ?_) rfl rfl (by kernel_rfl) (by kernel_rfl) (by kernel_rfl) (fun _ _ _ h => h) (Or.inl ⟨by rfl, ?_⟩) (by assumption) ?_
                        rotate_left
                        · intro w hSw
                          try dsimp only at hSw
                          have x0 := Owns.cell encE_len hSw.2 HG00.out (j := 0) rfl
                          have x1 := Owns.cell encE_len hSw.2 HG00.out (j := 1) rfl
                          have x2 := Owns.cell encE_len hSw.2 HG00.out (j := 2) rfl
                          have x3 := Owns.cell encE_len hSw.2 HG00.out (j := 3) rfl
                          have x4 := Owns.cell encE_len hSw.2 HG00.out (j := 4) rfl
                          have x5 := Owns.cell encE_len hSw.2 HG00.out (j := 5) rfl
                          simp only [Nat.add_zero, Nat.zero_mul, Nat.zero_add] at x0 x1 x2 x3 x4 x5
                          go_simp
                          try with_reducible rfl
                        try simp only [Act.put, List.setIfInBounds_toArray, List.set_cons_zero, List.set_cons_succ]
                        refine wpAnyH_ready (rs := [32]) (by kernel_rfl) (by simp) ?_
                        refine AllReadyH.cons rfl (fun K hK => ?_) AllReadyH.nil
                        refine step_singleW (by rfl) _ (.tmp 161) (by rfl) i0 _ Try.underlying22 hi0 hz0 (by rw [hz1]; decide) (by rw [hz1]; decide) #[.int .i64 (good0 m).step, .int .i64 (good0 m).kind, .int .i64 (good0 m).task, .int .i64 (good0 m).a, .int .i64 (good0 m).b, .int .i64 (good0 m).c] (by rfl) (fillE hz1 _ _ _ _ _ _) ?_
                        intro bX wX hTX hBX hLX
                        refine hK.out _ _ ?_ (fun hHeld => ?_)
                        · exact KS.out _ (HWC.out.trans (hMc.trans hTX))
                        clear hK K
                        try simp only [Act.put, List.setIfInBounds_toArray, List.set_cons_zero, List.set_cons_succ]
                        replace hMc := hMc.trans hTX
                        have hEnd := HEND.out.turns hMc (fun _ _ h => h) (fun _ _ h => h)
                        refine wpAnyH_ready (rs := [33]) (by kernel_rfl) (by simp) ?_
                        refine AllReadyH.cons rfl (fun K hK => ?_) AllReadyH.nil
                        refine step_growW (by rfl) _ _ _ (by rfl) i0 _ 48 Try.underlying22 hi0 hz0 hz1 hz2 rfl (by omega) encE_len encE_one (by rfl) hEnd (by rfl) (SrcAt.block (N := [(good0 m : Ev)]) hBX rfl (by simp [flat, encE])) (by rw [HEL.out]; simp [maxLen]; omega) (by rw [HEL.out]; simp; omega) ?_
                        intro v2 w2 hG2 hF2 hS2 hO2
                        refine hK.out _ _ ?_ (fun hHeld => ?_)
                        · exact KS.out _ hG2.made
                        clear hK K
                        try simp only [Act.put, List.setIfInBounds_toArray, List.set_cons_zero, List.set_cons_succ]
                        have hMw := hG2.made
                        clear hMc hEnd hF2 hS2 hO2
                        refine wpAnyH_ready (rs := [34]) (by kernel_rfl) (by simp) ?_
                        refine AllReadyH.cons rfl (fun K hK => ?_) AllReadyH.nil
                        obtain ⟨M, hM⟩ : ∃ M, E1 ++ [good0 m] = M := ⟨_, rfl⟩
                        rw [hM] at hG2
                        obtain ⟨a2, c2, rfl, hr2⟩ := rowIn_owns encE_len hG2.own
                        have HSN := Lib.hid (sound_c a2 M.length c2 M _ hr2 (by rw [← hM]; simp; omega))
                        rw [show soundM M = false from by rw [← hM]; exact HF2.out] at HSN
                        clear hr2 hM
                        go_simp
                        refine HSN.out.mono ?_
                        rintro e w' ⟨rfl, hm'⟩
                        go_wp2_with fail
                        refine hK.out _ _ ?_ (fun hHeld => ?_)
                        · exact KS.out _ (hMw.trans hm')
                        clear hK K
                        try simp only [Act.put, List.setIfInBounds_toArray, List.set_cons_zero, List.set_cons_succ]
                        replace hMw := hMw.trans hm'
                        clear hm' HSN hG2
                        refine takeH (i := 35) (d := some 165) (v := ?_) rfl rfl (by kernel_rfl) (by kernel_rfl) (by kernel_rfl) (fun _ _ _ h => h) (Or.inl ⟨by rfl, ?_⟩) (by assumption) ?_
                        rotate_left
                        · intro w hSw
                          try dsimp only at hSw
                          go_simp
                          try with_reducible rfl
                        try simp only [Act.put, List.setIfInBounds_toArray, List.set_cons_zero, List.set_cons_succ]
                        refine takeH (i := 36) (d := some 166) (v := ?_) rfl rfl (by kernel_rfl) (by kernel_rfl) (by kernel_rfl) (fun _ _ _ h => h) (Or.inl ⟨by rfl, ?_⟩) (by assumption) ?_
                        rotate_left
                        · intro w hSw
                          try dsimp only at hSw
                          go_simp
                          try with_reducible rfl
                        try simp only [Act.put, List.setIfInBounds_toArray, List.set_cons_zero, List.set_cons_succ]
                        refine takeH (i := 37) (d := some 167) (v := ?_) rfl rfl (by kernel_rfl) (by kernel_rfl) (by kernel_rfl) (fun _ _ _ h => h) (Or.inl ⟨by rfl, ?_⟩) (by assumption) ?_
                        rotate_left
                        · intro w hSw
                          try dsimp only at hSw
                          go_simp
                          try with_reducible rfl
                        try simp only [Act.put, List.setIfInBounds_toArray, List.set_cons_zero, List.set_cons_succ]
                        refine wpAnyH_ready (rs := [38]) (by kernel_rfl) (by simp) ?_
                        refine AllReadyH.cons rfl (fun K hK => ?_) AllReadyH.nil
                        go_simp
                        refine (awake_c _).mono ?_
                        rintro e w' ⟨rfl, hm'⟩
                        go_wp2_with fail
                        refine hK.out _ _ ?_ (fun hHeld => ?_)
                        · exact KS.out _ (hMw.trans hm')
                        clear hK K
                        try simp only [Act.put, List.setIfInBounds_toArray, List.set_cons_zero, List.set_cons_succ]
                        replace hMw := hMw.trans hm'
                        clear hm'
                        refine takeH (i := 39) (d := some 169) (v := ?_) rfl rfl (by kernel_rfl) (by kernel_rfl) (by kernel_rfl) (fun _ _ _ h => h) (Or.inl ⟨by rfl, ?_⟩) (by assumption) ?_
                        rotate_left
                        · intro w hSw
                          try dsimp only at hSw
                          go_simp
                          try with_reducible rfl
                        try simp only [Act.put, List.setIfInBounds_toArray, List.set_cons_zero, List.set_cons_succ]
                        refine takeH (i := 40) (d := some 4) (v := ?_) rfl rfl (by kernel_rfl) (by kernel_rfl) (by kernel_rfl) (fun _ _ _ h => h) (Or.inl ⟨by rfl, ?_⟩) (by assumption) ?_
                        rotate_left
                        · intro w hSw
                          try dsimp only at hSw
                          go_simp
                          try with_reducible rfl
                        try simp only [Act.put, List.setIfInBounds_toArray, List.set_cons_zero, List.set_cons_succ]
                        refine wpAnyH_done (by kernel_rfl) ?_ _
                        have HMW2 := Lib.hid hMw
                        clear hHeld hMw
                        try clear hHeld
                        try clear hHeld
                        try clear hHeld
                        try clear hHeld
                        try clear hHeld
                        try clear hHeld
                        try clear hHeld
                        try clear hHeld
                        try clear hHeld
                        try clear hHeld
                        try clear hHeld
                        try clear hHeld
                        try clear hHeld
                        try clear hHeld
                        try clear hHeld
                        try clear hHeld
                        go_wp2_with fail
                        go_ret
                        exact ⟨rfl, HMA.out.trans HMW2.out⟩
                    exact AllReadyH.nil
                exact AllReadyH.nil
end Go.Proofs.Ytjcmmgjaopejgaa
