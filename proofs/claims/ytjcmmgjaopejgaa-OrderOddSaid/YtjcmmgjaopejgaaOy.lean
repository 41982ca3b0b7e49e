/-
  Package order: may, Sound.
-/
import Derived.Test.YtjcmmgjaopejgaaOx
import Derived.Deep.DeepCutAuto
import Derived.Deep.CutBlock
namespace Go.Proofs.Ytjcmmgjaopejgaa
open Go.RowKit Go.Sort
set_option linter.unusedVariables false
set_option linter.unusedSimpArgs false

theorem wrap_in (n : Int) (h : -9223372036854775808 ≤ n ∧ n ≤ 9223372036854775807) : IntKind.i64.wrap n = n := by rw [IntKind.wrap_i64]; omega
theorem goes_st (x : St) (e : Ev) : (goesM x e).state = goSt x.state e.kind := by
  unfold goesM goSt
  by_cases h4 : e.kind = 4
  · rw [if_pos h4, if_pos h4]
  by_cases h2 : e.kind = 2
  · rw [if_neg h4, if_neg h4, if_pos h2, if_pos h2]
  rw [if_neg h4, if_neg h4, if_neg h2, if_neg h2]
  split <;> rfl
theorem may_c (e : Ev) (s : Int) (has : Bool) (w : World) : Calls Try.prog 23 #[aggE e, .int .i64 s, .bool has] w fun r w' => r = .returned (.bool (mayM e.kind s has)) ∧ Made w w' := by
  obtain ⟨r, hr⟩ : ∃ r, mayM e.kind s has = r := ⟨_, rfl⟩
  rw [hr]
  have HR := Lib.hid hr
  clear hr
  unfold aggE
  by_cases h4 : e.kind = 4
  · have b4 : (e.kind == 4) = true := by simp [h4]
    have HK := Lib.hid (show (has && decide (s ≠ 2)) = r by rw [← HR.out]; unfold mayM; rw [if_pos h4])
    clear h4 HR
    cases has
    · go_enter Try.func23, Try.ntmps23
      go_wp2_with fail
      go_ret
      exact ⟨by rw [← HK.out]; rfl, (Turns.refl _ _).alloc _⟩
    · go_enter Try.func23, Try.ntmps23
      go_wp2_with fail
      go_ret
      exact ⟨by rw [← HK.out]; by_cases h : s = 2 <;> simp [h], (Turns.refl _ _).alloc _⟩
  have b4 : (e.kind == 4) = false := by simp [h4]
  by_cases h3 : e.kind = 3
  · have b3 : (e.kind == 3) = true := by simp [h3]
    have HK := Lib.hid (show (has && decide (s = 1)) = r by rw [← HR.out]; unfold mayM; rw [if_neg h4, if_pos h3])
    clear h4 h3 HR
    cases has
    · go_enter Try.func23, Try.ntmps23
      go_wp2_with fail
      go_ret
      exact ⟨by rw [← HK.out]; rfl, (Turns.refl _ _).alloc _⟩
    · go_enter Try.func23, Try.ntmps23
      go_wp2_with fail
      go_ret
      exact ⟨by rw [← HK.out]; by_cases h : s = 1 <;> simp [h], (Turns.refl _ _).alloc _⟩
  have b3 : (e.kind == 3) = false := by simp [h3]
  by_cases h1 : e.kind = 1
  · have b1 : (e.kind == 1) = true := by simp [h1]
    have HK := Lib.hid (show (has && decide (s = 0)) = r by rw [← HR.out]; unfold mayM; rw [if_neg h4, if_neg h3, if_pos (.inl h1)])
    clear h4 h3 h1 HR
    cases has
    · go_enter Try.func23, Try.ntmps23
      go_wp2_with fail
      go_ret
      exact ⟨by rw [← HK.out]; rfl, (Turns.refl _ _).alloc _⟩
    · go_enter Try.func23, Try.ntmps23
      go_wp2_with fail
      go_ret
      exact ⟨by rw [← HK.out]; by_cases h : s = 0 <;> simp [h], (Turns.refl _ _).alloc _⟩
  have b1 : (e.kind == 1) = false := by simp [h1]
  by_cases h2 : e.kind = 2
  · have b2 : (e.kind == 2) = true := by simp [h2]
    have HK := Lib.hid (show (has && decide (s = 0)) = r by rw [← HR.out]; unfold mayM; rw [if_neg h4, if_neg h3, if_pos (.inr h2)])
    clear h4 h3 h1 h2 HR
    cases has
    · go_enter Try.func23, Try.ntmps23
      go_wp2_with fail
      go_ret
      exact ⟨by rw [← HK.out]; rfl, (Turns.refl _ _).alloc _⟩
    · go_enter Try.func23, Try.ntmps23
      go_wp2_with fail
      go_ret
      exact ⟨by rw [← HK.out]; by_cases h : s = 0 <;> simp [h], (Turns.refl _ _).alloc _⟩
  have b2 : (e.kind == 2) = false := by simp [h2]
  have HK := Lib.hid (show (decide (1 ≤ e.kind) && decide (e.kind ≤ 8)) = r by rw [← HR.out]; unfold mayM; rw [if_neg h4, if_neg h3, if_neg (by simp [h1, h2])])
  clear h4 h3 h1 h2 HR
  by_cases hk : 1 ≤ e.kind
  · go_enter Try.func23, Try.ntmps23
    go_wp2_with fail
    go_ret
    exact ⟨by rw [← HK.out]; simp [hk], (Turns.refl _ _).alloc _⟩
  · go_enter Try.func23, Try.ntmps23
    go_wp2_with fail
    go_ret
    exact ⟨by rw [← HK.out]; simp; omega, (Turns.refl _ _).alloc _⟩

set_option maxHeartbeats 4000000 in
set_option maxRecDepth 100000 in
theorem sound_c (a : Option Addr) (len cap : Nat) (l : List Ev) (w : World) (hw : RowIn encE 6 w a len l) (hn : len ≤ 100000) :
    Calls Try.prog 10 #[.slice a len cap] w fun e w' => e = .returned (.bool (soundM l)) ∧ Made w w' := by
  obtain ⟨i0, hi0, hz0, hz1, hz2⟩ := info_parts Try.infoS
  obtain ⟨r, hr⟩ : ∃ r, soundM l = r := ⟨_, rfl⟩
  rw [hr]
  have HR := Lib.hid hr
  have HW := Lib.hid hw
  clear hw hr
  go_enter Try.func10, Try.ntmps10
  go_wp2_with fail
  have HG0 := Lib.hid (show Grow encS 41 4 w (w.alloc (.cells #[.int .i64 0, .int .i64 0, .int .i64 0, .int .i64 0] 41)) (.slice (some ⟨w.heap.size, 0, none⟩) 1 1) [⟨0, 0, 0, 0⟩] from
    ⟨Turns.alloc (Turns.refl (fun _ => False) w) _, ⟨rfl, .inr ⟨w.heap.size, 1, _, rfl, Nat.zero_le _, heap_alloc_new w _, Nat.le_refl _, by unfold maxLen; omega, rfl, rfl⟩⟩, fun c hc => by
      simp only [Value.ownBlock, Option.some.injEq] at hc
      omega⟩)
  generalize w.alloc (.cells #[.int .i64 0, .int .i64 0, .int .i64 0, .int .i64 0] 41) = W0 at *
  generalize hB0 : (Value.slice (some ⟨w.heap.size, 0, none⟩) 1 1) = V0 at *
  go_loopw [3, 12] (fun v3 v12 wr => ∃ (j : Nat) (ys : List St), j ≤ len ∧ v12 = .int .i64 j ∧ Grow encS 41 4 w wr v3 ys ∧ sndGo (prevE l j) (ys.map St.state) (l.drop j) = r ∧ ys.length ≤ j + 1 ∧ 1 ≤ ys.length) (fun _ v12 _ => len - (intOf v12).toNat)
  case atStart => exact ⟨0, _, Nat.zero_le _, rfl, HG0.out, HR.out, Nat.le_refl _, Nat.le_refl _⟩
  case round =>
    obtain ⟨j, ys, hj, rfl, hg, hs, hyl, hy1⟩ := hrel
    clear HG0 hB0
    have hyb : ys.length ≤ 1000000 := by omega
    rcases hg.own.form with ⟨h0, h1⟩ | ⟨g, cp, rfl, hgl, hlc, hcm⟩
    · rw [h1] at hy1
      simp at hy1
    have HG := Lib.hid hg
    have HS := Lib.hid hs
    clear hg hs hgl
    have j1 : (0 : Int) ≤ (j : Int) := Int.natCast_nonneg _
    by_cases hjl : j < len
    · have j2 : (j : Int) < (len : Int) := by omega
      obtain ⟨hlen, h0 | ⟨bb, off, rfl, hb, hlies⟩⟩ := HW.out
      · omega
      obtain ⟨e, he⟩ := get_of_lt (xs := l) (k := j) (by omega)
      have HL := Lib.hid (fun (w' : World) (hm : Made w w') => hlies.keep fun o => hm.cell (p := ⟨bb, o, none⟩) hb (fun h => h))
      obtain ⟨c0, c1, c2, c3, c4, c5⟩ := ev_cells (HL.out _ HG.out.made) he
      have HE := Lib.hid he
      clear he hlies hb hlen
      obtain ⟨fl, hfl⟩ : ∃ fl, falls (prevE l j) e = fl := ⟨_, rfl⟩
      have HFL := Lib.hid hfl
      clear hfl
      go_upto_region 5 with fail
      have HB := Lib.hid (Blk.new wr 26 #[.int .i64 e.step, .int .i64 e.kind, .int .i64 e.task, .int .i64 e.a, .int .i64 e.b, .int .i64 e.c])
      have HG1 := Lib.hid (HG.out.alloc (.cells #[.int .i64 e.step, .int .i64 e.kind, .int .i64 e.task, .int .i64 e.a, .int .i64 e.b, .int .i64 e.c] 26))
      have hgw : g < wr.heap.size := HG.out.own.lt rfl
      have hgB : g ≠ wr.heap.size := by omega
      clear HG c0 c1 c2 c3 c4 c5 hgw
      generalize wr.alloc (.cells #[.int .i64 e.step, .int .i64 e.kind, .int .i64 e.task, .int .i64 e.a, .int .i64 e.b, .int .i64 e.c] 26) = w1 at *
      generalize wr.heap.size = B at *
      go_cut [29] (fun v29 wx => w1.drew = wx ∧ v29 = .bool fl)
      case first =>
        by_cases hj0 : j = 0
        · have hjI : ¬ (0 : Int) < (j : Int) := by omega
          have hff : fl = false := by rw [← HFL.out, hj0]; rfl
          subst hff
          have hjN : ¬ 0 < j := by omega
          have hjD : decide (0 < j) = false := decide_eq_false hjN
          have hjE : decide ((0 : Int) < (j : Int)) = false := decide_eq_false hjI
          clear hj0
          refine wp_region_held_drew (S := fun w' => w1.drew = w') (by kernel_rfl) ?_ (fun hHeld => ?_)
          · exact rfl
          refine takeH (i := 0) (d := some 17) (v := ?_) rfl rfl (by kernel_rfl) (by kernel_rfl) (by kernel_rfl) (fun _ _ _ h => h) (Or.inl ⟨by rfl, ?_⟩) (by assumption) ?_
          rotate_left
          · intro w hSw
            try dsimp only at hSw
            go_simp
            try with_reducible rfl
          try simp only [Act.put, List.setIfInBounds_toArray, List.set_cons_zero, List.set_cons_succ]
          refine takeH (i := 1) (d := some 18) (v := ?_) rfl rfl (by kernel_rfl) (by kernel_rfl) (by kernel_rfl) (fun _ _ _ h => h) (Or.inl ⟨by rfl, ?_⟩) (by assumption) ?_
          rotate_left
          · intro w hSw
            try dsimp only at hSw
            go_simp
            try with_reducible rfl
          try simp only [Act.put, List.setIfInBounds_toArray, List.set_cons_zero, List.set_cons_succ]
          refine takeH (i := 2) (d := some 19) (v := ?_) rfl rfl (by kernel_rfl) (by kernel_rfl) (by kernel_rfl) (fun _ _ _ h => h) (Or.inl ⟨by rfl, ?_⟩) (by assumption) ?_
          rotate_left
          · intro w hSw
            try dsimp only at hSw
            go_simp
            try with_reducible rfl
          try simp only [Act.put, List.setIfInBounds_toArray, List.set_cons_zero, List.set_cons_succ]
          refine takeH (i := 3) (d := some 20) (v := undef) rfl rfl (by kernel_rfl) (by kernel_rfl) (by kernel_rfl) (fun _ _ _ h => h) (Or.inr ⟨by rfl, rfl⟩) (by assumption) ?_
          try simp only [Act.put, List.setIfInBounds_toArray, List.set_cons_zero, List.set_cons_succ]
          refine takeH (i := 4) (d := some 21) (v := undef) rfl rfl (by kernel_rfl) (by kernel_rfl) (by kernel_rfl) (fun _ _ _ h => h) (Or.inr ⟨by rfl, rfl⟩) (by assumption) ?_
          try simp only [Act.put, List.setIfInBounds_toArray, List.set_cons_zero, List.set_cons_succ]
          refine takeH (i := 5) (d := some 22) (v := undef) rfl rfl (by kernel_rfl) (by kernel_rfl) (by kernel_rfl) (fun _ _ _ h => h) (Or.inr ⟨by rfl, rfl⟩) (by assumption) ?_
          try simp only [Act.put, List.setIfInBounds_toArray, List.set_cons_zero, List.set_cons_succ]
          refine takeH (i := 6) (d := some 23) (v := undef) rfl rfl (by kernel_rfl) (by kernel_rfl) (by kernel_rfl) (fun _ _ _ h => h) (Or.inr ⟨by rfl, rfl⟩) (by assumption) ?_
          try simp only [Act.put, List.setIfInBounds_toArray, List.set_cons_zero, List.set_cons_succ]
          refine takeH (i := 7) (d := some 24) (v := undef) rfl rfl (by kernel_rfl) (by kernel_rfl) (by kernel_rfl) (fun _ _ _ h => h) (Or.inr ⟨by rfl, rfl⟩) (by assumption) ?_
          try simp only [Act.put, List.setIfInBounds_toArray, List.set_cons_zero, List.set_cons_succ]
          refine takeH (i := 8) (d := some 25) (v := undef) rfl rfl (by kernel_rfl) (by kernel_rfl) (by kernel_rfl) (fun _ _ _ h => h) (Or.inr ⟨by rfl, rfl⟩) (by assumption) ?_
          try simp only [Act.put, List.setIfInBounds_toArray, List.set_cons_zero, List.set_cons_succ]
          refine takeH (i := 9) (d := some 26) (v := undef) rfl rfl (by kernel_rfl) (by kernel_rfl) (by kernel_rfl) (fun _ _ _ h => h) (Or.inr ⟨by rfl, rfl⟩) (by assumption) ?_
          try simp only [Act.put, List.setIfInBounds_toArray, List.set_cons_zero, List.set_cons_succ]
          refine takeH (i := 10) (d := some 27) (v := undef) rfl rfl (by kernel_rfl) (by kernel_rfl) (by kernel_rfl) (fun _ _ _ h => h) (Or.inr ⟨by rfl, rfl⟩) (by assumption) ?_
          try simp only [Act.put, List.setIfInBounds_toArray, List.set_cons_zero, List.set_cons_succ]
          refine takeH (i := 11) (d := some 28) (v := undef) rfl rfl (by kernel_rfl) (by kernel_rfl) (by kernel_rfl) (fun _ _ _ h => h) (Or.inr ⟨by rfl, rfl⟩) (by assumption) ?_
          try simp only [Act.put, List.setIfInBounds_toArray, List.set_cons_zero, List.set_cons_succ]
          refine takeH (i := 12) (d := some 29) (v := ?_) rfl rfl (by kernel_rfl) (by kernel_rfl) (by kernel_rfl) (fun _ _ _ h => h) (Or.inl ⟨by rfl, ?_⟩) (by assumption) ?_
          rotate_left
          · intro w hSw
            try dsimp only at hSw
            go_simp
            try with_reducible rfl
          try simp only [Act.put, List.setIfInBounds_toArray, List.set_cons_zero, List.set_cons_succ]
          refine wpAnyH_done (by kernel_rfl) ?_ _
          go_wp2_with fail
          go_meet
          exact ⟨rfl, rfl⟩
        · obtain ⟨m, hm⟩ : ∃ m, j = m + 1 := ⟨j - 1, by omega⟩
          obtain ⟨e', he'⟩ := get_of_lt (xs := l) (k := m) (by have := HW.out.1; omega)
          have p0 := (ev_cells (HL.out w1.drew (HG1.out.made.drew)) he').1
          have hff : fl = decide (e.step < e'.step) := by
            rw [← HFL.out, hm]
            simp only [prevE, he', Option.map_some, falls]
          have HFF := Lib.hid hff
          have b0 := (HB.out.turns (Turns.drew (Turns.refl (fun _ => False) w1)) (fun h => h)).cell 0
          simp only [List.getElem?_toArray, List.getElem?_cons_zero] at b0
          have HJM := Lib.hid hm
          have hjI : (0 : Int) < (j : Int) := by omega
          have m1 : IntKind.i64.wrap ((j : Int) - 1) = (m : Int) := by rw [show (j : Int) - 1 = (m : Int) from by omega]; exact wrap_in _ (by omega)
          have m3 : (0 : Int) ≤ (m : Int) := Int.natCast_nonneg _
          have m4 : (m : Int) < (len : Int) := by omega
          have hjN : 0 < j := by omega
          have hjD : decide (0 < j) = true := decide_eq_true hjN
          have hjE : decide ((0 : Int) < (j : Int)) = true := decide_eq_true hjI
          clear hm he' hff hj0
          refine wp_region_held_drew (S := fun w' => w1.drew = w') (by kernel_rfl) ?_ (fun hHeld => ?_)
          · exact rfl
          refine takeH (i := 0) (d := some 17) (v := ?_) rfl rfl (by kernel_rfl) (by kernel_rfl) (by kernel_rfl) (fun _ _ _ h => h) (Or.inl ⟨by rfl, ?_⟩) (by assumption) ?_
          rotate_left
          · intro w hSw
            try dsimp only at hSw
            go_simp
            try with_reducible rfl
          try simp only [Act.put, List.setIfInBounds_toArray, List.set_cons_zero, List.set_cons_succ]
          refine takeH (i := 1) (d := some 18) (v := ?_) rfl rfl (by kernel_rfl) (by kernel_rfl) (by kernel_rfl) (fun _ _ _ h => h) (Or.inl ⟨by rfl, ?_⟩) (by assumption) ?_
          rotate_left
          · intro w hSw
            try dsimp only at hSw
            go_simp
            try with_reducible rfl
          try simp only [Act.put, List.setIfInBounds_toArray, List.set_cons_zero, List.set_cons_succ]
          refine takeH (i := 2) (d := some 19) (v := ?_) rfl rfl (by kernel_rfl) (by kernel_rfl) (by kernel_rfl) (fun _ _ _ h => h) (Or.inl ⟨by rfl, ?_⟩) (by assumption) ?_
          rotate_left
          · intro w hSw
            try dsimp only at hSw
            go_simp
            try with_reducible rfl
          try simp only [Act.put, List.setIfInBounds_toArray, List.set_cons_zero, List.set_cons_succ]
          refine takeH (i := 3) (d := some 20) (v := ?_) rfl rfl (by kernel_rfl) (by kernel_rfl) (by kernel_rfl) (fun _ _ _ h => h) (Or.inl ⟨by rfl, ?_⟩) (by assumption) ?_
          rotate_left
          · intro w hSw
            try dsimp only at hSw
            go_simp
            try with_reducible rfl
          try simp only [Act.put, List.setIfInBounds_toArray, List.set_cons_zero, List.set_cons_succ]
          refine takeH (i := 4) (d := some 21) (v := ?_) rfl rfl (by kernel_rfl) (by kernel_rfl) (by kernel_rfl) (fun _ _ _ h => h) (Or.inl ⟨by rfl, ?_⟩) (by assumption) ?_
          rotate_left
          · intro w hSw
            try dsimp only at hSw
            subst hSw
            go_simp
            try with_reducible rfl
          try simp only [Act.put, List.setIfInBounds_toArray, List.set_cons_zero, List.set_cons_succ]
          refine takeH (i := 5) (d := some 22) (v := ?_) rfl rfl (by kernel_rfl) (by kernel_rfl) (by kernel_rfl) (fun _ _ _ h => h) (Or.inl ⟨by rfl, ?_⟩) (by assumption) ?_
          rotate_left
          · intro w hSw
            try dsimp only at hSw
            go_simp
            try with_reducible rfl
          try simp only [Act.put, List.setIfInBounds_toArray, List.set_cons_zero, List.set_cons_succ]
          refine takeH (i := 6) (d := some 23) (v := ?_) rfl rfl (by kernel_rfl) (by kernel_rfl) (by kernel_rfl) (fun _ _ _ h => h) (Or.inl ⟨by rfl, ?_⟩) (by assumption) ?_
          rotate_left
          · intro w hSw
            try dsimp only at hSw
            go_simp
            try with_reducible rfl
          try simp only [Act.put, List.setIfInBounds_toArray, List.set_cons_zero, List.set_cons_succ]
          refine takeH (i := 7) (d := some 24) (v := ?_) rfl rfl (by kernel_rfl) (by kernel_rfl) (by kernel_rfl) (fun _ _ _ h => h) (Or.inl ⟨by rfl, ?_⟩) (by assumption) ?_
          rotate_left
          · intro w hSw
            try dsimp only at hSw
            go_simp
            try with_reducible rfl
          try simp only [Act.put, List.setIfInBounds_toArray, List.set_cons_zero, List.set_cons_succ]
          refine takeH (i := 8) (d := some 25) (v := ?_) rfl rfl (by kernel_rfl) (by kernel_rfl) (by kernel_rfl) (fun _ _ _ h => h) (Or.inl ⟨by rfl, ?_⟩) (by assumption) ?_
          rotate_left
          · intro w hSw
            try dsimp only at hSw
            go_simp
            try with_reducible rfl
          try simp only [Act.put, List.setIfInBounds_toArray, List.set_cons_zero, List.set_cons_succ]
          refine takeH (i := 9) (d := some 26) (v := ?_) rfl rfl (by kernel_rfl) (by kernel_rfl) (by kernel_rfl) (fun _ _ _ h => h) (Or.inl ⟨by rfl, ?_⟩) (by assumption) ?_
          rotate_left
          · intro w hSw
            try dsimp only at hSw
            go_simp
            try with_reducible rfl
          try simp only [Act.put, List.setIfInBounds_toArray, List.set_cons_zero, List.set_cons_succ]
          refine takeH (i := 10) (d := some 27) (v := ?_) rfl rfl (by kernel_rfl) (by kernel_rfl) (by kernel_rfl) (fun _ _ _ h => h) (Or.inl ⟨by rfl, ?_⟩) (by assumption) ?_
          rotate_left
          · intro w hSw
            try dsimp only at hSw
            subst hSw
            go_simp
            try with_reducible rfl
          try simp only [Act.put, List.setIfInBounds_toArray, List.set_cons_zero, List.set_cons_succ]
          refine takeH (i := 11) (d := some 28) (v := ?_) rfl rfl (by kernel_rfl) (by kernel_rfl) (by kernel_rfl) (fun _ _ _ h => h) (Or.inl ⟨by rfl, ?_⟩) (by assumption) ?_
          rotate_left
          · intro w hSw
            try dsimp only at hSw
            go_simp
            try with_reducible rfl
          try simp only [Act.put, List.setIfInBounds_toArray, List.set_cons_zero, List.set_cons_succ]
          refine takeH (i := 12) (d := some 29) (v := ?_) rfl rfl (by kernel_rfl) (by kernel_rfl) (by kernel_rfl) (fun _ _ _ h => h) (Or.inl ⟨by rfl, ?_⟩) (by assumption) ?_
          rotate_left
          · intro w hSw
            try dsimp only at hSw
            go_simp
            try with_reducible rfl
          try simp only [Act.put, List.setIfInBounds_toArray, List.set_cons_zero, List.set_cons_succ]
          refine wpAnyH_done (by kernel_rfl) ?_ _
          go_wp2_with fail
          go_meet
          exact ⟨rfl, by rw [HFF.out]⟩
      case rest =>
        obtain ⟨hw1, rfl⟩ := hcut
        subst hw1
        have HB1 := Lib.hid (HB.out.turns (Turns.drew (Turns.refl (fun _ => False) w1)) (fun h => h))
        have HG2 := Lib.hid HG1.out.drew
        clear HB HG1
        generalize w1.drew = w2 at *
        cases fl with
        | true =>
          have hrf : r = false := by rw [← HS.out]; exact snd_falls HE.out HFL.out
          subst hrf
          go_wp2_with fail
          go_ret
          exact ⟨rfl, HG2.out.made⟩
        | false =>
          have q0 := HB1.out.cell 0
          have q1 := HB1.out.cell 1
          have q2 := HB1.out.cell 2
          have q3 := HB1.out.cell 3
          have q4 := HB1.out.cell 4
          have q5 := HB1.out.cell 5
          simp only [List.getElem?_toArray, List.getElem?_cons_zero, List.getElem?_cons_succ] at q0 q1 q2 q3 q4 q5
          by_cases h5 : e.kind = 5
          · have hb5 : (e.kind == 5) = true := by simp [h5]
            by_cases ht : e.task = (ys.length : Int)
            · have hne : (e.task != (ys.length : Int)) = false := by simp [ht]
              have HST := Lib.hid (show sndStep (ys.map St.state) e = some ((ys ++ [(⟨e.task, 0, 0, 0⟩ : St)]).map St.state) by unfold sndStep; rw [if_pos h5, if_pos (by rw [ht]; simp)]; simp)
              clear h5 ht
              have HSR := Lib.hid (SrcAt.block (enc := encS) (N := [(⟨e.task, 0, 0, 0⟩ : St)]) (n := 1) (c := 1) (Blk.new w2 41 #[.int .i64 e.task, .int .i64 0, .int .i64 0, .int .i64 0]) rfl (by simp [flat, encS]))
              have HGA := Lib.hid (HG2.out.alloc (.cells #[.int .i64 e.task, .int .i64 0, .int .i64 0, .int .i64 0] 41))
              go_wp2_with (at_builtin; refine wpList_grow rfl (.tmp 38) (.tmp 42) 28 rfl i0 _ 32 Try.underlying28 hi0 hz0 hz1 hz2 rfl (by omega) encS_len encS_one rfl HGA.out rfl HSR.out (by simp [maxLen]; omega) (by simp; omega) ?_)
              intro v3 w3 hg3 hF hS hO
              have HG3 := Lib.hid hg3
              clear hg3 hF hS hO HSR HGA
              go_wp2_with fail
              go_roundw
              case rel => exact ⟨j + 1, ys ++ [⟨e.task, 0, 0, 0⟩], by omega, by go_num, HG3.out, by rw [← snd_yes HE.out HFL.out HST.out]; exact HS.out, by simp; omega, by simp⟩
              case measure => simp [intOf]; omega
            · have hne : (e.task != (ys.length : Int)) = true := by simp [ht]
              have hnt : ¬ e.task = ((ys.map St.state).length : Int) := by rw [List.length_map]; exact ht
              have hsn : sndStep (ys.map St.state) e = none := by unfold sndStep; rw [if_pos h5, if_neg hnt]
              have hrf : r = false := by rw [← HS.out]; exact snd_no HE.out HFL.out hsn
              subst hrf
              clear h5 ht hnt hsn
              go_wp2_with fail
              go_ret
              exact ⟨rfl, HG2.out.made⟩
          · have hb5 : (e.kind == 5) = false := by simp [h5]
            by_cases hin : 0 ≤ e.task ∧ e.task < (ys.length : Int)
            · obtain ⟨t0, t1⟩ := hin
              obtain ⟨x, hx⟩ := get_of_lt (xs := ys) (k := e.task.toNat) (by omega)
              have s0 := fun (o : Obj) => Owns.cell encS_len (HG2.out.alloc o).own hx (j := 0) rfl
              have s1 := fun (o : Obj) => Owns.cell encS_len (HG2.out.alloc o).own hx (j := 1) rfl
              have s2 := fun (o : Obj) => Owns.cell encS_len (HG2.out.alloc o).own hx (j := 2) rfl
              have s3 := fun (o : Obj) => Owns.cell encS_len (HG2.out.alloc o).own hx (j := 3) rfl
              simp only [Nat.add_zero] at s0
              have r0 := fun (o : Obj) => (HB1.out.alloc o).cell 0
              have r1 := fun (o : Obj) => (HB1.out.alloc o).cell 1
              have r2 := fun (o : Obj) => (HB1.out.alloc o).cell 2
              have r3 := fun (o : Obj) => (HB1.out.alloc o).cell 3
              have r4 := fun (o : Obj) => (HB1.out.alloc o).cell 4
              have r5 := fun (o : Obj) => (HB1.out.alloc o).cell 5
              simp only [List.getElem?_toArray, List.getElem?_cons_zero, List.getElem?_cons_succ] at r0 r1 r2 r3 r4 r5
              have HX := Lib.hid hx
              have HAT := Lib.hid (show atS (ys.map St.state) e.task = some x.state by unfold atS; rw [if_pos t0, List.getElem?_map, hx]; rfl)
              have H5 := Lib.hid h5
              obtain ⟨m, hm⟩ : ∃ m, mayM e.kind x.state true = m := ⟨_, rfl⟩
              have HMY := Lib.hid (fun w' => may_c e x.state true w')
              rw [hm] at HMY
              unfold aggE at HMY
              have HMM := Lib.hid hm
              clear hx h5 hm
              go_wp2_with fail
              have HB3 := Lib.hid (HB1.out.alloc (.cells #[.int .i64 x.task, .int .i64 x.state, .int .i64 x.how, .int .i64 x.prog] 41))
              have HG3 := Lib.hid (HG2.out.alloc (.cells #[.int .i64 x.task, .int .i64 x.state, .int .i64 x.how, .int .i64 x.prog] 41))
              clear q0 q1 q2 q3 q4 q5 r0 r1 r2 r3 r4 r5 s0 s1 s2 s3 HB1 HG2
              generalize w2.alloc (.cells #[.int .i64 x.task, .int .i64 x.state, .int .i64 x.how, .int .i64 x.prog] 41) = w3 at *
              refine (HMY.out _).mono ?_
              rintro e1 w4 ⟨rfl, hm4⟩
              have HB4 := Lib.hid (HB3.out.turns hm4 (fun h => h))
              have HG4 := Lib.hid (HG3.out.turns hm4 (fun _ _ h => h) (fun _ _ h => h))
              clear hm4 HB3 HG3 HMY
              cases m with
              | false =>
                have hrf : r = false := by
                  rw [← HS.out]
                  refine snd_no HE.out HFL.out ?_
                  unfold sndStep
                  rw [if_neg H5.out, HAT.out]
                  simp only [HMM.out, Bool.false_eq_true, if_false]
                subst hrf
                go_wp2_with fail
                go_ret
                exact ⟨rfl, HG4.out.made⟩
              | true =>
                have HST := Lib.hid (show sndStep (ys.map St.state) e = some ((ys.set e.task.toNat (goesM x e)).map St.state) by
                  unfold sndStep
                  rw [if_neg H5.out, HAT.out]
                  simp only [HMM.out, if_true]
                  rw [List.map_set, goes_st])
                have HGC := Lib.hid (fun (w' : World) (h : Owns encS 41 4 w' (.slice (some ⟨g, 0, none⟩) ys.length cp) ys) => goes_c g cp ys e.task.toNat x e w' h HX.out)
                unfold aggE at HGC
                go_wp2_with fail
                refine wp_region_held_drew (S := fun w' => Blk w' B 26 #[.int .i64 e.step, .int .i64 e.kind, .int .i64 e.task, .int .i64 e.a, .int .i64 e.b, .int .i64 e.c]) (by kernel_rfl) ?_ (fun hHeld => ?_)
                · exact HB4.out.turns (Turns.drew (Turns.refl (fun _ => False) w4)) (fun h => h)
                refine takeH (i := 0) (d := some 67) (v := ?_) rfl rfl (by kernel_rfl) (by kernel_rfl) (by kernel_rfl) (fun _ _ _ h => h) (Or.inl ⟨by rfl, ?_⟩) (by assumption) ?_
                rotate_left
                · intro w hSw
                  try dsimp only at hSw
                  go_simp
                  try with_reducible rfl
                try simp only [Act.put, List.setIfInBounds_toArray, List.set_cons_zero, List.set_cons_succ]
                refine takeH (i := 1) (d := some 68) (v := ?_) rfl rfl (by kernel_rfl) (by kernel_rfl) (by kernel_rfl) (fun _ _ _ h => h) (Or.inl ⟨by rfl, ?_⟩) (by assumption) ?_
                rotate_left
                · intro w hSw
                  try dsimp only at hSw
                  go_simp
                  try with_reducible rfl
                try simp only [Act.put, List.setIfInBounds_toArray, List.set_cons_zero, List.set_cons_succ]
                refine takeH (i := 2) (d := some 69) (v := ?_) rfl rfl (by kernel_rfl) (by kernel_rfl) (by kernel_rfl) (fun _ _ _ h => h) (Or.inl ⟨by rfl, ?_⟩) (by assumption) ?_
                rotate_left
                · intro w hSw
                  try dsimp only at hSw
                  have q0 := hSw.cell 0
                  have q1 := hSw.cell 1
                  have q2 := hSw.cell 2
                  have q3 := hSw.cell 3
                  have q4 := hSw.cell 4
                  have q5 := hSw.cell 5
                  simp only [List.getElem?_toArray, List.getElem?_cons_zero, List.getElem?_cons_succ] at q0 q1 q2 q3 q4 q5
                  go_simp
                  try with_reducible rfl
                try simp only [Act.put, List.setIfInBounds_toArray, List.set_cons_zero, List.set_cons_succ]
                refine takeH (i := 3) (d := some 70) (v := ?_) rfl rfl (by kernel_rfl) (by kernel_rfl) (by kernel_rfl) (fun _ _ _ h => h) (Or.inl ⟨by rfl, ?_⟩) (by assumption) ?_
                rotate_left
                · intro w hSw
                  try dsimp only at hSw
                  go_simp
                  try with_reducible rfl
                try simp only [Act.put, List.setIfInBounds_toArray, List.set_cons_zero, List.set_cons_succ]
                refine takeH (i := 4) (d := some 71) (v := ?_) rfl rfl (by kernel_rfl) (by kernel_rfl) (by kernel_rfl) (fun _ _ _ h => h) (Or.inl ⟨by rfl, ?_⟩) (by assumption) ?_
                rotate_left
                · intro w hSw
                  try dsimp only at hSw
                  have q0 := hSw.cell 0
                  have q1 := hSw.cell 1
                  have q2 := hSw.cell 2
                  have q3 := hSw.cell 3
                  have q4 := hSw.cell 4
                  have q5 := hSw.cell 5
                  simp only [List.getElem?_toArray, List.getElem?_cons_zero, List.getElem?_cons_succ] at q0 q1 q2 q3 q4 q5
                  go_simp
                  try with_reducible rfl
                try simp only [Act.put, List.setIfInBounds_toArray, List.set_cons_zero, List.set_cons_succ]
                refine wpAnyH_ready (rs := [5]) (by kernel_rfl) (by simp) ?_
                refine AllReadyH.cons rfl (fun K hK => ?_) AllReadyH.nil
                go_simp
                refine (HGC.out _ HG4.out.drew.own).mono ?_
                rintro rr w5 ⟨⟨v, rfl⟩, ho3, ht3⟩
                have HG5 := Lib.hid (show Grow encS 41 4 w w5 (.slice (some ⟨g, 0, none⟩) ys.length cp) (ys.set e.task.toNat (goesM x e)) from ⟨HG4.out.drew.made.then ht3 (fun c hc h => by have := HG4.out.far g rfl; omega), by unfold Owns at ho3 ⊢; rw [List.length_set] at *; exact ho3, HG4.out.far⟩)
                go_wp2_with fail
                refine hK.out _ _ ?_ (fun hHeld => ?_)
                · exact hHeld.turns ht3 (fun e => hgB e.symm)
                clear hK K
                try simp only [Act.put, List.setIfInBounds_toArray, List.set_cons_zero, List.set_cons_succ]
                refine wpAnyH_done (by kernel_rfl) ?_ _
                clear ho3 ht3
                clear hHeld
                try clear hHeld
                go_wp2_with fail
                go_roundw
                case rel => exact ⟨j + 1, ys.set e.task.toNat (goesM x e), by omega, by go_num, HG5.out, by rw [← snd_yes HE.out HFL.out HST.out]; exact HS.out, by rw [List.length_set]; omega, by rw [List.length_set]; omega⟩
                case measure => simp [intOf]; omega
            · have HAT := Lib.hid (show atS (ys.map St.state) e.task = none by
                unfold atS
                split
                · rw [List.getElem?_eq_none]; rw [List.length_map]; omega
                · rfl)
              have H5 := Lib.hid h5
              have hfar : ¬ 0 ≤ e.task ∨ (0 ≤ e.task ∧ ¬ e.task < (ys.length : Int)) := by omega
              have r0 := fun (o : Obj) => (HB1.out.alloc o).cell 0
              have r1 := fun (o : Obj) => (HB1.out.alloc o).cell 1
              have r2 := fun (o : Obj) => (HB1.out.alloc o).cell 2
              have r3 := fun (o : Obj) => (HB1.out.alloc o).cell 3
              have r4 := fun (o : Obj) => (HB1.out.alloc o).cell 4
              have r5 := fun (o : Obj) => (HB1.out.alloc o).cell 5
              simp only [List.getElem?_toArray, List.getElem?_cons_zero, List.getElem?_cons_succ] at r0 r1 r2 r3 r4 r5
              obtain ⟨m, hm⟩ : ∃ m, mayM e.kind 0 false = m := ⟨_, rfl⟩
              have HMY := Lib.hid (fun w' => may_c e 0 false w')
              rw [hm] at HMY
              unfold aggE at HMY
              have HMM := Lib.hid hm
              clear hin hm h5
              rcases hfar with t0 | ⟨t0, t1⟩
              all_goals
                go_wp2_with fail
                have HG3 := Lib.hid (HG2.out.alloc (.cells #[.int .i64 0, .int .i64 0, .int .i64 0, .int .i64 0] 41))
                clear q0 q1 q2 q3 q4 q5 r0 r1 r2 r3 r4 r5 HB1 HG2
                generalize w2.alloc (.cells #[.int .i64 0, .int .i64 0, .int .i64 0, .int .i64 0] 41) = w3 at *
                refine (HMY.out _).mono ?_
                rintro e1 w4 ⟨rfl, hm4⟩
                have HG4 := Lib.hid (HG3.out.turns hm4 (fun _ _ h => h) (fun _ _ h => h))
                clear hm4 HG3 HMY
                cases m with
                | false =>
                  have hrf : r = false := by
                    rw [← HS.out]
                    refine snd_no HE.out HFL.out ?_
                    unfold sndStep
                    rw [if_neg H5.out, HAT.out]
                    simp only [HMM.out, Bool.false_eq_true, if_false]
                  subst hrf
                  go_wp2_with fail
                  go_ret
                  exact ⟨rfl, HG4.out.made⟩
                | true =>
                  have HST := Lib.hid (show sndStep (ys.map St.state) e = some (ys.map St.state) by
                    unfold sndStep
                    rw [if_neg H5.out, HAT.out]
                    simp only [HMM.out, if_true])
                  go_wp2_with fail
                  go_roundw
                  case rel => exact ⟨j + 1, ys, by omega, by go_num, HG4.out, by rw [← snd_yes HE.out HFL.out HST.out]; exact HS.out, by omega, hy1⟩
                  case measure => simp [intOf]; omega
    · have j2 : ¬ (j : Int) < (len : Int) := by omega
      have hrt : r = true := by rw [← HS.out]; exact snd_end (by have := HW.out.1; omega)
      subst hrt
      go_wp2_with fail
      go_ret
      exact ⟨rfl, HG.out.made⟩
end Go.Proofs.Ytjcmmgjaopejgaa
