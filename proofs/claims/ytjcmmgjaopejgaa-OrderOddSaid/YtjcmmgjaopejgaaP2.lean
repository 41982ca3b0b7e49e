/-
  tarpaulinref17.States.
-/
import Derived.Test.YtjcmmgjaopejgaaP1
namespace Go.Proofs.Ytjcmmgjaopejgaa
open Go.RowKit Go.Sort
set_option linter.unusedVariables false
set_option linter.unusedSimpArgs false

theorem fillS {i : TypeInfo} (h : i.size = 4) (a b c d : Value) : Instr.fill (fun k => some (k * i.size, i.size)) ((Array.range (1 * i.size)).map ((Value.agg #[.int .i64 0, .int .i64 0, .int .i64 0, .int .i64 0]).cells[· % (Value.agg #[.int .i64 0, .int .i64 0, .int .i64 0, .int .i64 0]).cells.size]!)) [(0, .agg #[a, b, c, d])] = some #[a, b, c, d] := by
  rw [h]
  first | kernel_rfl | simp [Instr.fill]
/-- Made since an earlier world. -/
theorem Grow.rebase {α : Type} {enc : α → List Value} {T : TypeId} {size : Nat} {W0 W w : World} {v : Value} {M : List α} (h : Grow enc T size W w v M) (hm : Made W0 W) : Grow enc T size W0 w v M :=
  ⟨hm.trans h.made, h.own, fun c hc => Nat.le_trans hm.size (h.far c hc)⟩

set_option maxHeartbeats 8000000 in
set_option maxRecDepth 100000 in
theorem rstates_c (a : Option Addr) (len cap : Nat) (l : List Ev) (w : World) (hw : RowIn encE 6 w a len l) (hn : len ≤ 100000) :
    Calls Try.prog 9 #[.slice a len cap] w fun e w' => ∃ v, e = .returned v ∧ Grow encS 40 4 w w' v (statesM l) := by
  obtain ⟨i0, hi0, hz0, hz1, hz2⟩ := info_parts Try.infoR
  have HW := Lib.hid hw
  clear hw
  go_enter Try.func9, Try.ntmps9
  go_wp2_with fail
  have HG0 := Lib.hid (show Grow encS 40 4 w (w.alloc (.cells #[.int .i64 0, .int .i64 0, .int .i64 0, .int .i64 0] 40)) (.slice (some ⟨w.heap.size, 0, none⟩) 1 1) [⟨0, 0, 0, 0⟩] from
    ⟨Turns.alloc (Turns.refl (fun _ => False) w) _, ⟨rfl, .inr ⟨w.heap.size, 1, _, rfl, Nat.zero_le _, heap_alloc_new w _, Nat.le_refl _, by unfold maxLen; omega, rfl, rfl⟩⟩, fun c hc => by
      simp only [Value.ownBlock, Option.some.injEq] at hc
      omega⟩)
  generalize w.alloc (.cells #[.int .i64 0, .int .i64 0, .int .i64 0, .int .i64 0] 40) = W0 at *
  generalize hB0 : (Value.slice (some ⟨w.heap.size, 0, none⟩) 1 1) = V0 at *
  go_loopw [3, 4] (fun v3 v4 wr => ∃ j : Nat, j ≤ len ∧ v4 = .int .i64 j ∧ Grow encS 40 4 w wr v3 (upto l j)) (fun _ v4 _ => len - (intOf v4).toNat)
  case atStart => exact ⟨0, Nat.zero_le _, rfl, HG0.out⟩
  case round =>
    obtain ⟨j, hj, rfl, hg⟩ := hrel
    clear HG0 hB0
    have hul := upto_len l j
    have HRI := Lib.hid (upto_rise l j)
    have HUS0 := Lib.hid (fun (e : Ev) (he : l[j]? = some e) => upto_succ he)
    have HALL := Lib.hid (fun (h : l.length ≤ j) => upto_all h)
    generalize hys : upto l j = ys at *
    have hyb : ys.length ≤ 1000000 := by omega
    rcases hg.own.form with ⟨h0, h1⟩ | ⟨g, cp, rfl, hgl, hlc, hcm⟩
    · rw [h1] at hul
      simp at hul
    have HG := Lib.hid hg
    have hy1 : 1 ≤ ys.length := by omega
    clear hg hgl hul hys
    have j1 : (0 : Int) ≤ (j : Int) := Int.natCast_nonneg _
    by_cases hjl : j < len
    · have j2 : (j : Int) < (len : Int) := by omega
      obtain ⟨hlen, h0 | ⟨bb, off, rfl, hb, hlies⟩⟩ := HW.out
      · omega
      obtain ⟨e, he⟩ := get_of_lt (xs := l) (k := j) (by omega)
      obtain ⟨c0, c1, c2, c3, c4, c5⟩ := ev_cells (hlies.keep fun o => HG.out.made.cell (p := ⟨bb, o, none⟩) hb (fun h => h)) he
      have HUS := Lib.hid (HUS0.out e he)
      clear he hlies hb hlen HUS0 HALL
      go_wp2_with fail
      have HB := Lib.hid (Blk.new wr 26 #[.int .i64 e.step, .int .i64 e.kind, .int .i64 e.task, .int .i64 e.a, .int .i64 e.b, .int .i64 e.c])
      have HG1 := Lib.hid (HG.out.alloc (.cells #[.int .i64 e.step, .int .i64 e.kind, .int .i64 e.task, .int .i64 e.a, .int .i64 e.b, .int .i64 e.c] 26))
      have hgw : g < wr.heap.size := HG.out.own.lt rfl
      have hgB : g ≠ wr.heap.size := by omega
      clear HG c0 c1 c2 c3 c4 c5 hgw
      generalize wr.alloc (.cells #[.int .i64 e.step, .int .i64 e.kind, .int .i64 e.task, .int .i64 e.a, .int .i64 e.b, .int .i64 e.c] 26) = w1 at *
      generalize wr.heap.size = B at *
      have q1 := HB.out.cell 1
      have q2 := HB.out.cell 2
      have q3 := HB.out.cell 3
      simp only [List.getElem?_toArray, List.getElem?_cons_zero, List.getElem?_cons_succ] at q1 q2 q3
      by_cases hin : ∃ (k : Nat) (x : St), ys[k]? = some x ∧ x.task = e.task
      · obtain ⟨k, x, hk, hx⟩ := hin
        have hu : UniqS ys := rise_uniq HRI.out
        have hfst : ∀ (i : Nat) (y : St), i < k → ys[i]? = some y → y.task ≠ e.task := fun i y hi hy hyt => by
          have := uniq_get hu hy hk (by rw [hyt, hx])
          omega
        have HIX := Lib.hid (spot_some _ ys e.task w1 HG1.out.own hyb hk hx hfst)
        have HK := Lib.hid hk
        have HX := Lib.hid hx
        have HUQ := Lib.hid hu
        have hkl := (List.getElem?_eq_some_iff.1 hk).1
        have k1 : (0 : Int) ≤ (k : Int) := Int.natCast_nonneg _
        have k2 : (k : Int) < (ys.length : Int) := by omega
        have hh : hasT e.task ys = true := hasT_iff.2 ⟨x, List.mem_of_getElem? hk, hx⟩
        have HH := Lib.hid hh
        have e1 := Owns.cell encS_len HG1.out.own hk (j := 1) rfl
        have e2 := Owns.cell encS_len HG1.out.own hk (j := 2) rfl
        have e3 := Owns.cell encS_len HG1.out.own hk (j := 3) rfl
        have f1 := Owns.free HG1.out.own (k * 4 + 1)
        have f2 := Owns.free HG1.out.own (k * 4 + 2)
        have f3 := Owns.free HG1.out.own (k * 4 + 3)
        clear hk hx hu hfst hkl hh
        refine HIX.out.mono ?_
        rintro r w2 ⟨rfl, rfl⟩
        clear HIX
        by_cases h5 : e.kind = 5
        · have hb5 : (e.kind == 5) = true := by simp [h5]
          have HST := Lib.hid (show stepM ys e = ys.set k (setP e.a x) by unfold stepM; rw [if_pos h5, if_pos HH.out, set_upd HUQ.out HK.out, HX.out])
          clear h5
          go_wp2_with fail
          have HGP := Lib.hid (Grow.put encS_len HG1.out HK.out (x' := setP e.a x) (j := 3) (u := .int .i64 e.a) rfl (by decide))
          go_roundw
          case rel => exact ⟨j + 1, by omega, by go_num, by rw [HUS.out, HST.out]; exact HGP.out⟩
          case measure => simp [intOf]; omega
        have hb5 : (e.kind == 5) = false := by simp [h5]
        have HST := Lib.hid (show stepM ys e = ys.set k (goesM x e) by unfold stepM; rw [if_neg h5, set_upd HUQ.out HK.out (fun x => goesM x e), HX.out])
        have HS1 := Lib.hid (fun (s h : Int) => (⟨(HG1.out.made.then (turns_two w1 g (k * 4 + 1) (k * 4 + 2) (.int .i64 s) (.int .i64 h)) (fun c hc e => by have := HG1.out.far g rfl; omega)), set_one s h HG1.out.own HK.out, HG1.out.far⟩ : Grow encS 40 4 w _ (.slice (some ⟨g, 0, none⟩) ys.length cp) (ys.set k ⟨x.task, s, h, x.prog⟩)))
        by_cases h2 : e.kind = 2
        · have hb2 : (e.kind == 2) = true := by simp [h2]
          have HGO := Lib.hid (show goesM x e = ⟨x.task, 1, 0, x.prog⟩ by unfold goesM; rw [if_neg (by omega), if_pos h2])
          clear h5 h2
          go_wp2_with fail
          go_roundw
          case rel => exact ⟨j + 1, by omega, by go_num, by rw [HUS.out, HST.out, HGO.out]; exact HS1.out 1 0⟩
          case measure => simp [intOf]; omega
        have hb2 : (e.kind == 2) = false := by simp [h2]
        by_cases h3 : e.kind = 3
        · have hb3 : (e.kind == 3) = true := by simp [h3]
          have HGO := Lib.hid (show goesM x e = ⟨x.task, 0, 0, x.prog⟩ by unfold goesM; rw [if_neg (by omega), if_neg h2, if_pos (.inl h3)])
          clear h5 h2 h3
          go_wp2_with fail
          go_roundw
          case rel => exact ⟨j + 1, by omega, by go_num, by rw [HUS.out, HST.out, HGO.out]; exact HS1.out 0 0⟩
          case measure => simp [intOf]; omega
        have hb3 : (e.kind == 3) = false := by simp [h3]
        by_cases h1 : e.kind = 1
        · have hb1 : (e.kind == 1) = true := by simp [h1]
          have HGO := Lib.hid (show goesM x e = ⟨x.task, 0, 0, x.prog⟩ by unfold goesM; rw [if_neg (by omega), if_neg h2, if_pos (.inr h1)])
          clear h5 h2 h3 h1
          go_wp2_with fail
          go_roundw
          case rel => exact ⟨j + 1, by omega, by go_num, by rw [HUS.out, HST.out, HGO.out]; exact HS1.out 0 0⟩
          case measure => simp [intOf]; omega
        have hb1 : (e.kind == 1) = false := by simp [h1]
        by_cases h4 : e.kind = 4
        · have hb4 : (e.kind == 4) = true := by simp [h4]
          have HGO := Lib.hid (show goesM x e = ⟨x.task, 2, e.a, x.prog⟩ by unfold goesM; rw [if_pos h4])
          have hne : B ≠ g := fun h => hgB h.symm
          clear h5 h2 h3 h1 h4
          go_wp2_with fail
          go_region_law (fail)
          all_goals
            go_wp2_with fail
            go_roundw
            case rel => exact ⟨j + 1, by omega, by go_num, by rw [HUS.out, HST.out, HGO.out]; exact (HS1.out 2 e.a).drew⟩
            case measure => simp [intOf]; omega
        · have hb4 : (e.kind == 4) = false := by simp [h4]
          have HGO := Lib.hid (show ys.set k (goesM x e) = ys by
            unfold goesM
            rw [if_neg h4, if_neg h2, if_neg (by simp [h3, h1])]
            obtain ⟨hl, rfl⟩ := List.getElem?_eq_some_iff.1 HK.out
            exact List.set_getElem_self hl)
          clear h5 h2 h3 h1 h4
          go_wp2_with fail
          go_roundw
          case rel => exact ⟨j + 1, by omega, by go_num, by rw [HUS.out, HST.out, HGO.out]; exact HG1.out⟩
          case measure => simp [intOf]; omega
      · have hno : ∀ y ∈ ys, y.task ≠ e.task := fun y hy h => by
          obtain ⟨k, hk⟩ := List.mem_iff_getElem?.1 hy
          exact hin ⟨k, y, hk, h⟩
        have HIX := Lib.hid (spot_none _ ys e.task w1 HG1.out.own hyb hno (fun h => by rw [h] at hy1; simp at hy1))
        have HNO := Lib.hid hno
        clear hno hin
        refine HIX.out.mono ?_
        rintro r w2 ⟨rfl, rfl⟩
        clear HIX
        by_cases h5 : e.kind = 5
        · have hb5 : (e.kind == 5) = true := by simp [h5]
          have HST := Lib.hid (show stepM ys e = insS ⟨e.task, 0, 0, e.a⟩ ys by
            unfold stepM
            rw [if_pos h5, if_neg (fun h => by obtain ⟨y, hy, ht⟩ := hasT_iff.1 h; exact HNO.out y hy ht)])
          clear h5
          go_wp2_with fail
          go_loopw [7] (fun v7 wx => ∃ n : Nat, n ≤ ys.length ∧ v7 = .int .i64 n ∧ Made w1 wx ∧ (∀ y ∈ ys.take n, y.task < e.task)) (fun v7 _ => ys.length - (intOf v7).toNat)
          case atStart => exact ⟨0, Nat.zero_le _, rfl, Turns.refl _ _, fun y hy => by simp at hy⟩
          case round =>
            obtain ⟨n, hn, rfl, hm, hlt⟩ := hrel
            have HM := Lib.hid hm
            have HLT := Lib.hid hlt
            clear hm hlt q1 q2 q3
            have n1 : (0 : Int) ≤ (n : Int) := Int.natCast_nonneg _
            obtain ⟨go, hgo⟩ : ∃ go : Bool, (match ys[n]? with | some y => decide (y.task < e.task) | none => false) = go := ⟨_, rfl⟩
            have HGO := Lib.hid hgo
            clear hgo
            go_upto_region 10 with fail
            go_cut [42] (fun v42 wx => wr.drew = wx ∧ v42 = .bool go)
            case first =>
              by_cases hnl : n < ys.length
              · obtain ⟨y, hy⟩ := get_of_lt hnl
                have hgy : go = decide (y.task < e.task) := by rw [← HGO.out, hy]
                have HGY := Lib.hid hgy
                have p0 := Owns.cell encS_len ((HG1.out.own.turns HM.out (fun _ _ h => h)).turns (Turns.drew (Turns.refl (fun _ => False) wr)) (fun _ _ h => h)) hy (j := 0) rfl
                have p2 := ((HB.out.turns HM.out (fun h => h)).turns (Turns.drew (Turns.refl (fun _ => False) wr)) (fun h => h)).cell 2
                simp only [List.getElem?_toArray, List.getElem?_cons_zero, List.getElem?_cons_succ, Nat.add_zero] at p0 p2
                have n2 : (n : Int) < (ys.length : Int) := by omega
                have n3 : decide (n < ys.length) = true := decide_eq_true hnl
                have n4 : decide ((n : Int) < (ys.length : Int)) = true := decide_eq_true n2
                clear hy hgy
                refine wp_region_held_drew (S := fun w' => wr.drew = w') (by kernel_rfl) ?_ (fun hHeld => ?_)
                · exact rfl
                refine takeH (i := 0) (d := some 29) (v := ?_) rfl rfl (by kernel_rfl) (by kernel_rfl) (by kernel_rfl) (fun _ _ _ h => h) (Or.inl ⟨by rfl, ?_⟩) (by assumption) ?_
                rotate_left
                · intro w hSw
                  try dsimp only at hSw
                  go_simp
                  try with_reducible rfl
                try simp only [Act.put, List.setIfInBounds_toArray, List.set_cons_zero, List.set_cons_succ]
                refine takeH (i := 1) (d := some 30) (v := ?_) rfl rfl (by kernel_rfl) (by kernel_rfl) (by kernel_rfl) (fun _ _ _ h => h) (Or.inl ⟨by rfl, ?_⟩) (by assumption) ?_
                rotate_left
                · intro w hSw
                  try dsimp only at hSw
                  go_simp
                  try with_reducible rfl
                try simp only [Act.put, List.setIfInBounds_toArray, List.set_cons_zero, List.set_cons_succ]
                refine takeH (i := 2) (d := some 31) (v := ?_) rfl rfl (by kernel_rfl) (by kernel_rfl) (by kernel_rfl) (fun _ _ _ h => h) (Or.inl ⟨by rfl, ?_⟩) (by assumption) ?_
                rotate_left
                · intro w hSw
                  try dsimp only at hSw
                  go_simp
                  try with_reducible rfl
                try simp only [Act.put, List.setIfInBounds_toArray, List.set_cons_zero, List.set_cons_succ]
                refine takeH (i := 3) (d := some 32) (v := ?_) rfl rfl (by kernel_rfl) (by kernel_rfl) (by kernel_rfl) (fun _ _ _ h => h) (Or.inl ⟨by rfl, ?_⟩) (by assumption) ?_
                rotate_left
                · intro w hSw
                  try dsimp only at hSw
                  go_simp
                  try with_reducible rfl
                try simp only [Act.put, List.setIfInBounds_toArray, List.set_cons_zero, List.set_cons_succ]
                refine takeH (i := 4) (d := some 33) (v := ?_) rfl rfl (by kernel_rfl) (by kernel_rfl) (by kernel_rfl) (fun _ _ _ h => h) (Or.inl ⟨by rfl, ?_⟩) (by assumption) ?_
                rotate_left
                · intro w hSw
                  try dsimp only at hSw
                  go_simp
                  try with_reducible rfl
                try simp only [Act.put, List.setIfInBounds_toArray, List.set_cons_zero, List.set_cons_succ]
                refine takeH (i := 5) (d := some 34) (v := ?_) rfl rfl (by kernel_rfl) (by kernel_rfl) (by kernel_rfl) (fun _ _ _ h => h) (Or.inl ⟨by rfl, ?_⟩) (by assumption) ?_
                rotate_left
                · intro w hSw
                  try dsimp only at hSw
                  go_simp
                  try with_reducible rfl
                try simp only [Act.put, List.setIfInBounds_toArray, List.set_cons_zero, List.set_cons_succ]
                refine takeH (i := 6) (d := some 35) (v := ?_) rfl rfl (by kernel_rfl) (by kernel_rfl) (by kernel_rfl) (fun _ _ _ h => h) (Or.inl ⟨by rfl, ?_⟩) (by assumption) ?_
                rotate_left
                · intro w hSw
                  try dsimp only at hSw
                  go_simp
                  try with_reducible rfl
                try simp only [Act.put, List.setIfInBounds_toArray, List.set_cons_zero, List.set_cons_succ]
                refine takeH (i := 7) (d := some 36) (v := ?_) rfl rfl (by kernel_rfl) (by kernel_rfl) (by kernel_rfl) (fun _ _ _ h => h) (Or.inl ⟨by rfl, ?_⟩) (by assumption) ?_
                rotate_left
                · intro w hSw
                  try dsimp only at hSw
                  go_simp
                  try with_reducible rfl
                try simp only [Act.put, List.setIfInBounds_toArray, List.set_cons_zero, List.set_cons_succ]
                refine takeH (i := 8) (d := some 37) (v := ?_) rfl rfl (by kernel_rfl) (by kernel_rfl) (by kernel_rfl) (fun _ _ _ h => h) (Or.inl ⟨by rfl, ?_⟩) (by assumption) ?_
                rotate_left
                · intro w hSw
                  try dsimp only at hSw
                  go_simp
                  try with_reducible rfl
                try simp only [Act.put, List.setIfInBounds_toArray, List.set_cons_zero, List.set_cons_succ]
                refine takeH (i := 9) (d := some 38) (v := ?_) rfl rfl (by kernel_rfl) (by kernel_rfl) (by kernel_rfl) (fun _ _ _ h => h) (Or.inl ⟨by rfl, ?_⟩) (by assumption) ?_
                rotate_left
                · intro w hSw
                  try dsimp only at hSw
                  subst hSw
                  go_simp
                  try with_reducible rfl
                try simp only [Act.put, List.setIfInBounds_toArray, List.set_cons_zero, List.set_cons_succ]
                refine takeH (i := 10) (d := some 39) (v := ?_) rfl rfl (by kernel_rfl) (by kernel_rfl) (by kernel_rfl) (fun _ _ _ h => h) (Or.inl ⟨by rfl, ?_⟩) (by assumption) ?_
                rotate_left
                · intro w hSw
                  try dsimp only at hSw
                  go_simp
                  try with_reducible rfl
                try simp only [Act.put, List.setIfInBounds_toArray, List.set_cons_zero, List.set_cons_succ]
                refine takeH (i := 11) (d := some 40) (v := ?_) rfl rfl (by kernel_rfl) (by kernel_rfl) (by kernel_rfl) (fun _ _ _ h => h) (Or.inl ⟨by rfl, ?_⟩) (by assumption) ?_
                rotate_left
                · intro w hSw
                  try dsimp only at hSw
                  subst hSw
                  go_simp
                  try with_reducible rfl
                try simp only [Act.put, List.setIfInBounds_toArray, List.set_cons_zero, List.set_cons_succ]
                refine takeH (i := 12) (d := some 41) (v := ?_) rfl rfl (by kernel_rfl) (by kernel_rfl) (by kernel_rfl) (fun _ _ _ h => h) (Or.inl ⟨by rfl, ?_⟩) (by assumption) ?_
                rotate_left
                · intro w hSw
                  try dsimp only at hSw
                  go_simp
                  try with_reducible rfl
                try simp only [Act.put, List.setIfInBounds_toArray, List.set_cons_zero, List.set_cons_succ]
                refine takeH (i := 13) (d := some 42) (v := ?_) rfl rfl (by kernel_rfl) (by kernel_rfl) (by kernel_rfl) (fun _ _ _ h => h) (Or.inl ⟨by rfl, ?_⟩) (by assumption) ?_
                rotate_left
                · intro w hSw
                  try dsimp only at hSw
                  go_simp
                  try with_reducible rfl
                try simp only [Act.put, List.setIfInBounds_toArray, List.set_cons_zero, List.set_cons_succ]
                refine wpAnyH_done (by kernel_rfl) ?_ _
                go_wp2_with fail
                go_meet
                exact ⟨rfl, by rw [HGY.out]⟩
              · have hgy : go = false := by rw [← HGO.out, List.getElem?_eq_none (by omega)]
                have HGY := Lib.hid hgy
                have n2 : ¬ (n : Int) < (ys.length : Int) := by omega
                have n3 : decide (n < ys.length) = false := decide_eq_false hnl
                have n4 : decide ((n : Int) < (ys.length : Int)) = false := decide_eq_false n2
                clear hgy
                refine wp_region_held_drew (S := fun w' => wr.drew = w') (by kernel_rfl) ?_ (fun hHeld => ?_)
                · exact rfl
                refine takeH (i := 0) (d := some 29) (v := ?_) rfl rfl (by kernel_rfl) (by kernel_rfl) (by kernel_rfl) (fun _ _ _ h => h) (Or.inl ⟨by rfl, ?_⟩) (by assumption) ?_
                rotate_left
                · intro w hSw
                  try dsimp only at hSw
                  go_simp
                  try with_reducible rfl
                try simp only [Act.put, List.setIfInBounds_toArray, List.set_cons_zero, List.set_cons_succ]
                refine takeH (i := 1) (d := some 30) (v := ?_) rfl rfl (by kernel_rfl) (by kernel_rfl) (by kernel_rfl) (fun _ _ _ h => h) (Or.inl ⟨by rfl, ?_⟩) (by assumption) ?_
                rotate_left
                · intro w hSw
                  try dsimp only at hSw
                  go_simp
                  try with_reducible rfl
                try simp only [Act.put, List.setIfInBounds_toArray, List.set_cons_zero, List.set_cons_succ]
                refine takeH (i := 2) (d := some 31) (v := ?_) rfl rfl (by kernel_rfl) (by kernel_rfl) (by kernel_rfl) (fun _ _ _ h => h) (Or.inl ⟨by rfl, ?_⟩) (by assumption) ?_
                rotate_left
                · intro w hSw
                  try dsimp only at hSw
                  go_simp
                  try with_reducible rfl
                try simp only [Act.put, List.setIfInBounds_toArray, List.set_cons_zero, List.set_cons_succ]
                refine takeH (i := 3) (d := some 32) (v := ?_) rfl rfl (by kernel_rfl) (by kernel_rfl) (by kernel_rfl) (fun _ _ _ h => h) (Or.inl ⟨by rfl, ?_⟩) (by assumption) ?_
                rotate_left
                · intro w hSw
                  try dsimp only at hSw
                  go_simp
                  try with_reducible rfl
                try simp only [Act.put, List.setIfInBounds_toArray, List.set_cons_zero, List.set_cons_succ]
                refine takeH (i := 4) (d := some 33) (v := ?_) rfl rfl (by kernel_rfl) (by kernel_rfl) (by kernel_rfl) (fun _ _ _ h => h) (Or.inl ⟨by rfl, ?_⟩) (by assumption) ?_
                rotate_left
                · intro w hSw
                  try dsimp only at hSw
                  go_simp
                  try with_reducible rfl
                try simp only [Act.put, List.setIfInBounds_toArray, List.set_cons_zero, List.set_cons_succ]
                refine takeH (i := 5) (d := some 34) (v := undef) rfl rfl (by kernel_rfl) (by kernel_rfl) (by kernel_rfl) (fun _ _ _ h => h) (Or.inr ⟨by rfl, rfl⟩) (by assumption) ?_
                try simp only [Act.put, List.setIfInBounds_toArray, List.set_cons_zero, List.set_cons_succ]
                refine takeH (i := 6) (d := some 35) (v := undef) rfl rfl (by kernel_rfl) (by kernel_rfl) (by kernel_rfl) (fun _ _ _ h => h) (Or.inr ⟨by rfl, rfl⟩) (by assumption) ?_
                try simp only [Act.put, List.setIfInBounds_toArray, List.set_cons_zero, List.set_cons_succ]
                refine takeH (i := 7) (d := some 36) (v := undef) rfl rfl (by kernel_rfl) (by kernel_rfl) (by kernel_rfl) (fun _ _ _ h => h) (Or.inr ⟨by rfl, rfl⟩) (by assumption) ?_
                try simp only [Act.put, List.setIfInBounds_toArray, List.set_cons_zero, List.set_cons_succ]
                refine takeH (i := 8) (d := some 37) (v := undef) rfl rfl (by kernel_rfl) (by kernel_rfl) (by kernel_rfl) (fun _ _ _ h => h) (Or.inr ⟨by rfl, rfl⟩) (by assumption) ?_
                try simp only [Act.put, List.setIfInBounds_toArray, List.set_cons_zero, List.set_cons_succ]
                refine takeH (i := 9) (d := some 38) (v := undef) rfl rfl (by kernel_rfl) (by kernel_rfl) (by kernel_rfl) (fun _ _ _ h => h) (Or.inr ⟨by rfl, rfl⟩) (by assumption) ?_
                try simp only [Act.put, List.setIfInBounds_toArray, List.set_cons_zero, List.set_cons_succ]
                refine takeH (i := 10) (d := some 39) (v := undef) rfl rfl (by kernel_rfl) (by kernel_rfl) (by kernel_rfl) (fun _ _ _ h => h) (Or.inr ⟨by rfl, rfl⟩) (by assumption) ?_
                try simp only [Act.put, List.setIfInBounds_toArray, List.set_cons_zero, List.set_cons_succ]
                refine takeH (i := 11) (d := some 40) (v := undef) rfl rfl (by kernel_rfl) (by kernel_rfl) (by kernel_rfl) (fun _ _ _ h => h) (Or.inr ⟨by rfl, rfl⟩) (by assumption) ?_
                try simp only [Act.put, List.setIfInBounds_toArray, List.set_cons_zero, List.set_cons_succ]
                refine takeH (i := 12) (d := some 41) (v := undef) rfl rfl (by kernel_rfl) (by kernel_rfl) (by kernel_rfl) (fun _ _ _ h => h) (Or.inr ⟨by rfl, rfl⟩) (by assumption) ?_
                try simp only [Act.put, List.setIfInBounds_toArray, List.set_cons_zero, List.set_cons_succ]
                refine takeH (i := 13) (d := some 42) (v := ?_) rfl rfl (by kernel_rfl) (by kernel_rfl) (by kernel_rfl) (fun _ _ _ h => h) (Or.inl ⟨by rfl, ?_⟩) (by assumption) ?_
                rotate_left
                · intro w hSw
                  try dsimp only at hSw
                  go_simp
                  try with_reducible rfl
                try simp only [Act.put, List.setIfInBounds_toArray, List.set_cons_zero, List.set_cons_succ]
                refine wpAnyH_done (by kernel_rfl) ?_ _
                go_wp2_with fail
                go_meet
                exact ⟨rfl, by rw [HGY.out]⟩
            case rest =>
              obtain ⟨hw1, rfl⟩ := hcut
              subst hw1
              have HM2 := Lib.hid (Turns.drew HM.out)
              clear HM
              generalize wr.drew = W at *
              cases go with
              | true =>
                obtain ⟨y, hy, hyt⟩ : ∃ y, ys[n]? = some y ∧ y.task < e.task := by
                  have h := HGO.out
                  split at h
                  · rename_i y hy
                    exact ⟨y, hy, of_decide_eq_true h⟩
                  · cases h
                have hnl := (List.getElem?_eq_some_iff.1 hy).1
                have HLT2 := Lib.hid (show ∀ z ∈ ys.take (n + 1), z.task < e.task from fun z hz => by
                  rw [List.take_add_one, hy] at hz
                  rcases List.mem_append.1 hz with hz | hz
                  · exact HLT.out z hz
                  · simp only [Option.toList_some, List.mem_singleton] at hz
                    rw [hz]
                    exact hyt)
                clear hy hyt
                go_wp2_with fail
                go_roundw
                case rel => exact ⟨n + 1, by omega, by go_num, HM2.out, HLT2.out⟩
                case measure => simp [intOf]; omega
              | false =>
                have HI := Lib.hid (insS_at (x := ⟨e.task, 0, 0, e.a⟩) ys n hn HLT.out (fun y hy => by
                  have h := HGO.out
                  rw [hy] at h
                  have h1 := of_decide_eq_false h
                  have h2 := HNO.out y (List.mem_of_getElem? hy)
                  simp only at h1 ⊢
                  omega))
                have HBW := Lib.hid (HB.out.turns HM2.out (fun h => h))
                have HGW := Lib.hid (HG1.out.turns HM2.out (fun _ _ h => h) (fun _ _ h => h))
                have HWW := Lib.hid HGW.out.made
                have SRC8 := Lib.hid (show ∀ w', Made W w' → SrcAt encS w' (.slice (some ⟨g, 0, none⟩) n cp) (ys.take n) from fun w' hm => SrcAt.pre encS_len (HGW.out.own.turns hm (fun _ _ h => h)) hn)
                go_wp2_with fail
                have n1 : (0 : Int) ≤ (n : Int) := Int.natCast_nonneg _
                have n5 : (n : Int) ≤ (ys.length : Int) := by omega
                have n6 : (n : Int) ≤ (cp : Int) := by omega
                by_cases hcap : cp = n
                · subst hcap
                  have SRC24 := Lib.hid (show ∀ w', Made W w' → SrcAt encS w' (.slice (some ⟨g, 0, none⟩) 0 0) (ys.drop cp) from fun w' _ => SrcAt.none_left (by omega))
                  refine wp_region_held_drew (S := fun w' => Made W w' ∧ Blk w' B 26 #[.int .i64 e.step, .int .i64 e.kind, .int .i64 e.task, .int .i64 e.a, .int .i64 e.b, .int .i64 e.c]) (by kernel_rfl) ?_ (fun hHeld => ?_)
                  · exact ⟨Turns.drew (Turns.refl _ W), HBW.out.turns (Turns.drew (Turns.refl (fun _ => False) W)) (fun h => h)⟩
                  generalize W.drew = w0 at *
                  refine takeH (i := 1) (d := some 46) (v := ?_) rfl rfl (by kernel_rfl) (by kernel_rfl) (by kernel_rfl) (fun _ _ _ h => h) (Or.inl ⟨by rfl, ?_⟩) (by assumption) ?_
                  rotate_left
                  · intro w hSw
                    try dsimp only at hSw
                    go_simp
                    try with_reducible rfl
                  try simp only [Act.put, List.setIfInBounds_toArray, List.set_cons_zero, List.set_cons_succ]
                  refine takeH (i := 2) (d := some 47) (v := ?_) rfl rfl (by kernel_rfl) (by kernel_rfl) (by kernel_rfl) (fun _ _ _ h => h) (Or.inl ⟨by rfl, ?_⟩) (by assumption) ?_
                  rotate_left
                  · intro w hSw
                    try dsimp only at hSw
                    go_simp
                    try with_reducible rfl
                  try simp only [Act.put, List.setIfInBounds_toArray, List.set_cons_zero, List.set_cons_succ]
                  refine takeH (i := 3) (d := some 48) (v := ?_) rfl rfl (by kernel_rfl) (by kernel_rfl) (by kernel_rfl) (fun _ _ _ h => h) (Or.inl ⟨by rfl, ?_⟩) (by assumption) ?_
                  rotate_left
                  · intro w hSw
                    try dsimp only at hSw
                    go_simp
                    try with_reducible rfl
                  try simp only [Act.put, List.setIfInBounds_toArray, List.set_cons_zero, List.set_cons_succ]
                  refine takeH (i := 5) (d := some 50) (v := ?_) rfl rfl (by kernel_rfl) (by kernel_rfl) (by kernel_rfl) (fun _ _ _ h => h) (Or.inl ⟨by rfl, ?_⟩) (by assumption) ?_
                  rotate_left
                  · intro w hSw
                    try dsimp only at hSw
                    go_simp
                    try with_reducible rfl
                  try simp only [Act.put, List.setIfInBounds_toArray, List.set_cons_zero, List.set_cons_succ]
                  refine takeH (i := 6) (d := some 51) (v := ?_) rfl rfl (by kernel_rfl) (by kernel_rfl) (by kernel_rfl) (fun _ _ _ h => h) (Or.inl ⟨by rfl, ?_⟩) (by assumption) ?_
                  rotate_left
                  · intro w hSw
                    try dsimp only at hSw
                    have q0 := hSw.2.cell 2
                    simp only [List.getElem?_toArray, List.getElem?_cons_zero, List.getElem?_cons_succ] at q0
                    go_simp
                    try with_reducible rfl
                  try simp only [Act.put, List.setIfInBounds_toArray, List.set_cons_zero, List.set_cons_succ]
                  refine takeH (i := 7) (d := some 52) (v := ?_) rfl rfl (by kernel_rfl) (by kernel_rfl) (by kernel_rfl) (fun _ _ _ h => h) (Or.inl ⟨by rfl, ?_⟩) (by assumption) ?_
                  rotate_left
                  · intro w hSw
                    try dsimp only at hSw
                    go_simp
                    try with_reducible rfl
                  try simp only [Act.put, List.setIfInBounds_toArray, List.set_cons_zero, List.set_cons_succ]
                  refine takeH (i := 8) (d := some 53) (v := ?_) rfl rfl (by kernel_rfl) (by kernel_rfl) (by kernel_rfl) (fun _ _ _ h => h) (Or.inl ⟨by rfl, ?_⟩) (by assumption) ?_
                  rotate_left
                  · intro w hSw
                    try dsimp only at hSw
                    have q0 := hSw.2.cell 3
                    simp only [List.getElem?_toArray, List.getElem?_cons_zero, List.getElem?_cons_succ] at q0
                    go_simp
                    try with_reducible rfl
                  try simp only [Act.put, List.setIfInBounds_toArray, List.set_cons_zero, List.set_cons_succ]
                  refine takeH (i := 9) (d := some 54) (v := ?_) rfl rfl (by kernel_rfl) (by kernel_rfl) (by kernel_rfl) (fun _ _ _ h => h) (Or.inl ⟨by rfl, ?_⟩) (by assumption) ?_
                  rotate_left
                  · intro w hSw
                    try dsimp only at hSw
                    go_simp
                    try with_reducible rfl
                  try simp only [Act.put, List.setIfInBounds_toArray, List.set_cons_zero, List.set_cons_succ]
                  refine takeH (i := 12) (d := some 57) (v := ?_) rfl rfl (by kernel_rfl) (by kernel_rfl) (by kernel_rfl) (fun _ _ _ h => h) (Or.inl ⟨by rfl, ?_⟩) (by assumption) ?_
                  rotate_left
                  · intro w hSw
                    try dsimp only at hSw
                    go_simp
                    try with_reducible rfl
                  try simp only [Act.put, List.setIfInBounds_toArray, List.set_cons_zero, List.set_cons_succ]
                  refine takeH (i := 13) (d := some 58) (v := ?_) rfl rfl (by kernel_rfl) (by kernel_rfl) (by kernel_rfl) (fun _ _ _ h => h) (Or.inl ⟨by rfl, ?_⟩) (by assumption) ?_
                  rotate_left
                  · intro w hSw
                    try dsimp only at hSw
                    go_simp
                    try with_reducible rfl
                  try simp only [Act.put, List.setIfInBounds_toArray, List.set_cons_zero, List.set_cons_succ]
                  refine takeH (i := 14) (d := some 59) (v := ?_) rfl rfl (by kernel_rfl) (by kernel_rfl) (by kernel_rfl) (fun _ _ _ h => h) (Or.inl ⟨by rfl, ?_⟩) (by assumption) ?_
                  rotate_left
                  · intro w hSw
                    try dsimp only at hSw
                    go_simp
                    try with_reducible rfl
                  try simp only [Act.put, List.setIfInBounds_toArray, List.set_cons_zero, List.set_cons_succ]
                  refine wpAnyH_ready (rs := [0, 10]) (by kernel_rfl) (by simp) ?_
                  refine AllReadyH.cons rfl (fun K hK => ?_) ?_
                  · refine step_empty encS 4 rfl _ (by rfl) i0 _ Try.underlying30 hi0 hz0 hHeld.1 ?_
                    intro bE wE hGE hTE hLE
                    refine hK.out _ _ ?_ (fun hHeld => ?_)
                    · exact ⟨hGE.made, HBW.out.turns hGE.made (fun h => h)⟩
                    clear hK K
                    try simp only [Act.put, List.setIfInBounds_toArray, List.set_cons_zero, List.set_cons_succ]
                    clear hTE
                    refine wpAnyH_ready (rs := [4, 10]) (by kernel_rfl) (by simp) ?_
                    refine AllReadyH.cons rfl (fun K hK => ?_) ?_
                    · refine step_grow rfl _ _ _ (by rfl) i0 _ 32 Try.underlying30 hi0 hz0 hz1 hz2 rfl (by omega) encS_len encS_one (by rfl) hGE (by rfl) (SRC8.out _ hHeld.1) (by simp only [List.length_append, List.length_take, List.length_drop, List.length_nil, List.length_cons, maxLen]; omega) (by simp only [List.length_append, List.length_take, List.length_drop, List.length_nil, List.length_cons, maxLen]; omega) ?_
                      intro v1 w1 hG1 hF1 hS1 hO1
                      refine hK.out _ _ ?_ (fun hHeld => ?_)
                      · exact ⟨hG1.made, HBW.out.turns hG1.made (fun h => h)⟩
                      clear hK K
                      try simp only [Act.put, List.setIfInBounds_toArray, List.set_cons_zero, List.set_cons_succ]
                      clear hF1 hS1 hO1 hGE
                      refine wpAnyH_ready (rs := [10]) (by kernel_rfl) (by simp) ?_
                      refine AllReadyH.cons rfl (fun K hK => ?_) AllReadyH.nil
                      refine step_single rfl _ (.tmp 54) (by rfl) i0 _ Try.underlying30 hi0 hz0 (by rw [hz1]; decide) (by rw [hz1]; decide) #[.int .i64 e.task, .int .i64 0, .int .i64 0, .int .i64 e.a] (by rfl) (fillS hz1 _ _ _ _) ?_
                      intro bX wX hTX hBX hLX
                      refine hK.out _ _ ?_ (fun hHeld => ?_)
                      · exact ⟨(hHeld.1.trans hTX), HBW.out.turns (hHeld.1.trans hTX) (fun h => h)⟩
                      clear hK K
                      try simp only [Act.put, List.setIfInBounds_toArray, List.set_cons_zero, List.set_cons_succ]
                      have hBXlt := hBX.lt
                      replace hG1 := hG1.turns hTX (fun _ _ h => h) (fun _ _ h => h)
                      clear hTX
                      refine wpAnyH_ready (rs := [11]) (by kernel_rfl) (by simp) ?_
                      refine AllReadyH.cons rfl (fun K hK => ?_) AllReadyH.nil
                      refine step_grow rfl _ _ _ (by rfl) i0 _ 32 Try.underlying30 hi0 hz0 hz1 hz2 rfl (by omega) encS_len encS_one (by rfl) hG1 (by rfl) (SrcAt.block (N := [(⟨e.task, 0, 0, e.a⟩ : St)]) hBX rfl (by simp [flat, encS])) (by simp only [List.length_append, List.length_take, List.length_drop, List.length_nil, List.length_cons, maxLen]; omega) (by simp only [List.length_append, List.length_take, List.length_drop, List.length_nil, List.length_cons, maxLen]; omega) ?_
                      intro v2 w2 hG2 hF2 hS2 hO2
                      refine hK.out _ _ ?_ (fun hHeld => ?_)
                      · exact ⟨hG2.made, HBW.out.turns hG2.made (fun h => h)⟩
                      clear hK K
                      try simp only [Act.put, List.setIfInBounds_toArray, List.set_cons_zero, List.set_cons_succ]
                      clear hF2 hS2 hO2 hG1
                      refine wpAnyH_ready (rs := [15]) (by kernel_rfl) (by simp) ?_
                      refine AllReadyH.cons rfl (fun K hK => ?_) AllReadyH.nil
                      refine step_grow rfl _ _ _ (by rfl) i0 _ 32 Try.underlying30 hi0 hz0 hz1 hz2 rfl (by omega) encS_len encS_one (by rfl) hG2 (by rfl) (SRC24.out _ hHeld.1) (by simp only [List.length_append, List.length_take, List.length_drop, List.length_nil, List.length_cons, maxLen]; omega) (by simp only [List.length_append, List.length_take, List.length_drop, List.length_nil, List.length_cons, maxLen]; omega) ?_
                      intro v3 w3 hG3 hF3 hS3 hO3
                      refine hK.out _ _ ?_ (fun hHeld => ?_)
                      · exact ⟨hG3.made, HBW.out.turns hG3.made (fun h => h)⟩
                      clear hK K
                      try simp only [Act.put, List.setIfInBounds_toArray, List.set_cons_zero, List.set_cons_succ]
                      clear hF3 hS3 hO3 hG2
                      refine takeH (i := 16) (d := some 3) (v := ?_) rfl rfl (by kernel_rfl) (by kernel_rfl) (by kernel_rfl) (fun _ _ _ h => h) (Or.inl ⟨by rfl, ?_⟩) (by assumption) ?_
                      rotate_left
                      · intro w hSw
                        try dsimp only at hSw
                        go_simp
                        try with_reducible rfl
                      try simp only [Act.put, List.setIfInBounds_toArray, List.set_cons_zero, List.set_cons_succ]
                      refine wpAnyH_done (by kernel_rfl) ?_ _
                      have HG3 := Lib.hid hG3
                      clear hHeld hG3
                      try clear hHeld
                      try clear hHeld
                      try clear hHeld
                      try clear hHeld
                      try clear hHeld
                      try clear hHeld
                      go_wp2_with fail
                      go_roundw
                      case rel =>
                        refine ⟨j + 1, by omega, by go_num, ?_⟩
                        rw [HUS.out, HST.out, HI.out]
                        have h := HG3.out.rebase HWW.out
                        simpa using h
                      case measure => simp [intOf]; omega
                    refine AllReadyH.cons rfl (fun K hK => ?_) ?_
                    · refine step_single rfl _ (.tmp 54) (by rfl) i0 _ Try.underlying30 hi0 hz0 (by rw [hz1]; decide) (by rw [hz1]; decide) #[.int .i64 e.task, .int .i64 0, .int .i64 0, .int .i64 e.a] (by rfl) (fillS hz1 _ _ _ _) ?_
                      intro bX wX hTX hBX hLX
                      refine hK.out _ _ ?_ (fun hHeld => ?_)
                      · exact ⟨(hHeld.1.trans hTX), HBW.out.turns (hHeld.1.trans hTX) (fun h => h)⟩
                      clear hK K
                      try simp only [Act.put, List.setIfInBounds_toArray, List.set_cons_zero, List.set_cons_succ]
                      have hBXlt := hBX.lt
                      have hne : bE ≠ bX := by have h : bE < wE.heap.size := hGE.own.lt rfl; omega
                      replace hGE := hGE.turns hTX (fun _ _ h => h) (fun _ _ h => h)
                      clear hTX
                      refine wpAnyH_ready (rs := [4]) (by kernel_rfl) (by simp) ?_
                      refine AllReadyH.cons rfl (fun K hK => ?_) AllReadyH.nil
                      refine step_grow rfl _ _ _ (by rfl) i0 _ 32 Try.underlying30 hi0 hz0 hz1 hz2 rfl (by omega) encS_len encS_one (by rfl) hGE (by rfl) (SRC8.out _ hHeld.1) (by simp only [List.length_append, List.length_take, List.length_drop, List.length_nil, List.length_cons, maxLen]; omega) (by simp only [List.length_append, List.length_take, List.length_drop, List.length_nil, List.length_cons, maxLen]; omega) ?_
                      intro v1 w1 hG1 hF1 hS1 hO1
                      refine hK.out _ _ ?_ (fun hHeld => ?_)
                      · exact ⟨hG1.made, HBW.out.turns hG1.made (fun h => h)⟩
                      clear hK K
                      try simp only [Act.put, List.setIfInBounds_toArray, List.set_cons_zero, List.set_cons_succ]
                      replace hBX : Blk w1 bX _ _ := (hF1 bX hBX.lt (fun e => hne (by simpa [Value.ownBlock] using e))).trans hBX
                      clear hF1 hS1 hO1 hGE
                      refine wpAnyH_ready (rs := [11]) (by kernel_rfl) (by simp) ?_
                      refine AllReadyH.cons rfl (fun K hK => ?_) AllReadyH.nil
                      refine step_grow rfl _ _ _ (by rfl) i0 _ 32 Try.underlying30 hi0 hz0 hz1 hz2 rfl (by omega) encS_len encS_one (by rfl) hG1 (by rfl) (SrcAt.block (N := [(⟨e.task, 0, 0, e.a⟩ : St)]) hBX rfl (by simp [flat, encS])) (by simp only [List.length_append, List.length_take, List.length_drop, List.length_nil, List.length_cons, maxLen]; omega) (by simp only [List.length_append, List.length_take, List.length_drop, List.length_nil, List.length_cons, maxLen]; omega) ?_
                      intro v2 w2 hG2 hF2 hS2 hO2
                      refine hK.out _ _ ?_ (fun hHeld => ?_)
                      · exact ⟨hG2.made, HBW.out.turns hG2.made (fun h => h)⟩
                      clear hK K
                      try simp only [Act.put, List.setIfInBounds_toArray, List.set_cons_zero, List.set_cons_succ]
                      clear hF2 hS2 hO2 hG1
                      refine wpAnyH_ready (rs := [15]) (by kernel_rfl) (by simp) ?_
                      refine AllReadyH.cons rfl (fun K hK => ?_) AllReadyH.nil
                      refine step_grow rfl _ _ _ (by rfl) i0 _ 32 Try.underlying30 hi0 hz0 hz1 hz2 rfl (by omega) encS_len encS_one (by rfl) hG2 (by rfl) (SRC24.out _ hHeld.1) (by simp only [List.length_append, List.length_take, List.length_drop, List.length_nil, List.length_cons, maxLen]; omega) (by simp only [List.length_append, List.length_take, List.length_drop, List.length_nil, List.length_cons, maxLen]; omega) ?_
                      intro v3 w3 hG3 hF3 hS3 hO3
                      refine hK.out _ _ ?_ (fun hHeld => ?_)
                      · exact ⟨hG3.made, HBW.out.turns hG3.made (fun h => h)⟩
                      clear hK K
                      try simp only [Act.put, List.setIfInBounds_toArray, List.set_cons_zero, List.set_cons_succ]
                      clear hF3 hS3 hO3 hG2
                      refine takeH (i := 16) (d := some 3) (v := ?_) rfl rfl (by kernel_rfl) (by kernel_rfl) (by kernel_rfl) (fun _ _ _ h => h) (Or.inl ⟨by rfl, ?_⟩) (by assumption) ?_
                      rotate_left
                      · intro w hSw
                        try dsimp only at hSw
                        go_simp
                        try with_reducible rfl
                      try simp only [Act.put, List.setIfInBounds_toArray, List.set_cons_zero, List.set_cons_succ]
                      refine wpAnyH_done (by kernel_rfl) ?_ _
                      have HG3 := Lib.hid hG3
                      clear hHeld hG3
                      try clear hHeld
                      try clear hHeld
                      try clear hHeld
                      try clear hHeld
                      try clear hHeld
                      try clear hHeld
                      go_wp2_with fail
                      go_roundw
                      case rel =>
                        refine ⟨j + 1, by omega, by go_num, ?_⟩
                        rw [HUS.out, HST.out, HI.out]
                        have h := HG3.out.rebase HWW.out
                        simpa using h
                      case measure => simp [intOf]; omega
                    exact AllReadyH.nil
                  refine AllReadyH.cons rfl (fun K hK => ?_) ?_
                  · refine step_single rfl _ (.tmp 54) (by rfl) i0 _ Try.underlying30 hi0 hz0 (by rw [hz1]; decide) (by rw [hz1]; decide) #[.int .i64 e.task, .int .i64 0, .int .i64 0, .int .i64 e.a] (by rfl) (fillS hz1 _ _ _ _) ?_
                    intro bX wX hTX hBX hLX
                    refine hK.out _ _ ?_ (fun hHeld => ?_)
                    · exact ⟨(hHeld.1.trans hTX), HBW.out.turns (hHeld.1.trans hTX) (fun h => h)⟩
                    clear hK K
                    try simp only [Act.put, List.setIfInBounds_toArray, List.set_cons_zero, List.set_cons_succ]
                    have hBXlt := hBX.lt
                    clear hTX
                    refine wpAnyH_ready (rs := [0]) (by kernel_rfl) (by simp) ?_
                    refine AllReadyH.cons rfl (fun K hK => ?_) AllReadyH.nil
                    refine step_empty encS 4 rfl _ (by rfl) i0 _ Try.underlying30 hi0 hz0 hHeld.1 ?_
                    intro bE wE hGE hTE hLE
                    refine hK.out _ _ ?_ (fun hHeld => ?_)
                    · exact ⟨hGE.made, HBW.out.turns hGE.made (fun h => h)⟩
                    clear hK K
                    try simp only [Act.put, List.setIfInBounds_toArray, List.set_cons_zero, List.set_cons_succ]
                    replace hBX := hBX.turns hTE (fun h => h)
                    have hne : bE ≠ bX := by have := hLX; have := hBXlt; omega
                    clear hTE
                    refine wpAnyH_ready (rs := [4]) (by kernel_rfl) (by simp) ?_
                    refine AllReadyH.cons rfl (fun K hK => ?_) AllReadyH.nil
                    refine step_grow rfl _ _ _ (by rfl) i0 _ 32 Try.underlying30 hi0 hz0 hz1 hz2 rfl (by omega) encS_len encS_one (by rfl) hGE (by rfl) (SRC8.out _ hHeld.1) (by simp only [List.length_append, List.length_take, List.length_drop, List.length_nil, List.length_cons, maxLen]; omega) (by simp only [List.length_append, List.length_take, List.length_drop, List.length_nil, List.length_cons, maxLen]; omega) ?_
                    intro v1 w1 hG1 hF1 hS1 hO1
                    refine hK.out _ _ ?_ (fun hHeld => ?_)
                    · exact ⟨hG1.made, HBW.out.turns hG1.made (fun h => h)⟩
                    clear hK K
                    try simp only [Act.put, List.setIfInBounds_toArray, List.set_cons_zero, List.set_cons_succ]
                    replace hBX : Blk w1 bX _ _ := (hF1 bX hBX.lt (fun e => hne (by simpa [Value.ownBlock] using e))).trans hBX
                    clear hF1 hS1 hO1 hGE
                    refine wpAnyH_ready (rs := [11]) (by kernel_rfl) (by simp) ?_
                    refine AllReadyH.cons rfl (fun K hK => ?_) AllReadyH.nil
                    refine step_grow rfl _ _ _ (by rfl) i0 _ 32 Try.underlying30 hi0 hz0 hz1 hz2 rfl (by omega) encS_len encS_one (by rfl) hG1 (by rfl) (SrcAt.block (N := [(⟨e.task, 0, 0, e.a⟩ : St)]) hBX rfl (by simp [flat, encS])) (by simp only [List.length_append, List.length_take, List.length_drop, List.length_nil, List.length_cons, maxLen]; omega) (by simp only [List.length_append, List.length_take, List.length_drop, List.length_nil, List.length_cons, maxLen]; omega) ?_
                    intro v2 w2 hG2 hF2 hS2 hO2
                    refine hK.out _ _ ?_ (fun hHeld => ?_)
                    · exact ⟨hG2.made, HBW.out.turns hG2.made (fun h => h)⟩
                    clear hK K
                    try simp only [Act.put, List.setIfInBounds_toArray, List.set_cons_zero, List.set_cons_succ]
                    clear hF2 hS2 hO2 hG1
                    refine wpAnyH_ready (rs := [15]) (by kernel_rfl) (by simp) ?_
                    refine AllReadyH.cons rfl (fun K hK => ?_) AllReadyH.nil
                    refine step_grow rfl _ _ _ (by rfl) i0 _ 32 Try.underlying30 hi0 hz0 hz1 hz2 rfl (by omega) encS_len encS_one (by rfl) hG2 (by rfl) (SRC24.out _ hHeld.1) (by simp only [List.length_append, List.length_take, List.length_drop, List.length_nil, List.length_cons, maxLen]; omega) (by simp only [List.length_append, List.length_take, List.length_drop, List.length_nil, List.length_cons, maxLen]; omega) ?_
                    intro v3 w3 hG3 hF3 hS3 hO3
                    refine hK.out _ _ ?_ (fun hHeld => ?_)
                    · exact ⟨hG3.made, HBW.out.turns hG3.made (fun h => h)⟩
                    clear hK K
                    try simp only [Act.put, List.setIfInBounds_toArray, List.set_cons_zero, List.set_cons_succ]
                    clear hF3 hS3 hO3 hG2
                    refine takeH (i := 16) (d := some 3) (v := ?_) rfl rfl (by kernel_rfl) (by kernel_rfl) (by kernel_rfl) (fun _ _ _ h => h) (Or.inl ⟨by rfl, ?_⟩) (by assumption) ?_
                    rotate_left
                    · intro w hSw
                      try dsimp only at hSw
                      go_simp
                      try with_reducible rfl
                    try simp only [Act.put, List.setIfInBounds_toArray, List.set_cons_zero, List.set_cons_succ]
                    refine wpAnyH_done (by kernel_rfl) ?_ _
                    have HG3 := Lib.hid hG3
                    clear hHeld hG3
                    try clear hHeld
                    try clear hHeld
                    try clear hHeld
                    try clear hHeld
                    try clear hHeld
                    try clear hHeld
                    go_wp2_with fail
                    go_roundw
                    case rel =>
                      refine ⟨j + 1, by omega, by go_num, ?_⟩
                      rw [HUS.out, HST.out, HI.out]
                      have h := HG3.out.rebase HWW.out
                      simpa using h
                    case measure => simp [intOf]; omega
                  exact AllReadyH.nil
                · have hc1 : ¬ (cp : Int) = (n : Int) := by omega
                  have SRC24 := Lib.hid (show ∀ w', Made W w' → SrcAt encS w' (.slice (some ⟨g, n * 4, none⟩) (ys.length - n) (cp - n)) (ys.drop n) from fun w' hm => SrcAt.post encS_len (HGW.out.own.turns hm (fun _ _ h => h)) hn rfl rfl)
                  refine wp_region_held_drew (S := fun w' => Made W w' ∧ Blk w' B 26 #[.int .i64 e.step, .int .i64 e.kind, .int .i64 e.task, .int .i64 e.a, .int .i64 e.b, .int .i64 e.c]) (by kernel_rfl) ?_ (fun hHeld => ?_)
                  · exact ⟨Turns.drew (Turns.refl _ W), HBW.out.turns (Turns.drew (Turns.refl (fun _ => False) W)) (fun h => h)⟩
                  generalize W.drew = w0 at *
                  refine takeH (i := 1) (d := some 46) (v := ?_) rfl rfl (by kernel_rfl) (by kernel_rfl) (by kernel_rfl) (fun _ _ _ h => h) (Or.inl ⟨by rfl, ?_⟩) (by assumption) ?_
                  rotate_left
                  · intro w hSw
                    try dsimp only at hSw
                    go_simp
                    try with_reducible rfl
                  try simp only [Act.put, List.setIfInBounds_toArray, List.set_cons_zero, List.set_cons_succ]
                  refine takeH (i := 2) (d := some 47) (v := ?_) rfl rfl (by kernel_rfl) (by kernel_rfl) (by kernel_rfl) (fun _ _ _ h => h) (Or.inl ⟨by rfl, ?_⟩) (by assumption) ?_
                  rotate_left
                  · intro w hSw
                    try dsimp only at hSw
                    go_simp
                    try with_reducible rfl
                  try simp only [Act.put, List.setIfInBounds_toArray, List.set_cons_zero, List.set_cons_succ]
                  refine takeH (i := 3) (d := some 48) (v := ?_) rfl rfl (by kernel_rfl) (by kernel_rfl) (by kernel_rfl) (fun _ _ _ h => h) (Or.inl ⟨by rfl, ?_⟩) (by assumption) ?_
                  rotate_left
                  · intro w hSw
                    try dsimp only at hSw
                    go_simp
                    try with_reducible rfl
                  try simp only [Act.put, List.setIfInBounds_toArray, List.set_cons_zero, List.set_cons_succ]
                  refine takeH (i := 5) (d := some 50) (v := ?_) rfl rfl (by kernel_rfl) (by kernel_rfl) (by kernel_rfl) (fun _ _ _ h => h) (Or.inl ⟨by rfl, ?_⟩) (by assumption) ?_
                  rotate_left
                  · intro w hSw
                    try dsimp only at hSw
                    go_simp
                    try with_reducible rfl
                  try simp only [Act.put, List.setIfInBounds_toArray, List.set_cons_zero, List.set_cons_succ]
                  refine takeH (i := 6) (d := some 51) (v := ?_) rfl rfl (by kernel_rfl) (by kernel_rfl) (by kernel_rfl) (fun _ _ _ h => h) (Or.inl ⟨by rfl, ?_⟩) (by assumption) ?_
                  rotate_left
                  · intro w hSw
                    try dsimp only at hSw
                    have q0 := hSw.2.cell 2
                    simp only [List.getElem?_toArray, List.getElem?_cons_zero, List.getElem?_cons_succ] at q0
                    go_simp
                    try with_reducible rfl
                  try simp only [Act.put, List.setIfInBounds_toArray, List.set_cons_zero, List.set_cons_succ]
                  refine takeH (i := 7) (d := some 52) (v := ?_) rfl rfl (by kernel_rfl) (by kernel_rfl) (by kernel_rfl) (fun _ _ _ h => h) (Or.inl ⟨by rfl, ?_⟩) (by assumption) ?_
                  rotate_left
                  · intro w hSw
                    try dsimp only at hSw
                    go_simp
                    try with_reducible rfl
                  try simp only [Act.put, List.setIfInBounds_toArray, List.set_cons_zero, List.set_cons_succ]
                  refine takeH (i := 8) (d := some 53) (v := ?_) rfl rfl (by kernel_rfl) (by kernel_rfl) (by kernel_rfl) (fun _ _ _ h => h) (Or.inl ⟨by rfl, ?_⟩) (by assumption) ?_
                  rotate_left
                  · intro w hSw
                    try dsimp only at hSw
                    have q0 := hSw.2.cell 3
                    simp only [List.getElem?_toArray, List.getElem?_cons_zero, List.getElem?_cons_succ] at q0
                    go_simp
                    try with_reducible rfl
                  try simp only [Act.put, List.setIfInBounds_toArray, List.set_cons_zero, List.set_cons_succ]
                  refine takeH (i := 9) (d := some 54) (v := ?_) rfl rfl (by kernel_rfl) (by kernel_rfl) (by kernel_rfl) (fun _ _ _ h => h) (Or.inl ⟨by rfl, ?_⟩) (by assumption) ?_
                  rotate_left
                  · intro w hSw
                    try dsimp only at hSw
                    go_simp
                    try with_reducible rfl
                  try simp only [Act.put, List.setIfInBounds_toArray, List.set_cons_zero, List.set_cons_succ]
                  refine takeH (i := 12) (d := some 57) (v := ?_) rfl rfl (by kernel_rfl) (by kernel_rfl) (by kernel_rfl) (fun _ _ _ h => h) (Or.inl ⟨by rfl, ?_⟩) (by assumption) ?_
                  rotate_left
                  · intro w hSw
                    try dsimp only at hSw
                    go_simp
                    try with_reducible rfl
                  try simp only [Act.put, List.setIfInBounds_toArray, List.set_cons_zero, List.set_cons_succ]
                  refine takeH (i := 13) (d := some 58) (v := ?_) rfl rfl (by kernel_rfl) (by kernel_rfl) (by kernel_rfl) (fun _ _ _ h => h) (Or.inl ⟨by rfl, ?_⟩) (by assumption) ?_
                  rotate_left
                  · intro w hSw
                    try dsimp only at hSw
                    go_simp
                    try with_reducible rfl
                  try simp only [Act.put, List.setIfInBounds_toArray, List.set_cons_zero, List.set_cons_succ]
                  refine takeH (i := 14) (d := some 59) (v := ?_) rfl rfl (by kernel_rfl) (by kernel_rfl) (by kernel_rfl) (fun _ _ _ h => h) (Or.inl ⟨by rfl, ?_⟩) (by assumption) ?_
                  rotate_left
                  · intro w hSw
                    try dsimp only at hSw
                    go_simp
                    try with_reducible rfl
                  try simp only [Act.put, List.setIfInBounds_toArray, List.set_cons_zero, List.set_cons_succ]
                  refine wpAnyH_ready (rs := [0, 10]) (by kernel_rfl) (by simp) ?_
                  refine AllReadyH.cons rfl (fun K hK => ?_) ?_
                  · refine step_empty encS 4 rfl _ (by rfl) i0 _ Try.underlying30 hi0 hz0 hHeld.1 ?_
                    intro bE wE hGE hTE hLE
                    refine hK.out _ _ ?_ (fun hHeld => ?_)
                    · exact ⟨hGE.made, HBW.out.turns hGE.made (fun h => h)⟩
                    clear hK K
                    try simp only [Act.put, List.setIfInBounds_toArray, List.set_cons_zero, List.set_cons_succ]
                    clear hTE
                    refine wpAnyH_ready (rs := [4, 10]) (by kernel_rfl) (by simp) ?_
                    refine AllReadyH.cons rfl (fun K hK => ?_) ?_
                    · refine step_grow rfl _ _ _ (by rfl) i0 _ 32 Try.underlying30 hi0 hz0 hz1 hz2 rfl (by omega) encS_len encS_one (by rfl) hGE (by rfl) (SRC8.out _ hHeld.1) (by simp only [List.length_append, List.length_take, List.length_drop, List.length_nil, List.length_cons, maxLen]; omega) (by simp only [List.length_append, List.length_take, List.length_drop, List.length_nil, List.length_cons, maxLen]; omega) ?_
                      intro v1 w1 hG1 hF1 hS1 hO1
                      refine hK.out _ _ ?_ (fun hHeld => ?_)
                      · exact ⟨hG1.made, HBW.out.turns hG1.made (fun h => h)⟩
                      clear hK K
                      try simp only [Act.put, List.setIfInBounds_toArray, List.set_cons_zero, List.set_cons_succ]
                      clear hF1 hS1 hO1 hGE
                      refine wpAnyH_ready (rs := [10]) (by kernel_rfl) (by simp) ?_
                      refine AllReadyH.cons rfl (fun K hK => ?_) AllReadyH.nil
                      refine step_single rfl _ (.tmp 54) (by rfl) i0 _ Try.underlying30 hi0 hz0 (by rw [hz1]; decide) (by rw [hz1]; decide) #[.int .i64 e.task, .int .i64 0, .int .i64 0, .int .i64 e.a] (by rfl) (fillS hz1 _ _ _ _) ?_
                      intro bX wX hTX hBX hLX
                      refine hK.out _ _ ?_ (fun hHeld => ?_)
                      · exact ⟨(hHeld.1.trans hTX), HBW.out.turns (hHeld.1.trans hTX) (fun h => h)⟩
                      clear hK K
                      try simp only [Act.put, List.setIfInBounds_toArray, List.set_cons_zero, List.set_cons_succ]
                      have hBXlt := hBX.lt
                      replace hG1 := hG1.turns hTX (fun _ _ h => h) (fun _ _ h => h)
                      clear hTX
                      refine wpAnyH_ready (rs := [11]) (by kernel_rfl) (by simp) ?_
                      refine AllReadyH.cons rfl (fun K hK => ?_) AllReadyH.nil
                      refine step_grow rfl _ _ _ (by rfl) i0 _ 32 Try.underlying30 hi0 hz0 hz1 hz2 rfl (by omega) encS_len encS_one (by rfl) hG1 (by rfl) (SrcAt.block (N := [(⟨e.task, 0, 0, e.a⟩ : St)]) hBX rfl (by simp [flat, encS])) (by simp only [List.length_append, List.length_take, List.length_drop, List.length_nil, List.length_cons, maxLen]; omega) (by simp only [List.length_append, List.length_take, List.length_drop, List.length_nil, List.length_cons, maxLen]; omega) ?_
                      intro v2 w2 hG2 hF2 hS2 hO2
                      refine hK.out _ _ ?_ (fun hHeld => ?_)
                      · exact ⟨hG2.made, HBW.out.turns hG2.made (fun h => h)⟩
                      clear hK K
                      try simp only [Act.put, List.setIfInBounds_toArray, List.set_cons_zero, List.set_cons_succ]
                      clear hF2 hS2 hO2 hG1
                      refine wpAnyH_ready (rs := [15]) (by kernel_rfl) (by simp) ?_
                      refine AllReadyH.cons rfl (fun K hK => ?_) AllReadyH.nil
                      refine step_grow rfl _ _ _ (by rfl) i0 _ 32 Try.underlying30 hi0 hz0 hz1 hz2 rfl (by omega) encS_len encS_one (by rfl) hG2 (by rfl) (SRC24.out _ hHeld.1) (by simp only [List.length_append, List.length_take, List.length_drop, List.length_nil, List.length_cons, maxLen]; omega) (by simp only [List.length_append, List.length_take, List.length_drop, List.length_nil, List.length_cons, maxLen]; omega) ?_
                      intro v3 w3 hG3 hF3 hS3 hO3
                      refine hK.out _ _ ?_ (fun hHeld => ?_)
                      · exact ⟨hG3.made, HBW.out.turns hG3.made (fun h => h)⟩
                      clear hK K
                      try simp only [Act.put, List.setIfInBounds_toArray, List.set_cons_zero, List.set_cons_succ]
                      clear hF3 hS3 hO3 hG2
                      refine takeH (i := 16) (d := some 3) (v := ?_) rfl rfl (by kernel_rfl) (by kernel_rfl) (by kernel_rfl) (fun _ _ _ h => h) (Or.inl ⟨by rfl, ?_⟩) (by assumption) ?_
                      rotate_left
                      · intro w hSw
                        try dsimp only at hSw
                        go_simp
                        try with_reducible rfl
                      try simp only [Act.put, List.setIfInBounds_toArray, List.set_cons_zero, List.set_cons_succ]
                      refine wpAnyH_done (by kernel_rfl) ?_ _
                      have HG3 := Lib.hid hG3
                      clear hHeld hG3
                      try clear hHeld
                      try clear hHeld
                      try clear hHeld
                      try clear hHeld
                      try clear hHeld
                      try clear hHeld
                      go_wp2_with fail
                      go_roundw
                      case rel =>
                        refine ⟨j + 1, by omega, by go_num, ?_⟩
                        rw [HUS.out, HST.out, HI.out]
                        have h := HG3.out.rebase HWW.out
                        simpa using h
                      case measure => simp [intOf]; omega
                    refine AllReadyH.cons rfl (fun K hK => ?_) ?_
                    · refine step_single rfl _ (.tmp 54) (by rfl) i0 _ Try.underlying30 hi0 hz0 (by rw [hz1]; decide) (by rw [hz1]; decide) #[.int .i64 e.task, .int .i64 0, .int .i64 0, .int .i64 e.a] (by rfl) (fillS hz1 _ _ _ _) ?_
                      intro bX wX hTX hBX hLX
                      refine hK.out _ _ ?_ (fun hHeld => ?_)
                      · exact ⟨(hHeld.1.trans hTX), HBW.out.turns (hHeld.1.trans hTX) (fun h => h)⟩
                      clear hK K
                      try simp only [Act.put, List.setIfInBounds_toArray, List.set_cons_zero, List.set_cons_succ]
                      have hBXlt := hBX.lt
                      have hne : bE ≠ bX := by have h : bE < wE.heap.size := hGE.own.lt rfl; omega
                      replace hGE := hGE.turns hTX (fun _ _ h => h) (fun _ _ h => h)
                      clear hTX
                      refine wpAnyH_ready (rs := [4]) (by kernel_rfl) (by simp) ?_
                      refine AllReadyH.cons rfl (fun K hK => ?_) AllReadyH.nil
                      refine step_grow rfl _ _ _ (by rfl) i0 _ 32 Try.underlying30 hi0 hz0 hz1 hz2 rfl (by omega) encS_len encS_one (by rfl) hGE (by rfl) (SRC8.out _ hHeld.1) (by simp only [List.length_append, List.length_take, List.length_drop, List.length_nil, List.length_cons, maxLen]; omega) (by simp only [List.length_append, List.length_take, List.length_drop, List.length_nil, List.length_cons, maxLen]; omega) ?_
                      intro v1 w1 hG1 hF1 hS1 hO1
                      refine hK.out _ _ ?_ (fun hHeld => ?_)
                      · exact ⟨hG1.made, HBW.out.turns hG1.made (fun h => h)⟩
                      clear hK K
                      try simp only [Act.put, List.setIfInBounds_toArray, List.set_cons_zero, List.set_cons_succ]
                      replace hBX : Blk w1 bX _ _ := (hF1 bX hBX.lt (fun e => hne (by simpa [Value.ownBlock] using e))).trans hBX
                      clear hF1 hS1 hO1 hGE
                      refine wpAnyH_ready (rs := [11]) (by kernel_rfl) (by simp) ?_
                      refine AllReadyH.cons rfl (fun K hK => ?_) AllReadyH.nil
                      refine step_grow rfl _ _ _ (by rfl) i0 _ 32 Try.underlying30 hi0 hz0 hz1 hz2 rfl (by omega) encS_len encS_one (by rfl) hG1 (by rfl) (SrcAt.block (N := [(⟨e.task, 0, 0, e.a⟩ : St)]) hBX rfl (by simp [flat, encS])) (by simp only [List.length_append, List.length_take, List.length_drop, List.length_nil, List.length_cons, maxLen]; omega) (by simp only [List.length_append, List.length_take, List.length_drop, List.length_nil, List.length_cons, maxLen]; omega) ?_
                      intro v2 w2 hG2 hF2 hS2 hO2
                      refine hK.out _ _ ?_ (fun hHeld => ?_)
                      · exact ⟨hG2.made, HBW.out.turns hG2.made (fun h => h)⟩
                      clear hK K
                      try simp only [Act.put, List.setIfInBounds_toArray, List.set_cons_zero, List.set_cons_succ]
                      clear hF2 hS2 hO2 hG1
                      refine wpAnyH_ready (rs := [15]) (by kernel_rfl) (by simp) ?_
                      refine AllReadyH.cons rfl (fun K hK => ?_) AllReadyH.nil
                      refine step_grow rfl _ _ _ (by rfl) i0 _ 32 Try.underlying30 hi0 hz0 hz1 hz2 rfl (by omega) encS_len encS_one (by rfl) hG2 (by rfl) (SRC24.out _ hHeld.1) (by simp only [List.length_append, List.length_take, List.length_drop, List.length_nil, List.length_cons, maxLen]; omega) (by simp only [List.length_append, List.length_take, List.length_drop, List.length_nil, List.length_cons, maxLen]; omega) ?_
                      intro v3 w3 hG3 hF3 hS3 hO3
                      refine hK.out _ _ ?_ (fun hHeld => ?_)
                      · exact ⟨hG3.made, HBW.out.turns hG3.made (fun h => h)⟩
                      clear hK K
                      try simp only [Act.put, List.setIfInBounds_toArray, List.set_cons_zero, List.set_cons_succ]
                      clear hF3 hS3 hO3 hG2
                      refine takeH (i := 16) (d := some 3) (v := ?_) rfl rfl (by kernel_rfl) (by kernel_rfl) (by kernel_rfl) (fun _ _ _ h => h) (Or.inl ⟨by rfl, ?_⟩) (by assumption) ?_
                      rotate_left
                      · intro w hSw
                        try dsimp only at hSw
                        go_simp
                        try with_reducible rfl
                      try simp only [Act.put, List.setIfInBounds_toArray, List.set_cons_zero, List.set_cons_succ]
                      refine wpAnyH_done (by kernel_rfl) ?_ _
                      have HG3 := Lib.hid hG3
                      clear hHeld hG3
                      try clear hHeld
                      try clear hHeld
                      try clear hHeld
                      try clear hHeld
                      try clear hHeld
                      try clear hHeld
                      go_wp2_with fail
                      go_roundw
                      case rel =>
                        refine ⟨j + 1, by omega, by go_num, ?_⟩
                        rw [HUS.out, HST.out, HI.out]
                        have h := HG3.out.rebase HWW.out
                        simpa using h
                      case measure => simp [intOf]; omega
                    exact AllReadyH.nil
                  refine AllReadyH.cons rfl (fun K hK => ?_) ?_
                  · refine step_single rfl _ (.tmp 54) (by rfl) i0 _ Try.underlying30 hi0 hz0 (by rw [hz1]; decide) (by rw [hz1]; decide) #[.int .i64 e.task, .int .i64 0, .int .i64 0, .int .i64 e.a] (by rfl) (fillS hz1 _ _ _ _) ?_
                    intro bX wX hTX hBX hLX
                    refine hK.out _ _ ?_ (fun hHeld => ?_)
                    · exact ⟨(hHeld.1.trans hTX), HBW.out.turns (hHeld.1.trans hTX) (fun h => h)⟩
                    clear hK K
                    try simp only [Act.put, List.setIfInBounds_toArray, List.set_cons_zero, List.set_cons_succ]
                    have hBXlt := hBX.lt
                    clear hTX
                    refine wpAnyH_ready (rs := [0]) (by kernel_rfl) (by simp) ?_
                    refine AllReadyH.cons rfl (fun K hK => ?_) AllReadyH.nil
                    refine step_empty encS 4 rfl _ (by rfl) i0 _ Try.underlying30 hi0 hz0 hHeld.1 ?_
                    intro bE wE hGE hTE hLE
                    refine hK.out _ _ ?_ (fun hHeld => ?_)
                    · exact ⟨hGE.made, HBW.out.turns hGE.made (fun h => h)⟩
                    clear hK K
                    try simp only [Act.put, List.setIfInBounds_toArray, List.set_cons_zero, List.set_cons_succ]
                    replace hBX := hBX.turns hTE (fun h => h)
                    have hne : bE ≠ bX := by have := hLX; have := hBXlt; omega
                    clear hTE
                    refine wpAnyH_ready (rs := [4]) (by kernel_rfl) (by simp) ?_
                    refine AllReadyH.cons rfl (fun K hK => ?_) AllReadyH.nil
                    refine step_grow rfl _ _ _ (by rfl) i0 _ 32 Try.underlying30 hi0 hz0 hz1 hz2 rfl (by omega) encS_len encS_one (by rfl) hGE (by rfl) (SRC8.out _ hHeld.1) (by simp only [List.length_append, List.length_take, List.length_drop, List.length_nil, List.length_cons, maxLen]; omega) (by simp only [List.length_append, List.length_take, List.length_drop, List.length_nil, List.length_cons, maxLen]; omega) ?_
                    intro v1 w1 hG1 hF1 hS1 hO1
                    refine hK.out _ _ ?_ (fun hHeld => ?_)
                    · exact ⟨hG1.made, HBW.out.turns hG1.made (fun h => h)⟩
                    clear hK K
                    try simp only [Act.put, List.setIfInBounds_toArray, List.set_cons_zero, List.set_cons_succ]
                    replace hBX : Blk w1 bX _ _ := (hF1 bX hBX.lt (fun e => hne (by simpa [Value.ownBlock] using e))).trans hBX
                    clear hF1 hS1 hO1 hGE
                    refine wpAnyH_ready (rs := [11]) (by kernel_rfl) (by simp) ?_
                    refine AllReadyH.cons rfl (fun K hK => ?_) AllReadyH.nil
                    refine step_grow rfl _ _ _ (by rfl) i0 _ 32 Try.underlying30 hi0 hz0 hz1 hz2 rfl (by omega) encS_len encS_one (by rfl) hG1 (by rfl) (SrcAt.block (N := [(⟨e.task, 0, 0, e.a⟩ : St)]) hBX rfl (by simp [flat, encS])) (by simp only [List.length_append, List.length_take, List.length_drop, List.length_nil, List.length_cons, maxLen]; omega) (by simp only [List.length_append, List.length_take, List.length_drop, List.length_nil, List.length_cons, maxLen]; omega) ?_
                    intro v2 w2 hG2 hF2 hS2 hO2
                    refine hK.out _ _ ?_ (fun hHeld => ?_)
                    · exact ⟨hG2.made, HBW.out.turns hG2.made (fun h => h)⟩
                    clear hK K
                    try simp only [Act.put, List.setIfInBounds_toArray, List.set_cons_zero, List.set_cons_succ]
                    clear hF2 hS2 hO2 hG1
                    refine wpAnyH_ready (rs := [15]) (by kernel_rfl) (by simp) ?_
                    refine AllReadyH.cons rfl (fun K hK => ?_) AllReadyH.nil
                    refine step_grow rfl _ _ _ (by rfl) i0 _ 32 Try.underlying30 hi0 hz0 hz1 hz2 rfl (by omega) encS_len encS_one (by rfl) hG2 (by rfl) (SRC24.out _ hHeld.1) (by simp only [List.length_append, List.length_take, List.length_drop, List.length_nil, List.length_cons, maxLen]; omega) (by simp only [List.length_append, List.length_take, List.length_drop, List.length_nil, List.length_cons, maxLen]; omega) ?_
                    intro v3 w3 hG3 hF3 hS3 hO3
                    refine hK.out _ _ ?_ (fun hHeld => ?_)
                    · exact ⟨hG3.made, HBW.out.turns hG3.made (fun h => h)⟩
                    clear hK K
                    try simp only [Act.put, List.setIfInBounds_toArray, List.set_cons_zero, List.set_cons_succ]
                    clear hF3 hS3 hO3 hG2
                    refine takeH (i := 16) (d := some 3) (v := ?_) rfl rfl (by kernel_rfl) (by kernel_rfl) (by kernel_rfl) (fun _ _ _ h => h) (Or.inl ⟨by rfl, ?_⟩) (by assumption) ?_
                    rotate_left
                    · intro w hSw
                      try dsimp only at hSw
                      go_simp
                      try with_reducible rfl
                    try simp only [Act.put, List.setIfInBounds_toArray, List.set_cons_zero, List.set_cons_succ]
                    refine wpAnyH_done (by kernel_rfl) ?_ _
                    have HG3 := Lib.hid hG3
                    clear hHeld hG3
                    try clear hHeld
                    try clear hHeld
                    try clear hHeld
                    try clear hHeld
                    try clear hHeld
                    try clear hHeld
                    go_wp2_with fail
                    go_roundw
                    case rel =>
                      refine ⟨j + 1, by omega, by go_num, ?_⟩
                      rw [HUS.out, HST.out, HI.out]
                      have h := HG3.out.rebase HWW.out
                      simpa using h
                    case measure => simp [intOf]; omega
                  exact AllReadyH.nil
        · have hb5 : (e.kind == 5) = false := by simp [h5]
          have HST := Lib.hid (show stepM ys e = ys by unfold stepM; rw [if_neg h5, updT_none HNO.out])
          clear h5
          go_wp2_with fail
          go_roundw
          case rel => exact ⟨j + 1, by omega, by go_num, by rw [HUS.out, HST.out]; exact HG1.out⟩
          case measure => simp [intOf]; omega
    · have j2 : ¬ (j : Int) < (len : Int) := by omega
      have HAL := Lib.hid (HALL.out (by have := HW.out.1; omega))
      clear HALL HUS0
      go_wp2_with fail
      go_ret
      exact ⟨_, rfl, by rw [← HAL.out]; exact HG.out⟩
end Go.Proofs.Ytjcmmgjaopejgaa
