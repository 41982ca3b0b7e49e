/-
  Contract of package heap: down.
-/
import Derived.Test.YtgjgopcomgclkaaHpN
import Derived.Test.YtgjgopcomgclkaaHpU
namespace Go.Proofs.Ytgjgopcomgclkaa
open Go.RowKit
set_option linter.unusedVariables false
set_option linter.unusedSimpArgs false

theorem hmn2 (k k' : IntKind) (x y : Int) : Builtin.min2 (.int k x) (.int k' y) = pure (.int k (if y < x then y else x)) := by simp only [Builtin.min2]
theorem hmn_two (ats : Array TypeId) (ty : TypeId) (a b : Value) : Builtin.min_ ats ty #[a, b] = (Builtin.min2 a b >>= fun s => pure s) := by simp only [Builtin.min_, List.foldlM_cons, List.foldlM_nil]
attribute [local go_sem] hmn2 hmn_two

set_option maxHeartbeats 4000000 in
set_option maxRecDepth 100000 in
theorem down_c (p mb : Nat) (lv : Value) (sq : Int) (ys : List It) (f : Int → Option Value) (i : Nat) (x : It) (w : World) (h : HRaw w p mb lv sq ys f) (hx : ys[i]? = some x) (hu : Uniq ys) (hp : PosOK (upd f x.id (.int .i64 i)) ys) (hn : ys.length ≤ 1000000) :
    Calls Try.prog 54 #[.pointer (some ⟨p, 0, none⟩), .int .i64 i] w fun e w' => (∃ v, e = .returned v) ∧ (∃ f', HRaw w' p mb lv sq (downL ys i) f' ∧ PosOK f' (downL ys i)) ∧ Turns (fun k => lv.ownBlock = some k ∨ k = mb) w w' := by
  have hi := (List.getElem?_eq_some_iff.1 hx).1
  rcases h.own.form with ⟨_, h0⟩ | ⟨g, cap, rfl, hg, hlc, hcm⟩
  · subst h0; simp at hi
  have c0 := h.blk.cell 0
  simp only [List.getElem?_toArray, List.getElem?_cons_zero] at c0
  have e0 : w.cell? ⟨g, i * 3, none⟩ = some (.int .i64 x.id) := Owns.cell encT_len h.own hx (j := 0) rfl
  have e1 : w.cell? ⟨g, i * 3 + 1, none⟩ = some (.int .i64 x.when) := Owns.cell encT_len h.own hx (j := 1) rfl
  have e2 : w.cell? ⟨g, i * 3 + 2, none⟩ = some (.int .i64 x.seq) := Owns.cell encT_len h.own hx (j := 2) rfl
  have i1 : (0 : Int) ≤ (i : Int) := Int.natCast_nonneg _
  have i2 : (i : Int) < (ys.length : Int) := by omega
  have HH := Lib.hid h
  have HX := Lib.hid hx
  have HU := Lib.hid hu
  have HP := Lib.hid hp
  have hpl := h.blk.lt
  have hml := h.map.lt
  clear h hx hu hp
  go_enter Try.func54, Try.ntmps54
  go_wp2_with fail
  have hB : Blk (w.alloc (.cells (encT x).toArray 30)) w.heap.size 30 (encT x).toArray := Blk.new w _ _
  have hM : Made w (w.alloc (.cells (encT x).toArray 30)) := (Turns.refl _ _).alloc _
  unfold encT at hB hM
  generalize (w.alloc (.cells [.int .i64 x.id, .int .i64 x.when, .int .i64 x.seq].toArray 30)) = W at *
  generalize hbe : w.heap.size = bx at *
  have HB := Lib.hid hB
  have HM := Lib.hid hM
  have HBE := Lib.hid hbe
  clear hB hM hbe c0 e0 e1 e2 i1 i2
  go_loopw [1] (fun v1 wr => ∃ (j : Nat) (yy : List It) (f' : Int → Option Value), v1 = .int .i64 j ∧ HRaw wr p mb (.slice (some ⟨g, 0, none⟩) ys.length cap) sq yy f' ∧ yy.length = ys.length ∧ (yy.set j x)[j]? = some x ∧ Uniq (yy.set j x) ∧ PosOK (upd f' x.id (.int .i64 j)) (yy.set j x) ∧ downL (yy.set j x) j = downL ys i ∧ Blk wr bx 30 (encT x).toArray ∧ Turns (fun k => k = g ∨ k = mb) w wr) (fun v1 _ => ys.length - (intOf v1).toNat)
  case atStart =>
    have hs : ys.set i x = ys := by
      obtain ⟨_, hh⟩ := List.getElem?_eq_some_iff.1 HX.out
      rw [← hh]; exact List.set_getElem_self hi
    refine ⟨i, ys, f, rfl, HH.out.made HM.out, rfl, ?_, ?_, ?_, ?_, HB.out, HM.out.mono (fun _ _ h => h.elim)⟩
    · rw [hs]; exact HX.out
    · rw [hs]; exact HU.out
    · rw [hs]; exact HP.out
    · rw [hs]
  case round =>
    obtain ⟨j, yy, f', rfl, hr, hyl, hjx, huj, hpj, hup, hbj, htj⟩ := hrel
    have hjl : j < yy.length := by have := (List.getElem?_eq_some_iff.1 hjx).1; rwa [List.length_set] at this
    have c0 := hr.blk.cell 0
    simp only [List.getElem?_toArray, List.getElem?_cons_zero] at c0
    have hsl : (yy.set j x).length = yy.length := List.length_set
    have HR := Lib.hid hr
    have HYL := Lib.hid hyl
    have HJX := Lib.hid hjx
    have HUJ := Lib.hid huj
    have HPJ := Lib.hid hpj
    have HUP := Lib.hid hup
    have HBJ := Lib.hid hbj
    have HTJ := Lib.hid htj
    have HSL := Lib.hid hsl
    clear hr hyl hjx huj hpj hup hbj htj HH HX HU HP HB HM hsl
    have i1 : (0 : Int) ≤ (j : Int) := Int.natCast_nonneg _
    have hjy : j < ys.length := by have := HYL.out; omega
    have i2 : (j : Int) < (ys.length : Int) := by omega
    have i3 : (j : Int) ≤ 1000000 := by omega
    by_cases hend : ¬ 4 * j + 1 < ys.length
    · have hq : (ys.length : Int) ≤ 4 * (j : Int) + 1 := by omega
      have b0 := HBJ.out.cell 0
      have b1 := HBJ.out.cell 1
      have b2 := HBJ.out.cell 2
      simp only [encT, List.getElem?_toArray, List.getElem?_cons_zero, List.getElem?_cons_succ] at b0 b1 b2
      go_wp2_with fail
      refine (put_c p mb _ sq yy f' j x wr HR.out hjl).mono ?_
      rintro e w2 ⟨⟨v, rfl⟩, hraw2, ht2⟩
      have HR4 := Lib.hid hraw2
      have HT4 := Lib.hid ht2
      clear hraw2 ht2 b0 b1 b2 c0
      go_wp2_with fail
      go_end0
      have hst := downL_end (zs := yy.set j x) (i := j) (by rw [HSL.out, HYL.out]; exact hend)
      rw [HUP.out] at hst
      refine ⟨⟨_, rfl⟩, ⟨_, by rw [hst]; exact HR4.out, by rw [hst]; exact HPJ.out⟩, ?_⟩
      refine (HTJ.out.mono (fun b _ h => ?_)).then HT4.out (fun b _ h => h)
      rcases h with h | h
      · exact .inl (by rw [h]; rfl)
      · exact .inr h
    · have hend' : 4 * j + 1 < ys.length := by omega
      have hq : 4 * (j : Int) + 1 < (ys.length : Int) := by omega
      clear hend
      have hkd : kids ys.length j = min (4 * j + 5) ys.length - (4 * j + 2) := rfl
      obtain ⟨kd, hkd0⟩ : ∃ kd, kids ys.length j = kd := ⟨_, rfl⟩
      rw [hkd0] at hkd
      have HKD := Lib.hid hkd0
      have HKE := Lib.hid hkd
      have hkd1 : kd ≤ 3 := by omega
      have hkd2 : 4 * j + 1 + kd < ys.length := by omega
      clear hkd hkd0
      go_wp2_with fail
      generalize hww : wr = w1 at *
      clear hww
      go_loopw [6, 7] (fun v6 v7 wx => ∃ m : Nat, m ≤ kd ∧ v7 = .int .i64 ((4 * j + 2 + m : Nat) : Int) ∧ v6 = .int .i64 ((leastC yy (4 * j + 1) m : Nat) : Int) ∧ Made w1 wx) (fun _ v7 _ => 4 * j + 2 + kd - (intOf v7).toNat)
      case atStart => exact ⟨0, Nat.zero_le _, by go_num, by simp [leastC], Turns.refl _ _⟩
      case round =>
        obtain ⟨m, hm, rfl, rfl, hmw⟩ := hrel
        have hin := leastC_in yy (4 * j + 1) m
        have HRw := Lib.hid (HR.out.made hmw)
        have HMW := Lib.hid hmw
        have c1 := HRw.out.blk.cell 0
        simp only [List.getElem?_toArray, List.getElem?_cons_zero] at c1
        clear hmw c0
        obtain ⟨K, hK⟩ : ∃ K, 4 * j + 2 + m = K := ⟨_, rfl⟩
        rw [hK]
        by_cases hmk : m < kd
        · have hKn : K < ys.length := by omega
          have hK5 : K < 4 * j + 5 := by have := HKE.out; omega
          obtain ⟨u, hu⟩ := get_of_lt (xs := yy) (k := K) (by have := HYL.out; omega)
          obtain ⟨v, hv⟩ := get_of_lt (xs := yy) (k := leastC yy (4 * j + 1) m) (by have := HYL.out; omega)
          have hls := leastC_succ (zs := yy) (first := 4 * j + 1) (m := m) (u := u) (v := v) (by rw [show 4 * j + 1 + 1 + m = K from by omega]; exact hu) hv
          rw [show 4 * j + 1 + 1 + m = K from by omega] at hls
          generalize hL : leastC yy (4 * j + 1) m = L at *
          generalize hL' : leastC yy (4 * j + 1) (m + 1) = L' at *
          have HL' := Lib.hid hL'
          have HLS := Lib.hid hls
          have HKK := Lib.hid hK
          have HUU := Lib.hid hu
          have HVV := Lib.hid hv
          have hL5 : L < ys.length := by omega
          clear hL hL' hls hK hu hv
          have k1 : (0 : Int) ≤ (K : Int) := Int.natCast_nonneg _
          have k2 : (K : Int) < (ys.length : Int) := by omega
          have k3 : (K : Int) < 4 * (j : Int) + 1 + 4 := by omega
          have k4 : (0 : Int) ≤ (L : Int) := Int.natCast_nonneg _
          have k5 : (L : Int) < (ys.length : Int) := by omega
          obtain ⟨r, hr⟩ : ∃ r, cmpT u v = r := ⟨_, rfl⟩
          have hrl := cmpT_lt u v
          rw [hr] at hrl
          have HRL := Lib.hid hrl
          have HAH := Lib.hid (fun (w' : World) => (by have := ahead_c u v w'; rw [hr] at this; exact this : Calls Try.prog 56 #[aggT u, aggT v] w' fun e w2 => e = .returned (.int .i64 r) ∧ Made w' w2))
          clear hr hrl
          by_cases hsm : (ys.length : Int) < 4 * (j : Int) + 1 + 4
          all_goals
            go_wp2_with fail
            refine wp_region_held_drew (S := (fun w' => Made wr w')) (by kernel_rfl) ?_ (fun hHeld => ?_)
            · exact (Turns.refl _ _).drew
            refine takeH (i := 0) (d := some 40) (v := ?_) rfl rfl (by kernel_rfl) (by kernel_rfl) (by kernel_rfl) (fun _ _ _ h => h) (Or.inl ⟨by rfl, ?_⟩) (by assumption) ?_
            rotate_left
            · intro w hSw
              try dsimp only at hSw
              go_simp
              try with_reducible rfl
            try simp only [Act.put, List.setIfInBounds_toArray, List.set_cons_zero, List.set_cons_succ]
            refine takeH (i := 1) (d := some 41) (v := ?_) rfl rfl (by kernel_rfl) (by kernel_rfl) (by kernel_rfl) (fun _ _ _ h => h) (Or.inl ⟨by rfl, ?_⟩) (by assumption) ?_
            rotate_left
            · intro w hSw
              try dsimp only at hSw
              go_simp
              try with_reducible rfl
            try simp only [Act.put, List.setIfInBounds_toArray, List.set_cons_zero, List.set_cons_succ]
            refine takeH (i := 2) (d := some 42) (v := ?_) rfl rfl (by kernel_rfl) (by kernel_rfl) (by kernel_rfl) (fun _ _ _ h => h) (Or.inl ⟨by rfl, ?_⟩) (by assumption) ?_
            rotate_left
            · intro w hSw
              try dsimp only at hSw
              go_simp
              try with_reducible rfl
            try simp only [Act.put, List.setIfInBounds_toArray, List.set_cons_zero, List.set_cons_succ]
            refine takeH (i := 3) (d := some 43) (v := ?_) rfl rfl (by kernel_rfl) (by kernel_rfl) (by kernel_rfl) (fun _ _ _ h => h) (Or.inl ⟨by rfl, ?_⟩) (by assumption) ?_
            rotate_left
            · intro w hSw
              try dsimp only at hSw
              have hb2 := HRw.out.blk.turns hSw (fun h => h)
              have d0 := hb2.cell 0
              simp only [List.getElem?_toArray, List.getElem?_cons_zero] at d0
              clear hb2
              go_simp
              try with_reducible rfl
            try simp only [Act.put, List.setIfInBounds_toArray, List.set_cons_zero, List.set_cons_succ]
            refine takeH (i := 4) (d := some 44) (v := ?_) rfl rfl (by kernel_rfl) (by kernel_rfl) (by kernel_rfl) (fun _ _ _ h => h) (Or.inl ⟨by rfl, ?_⟩) (by assumption) ?_
            rotate_left
            · intro w hSw
              try dsimp only at hSw
              go_simp
              try with_reducible rfl
            try simp only [Act.put, List.setIfInBounds_toArray, List.set_cons_zero, List.set_cons_succ]
            refine takeH (i := 5) (d := some 45) (v := ?_) rfl rfl (by kernel_rfl) (by kernel_rfl) (by kernel_rfl) (fun _ _ _ h => h) (Or.inl ⟨by rfl, ?_⟩) (by assumption) ?_
            rotate_left
            · intro w hSw
              try dsimp only at hSw
              go_simp
              try with_reducible rfl
            try simp only [Act.put, List.setIfInBounds_toArray, List.set_cons_zero, List.set_cons_succ]
            refine takeH (i := 6) (d := some 46) (v := ?_) rfl rfl (by kernel_rfl) (by kernel_rfl) (by kernel_rfl) (fun _ _ _ h => h) (Or.inl ⟨by rfl, ?_⟩) (by assumption) ?_
            rotate_left
            · intro w hSw
              try dsimp only at hSw
              have hb2 := (HRw.out.made hSw).own
              rw [← HYL.out] at hb2
              have d0 := Owns.cell encT_len hb2 HUU.out (j := 0) rfl
              have d1 := Owns.cell encT_len hb2 HUU.out (j := 1) rfl
              have d2 := Owns.cell encT_len hb2 HUU.out (j := 2) rfl
              simp only [Nat.add_zero] at d0
              clear hb2
              go_simp
              try with_reducible rfl
            try simp only [Act.put, List.setIfInBounds_toArray, List.set_cons_zero, List.set_cons_succ]
            refine takeH (i := 7) (d := some 47) (v := ?_) rfl rfl (by kernel_rfl) (by kernel_rfl) (by kernel_rfl) (fun _ _ _ h => h) (Or.inl ⟨by rfl, ?_⟩) (by assumption) ?_
            rotate_left
            · intro w hSw
              try dsimp only at hSw
              go_simp
              try with_reducible rfl
            try simp only [Act.put, List.setIfInBounds_toArray, List.set_cons_zero, List.set_cons_succ]
            refine takeH (i := 8) (d := some 48) (v := ?_) rfl rfl (by kernel_rfl) (by kernel_rfl) (by kernel_rfl) (fun _ _ _ h => h) (Or.inl ⟨by rfl, ?_⟩) (by assumption) ?_
            rotate_left
            · intro w hSw
              try dsimp only at hSw
              go_simp
              try with_reducible rfl
            try simp only [Act.put, List.setIfInBounds_toArray, List.set_cons_zero, List.set_cons_succ]
            refine takeH (i := 9) (d := some 49) (v := ?_) rfl rfl (by kernel_rfl) (by kernel_rfl) (by kernel_rfl) (fun _ _ _ h => h) (Or.inl ⟨by rfl, ?_⟩) (by assumption) ?_
            rotate_left
            · intro w hSw
              try dsimp only at hSw
              go_simp
              try with_reducible rfl
            try simp only [Act.put, List.setIfInBounds_toArray, List.set_cons_zero, List.set_cons_succ]
            refine takeH (i := 10) (d := some 50) (v := ?_) rfl rfl (by kernel_rfl) (by kernel_rfl) (by kernel_rfl) (fun _ _ _ h => h) (Or.inl ⟨by rfl, ?_⟩) (by assumption) ?_
            rotate_left
            · intro w hSw
              try dsimp only at hSw
              have hb2 := HRw.out.blk.turns hSw (fun h => h)
              have d0 := hb2.cell 0
              simp only [List.getElem?_toArray, List.getElem?_cons_zero] at d0
              clear hb2
              go_simp
              try with_reducible rfl
            try simp only [Act.put, List.setIfInBounds_toArray, List.set_cons_zero, List.set_cons_succ]
            refine takeH (i := 11) (d := some 51) (v := ?_) rfl rfl (by kernel_rfl) (by kernel_rfl) (by kernel_rfl) (fun _ _ _ h => h) (Or.inl ⟨by rfl, ?_⟩) (by assumption) ?_
            rotate_left
            · intro w hSw
              try dsimp only at hSw
              go_simp
              try with_reducible rfl
            try simp only [Act.put, List.setIfInBounds_toArray, List.set_cons_zero, List.set_cons_succ]
            refine takeH (i := 12) (d := some 52) (v := ?_) rfl rfl (by kernel_rfl) (by kernel_rfl) (by kernel_rfl) (fun _ _ _ h => h) (Or.inl ⟨by rfl, ?_⟩) (by assumption) ?_
            rotate_left
            · intro w hSw
              try dsimp only at hSw
              go_simp
              try with_reducible rfl
            try simp only [Act.put, List.setIfInBounds_toArray, List.set_cons_zero, List.set_cons_succ]
            refine takeH (i := 13) (d := some 53) (v := ?_) rfl rfl (by kernel_rfl) (by kernel_rfl) (by kernel_rfl) (fun _ _ _ h => h) (Or.inl ⟨by rfl, ?_⟩) (by assumption) ?_
            rotate_left
            · intro w hSw
              try dsimp only at hSw
              have hb2 := (HRw.out.made hSw).own
              rw [← HYL.out] at hb2
              have d0 := Owns.cell encT_len hb2 HVV.out (j := 0) rfl
              have d1 := Owns.cell encT_len hb2 HVV.out (j := 1) rfl
              have d2 := Owns.cell encT_len hb2 HVV.out (j := 2) rfl
              simp only [Nat.add_zero] at d0
              clear hb2
              go_simp
              try with_reducible rfl
            try simp only [Act.put, List.setIfInBounds_toArray, List.set_cons_zero, List.set_cons_succ]
            refine wpAnyH_ready (rs := [14]) (by kernel_rfl) (by simp) ?_
            refine AllReadyH.cons rfl (fun K hK => ?_) AllReadyH.nil
            go_simp
            refine (HAH.out _).mono ?_
            rintro e w' ⟨rfl, hm'⟩
            go_wp2_with fail
            refine hK.out _ _ ?_ (fun hHeld => ?_)
            · exact Turns.trans hHeld hm'
            clear hK K
            try simp only [Act.put, List.setIfInBounds_toArray, List.set_cons_zero, List.set_cons_succ]
            refine takeH (i := 15) (d := some 55) (v := ?_) rfl rfl (by kernel_rfl) (by kernel_rfl) (by kernel_rfl) (fun _ _ _ h => h) (Or.inl ⟨by rfl, ?_⟩) (by assumption) ?_
            rotate_left
            · intro w hSw
              try dsimp only at hSw
              go_simp
              try with_reducible rfl
            try simp only [Act.put, List.setIfInBounds_toArray, List.set_cons_zero, List.set_cons_succ]
            refine wpAnyH_done (by kernel_rfl) ?_ _
            have HMX := Lib.hid (Turns.trans HMW.out hHeld)
            clear hHeld
            try clear hHeld
            by_cases hr0 : r < 0
            · have hlt := HRL.out.mp hr0
              have hL2 : L' = K := by rw [HLS.out, if_pos hlt]
              clear hlt
              go_wp2_with fail
              go_roundw
              case rel => exact ⟨m + 1, by omega, by have := HKK.out; go_num, by rw [HL'.out, hL2], HMX.out⟩
              case measure => have := HKK.out; simp [intOf]; omega
            · have hlt := fun h => hr0 (HRL.out.mpr h)
              have hL2 : L' = L := by rw [HLS.out, if_neg hlt]
              clear hlt
              go_wp2_with fail
              go_roundw
              case rel => exact ⟨m + 1, by omega, by have := HKK.out; go_num, by rw [HL'.out, hL2], HMX.out⟩
              case measure => have := HKK.out; simp [intOf]; omega
        · obtain rfl : m = kd := by omega
          have hL1 : leastC yy (4 * j + 1) m = leastK (yy.set j x) j := by
            unfold leastK
            rw [HSL.out, HYL.out, HKD.out, leastC_set _ _ _ _ (by omega)]
          rw [hL1]
          have hLin := leastK_in (zs := yy.set j x) (i := j) (by rw [HSL.out, HYL.out]; exact hend')
          rw [HSL.out, HYL.out] at hLin
          generalize hL : leastK (yy.set j x) j = L at *
          have HLL := Lib.hid hL
          clear hL hL1 hin
          obtain ⟨hLa, hLb, hLc⟩ := hLin
          obtain ⟨y, hy⟩ := get_of_lt (xs := yy) (k := L) (by have := HYL.out; omega)
          have hyz : (yy.set j x)[L]? = some y := by rw [List.getElem?_set_ne (by omega)]; exact hy
          have HY := Lib.hid hy
          have HYZ := Lib.hid hyz
          clear hy hyz
          have hKv : K = 4 * j + 2 + m := hK.symm
          have hKe : K = min (4 * j + 5) ys.length := by have := HKE.out; omega
          clear hK
          have k1 : (0 : Int) ≤ (L : Int) := Int.natCast_nonneg _
          have k2 : (L : Int) < (ys.length : Int) := by omega
          obtain ⟨r, hr⟩ : ∃ r, cmpT x y = r := ⟨_, rfl⟩
          have hrl := cmpT_lt x y
          rw [hr] at hrl
          have HRL := Lib.hid hrl
          have HAH := Lib.hid (fun (w' : World) => (by have := ahead_c x y w'; rw [hr] at this; exact this : Calls Try.prog 56 #[aggT x, aggT y] w' fun e w2 => e = .returned (.int .i64 r) ∧ Made w' w2))
          clear hr hrl
          have HBW := Lib.hid (Blk.turns HBJ.out HMW.out (fun h => h))
          have hsm' : ¬ ((K : Int) < if (ys.length : Int) < 4 * (j : Int) + 1 + 4 then (ys.length : Int) else 4 * (j : Int) + 1 + 4) := by
            split <;> omega
          by_cases hsm : (ys.length : Int) < 4 * (j : Int) + 1 + 4
          all_goals
            go_wp2_with fail
            refine wp_region_held_drew (S := (fun w' => Made wr w')) (by kernel_rfl) ?_ (fun hHeld => ?_)
            · exact (Turns.refl _ _).drew
            refine takeH (i := 0) (d := some 57) (v := ?_) rfl rfl (by kernel_rfl) (by kernel_rfl) (by kernel_rfl) (fun _ _ _ h => h) (Or.inl ⟨by rfl, ?_⟩) (by assumption) ?_
            rotate_left
            · intro w hSw
              try dsimp only at hSw
              have hb2 := Blk.turns HBW.out hSw (fun h => h)
              have d0 := hb2.cell 0
              have d1 := hb2.cell 1
              have d2 := hb2.cell 2
              simp only [encT, List.getElem?_toArray, List.getElem?_cons_zero, List.getElem?_cons_succ] at d0 d1 d2
              clear hb2
              go_simp
              try with_reducible rfl
            try simp only [Act.put, List.setIfInBounds_toArray, List.set_cons_zero, List.set_cons_succ]
            refine takeH (i := 1) (d := some 58) (v := ?_) rfl rfl (by kernel_rfl) (by kernel_rfl) (by kernel_rfl) (fun _ _ _ h => h) (Or.inl ⟨by rfl, ?_⟩) (by assumption) ?_
            rotate_left
            · intro w hSw
              try dsimp only at hSw
              go_simp
              try with_reducible rfl
            try simp only [Act.put, List.setIfInBounds_toArray, List.set_cons_zero, List.set_cons_succ]
            refine takeH (i := 2) (d := some 59) (v := ?_) rfl rfl (by kernel_rfl) (by kernel_rfl) (by kernel_rfl) (fun _ _ _ h => h) (Or.inl ⟨by rfl, ?_⟩) (by assumption) ?_
            rotate_left
            · intro w hSw
              try dsimp only at hSw
              go_simp
              try with_reducible rfl
            try simp only [Act.put, List.setIfInBounds_toArray, List.set_cons_zero, List.set_cons_succ]
            refine takeH (i := 3) (d := some 60) (v := ?_) rfl rfl (by kernel_rfl) (by kernel_rfl) (by kernel_rfl) (fun _ _ _ h => h) (Or.inl ⟨by rfl, ?_⟩) (by assumption) ?_
            rotate_left
            · intro w hSw
              try dsimp only at hSw
              go_simp
              try with_reducible rfl
            try simp only [Act.put, List.setIfInBounds_toArray, List.set_cons_zero, List.set_cons_succ]
            refine takeH (i := 4) (d := some 61) (v := ?_) rfl rfl (by kernel_rfl) (by kernel_rfl) (by kernel_rfl) (fun _ _ _ h => h) (Or.inl ⟨by rfl, ?_⟩) (by assumption) ?_
            rotate_left
            · intro w hSw
              try dsimp only at hSw
              have hb2 := HRw.out.blk.turns hSw (fun h => h)
              have d0 := hb2.cell 0
              simp only [List.getElem?_toArray, List.getElem?_cons_zero] at d0
              clear hb2
              go_simp
              try with_reducible rfl
            try simp only [Act.put, List.setIfInBounds_toArray, List.set_cons_zero, List.set_cons_succ]
            refine takeH (i := 5) (d := some 62) (v := ?_) rfl rfl (by kernel_rfl) (by kernel_rfl) (by kernel_rfl) (fun _ _ _ h => h) (Or.inl ⟨by rfl, ?_⟩) (by assumption) ?_
            rotate_left
            · intro w hSw
              try dsimp only at hSw
              go_simp
              try with_reducible rfl
            try simp only [Act.put, List.setIfInBounds_toArray, List.set_cons_zero, List.set_cons_succ]
            refine takeH (i := 6) (d := some 63) (v := ?_) rfl rfl (by kernel_rfl) (by kernel_rfl) (by kernel_rfl) (fun _ _ _ h => h) (Or.inl ⟨by rfl, ?_⟩) (by assumption) ?_
            rotate_left
            · intro w hSw
              try dsimp only at hSw
              go_simp
              try with_reducible rfl
            try simp only [Act.put, List.setIfInBounds_toArray, List.set_cons_zero, List.set_cons_succ]
            refine takeH (i := 7) (d := some 64) (v := ?_) rfl rfl (by kernel_rfl) (by kernel_rfl) (by kernel_rfl) (fun _ _ _ h => h) (Or.inl ⟨by rfl, ?_⟩) (by assumption) ?_
            rotate_left
            · intro w hSw
              try dsimp only at hSw
              have hb2 := (HRw.out.made hSw).own
              rw [← HYL.out] at hb2
              have d0 := Owns.cell encT_len hb2 HY.out (j := 0) rfl
              have d1 := Owns.cell encT_len hb2 HY.out (j := 1) rfl
              have d2 := Owns.cell encT_len hb2 HY.out (j := 2) rfl
              simp only [Nat.add_zero] at d0
              clear hb2
              go_simp
              try with_reducible rfl
            try simp only [Act.put, List.setIfInBounds_toArray, List.set_cons_zero, List.set_cons_succ]
            refine wpAnyH_ready (rs := [8]) (by kernel_rfl) (by simp) ?_
            refine AllReadyH.cons rfl (fun K hK => ?_) AllReadyH.nil
            go_simp
            refine (HAH.out _).mono ?_
            rintro e w' ⟨rfl, hm'⟩
            go_wp2_with fail
            refine hK.out _ _ ?_ (fun hHeld => ?_)
            · exact Turns.trans hHeld hm'
            clear hK K
            try simp only [Act.put, List.setIfInBounds_toArray, List.set_cons_zero, List.set_cons_succ]
            refine takeH (i := 9) (d := some 66) (v := ?_) rfl rfl (by kernel_rfl) (by kernel_rfl) (by kernel_rfl) (fun _ _ _ h => h) (Or.inl ⟨by rfl, ?_⟩) (by assumption) ?_
            rotate_left
            · intro w hSw
              try dsimp only at hSw
              go_simp
              try with_reducible rfl
            try simp only [Act.put, List.setIfInBounds_toArray, List.set_cons_zero, List.set_cons_succ]
            refine wpAnyH_done (by kernel_rfl) ?_ _
            have hrw := HRw.out.made hHeld
            have d0 := hrw.blk.cell 0
            simp only [List.getElem?_toArray, List.getElem?_cons_zero] at d0
            have HT3 := Lib.hid (Turns.then (Turns.then HTJ.out HMW.out (fun _ _ h => h.elim)) hHeld (fun _ _ h => h.elim))
            have HB3 := Lib.hid (Blk.turns HBW.out hHeld (fun h => h))
            by_cases hr0 : r < 0
            · have HLT := Lib.hid (HRL.out.mp hr0)
              have b0 := HB3.out.cell 0
              have b1 := HB3.out.cell 1
              have b2 := HB3.out.cell 2
              simp only [encT, List.getElem?_toArray, List.getElem?_cons_zero, List.getElem?_cons_succ] at b0 b1 b2
              have HR3 := Lib.hid hrw
              clear hrw hHeld d0
              try clear hHeld
              go_wp2_with fail
              refine (put_c p mb _ sq yy f' j x w' HR3.out hjl).mono ?_
              rintro e w2 ⟨⟨v, rfl⟩, hraw2, ht2⟩
              have HR4 := Lib.hid hraw2
              have HT4 := Lib.hid ht2
              clear hraw2 ht2 b0 b1 b2
              go_wp2_with fail
              go_end0
              have hst := downL_stop (zs := yy.set j x) (i := j) (by rw [HSL.out, HYL.out]; exact hend') HJX.out (by rw [HLL.out]; exact HYZ.out) HLT.out
              rw [HUP.out] at hst
              refine ⟨⟨_, rfl⟩, ⟨_, by rw [hst]; exact HR4.out, by rw [hst]; exact HPJ.out⟩, ?_⟩
              refine (HT3.out.mono (fun b _ h => ?_)).then HT4.out (fun b _ h => h)
              rcases h with h | h
              · exact .inl (by rw [h]; rfl)
              · exact .inr h
            · have HLT := Lib.hid (fun h => hr0 (HRL.out.mpr h))
              have hb2 := hrw.own
              rw [← HYL.out] at hb2
              have k0 := Owns.cell encT_len hb2 HY.out (j := 0) rfl
              have k1 := Owns.cell encT_len hb2 HY.out (j := 1) rfl
              have k2 := Owns.cell encT_len hb2 HY.out (j := 2) rfl
              simp only [Nat.add_zero] at k0
              have HR3 := Lib.hid hrw
              clear hb2 hrw hHeld
              try clear hHeld
              have k4 : (0 : Int) ≤ (L : Int) := Int.natCast_nonneg _
              have k5 : (L : Int) < (ys.length : Int) := by omega
              go_wp2_with fail
              refine (put_c p mb _ sq yy f' j y w' HR3.out hjl).mono ?_
              rintro e w2 ⟨⟨v, rfl⟩, hraw2, ht2⟩
              have HR4 := Lib.hid hraw2
              have HT4 := Lib.hid ht2
              clear hraw2 ht2 d0 k0 k1 k2
              go_wp2_with fail
              go_roundw
              case rel =>
                have hsw : (yy.set j y).set L x = swp (yy.set j x) j L x y := by unfold swp; rw [List.set_set]
                refine ⟨L, yy.set j y, _, by first | rfl | go_num, HR4.out, by rw [List.length_set]; exact HYL.out, ?_, ?_, ?_, ?_, HB3.out.turns HT4.out ?_, ?_⟩
                · rw [hsw, swp_get HJX.out HYZ.out (by omega), if_pos rfl]
                · rw [hsw]; exact HUJ.out.swp HJX.out HYZ.out (by omega)
                · rw [hsw]; exact HPJ.out.swp HUJ.out HJX.out HYZ.out (by omega)
                · have hgo := downL_go (zs := yy.set j x) (i := j) (by rw [HSL.out, HYL.out]; exact hend') HJX.out (by rw [HLL.out]; exact HYZ.out) HLT.out
                  rw [HLL.out] at hgo
                  rw [hsw, ← hgo]; exact HUP.out
                · rintro (h | h)
                  · simp only [Value.ownBlock, Option.some.injEq] at h; omega
                  · omega
                · refine HT3.out.then HT4.out (fun b _ h => ?_)
                  rcases h with h | h
                  · simp only [Value.ownBlock, Option.some.injEq] at h; exact .inl h.symm
                  · exact .inr h
              case measure => simp [intOf]; omega
end Go.Proofs.Ytgjgopcomgclkaa
