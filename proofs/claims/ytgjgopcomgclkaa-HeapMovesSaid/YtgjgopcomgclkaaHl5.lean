/-
  tarpaulinlaw11.HeapMoves: its walk.
-/
import Derived.Test.YtgjgopcomgclkaaHm
import Derived.Test.YtgjgopcomgclkaaAll
namespace Go.Proofs.Ytgjgopcomgclkaa
open Go.RowKit
set_option linter.unusedVariables false
set_option linter.unusedSimpArgs false

/-- Two heaps, apart. -/
structure Two (w0 w : World) (p1 : Nat) (F1 : Nat → Prop) (L1 : List It) (s1 : Int) (p2 : Nat) (F2 : Nat → Prop) (L2 : List It) (s2 : Int) : Prop where
  h1 : HeapAt w p1 F1 L1 s1
  h2 : HeapAt w p2 F2 L2 s2
  dis : ∀ k, F1 k → ¬ F2 k
  m : Made w0 w
  f1 : ∀ k, F1 k → w0.heap.size ≤ k
  f2 : ∀ k, F2 k → w0.heap.size ≤ k
theorem Two.step1 {w0 w w' : World} {p1 p2 : Nat} {F1 F1' F2 : Nat → Prop} {L1 L1' L2 : List It} {s1 s1' s2 : Int} (h : Two w0 w p1 F1 L1 s1 p2 F2 L2 s2) (hh : HeapAt w' p1 F1' L1' s1') (s : Stp w w' F1 F1') : Two w0 w' p1 F1' L1' s1' p2 F2 L2 s2 :=
  ⟨hh, h.h2.turns s.t (fun k hk hf => h.dis k hf hk), fun k hk hf => (s.f k hk).elim (fun h2 => h.dis k h2 hf) (fun h2 => by have := h.h2.fb k hf; omega), h.m.then s.t (fun b hb hf => by have := h.f1 b hf; omega), fun k hk => (s.f k hk).elim (h.f1 k) (fun h2 => Nat.le_trans h.m.size h2), h.f2⟩
theorem Two.step2 {w0 w w' : World} {p1 p2 : Nat} {F1 F2' F2 : Nat → Prop} {L1 L2' L2 : List It} {s1 s2' s2 : Int} (h : Two w0 w p1 F1 L1 s1 p2 F2 L2 s2) (hh : HeapAt w' p2 F2' L2' s2') (s : Stp w w' F2 F2') : Two w0 w' p1 F1 L1 s1 p2 F2' L2' s2' :=
  ⟨h.h1.turns s.t (fun k hk hf => h.dis k hk hf), hh, fun k hk hf => (s.f k hf).elim (fun h2 => h.dis k hk h2) (fun h2 => by have := h.h1.fb k hk; omega), h.m.then s.t (fun b hb hf => by have := h.f2 b hf; omega), h.f1, fun k hk => (s.f k hk).elim (h.f2 k) (fun h2 => Nat.le_trans h.m.size h2)⟩
theorem Two.made {w0 w w' : World} {p1 p2 : Nat} {F1 F2 : Nat → Prop} {L1 L2 : List It} {s1 s2 : Int} (h : Two w0 w p1 F1 L1 s1 p2 F2 L2 s2) (s : Made w w') : Two w0 w' p1 F1 L1 s1 p2 F2 L2 s2 :=
  ⟨h.h1.made s, h.h2.made s, h.dis, h.m.trans s, h.f1, h.f2⟩

set_option maxHeartbeats 8000000 in
set_option maxRecDepth 100000 in
theorem moves_w (a : Option Addr) (len cap : Nat) (ws : List Int) (at_ when : Int) (w : World) (hw : RowIn (fun z => [Value.int .i64 z]) 1 w a len ws) (hc : len ≤ cap) :
    Calls Try.prog 13 #[.slice a len cap, .int .i64 at_, .int .i64 when] w fun e w' => e = .returned (.bool true) ∧ Made w w' := by
  have HW := Lib.hid hw
  clear hw
  by_cases hout : len < 1 ∨ 100 < len
  · by_cases h1 : len < 1
    · have h1' : (len : Int) < 1 := by omega
      clear hout
      go_enter Try.func13, Try.ntmps13
      go_wp2_with fail
      refine (awake_c w).mono ?_
      rintro e w' ⟨rfl, hm⟩
      have HM := Lib.hid hm
      clear hm
      go_wp2_with fail
      go_ret
      exact ⟨rfl, HM.out⟩
    have h1' : ¬ (len : Int) < 1 := by omega
    have h2' : (100 : Int) < (len : Int) := by omega
    clear hout
    go_enter Try.func13, Try.ntmps13
    go_wp2_with fail
    refine (awake_c w).mono ?_
    rintro e w' ⟨rfl, hm⟩
    have HM := Lib.hid hm
    clear hm
    go_wp2_with fail
    go_ret
    exact ⟨rfl, HM.out⟩
  have h1' : ¬ (len : Int) < 1 := by omega
  have h2' : ¬ (100 : Int) < (len : Int) := by omega
  have hr0 : 0 ≤ at_ % (len : Int) := Int.emod_nonneg _ (by omega)
  have hr1 : at_ % (len : Int) < (len : Int) := Int.emod_lt_of_pos _ (by omega)
  have HRC := Lib.hid (fun w' => round_c at_ (len : Int) w' (by omega) (by omega))
  obtain ⟨K, hK⟩ : ∃ K : Nat, at_ % (len : Int) = (K : Int) := ⟨(at_ % (len : Int)).toNat, by omega⟩
  rw [hK] at HRC hr0 hr1
  have hKl : K < len := by omega
  clear hout hr0 hr1 hK
  go_enter Try.func13, Try.ntmps13
  go_wp2_with fail
  refine (hnew_c w).mono ?_
  rintro e w1 ⟨p1, F1, rfl, hh1, hm1, hf1⟩
  have HH1 := Lib.hid hh1
  have HM1 := Lib.hid hm1
  have HF1 := Lib.hid hf1
  clear hh1 hm1 hf1
  go_wp2_with fail
  refine (hnew_c w1).mono ?_
  rintro e w2 ⟨p2, F2, rfl, hh2, hm2, hf2⟩
  have HT := Lib.hid (show Two w w2 p1 F1 [] 0 p2 F2 [] 0 from ⟨HH1.out.made hm2, hh2, fun k hk hf => by have := HH1.out.fb k hk; have := hf2 k hf; omega, HM1.out.trans hm2, HF1.out, fun k hk => Nat.le_trans HM1.out.size (hf2 k hk)⟩)
  clear hh2 hm2 hf2 HH1 HM1 HF1
  go_wp2_with fail
  refine (HRC.out _).mono ?_
  rintro e w3 ⟨rfl, rfl⟩
  clear HRC
  go_wp2_with fail
  go_loopw [10] (fun v10 wr => ∃ (i : Nat) (F1 F2 : Nat → Prop) (L1 L2 : List It) (s2 : Int), i ≤ len ∧ v10 = .int .i64 i ∧ Two w wr p1 F1 L1 i p2 F2 L2 s2 ∧ s2 ≤ i ∧ Adds ws i L1 ∧ L1.length = i ∧ (delL (K : Int) L1).map pr = L2.map pr) (fun v10 _ => len - (intOf v10).toNat)
  case atStart => exact ⟨0, F1, F2, [], [], 0, Nat.zero_le _, rfl, HT.out, by omega, Adds.zero ws, rfl, rfl⟩
  case round =>
    obtain ⟨i, F1, F2, L1, L2, s2, hi, rfl, ht, hs2, had, hll, hal⟩ := hrel
    have hid2 : ∀ y ∈ L2, y.id ≠ (K : Int) ∧ y.id < (i : Int) := fun y hy => by
      obtain ⟨x, hx, e⟩ := pr_mem hal hy
      obtain ⟨hx1, hx2⟩ := delL_mem.1 hx
      obtain ⟨j, z, hj, _, rfl⟩ := (had x).1 hx1
      simp only at e hx2
      omega
    by_cases hil : i < len
    · obtain ⟨hlen, h0 | ⟨b, off, rfl, hb, hlies⟩⟩ := HW.out
      · omega
      obtain ⟨z, hz⟩ := get_of_lt (xs := ws) (k := i) (by omega)
      have HE0 := Lib.hid (fun (w' : World) (hm : Made w w') => (hlies.keep fun o => hm.cell (p := ⟨b, o, none⟩) hb (fun h => h)).one' hz)
      have e0 := HE0.out _ ht.m
      have i1 : (0 : Int) ≤ (i : Int) := Int.natCast_nonneg _
      have i2 : (i : Int) < (len : Int) := by omega
      have HA := Lib.hid (hadd_c i z wr ht.h1 had.free (by omega))
      have HAD := Lib.hid (had.next hz)
      have HLL := Lib.hid (show (insL ⟨(i : Int), z, (i : Int) + 1⟩ L1).length = i + 1 by rw [insL_len, hll])
      have HT1 := Lib.hid ht
      have HAL := Lib.hid hal
      have HID := Lib.hid hid2
      by_cases hiK : i = K
      · have hk := del_insK (x := ⟨(i : Int), z, (i : Int) + 1⟩) (K := (K : Int)) (by simp only; omega) L1
        have HK := Lib.hid (show (delL (K : Int) (insL ⟨(i : Int), z, (i : Int) + 1⟩ L1)).map pr = L2.map pr by rw [hk]; exact hal)
        have hkb : ((i : Int) != (K : Int)) = false := by simp [hiK]
        have HIK := Lib.hid hiK
        clear ht had hll hal hid2 hlies hz hk hiK
        go_wp2_with fail
        refine HA.out.mono ?_
        rintro e w4 ⟨rfl, F4, hh4, hs4⟩
        have HT4 := Lib.hid (HT1.out.step1 hh4 hs4)
        clear hh4 hs4 HA HT1 e0
        go_wp2_with fail
        go_roundw
        case rel => exact ⟨i + 1, F4, F2, _, L2, s2, by omega, by go_num, HT4.out, by omega, HAD.out, HLL.out, HK.out⟩
        case measure => simp [intOf]; omega
      · have hdi := del_ins (x := ⟨(i : Int), z, (i : Int) + 1⟩) (K := (K : Int)) (by simp only; omega) L1 ht.h1.rise
        have hK := ins_alike (x := ⟨(i : Int), z, (i : Int) + 1⟩) (y := ⟨(i : Int), z, s2 + 1⟩) rfl _ _ hal (fun y hy => by have := (ht.h1.seqs y (delL_mem.1 hy).1).2; simp only; omega) (fun y hy => by have := (ht.h2.seqs y hy).2; simp only; omega)
        rw [← hdi] at hK
        have HK := Lib.hid hK
        have hkb : ((i : Int) != (K : Int)) = true := by simp; omega
        have hfn : findL (i : Int) L2 = none := (findL_none _).2 (fun y hy e => by have := (hid2 y hy).2; omega)
        have HFN := Lib.hid hfn
        clear ht had hll hal hid2 hlies hz hdi hK hfn
        go_wp2_with fail
        refine HA.out.mono ?_
        rintro e w4 ⟨rfl, F4, hh4, hs4⟩
        have HT4 := Lib.hid (HT1.out.step1 hh4 hs4)
        have e4 := HE0.out _ HT4.out.m
        have HA2 := Lib.hid (hadd_c i z w4 HT4.out.h2 HFN.out (by omega))
        clear hh4 hs4 HA HT1 e0
        go_wp2_with fail
        refine HA2.out.mono ?_
        rintro e w5 ⟨rfl, F5, hh5, hs5⟩
        have HT5 := Lib.hid (HT4.out.step2 hh5 hs5)
        clear hh5 hs5 HA2 HT4 e4
        go_wp2_with fail
        go_roundw
        case rel => exact ⟨i + 1, F4, F5, _, _, s2 + 1, by omega, by go_num, HT5.out, by omega, HAD.out, HLL.out, HK.out⟩
        case measure => simp [intOf]; omega
    · obtain rfl : i = len := by omega
      have i2 : ¬ (i : Int) < (i : Int) := by omega
      obtain ⟨zK, hzK⟩ := get_of_lt (xs := ws) (k := K) (by have := HW.out.1; omega)
      have hxK : findL (K : Int) L1 = some ⟨K, zK, (K : Int) + 1⟩ := (findL_some ht.h1.uniq _ _).2 ⟨(had _).2 ⟨K, zK, hKl, hzK, rfl⟩, rfl⟩
      have HMV := Lib.hid (hmove_c (K : Int) when wr ht.h1 (by omega) hxK)
      have HFN := Lib.hid ((findL_none _).2 (fun y hy e => (hid2 y hy).1 e) : findL (K : Int) L2 = none)
      have hK := ins_alike (x := ⟨(K : Int), when, (i : Int) + 1⟩) (y := ⟨(K : Int), when, s2 + 1⟩) rfl _ _ hal (fun y hy => by have := (ht.h1.seqs y (delL_mem.1 hy).1).2; simp only; omega) (fun y hy => by have := (ht.h2.seqs y hy).2; simp only; omega)
      have HAL := Lib.hid hK
      have HT1 := Lib.hid ht
      clear ht had hll hal hid2 hxK hzK hK
      go_wp2_with fail
      refine HMV.out.mono ?_
      rintro e w4 ⟨rfl, F4, hh4, hs4⟩
      have HT4 := Lib.hid (HT1.out.step1 hh4 hs4)
      have HA2 := Lib.hid (hadd_c (K : Int) when w4 HT4.out.h2 HFN.out (by omega))
      clear hh4 hs4 HMV HT1
      go_wp2_with fail
      refine HA2.out.mono ?_
      rintro e w5 ⟨rfl, F5, hh5, hs5⟩
      have HT5 := Lib.hid (HT4.out.step2 hh5 hs5)
      clear hh5 hs5 HA2 HT4
      have hDp : 0 < (insL ⟨(K : Int), when, (i : Int) + 1⟩ (delL (K : Int) L1)).length := by rw [insL_len]; omega
      generalize insL ⟨(K : Int), when, (i : Int) + 1⟩ (delL (K : Int) L1) = D at *
      generalize insL ⟨(K : Int), when, s2 + 1⟩ L2 = E at *
      have HL1 := Lib.hid (hall_c w5 HT5.out.h1 (by omega))
      go_wp2_with fail
      refine HL1.out.mono ?_
      rintro e w6 ⟨va, rfl, hoa, hma, hfa⟩
      have HT6 := Lib.hid (HT5.out.made hma)
      have HL2 := Lib.hid (hall_c w6 HT6.out.h2 (by omega))
      have HOA := Lib.hid hoa
      clear hoa hma hfa HL1 HT5
      go_wp2_with fail
      refine HL2.out.mono ?_
      rintro e w7 ⟨vb, rfl, hob, hmb, hfb⟩
      have HT7 := Lib.hid (HT6.out.made hmb)
      have HOA7 := Lib.hid (HOA.out.turns hmb (fun _ _ h => h))
      have HOB := Lib.hid hob
      have HRW := Lib.hid (rows_heaped w7 HT7.out.h1 (by omega))
      clear hob hmb hfb HL2 HT6 HOA
      have hDE : D.length = E.length := by have := congrArg List.length HAL.out; simpa using this
      have hDb : (D.length : Int) ≤ 1000000 := by have := HT7.out.h1.len; omega
      rcases HOA7.out.form with ⟨hva, hD⟩ | ⟨ga, ca, hva, hga, hla, hcma⟩
      · rw [hD] at hDp; simp at hDp
      rcases HOB.out.form with ⟨hvb, hE⟩ | ⟨gb, cb, hvb, hgb, hlb, hcmb⟩
      · rw [hDE, hE] at hDp; simp at hDp
      subst hva
      subst hvb
      clear hga hgb
      have HDE := Lib.hid hDE
      have hEb : (E.length : Int) ≤ 1000000 := by omega
      have hlq : (D.length : Int) = (E.length : Int) := by omega
      have hneq : ((D.length : Int) != (E.length : Int)) = false := by simp [hDE]
      clear hDE
      go_wp2_with fail
      refine HRW.out.mono ?_
      rintro e w8 ⟨v8, rfl, hm8, hc8⟩
      have HM8 := Lib.hid hm8
      have HC8 := Lib.hid hc8
      clear hm8 hc8 HRW
      go_wp2_with fail
      refine HC8.out.mono ?_
      rintro e w9 ⟨rfl, hm9⟩
      have HM9 := Lib.hid (HM8.out.trans hm9)
      have HOA9 := Lib.hid (HOA7.out.turns HM9.out (fun _ _ h => h))
      have HOB9 := Lib.hid (HOB.out.turns HM9.out (fun _ _ h => h))
      have HMW := Lib.hid (HT7.out.m.trans HM9.out)
      clear hm9 HC8 HM8 HT7 HOA7 HOB
      go_wp2_with fail
      clear hlq hneq
      go_loopw [13] (fun v13 wx => ∃ j : Nat, v13 = .int .i64 j ∧ Made w wx ∧ Owns encT 30 3 wx (.slice (some ⟨ga, 0, none⟩) D.length ca) D ∧ Owns encT 30 3 wx (.slice (some ⟨gb, 0, none⟩) E.length cb) E) (fun v13 _ => D.length - (intOf v13).toNat)
      case atStart => exact ⟨0, rfl, HMW.out, HOA9.out, HOB9.out⟩
      case round =>
        clear HMW HOA9 HOB9 HM9
        obtain ⟨j, rfl, hm, hoa, hob⟩ := hrel
        by_cases hj : j < D.length
        · obtain ⟨x, hx⟩ := get_of_lt hj
          obtain ⟨y, hy, hyi, hyw⟩ := pr_get HAL.out hx
          obtain ⟨yi, yw, ys⟩ := y
          simp only at hyi hyw
          subst hyi
          subst hyw
          have j1 : (0 : Int) ≤ (j : Int) := Int.natCast_nonneg _
          have j2 : (j : Int) < (D.length : Int) := by omega
          have j3 : (j : Int) < (E.length : Int) := by have := HDE.out; omega
          have HM := Lib.hid hm
          have HOA := Lib.hid hoa
          have HOB := Lib.hid hob
          have HX := Lib.hid hx
          have HY := Lib.hid hy
          clear hm hoa hob hx hy
          go_wp2_with fail
          refine wp_region_held_drew (S := (fun w' => Made wr w')) (by kernel_rfl) ?_ (fun hHeld => ?_)
          · exact (Turns.refl _ _).drew
          refine takeH (i := 0) (d := some 97) (v := ?_) rfl rfl (by kernel_rfl) (by kernel_rfl) (by kernel_rfl) (fun _ _ _ h => h) (Or.inl ⟨by rfl, ?_⟩) (by assumption) ?_
          rotate_left
          · intro w hSw
            try dsimp only at hSw
            go_simp
            try with_reducible rfl
          try simp only [Act.put, List.setIfInBounds_toArray, List.set_cons_zero, List.set_cons_succ]
          refine takeH (i := 1) (d := some 98) (v := ?_) rfl rfl (by kernel_rfl) (by kernel_rfl) (by kernel_rfl) (fun _ _ _ h => h) (Or.inl ⟨by rfl, ?_⟩) (by assumption) ?_
          rotate_left
          · intro w hSw
            try dsimp only at hSw
            go_simp
            try with_reducible rfl
          try simp only [Act.put, List.setIfInBounds_toArray, List.set_cons_zero, List.set_cons_succ]
          refine takeH (i := 2) (d := some 99) (v := ?_) rfl rfl (by kernel_rfl) (by kernel_rfl) (by kernel_rfl) (fun _ _ _ h => h) (Or.inl ⟨by rfl, ?_⟩) (by assumption) ?_
          rotate_left
          · intro w hSw
            try dsimp only at hSw
            go_simp
            try with_reducible rfl
          try simp only [Act.put, List.setIfInBounds_toArray, List.set_cons_zero, List.set_cons_succ]
          refine takeH (i := 3) (d := some 100) (v := ?_) rfl rfl (by kernel_rfl) (by kernel_rfl) (by kernel_rfl) (fun _ _ _ h => h) (Or.inl ⟨by rfl, ?_⟩) (by assumption) ?_
          rotate_left
          · intro w hSw
            try dsimp only at hSw
            go_simp
            try with_reducible rfl
          try simp only [Act.put, List.setIfInBounds_toArray, List.set_cons_zero, List.set_cons_succ]
          refine takeH (i := 4) (d := some 101) (v := ?_) rfl rfl (by kernel_rfl) (by kernel_rfl) (by kernel_rfl) (fun _ _ _ h => h) (Or.inl ⟨by rfl, ?_⟩) (by assumption) ?_
          rotate_left
          · intro w hSw
            try dsimp only at hSw
            have d0 := Owns.cell encT_len (HOA.out.turns hSw (fun _ _ h => h)) HX.out (j := 0) rfl
            simp only [Nat.add_zero] at d0
            go_simp
            try with_reducible rfl
          try simp only [Act.put, List.setIfInBounds_toArray, List.set_cons_zero, List.set_cons_succ]
          refine takeH (i := 5) (d := some 102) (v := ?_) rfl rfl (by kernel_rfl) (by kernel_rfl) (by kernel_rfl) (fun _ _ _ h => h) (Or.inl ⟨by rfl, ?_⟩) (by assumption) ?_
          rotate_left
          · intro w hSw
            try dsimp only at hSw
            go_simp
            try with_reducible rfl
          try simp only [Act.put, List.setIfInBounds_toArray, List.set_cons_zero, List.set_cons_succ]
          refine takeH (i := 6) (d := some 103) (v := ?_) rfl rfl (by kernel_rfl) (by kernel_rfl) (by kernel_rfl) (fun _ _ _ h => h) (Or.inl ⟨by rfl, ?_⟩) (by assumption) ?_
          rotate_left
          · intro w hSw
            try dsimp only at hSw
            go_simp
            try with_reducible rfl
          try simp only [Act.put, List.setIfInBounds_toArray, List.set_cons_zero, List.set_cons_succ]
          refine takeH (i := 7) (d := some 104) (v := ?_) rfl rfl (by kernel_rfl) (by kernel_rfl) (by kernel_rfl) (fun _ _ _ h => h) (Or.inl ⟨by rfl, ?_⟩) (by assumption) ?_
          rotate_left
          · intro w hSw
            try dsimp only at hSw
            go_simp
            try with_reducible rfl
          try simp only [Act.put, List.setIfInBounds_toArray, List.set_cons_zero, List.set_cons_succ]
          refine takeH (i := 8) (d := some 105) (v := ?_) rfl rfl (by kernel_rfl) (by kernel_rfl) (by kernel_rfl) (fun _ _ _ h => h) (Or.inl ⟨by rfl, ?_⟩) (by assumption) ?_
          rotate_left
          · intro w hSw
            try dsimp only at hSw
            go_simp
            try with_reducible rfl
          try simp only [Act.put, List.setIfInBounds_toArray, List.set_cons_zero, List.set_cons_succ]
          refine takeH (i := 9) (d := some 106) (v := ?_) rfl rfl (by kernel_rfl) (by kernel_rfl) (by kernel_rfl) (fun _ _ _ h => h) (Or.inl ⟨by rfl, ?_⟩) (by assumption) ?_
          rotate_left
          · intro w hSw
            try dsimp only at hSw
            have d0 := Owns.cell encT_len (HOB.out.turns hSw (fun _ _ h => h)) HY.out (j := 0) rfl
            simp only [Nat.add_zero] at d0
            go_simp
            try with_reducible rfl
          try simp only [Act.put, List.setIfInBounds_toArray, List.set_cons_zero, List.set_cons_succ]
          refine takeH (i := 10) (d := some 107) (v := ?_) rfl rfl (by kernel_rfl) (by kernel_rfl) (by kernel_rfl) (fun _ _ _ h => h) (Or.inl ⟨by rfl, ?_⟩) (by assumption) ?_
          rotate_left
          · intro w hSw
            try dsimp only at hSw
            go_simp
            try with_reducible rfl
          try simp only [Act.put, List.setIfInBounds_toArray, List.set_cons_zero, List.set_cons_succ]
          refine takeH (i := 11) (d := some 108) (v := ?_) rfl rfl (by kernel_rfl) (by kernel_rfl) (by kernel_rfl) (fun _ _ _ h => h) (Or.inl ⟨by rfl, ?_⟩) (by assumption) ?_
          rotate_left
          · intro w hSw
            try dsimp only at hSw
            go_simp
            try with_reducible rfl
          try simp only [Act.put, List.setIfInBounds_toArray, List.set_cons_zero, List.set_cons_succ]
          refine takeH (i := 12) (d := some 109) (v := ?_) rfl rfl (by kernel_rfl) (by kernel_rfl) (by kernel_rfl) (fun _ _ _ h => h) (Or.inl ⟨by rfl, ?_⟩) (by assumption) ?_
          rotate_left
          · intro w hSw
            try dsimp only at hSw
            go_simp
            try with_reducible rfl
          try simp only [Act.put, List.setIfInBounds_toArray, List.set_cons_zero, List.set_cons_succ]
          refine takeH (i := 13) (d := some 110) (v := ?_) rfl rfl (by kernel_rfl) (by kernel_rfl) (by kernel_rfl) (fun _ _ _ h => h) (Or.inl ⟨by rfl, ?_⟩) (by assumption) ?_
          rotate_left
          · intro w hSw
            try dsimp only at hSw
            go_simp
            try with_reducible rfl
          try simp only [Act.put, List.setIfInBounds_toArray, List.set_cons_zero, List.set_cons_succ]
          refine takeH (i := 14) (d := some 111) (v := ?_) rfl rfl (by kernel_rfl) (by kernel_rfl) (by kernel_rfl) (fun _ _ _ h => h) (Or.inl ⟨by rfl, ?_⟩) (by assumption) ?_
          rotate_left
          · intro w hSw
            try dsimp only at hSw
            go_simp
            try with_reducible rfl
          try simp only [Act.put, List.setIfInBounds_toArray, List.set_cons_zero, List.set_cons_succ]
          refine takeH (i := 15) (d := some 112) (v := ?_) rfl rfl (by kernel_rfl) (by kernel_rfl) (by kernel_rfl) (fun _ _ _ h => h) (Or.inl ⟨by rfl, ?_⟩) (by assumption) ?_
          rotate_left
          · intro w hSw
            try dsimp only at hSw
            go_simp
            try with_reducible rfl
          try simp only [Act.put, List.setIfInBounds_toArray, List.set_cons_zero, List.set_cons_succ]
          refine takeH (i := 16) (d := some 113) (v := ?_) rfl rfl (by kernel_rfl) (by kernel_rfl) (by kernel_rfl) (fun _ _ _ h => h) (Or.inl ⟨by rfl, ?_⟩) (by assumption) ?_
          rotate_left
          · intro w hSw
            try dsimp only at hSw
            have d0 := Owns.cell encT_len (HOA.out.turns hSw (fun _ _ h => h)) HX.out (j := 1) rfl
            go_simp
            try with_reducible rfl
          try simp only [Act.put, List.setIfInBounds_toArray, List.set_cons_zero, List.set_cons_succ]
          refine takeH (i := 17) (d := some 114) (v := ?_) rfl rfl (by kernel_rfl) (by kernel_rfl) (by kernel_rfl) (fun _ _ _ h => h) (Or.inl ⟨by rfl, ?_⟩) (by assumption) ?_
          rotate_left
          · intro w hSw
            try dsimp only at hSw
            go_simp
            try with_reducible rfl
          try simp only [Act.put, List.setIfInBounds_toArray, List.set_cons_zero, List.set_cons_succ]
          refine takeH (i := 18) (d := some 115) (v := ?_) rfl rfl (by kernel_rfl) (by kernel_rfl) (by kernel_rfl) (fun _ _ _ h => h) (Or.inl ⟨by rfl, ?_⟩) (by assumption) ?_
          rotate_left
          · intro w hSw
            try dsimp only at hSw
            go_simp
            try with_reducible rfl
          try simp only [Act.put, List.setIfInBounds_toArray, List.set_cons_zero, List.set_cons_succ]
          refine takeH (i := 19) (d := some 116) (v := ?_) rfl rfl (by kernel_rfl) (by kernel_rfl) (by kernel_rfl) (fun _ _ _ h => h) (Or.inl ⟨by rfl, ?_⟩) (by assumption) ?_
          rotate_left
          · intro w hSw
            try dsimp only at hSw
            go_simp
            try with_reducible rfl
          try simp only [Act.put, List.setIfInBounds_toArray, List.set_cons_zero, List.set_cons_succ]
          refine takeH (i := 20) (d := some 117) (v := ?_) rfl rfl (by kernel_rfl) (by kernel_rfl) (by kernel_rfl) (fun _ _ _ h => h) (Or.inl ⟨by rfl, ?_⟩) (by assumption) ?_
          rotate_left
          · intro w hSw
            try dsimp only at hSw
            go_simp
            try with_reducible rfl
          try simp only [Act.put, List.setIfInBounds_toArray, List.set_cons_zero, List.set_cons_succ]
          refine takeH (i := 21) (d := some 118) (v := ?_) rfl rfl (by kernel_rfl) (by kernel_rfl) (by kernel_rfl) (fun _ _ _ h => h) (Or.inl ⟨by rfl, ?_⟩) (by assumption) ?_
          rotate_left
          · intro w hSw
            try dsimp only at hSw
            have d0 := Owns.cell encT_len (HOB.out.turns hSw (fun _ _ h => h)) HY.out (j := 1) rfl
            go_simp
            try with_reducible rfl
          try simp only [Act.put, List.setIfInBounds_toArray, List.set_cons_zero, List.set_cons_succ]
          refine takeH (i := 22) (d := some 119) (v := ?_) rfl rfl (by kernel_rfl) (by kernel_rfl) (by kernel_rfl) (fun _ _ _ h => h) (Or.inl ⟨by rfl, ?_⟩) (by assumption) ?_
          rotate_left
          · intro w hSw
            try dsimp only at hSw
            go_simp
            try with_reducible rfl
          try simp only [Act.put, List.setIfInBounds_toArray, List.set_cons_zero, List.set_cons_succ]
          refine takeH (i := 23) (d := some 120) (v := ?_) rfl rfl (by kernel_rfl) (by kernel_rfl) (by kernel_rfl) (fun _ _ _ h => h) (Or.inl ⟨by rfl, ?_⟩) (by assumption) ?_
          rotate_left
          · intro w hSw
            try dsimp only at hSw
            go_simp
            try with_reducible rfl
          try simp only [Act.put, List.setIfInBounds_toArray, List.set_cons_zero, List.set_cons_succ]
          refine wpAnyH_done (by kernel_rfl) ?_ _
          have HM2 := Lib.hid (HM.out.trans hHeld)
          have HOA2 := Lib.hid (HOA.out.turns hHeld (fun _ _ h => h))
          have HOB2 := Lib.hid (HOB.out.turns hHeld (fun _ _ h => h))
          clear hHeld HM HOA HOB
          try clear hHeld
          go_wp2_with fail
          go_roundw
          case rel => exact ⟨j + 1, by go_num, HM2.out, HOA2.out, HOB2.out⟩
          case measure => simp [intOf]; omega
        · have j2 : ¬ (j : Int) < (D.length : Int) := by omega
          have HM := Lib.hid hm
          clear hm hoa hob
          go_wp2_with fail
          refine (awake_c _).mono ?_
          rintro e w5 ⟨rfl, hm⟩
          have HM5 := Lib.hid (HM.out.trans hm)
          clear hm
          go_wp2_with fail
          go_ret
          exact ⟨rfl, HM5.out⟩
end Go.Proofs.Ytgjgopcomgclkaa
