/-
  tarpaulinlaw11.HeapFour: its walk.
-/
import Derived.Test.YtgjgopcomgclkaaHl1
namespace Go.Proofs.Ytgjgopcomgclkaa
open Go.RowKit
set_option linter.unusedVariables false
set_option linter.unusedSimpArgs false

theorem neq_item (a b c : Int) (w : World) : (binOp .neq 30 (.agg #[.int .i64 a, .int .i64 b, .int .i64 c]) (.agg #[.int .i64 a, .int .i64 b, .int .i64 c])).run Try.prog w = .ok (.bool false) w := by
  rw [run_neq_struct, run_equalIn_agg (ht := by kernel_rfl) (hp := by kernel_rfl)]
  unfold Program.fieldsOf
  rw [Try.underlying30]
  go_simp
theorem first_eq {ys L : List It} (ho : HOrd ys) (hp : ys.Perm L) (hr : L.Pairwise lt) : ys[0]? = L[0]? := by
  cases hL : L with
  | nil =>
    have := hp.length_eq
    rw [hL] at this
    rw [List.eq_nil_of_length_eq_zero this]
  | cons m l =>
    obtain ⟨y, hy⟩ := get_of_lt (xs := ys) (k := 0) (by have := hp.length_eq; rw [hL] at this; simp at this; omega)
    rw [hy, List.getElem?_cons_zero]
    have hyL : y ∈ L := hp.mem_iff.1 (List.mem_of_getElem? hy)
    have hmy : m ∈ ys := hp.mem_iff.2 (by rw [hL]; exact List.mem_cons_self ..)
    obtain ⟨k, hk⟩ := List.getElem?_of_mem hmy
    have h1 := ho.least hy k m hk
    rw [hL] at hyL
    rcases List.mem_cons.1 hyL with e | hm
    · rw [e]
    · rw [hL, List.pairwise_cons] at hr
      exact absurd (hr.1 y hm) h1
/-- A heap's rows, and that they are a heap. -/
theorem rows_heaped {p : Nat} {F : Nat → Prop} {L : List It} {sq : Int} (w : World) (h : HeapAt w p F L sq) (hn : sq ≤ 1000000) : Calls Try.prog 24 #[.pointer (some ⟨p, 0, none⟩)] w fun e w' => ∃ v', e = .returned v' ∧ Made w w' ∧ Calls Try.prog 23 #[v'] w' fun e w2 => e = .returned (.bool true) ∧ Made w' w2 := by
  refine (hrows_c w h hn).mono ?_
  rintro e w' ⟨v', ys, rfl, ho, hm, -, hord, hp⟩
  exact ⟨v', rfl, hm, heaped_c v' ys w' ho (hstr hord hp h.uniq h.rise) (by have := hp.length_eq; have := h.len; omega)⟩

set_option maxHeartbeats 4000000 in
set_option maxRecDepth 100000 in
theorem four_w (a : Option Addr) (len cap : Nat) (ws : List Int) (pops : Int) (w : World) (hw : RowIn (fun z => [Value.int .i64 z]) 1 w a len ws) (hc : len ≤ cap) :
    Calls Try.prog 5 #[.slice a len cap, .int .i64 pops] w fun e w' => e = .returned (.bool true) ∧ Made w w' := by
  have HW := Lib.hid hw
  clear hw
  by_cases hbig : 150 < len
  · have hb2 : (150 : Int) < (len : Int) := by omega
    go_enter Try.func5, Try.ntmps5
    go_wp2_with fail
    refine (awake_c w).mono ?_
    rintro e w' ⟨rfl, hm⟩
    have HM := Lib.hid hm
    clear hm
    go_wp2_with fail
    go_ret
    exact ⟨rfl, HM.out⟩
  have hb2 : ¬ (150 : Int) < (len : Int) := by omega
  go_enter Try.func5, Try.ntmps5
  go_wp2_with fail
  refine (hnew_c w).mono ?_
  rintro e w1 ⟨p, F, rfl, hh, hm, hf⟩
  have HH := Lib.hid hh
  have HS := Lib.hid (Since.mk hm hf)
  clear hh hm hf
  go_wp2_with fail
  go_loopw [6] (fun v6 wr => ∃ (k : Nat) (F : Nat → Prop) (L : List It), k ≤ len ∧ v6 = .int .i64 k ∧ HeapAt wr p F L k ∧ Since w wr F ∧ Adds ws k L ∧ L.length = k) (fun v6 _ => len - (intOf v6).toNat)
  case atStart => exact ⟨0, F, [], Nat.zero_le _, rfl, HH.out, HS.out, Adds.zero ws, rfl⟩
  case round =>
    obtain ⟨k, F, L, hk, rfl, hh, hs, had, hll⟩ := hrel
    by_cases hkl : k < len
    · obtain ⟨hlen, h0 | ⟨b, off, rfl, hb, hlies⟩⟩ := HW.out.made hs.m
      · omega
      obtain ⟨z, hz⟩ := get_of_lt (xs := ws) (k := k) (by omega)
      have e0 := hlies.one' hz
      have i1 : (0 : Int) ≤ (k : Int) := Int.natCast_nonneg _
      have i2 : (k : Int) < (len : Int) := by omega
      have HA := Lib.hid (hadd_c k z wr hh had.free (by omega))
      have HN := Lib.hid (had.next hz)
      have HI := Lib.hid (insL_count ⟨k, z, k + 1⟩ L)
      have HLL := Lib.hid hll
      have HS := Lib.hid hs
      clear hh hs had hlies hb hz hll
      go_wp2_with fail
      refine HA.out.mono ?_
      rintro e w2 ⟨rfl, F2, hh2, hs2⟩
      have HR := Lib.hid (rows_heaped w2 hh2 (by omega))
      have HH2 := Lib.hid hh2
      have HS2 := Lib.hid (HS.out.step hs2)
      clear hh2 hs2
      go_wp2_with fail
      refine HR.out.mono ?_
      rintro e w3 ⟨v3, rfl, hm3, hc3⟩
      have HM3 := Lib.hid hm3
      have HC3 := Lib.hid hc3
      clear hm3 hc3
      go_wp2_with fail
      refine HC3.out.mono ?_
      rintro e w4 ⟨rfl, hm4⟩
      have HM4 := Lib.hid (HM3.out.trans hm4)
      clear hm4
      go_wp2_with fail
      go_roundw
      case rel => exact ⟨k + 1, F2, _, by omega, by go_num, HH2.out.made HM4.out, HS2.out.made HM4.out, HN.out, by rw [HI.out, HLL.out]⟩
      case measure => simp [intOf]; omega
    · obtain rfl : k = len := by omega
      have i2 : ¬ (k : Int) < (k : Int) := by omega
      have i3 : IntKind.i64.wrap ((k : Int) + 1) = (k : Int) + 1 := wrap_in _ (by omega)
      have HH := Lib.hid hh
      have HS := Lib.hid hs
      have HLL := Lib.hid hll
      clear hh hs had hll
      have hr0 : 0 ≤ pops % ((k : Int) + 1) := Int.emod_nonneg _ (by omega)
      have hr1 : pops % ((k : Int) + 1) < (k : Int) + 1 := Int.emod_lt_of_pos _ (by omega)
      have HRC := Lib.hid (round_c pops ((k : Int) + 1) wr (by omega) (by omega))
      obtain ⟨kk, hkk⟩ : ∃ kk : Nat, pops % ((k : Int) + 1) = (kk : Int) := ⟨(pops % ((k : Int) + 1)).toNat, by omega⟩
      rw [hkk] at HRC hr0 hr1
      have hkk1 : kk ≤ k := by omega
      clear hr0 hr1 hkk
      go_wp2_with fail
      refine HRC.out.mono ?_
      rintro e w2 ⟨rfl, rfl⟩
      clear HRC
      go_wp2_with fail
      go_loopw [8] (fun v8 wx => ∃ (j : Nat) (F : Nat → Prop) (L : List It), v8 = .int .i64 j ∧ j ≤ kk ∧ HeapAt wx p F L k ∧ Since w wx F ∧ j + L.length = k) (fun v8 _ => kk - (intOf v8).toNat)
      case atStart => exact ⟨0, F, L, rfl, Nat.zero_le _, HH.out, HS.out, by rw [HLL.out]; omega⟩
      case round =>
        clear HH HS HLL
        obtain ⟨j, F', L', rfl, hjk, hh, hs, hjl⟩ := hrel
        by_cases hj : j < kk
        · have j2 : (j : Int) < (kk : Int) := by omega
          obtain ⟨x, l, rfl⟩ : ∃ x l, L' = x :: l := by
            cases L' with
            | nil => simp at hjl; omega
            | cons x l => exact ⟨x, l, rfl⟩
          have HPO := Lib.hid (hpop_c wr hh (by omega))
          have HSS := Lib.hid hs
          clear hh hs
          unfold aggT at HPO
          go_wp2_with fail
          refine HPO.out.mono ?_
          rintro e w2 ⟨rfl, hh2, hs2⟩
          have HH3 := Lib.hid (hh2.made (alloc_made _ (.cells #[.int .i64 x.id, .int .i64 x.when, .int .i64 x.seq] 30)))
          have HS3 := Lib.hid ((HSS.out.step hs2).made (alloc_made _ (.cells #[.int .i64 x.id, .int .i64 x.when, .int .i64 x.seq] 30)))
          clear hh2 hs2 HPO HSS
          go_wp2_with fail
          refine (rows_heaped _ HH3.out (by omega)).mono ?_
          rintro e w3 ⟨v3, rfl, hm3, hc3⟩
          have HM3 := Lib.hid hm3
          have HC3 := Lib.hid hc3
          clear hm3 hc3
          go_wp2_with fail
          refine HC3.out.mono ?_
          rintro e w4 ⟨rfl, hm4⟩
          have HM4 := Lib.hid (HM3.out.trans hm4)
          clear hm4
          go_wp2_with fail
          go_roundw
          case rel => exact ⟨j + 1, F', l, by go_num, by omega, HH3.out.made HM4.out, HS3.out.made HM4.out, by rw [List.length_cons] at hjl; omega⟩
          case measure => simp [intOf]; omega
        · have j2 : ¬ (j : Int) < (kk : Int) := by omega
          have HRW := Lib.hid (hrows_c wr hh (by omega))
          have HH := Lib.hid hh
          have HS := Lib.hid hs
          have HU := Lib.hid hh.uniq
          have HRI := Lib.hid hh.rise
          clear hh hs
          go_wp2_with fail
          refine HRW.out.mono ?_
          rintro e w2 ⟨v', ys, rfl, ho, hm, hfar, hord, hperm⟩
          have HM2 := Lib.hid (HS.out.m.trans hm)
          have HH2 := Lib.hid (HH.out.made hm)
          have HMI := Lib.hid (hmin_c w2 (HH.out.made hm))
          have hf := first_eq hord hperm HRI.out
          have hlen := hperm.length_eq
          clear hm hfar HRW HH
          have hwk : IntKind.i64.wrap ((k : Int) - (kk : Int)) = (L'.length : Int) := by rw [show (k : Int) - (kk : Int) = (L'.length : Int) from by omega]; exact wrap_in _ (by omega)
          have HQ := neq_item
          cases hL : L' with
          | nil =>
            rw [hL] at hlen hwk HMI
            obtain rfl : ys = [] := List.eq_nil_of_length_eq_zero hlen
            obtain ⟨va, vc, rfl, -⟩ := ho.rowIn encT_len
            simp only [List.getElem?_nil, optT, Option.getD_none, Option.isSome_none, aggT, zeroT, List.length_nil] at HMI
            simp only [List.length_nil] at hwk hlen ⊢
            clear hf ho
            go_wp2_with fail
            refine HMI.out.mono ?_
            rintro e w3 ⟨rfl, hm3⟩
            have HM3 := Lib.hid ((HM2.out.trans hm3).trans (alloc_made _ (.cells #[.int .i64 0, .int .i64 0, .int .i64 0] 30)))
            clear hm3
            go_wp2_with fail
            generalize w3.alloc (.cells #[.int .i64 0, .int .i64 0, .int .i64 0] 30) = W at *
            refine wp_region_held_drew (S := (fun w' => Made W w')) (by kernel_rfl) ?_ (fun hHeld => ?_)
            · exact (Turns.refl _ _).drew
            refine takeH (i := 0) (d := some 74) (v := ?_) rfl rfl (by kernel_rfl) (by kernel_rfl) (by kernel_rfl) (fun _ _ _ h => h) (Or.inl ⟨by rfl, ?_⟩) (by assumption) ?_
            rotate_left
            · intro w hSw
              try dsimp only at hSw
              go_simp
              try with_reducible rfl
            try simp only [Act.put, List.setIfInBounds_toArray, List.set_cons_zero, List.set_cons_succ]
            refine takeH (i := 1) (d := some 75) (v := ?_) rfl rfl (by kernel_rfl) (by kernel_rfl) (by kernel_rfl) (fun _ _ _ h => h) (Or.inl ⟨by rfl, ?_⟩) (by assumption) ?_
            rotate_left
            · intro w hSw
              try dsimp only at hSw
              go_simp
              try with_reducible rfl
            try simp only [Act.put, List.setIfInBounds_toArray, List.set_cons_zero, List.set_cons_succ]
            refine takeH (i := 2) (d := some 76) (v := ?_) rfl rfl (by kernel_rfl) (by kernel_rfl) (by kernel_rfl) (fun _ _ _ h => h) (Or.inl ⟨by rfl, ?_⟩) (by assumption) ?_
            rotate_left
            · intro w hSw
              try dsimp only at hSw
              go_simp
              try with_reducible rfl
            try simp only [Act.put, List.setIfInBounds_toArray, List.set_cons_zero, List.set_cons_succ]
            refine takeH (i := 3) (d := some 77) (v := ?_) rfl rfl (by kernel_rfl) (by kernel_rfl) (by kernel_rfl) (fun _ _ _ h => h) (Or.inl ⟨by rfl, ?_⟩) (by assumption) ?_
            rotate_left
            · intro w hSw
              try dsimp only at hSw
              go_simp
              try with_reducible rfl
            try simp only [Act.put, List.setIfInBounds_toArray, List.set_cons_zero, List.set_cons_succ]
            refine takeH (i := 4) (d := some 78) (v := ?_) rfl rfl (by kernel_rfl) (by kernel_rfl) (by kernel_rfl) (fun _ _ _ h => h) (Or.inl ⟨by rfl, ?_⟩) (by assumption) ?_
            rotate_left
            · intro w hSw
              try dsimp only at hSw
              go_simp
              try with_reducible rfl
            try simp only [Act.put, List.setIfInBounds_toArray, List.set_cons_zero, List.set_cons_succ]
            refine takeH (i := 5) (d := some 79) (v := ?_) rfl rfl (by kernel_rfl) (by kernel_rfl) (by kernel_rfl) (fun _ _ _ h => h) (Or.inl ⟨by rfl, ?_⟩) (by assumption) ?_
            rotate_left
            · intro w hSw
              try dsimp only at hSw
              go_simp
              try with_reducible rfl
            try simp only [Act.put, List.setIfInBounds_toArray, List.set_cons_zero, List.set_cons_succ]
            refine takeH (i := 6) (d := some 80) (v := ?_) rfl rfl (by kernel_rfl) (by kernel_rfl) (by kernel_rfl) (fun _ _ _ h => h) (Or.inl ⟨by rfl, ?_⟩) (by assumption) ?_
            rotate_left
            · intro w hSw
              try dsimp only at hSw
              go_simp
              try with_reducible rfl
            try simp only [Act.put, List.setIfInBounds_toArray, List.set_cons_zero, List.set_cons_succ]
            refine takeH (i := 7) (d := some 81) (v := ?_) rfl rfl (by kernel_rfl) (by kernel_rfl) (by kernel_rfl) (fun _ _ _ h => h) (Or.inl ⟨by rfl, ?_⟩) (by assumption) ?_
            rotate_left
            · intro w hSw
              try dsimp only at hSw
              go_simp
              try with_reducible rfl
            try simp only [Act.put, List.setIfInBounds_toArray, List.set_cons_zero, List.set_cons_succ]
            refine takeH (i := 8) (d := some 82) (v := ?_) rfl rfl (by kernel_rfl) (by kernel_rfl) (by kernel_rfl) (fun _ _ _ h => h) (Or.inl ⟨by rfl, ?_⟩) (by assumption) ?_
            rotate_left
            · intro w hSw
              try dsimp only at hSw
              go_simp
              try with_reducible rfl
            try simp only [Act.put, List.setIfInBounds_toArray, List.set_cons_zero, List.set_cons_succ]
            refine takeH (i := 9) (d := some 83) (v := ?_) rfl rfl (by kernel_rfl) (by kernel_rfl) (by kernel_rfl) (fun _ _ _ h => h) (Or.inl ⟨by rfl, ?_⟩) (by assumption) ?_
            rotate_left
            · intro w hSw
              try dsimp only at hSw
              go_simp
              try with_reducible rfl
            try simp only [Act.put, List.setIfInBounds_toArray, List.set_cons_zero, List.set_cons_succ]
            refine takeH (i := 10) (d := some 84) (v := ?_) rfl rfl (by kernel_rfl) (by kernel_rfl) (by kernel_rfl) (fun _ _ _ h => h) (Or.inl ⟨by rfl, ?_⟩) (by assumption) ?_
            rotate_left
            · intro w hSw
              try dsimp only at hSw
              go_simp
              try with_reducible rfl
            try simp only [Act.put, List.setIfInBounds_toArray, List.set_cons_zero, List.set_cons_succ]
            refine takeH (i := 11) (d := some 85) (v := ?_) rfl rfl (by kernel_rfl) (by kernel_rfl) (by kernel_rfl) (fun _ _ _ h => h) (Or.inl ⟨by rfl, ?_⟩) (by assumption) ?_
            rotate_left
            · intro w hSw
              try dsimp only at hSw
              go_simp
              try with_reducible rfl
            try simp only [Act.put, List.setIfInBounds_toArray, List.set_cons_zero, List.set_cons_succ]
            refine takeH (i := 12) (d := some 86) (v := ?_) rfl rfl (by kernel_rfl) (by kernel_rfl) (by kernel_rfl) (fun _ _ _ h => h) (Or.inl ⟨by rfl, ?_⟩) (by assumption) ?_
            rotate_left
            · intro w hSw
              try dsimp only at hSw
              go_simp
              try with_reducible rfl
            try simp only [Act.put, List.setIfInBounds_toArray, List.set_cons_zero, List.set_cons_succ]
            refine takeH (i := 13) (d := some 87) (v := ?_) rfl rfl (by kernel_rfl) (by kernel_rfl) (by kernel_rfl) (fun _ _ _ h => h) (Or.inl ⟨by rfl, ?_⟩) (by assumption) ?_
            rotate_left
            · intro w hSw
              try dsimp only at hSw
              go_simp
              try with_reducible rfl
            try simp only [Act.put, List.setIfInBounds_toArray, List.set_cons_zero, List.set_cons_succ]
            refine takeH (i := 14) (d := some 88) (v := ?_) rfl rfl (by kernel_rfl) (by kernel_rfl) (by kernel_rfl) (fun _ _ _ h => h) (Or.inl ⟨by rfl, ?_⟩) (by assumption) ?_
            rotate_left
            · intro w hSw
              try dsimp only at hSw
              go_simp
              try with_reducible rfl
            try simp only [Act.put, List.setIfInBounds_toArray, List.set_cons_zero, List.set_cons_succ]
            refine takeH (i := 15) (d := some 89) (v := ?_) rfl rfl (by kernel_rfl) (by kernel_rfl) (by kernel_rfl) (fun _ _ _ h => h) (Or.inl ⟨by rfl, ?_⟩) (by assumption) ?_
            rotate_left
            · intro w hSw
              try dsimp only at hSw
              go_simp
              try with_reducible rfl
            try simp only [Act.put, List.setIfInBounds_toArray, List.set_cons_zero, List.set_cons_succ]
            refine takeH (i := 16) (d := some 90) (v := ?_) rfl rfl (by kernel_rfl) (by kernel_rfl) (by kernel_rfl) (fun _ _ _ h => h) (Or.inl ⟨by rfl, ?_⟩) (by assumption) ?_
            rotate_left
            · intro w hSw
              try dsimp only at hSw
              go_simp
              try with_reducible rfl
            try simp only [Act.put, List.setIfInBounds_toArray, List.set_cons_zero, List.set_cons_succ]
            refine takeH (i := 17) (d := some 91) (v := undef) rfl rfl (by kernel_rfl) (by kernel_rfl) (by kernel_rfl) (fun _ _ _ h => h) (Or.inr ⟨by rfl, rfl⟩) (by assumption) ?_
            try simp only [Act.put, List.setIfInBounds_toArray, List.set_cons_zero, List.set_cons_succ]
            refine takeH (i := 18) (d := some 92) (v := undef) rfl rfl (by kernel_rfl) (by kernel_rfl) (by kernel_rfl) (fun _ _ _ h => h) (Or.inr ⟨by rfl, rfl⟩) (by assumption) ?_
            try simp only [Act.put, List.setIfInBounds_toArray, List.set_cons_zero, List.set_cons_succ]
            refine takeH (i := 19) (d := some 93) (v := undef) rfl rfl (by kernel_rfl) (by kernel_rfl) (by kernel_rfl) (fun _ _ _ h => h) (Or.inr ⟨by rfl, rfl⟩) (by assumption) ?_
            try simp only [Act.put, List.setIfInBounds_toArray, List.set_cons_zero, List.set_cons_succ]
            refine takeH (i := 20) (d := some 94) (v := undef) rfl rfl (by kernel_rfl) (by kernel_rfl) (by kernel_rfl) (fun _ _ _ h => h) (Or.inr ⟨by rfl, rfl⟩) (by assumption) ?_
            try simp only [Act.put, List.setIfInBounds_toArray, List.set_cons_zero, List.set_cons_succ]
            refine takeH (i := 21) (d := some 95) (v := undef) rfl rfl (by kernel_rfl) (by kernel_rfl) (by kernel_rfl) (fun _ _ _ h => h) (Or.inr ⟨by rfl, rfl⟩) (by assumption) ?_
            try simp only [Act.put, List.setIfInBounds_toArray, List.set_cons_zero, List.set_cons_succ]
            refine takeH (i := 22) (d := some 96) (v := ?_) rfl rfl (by kernel_rfl) (by kernel_rfl) (by kernel_rfl) (fun _ _ _ h => h) (Or.inl ⟨by rfl, ?_⟩) (by assumption) ?_
            rotate_left
            · intro w hSw
              try dsimp only at hSw
              go_simp
              try with_reducible rfl
            try simp only [Act.put, List.setIfInBounds_toArray, List.set_cons_zero, List.set_cons_succ]
            refine takeH (i := 23) (d := some 97) (v := ?_) rfl rfl (by kernel_rfl) (by kernel_rfl) (by kernel_rfl) (fun _ _ _ h => h) (Or.inl ⟨by rfl, ?_⟩) (by assumption) ?_
            rotate_left
            · intro w hSw
              try dsimp only at hSw
              go_simp
              try with_reducible rfl
            try simp only [Act.put, List.setIfInBounds_toArray, List.set_cons_zero, List.set_cons_succ]
            refine wpAnyH_done (by kernel_rfl) ?_ _
            have HM4 := Lib.hid (HM3.out.trans hHeld)
            clear hHeld HM3
            try clear hHeld
            generalize W.drew = W2 at *
            go_wp2_with fail
            go_loopw [14] (fun v14 wx => v14 = .int .i64 0 ∧ Made w wx) (fun v14 _ => 0)
            case atStart => exact ⟨rfl, HM4.out⟩
            case round =>
              obtain ⟨rfl, hm⟩ := hrel
              have HM := Lib.hid hm
              clear hm
              go_wp2_with fail
              refine (awake_c _).mono ?_
              rintro e w5 ⟨rfl, hm⟩
              have HM5 := Lib.hid (HM.out.trans hm)
              clear hm
              go_wp2_with fail
              go_ret
              exact ⟨rfl, HM5.out⟩
          | cons m l =>
            rw [hL] at hlen hwk HMI hf HH2 hperm HU
            rw [List.getElem?_cons_zero] at hf
            have hpos : 0 < ys.length := by rw [hlen]; simp
            rcases ho.form with ⟨rfl, h0⟩ | ⟨g, rc, rfl, hg, hl, hcm⟩
            · rw [h0] at hpos; simp at hpos
            have HO := Lib.hid ho
            have HF := Lib.hid hf
            have HPE := Lib.hid hperm
            simp only [List.getElem?_cons_zero, optT, Option.getD_some, Option.isSome_some, aggT] at HMI
            rw [← hlen] at hwk
            have hyb : ys.length ≤ 1000000 := by rw [hL] at hjl; omega
            clear hlen
            have hl1 : ¬ (ys.length : Int) ≤ 0 := by omega
            have hl2 : (0 : Int) < (ys.length : Int) := by omega
            clear hf ho hperm hL
            go_wp2_with fail
            refine HMI.out.mono ?_
            rintro e w3 ⟨rfl, hm3⟩
            have HM3 := Lib.hid ((HM2.out.trans hm3).trans (alloc_made _ (.cells #[.int .i64 m.id, .int .i64 m.when, .int .i64 m.seq] 30)))
            have HO3 := Lib.hid ((HO.out.turns hm3 (fun _ _ h => h)).turns (alloc_made _ (.cells #[.int .i64 m.id, .int .i64 m.when, .int .i64 m.seq] 30)) (fun _ _ h => h))
            have HH3 := Lib.hid ((HH2.out.made hm3).made (alloc_made _ (.cells #[.int .i64 m.id, .int .i64 m.when, .int .i64 m.seq] 30)))
            have HX3 := Lib.hid (Blk.new w3 30 #[.int .i64 m.id, .int .i64 m.when, .int .i64 m.seq])
            clear hm3 HM2 HH2 HO HMI
            go_wp2_with fail
            generalize hbx : w3.heap.size = bx at *
            generalize w3.alloc (.cells #[.int .i64 m.id, .int .i64 m.when, .int .i64 m.seq] 30) = W at *
            clear hbx w3
            refine wp_region_held_drew (S := (fun w' => Made W w')) (by kernel_rfl) ?_ (fun hHeld => ?_)
            · exact (Turns.refl _ _).drew
            refine takeH (i := 0) (d := some 74) (v := ?_) rfl rfl (by kernel_rfl) (by kernel_rfl) (by kernel_rfl) (fun _ _ _ h => h) (Or.inl ⟨by rfl, ?_⟩) (by assumption) ?_
            rotate_left
            · intro w hSw
              try dsimp only at hSw
              go_simp
              try with_reducible rfl
            try simp only [Act.put, List.setIfInBounds_toArray, List.set_cons_zero, List.set_cons_succ]
            refine takeH (i := 1) (d := some 75) (v := ?_) rfl rfl (by kernel_rfl) (by kernel_rfl) (by kernel_rfl) (fun _ _ _ h => h) (Or.inl ⟨by rfl, ?_⟩) (by assumption) ?_
            rotate_left
            · intro w hSw
              try dsimp only at hSw
              go_simp
              try with_reducible rfl
            try simp only [Act.put, List.setIfInBounds_toArray, List.set_cons_zero, List.set_cons_succ]
            refine takeH (i := 2) (d := some 76) (v := ?_) rfl rfl (by kernel_rfl) (by kernel_rfl) (by kernel_rfl) (fun _ _ _ h => h) (Or.inl ⟨by rfl, ?_⟩) (by assumption) ?_
            rotate_left
            · intro w hSw
              try dsimp only at hSw
              go_simp
              try with_reducible rfl
            try simp only [Act.put, List.setIfInBounds_toArray, List.set_cons_zero, List.set_cons_succ]
            refine takeH (i := 3) (d := some 77) (v := ?_) rfl rfl (by kernel_rfl) (by kernel_rfl) (by kernel_rfl) (fun _ _ _ h => h) (Or.inl ⟨by rfl, ?_⟩) (by assumption) ?_
            rotate_left
            · intro w hSw
              try dsimp only at hSw
              go_simp
              try with_reducible rfl
            try simp only [Act.put, List.setIfInBounds_toArray, List.set_cons_zero, List.set_cons_succ]
            refine takeH (i := 4) (d := some 78) (v := ?_) rfl rfl (by kernel_rfl) (by kernel_rfl) (by kernel_rfl) (fun _ _ _ h => h) (Or.inl ⟨by rfl, ?_⟩) (by assumption) ?_
            rotate_left
            · intro w hSw
              try dsimp only at hSw
              go_simp
              try with_reducible rfl
            try simp only [Act.put, List.setIfInBounds_toArray, List.set_cons_zero, List.set_cons_succ]
            refine takeH (i := 5) (d := some 79) (v := ?_) rfl rfl (by kernel_rfl) (by kernel_rfl) (by kernel_rfl) (fun _ _ _ h => h) (Or.inl ⟨by rfl, ?_⟩) (by assumption) ?_
            rotate_left
            · intro w hSw
              try dsimp only at hSw
              go_simp
              try with_reducible rfl
            try simp only [Act.put, List.setIfInBounds_toArray, List.set_cons_zero, List.set_cons_succ]
            refine takeH (i := 6) (d := some 80) (v := ?_) rfl rfl (by kernel_rfl) (by kernel_rfl) (by kernel_rfl) (fun _ _ _ h => h) (Or.inl ⟨by rfl, ?_⟩) (by assumption) ?_
            rotate_left
            · intro w hSw
              try dsimp only at hSw
              go_simp
              try with_reducible rfl
            try simp only [Act.put, List.setIfInBounds_toArray, List.set_cons_zero, List.set_cons_succ]
            refine takeH (i := 7) (d := some 81) (v := ?_) rfl rfl (by kernel_rfl) (by kernel_rfl) (by kernel_rfl) (fun _ _ _ h => h) (Or.inl ⟨by rfl, ?_⟩) (by assumption) ?_
            rotate_left
            · intro w hSw
              try dsimp only at hSw
              go_simp
              try with_reducible rfl
            try simp only [Act.put, List.setIfInBounds_toArray, List.set_cons_zero, List.set_cons_succ]
            refine takeH (i := 8) (d := some 82) (v := ?_) rfl rfl (by kernel_rfl) (by kernel_rfl) (by kernel_rfl) (fun _ _ _ h => h) (Or.inl ⟨by rfl, ?_⟩) (by assumption) ?_
            rotate_left
            · intro w hSw
              try dsimp only at hSw
              go_simp
              try with_reducible rfl
            try simp only [Act.put, List.setIfInBounds_toArray, List.set_cons_zero, List.set_cons_succ]
            refine takeH (i := 9) (d := some 83) (v := ?_) rfl rfl (by kernel_rfl) (by kernel_rfl) (by kernel_rfl) (fun _ _ _ h => h) (Or.inl ⟨by rfl, ?_⟩) (by assumption) ?_
            rotate_left
            · intro w hSw
              try dsimp only at hSw
              go_simp
              try with_reducible rfl
            try simp only [Act.put, List.setIfInBounds_toArray, List.set_cons_zero, List.set_cons_succ]
            refine takeH (i := 10) (d := some 84) (v := ?_) rfl rfl (by kernel_rfl) (by kernel_rfl) (by kernel_rfl) (fun _ _ _ h => h) (Or.inl ⟨by rfl, ?_⟩) (by assumption) ?_
            rotate_left
            · intro w hSw
              try dsimp only at hSw
              go_simp
              try with_reducible rfl
            try simp only [Act.put, List.setIfInBounds_toArray, List.set_cons_zero, List.set_cons_succ]
            refine takeH (i := 11) (d := some 85) (v := ?_) rfl rfl (by kernel_rfl) (by kernel_rfl) (by kernel_rfl) (fun _ _ _ h => h) (Or.inl ⟨by rfl, ?_⟩) (by assumption) ?_
            rotate_left
            · intro w hSw
              try dsimp only at hSw
              go_simp
              try with_reducible rfl
            try simp only [Act.put, List.setIfInBounds_toArray, List.set_cons_zero, List.set_cons_succ]
            refine takeH (i := 12) (d := some 86) (v := ?_) rfl rfl (by kernel_rfl) (by kernel_rfl) (by kernel_rfl) (fun _ _ _ h => h) (Or.inl ⟨by rfl, ?_⟩) (by assumption) ?_
            rotate_left
            · intro w hSw
              try dsimp only at hSw
              go_simp
              try with_reducible rfl
            try simp only [Act.put, List.setIfInBounds_toArray, List.set_cons_zero, List.set_cons_succ]
            refine takeH (i := 13) (d := some 87) (v := ?_) rfl rfl (by kernel_rfl) (by kernel_rfl) (by kernel_rfl) (fun _ _ _ h => h) (Or.inl ⟨by rfl, ?_⟩) (by assumption) ?_
            rotate_left
            · intro w hSw
              try dsimp only at hSw
              go_simp
              try with_reducible rfl
            try simp only [Act.put, List.setIfInBounds_toArray, List.set_cons_zero, List.set_cons_succ]
            refine takeH (i := 14) (d := some 88) (v := ?_) rfl rfl (by kernel_rfl) (by kernel_rfl) (by kernel_rfl) (fun _ _ _ h => h) (Or.inl ⟨by rfl, ?_⟩) (by assumption) ?_
            rotate_left
            · intro w hSw
              try dsimp only at hSw
              go_simp
              try with_reducible rfl
            try simp only [Act.put, List.setIfInBounds_toArray, List.set_cons_zero, List.set_cons_succ]
            refine takeH (i := 15) (d := some 89) (v := ?_) rfl rfl (by kernel_rfl) (by kernel_rfl) (by kernel_rfl) (fun _ _ _ h => h) (Or.inl ⟨by rfl, ?_⟩) (by assumption) ?_
            rotate_left
            · intro w hSw
              try dsimp only at hSw
              go_simp
              try with_reducible rfl
            try simp only [Act.put, List.setIfInBounds_toArray, List.set_cons_zero, List.set_cons_succ]
            refine takeH (i := 16) (d := some 90) (v := ?_) rfl rfl (by kernel_rfl) (by kernel_rfl) (by kernel_rfl) (fun _ _ _ h => h) (Or.inl ⟨by rfl, ?_⟩) (by assumption) ?_
            rotate_left
            · intro w hSw
              try dsimp only at hSw
              go_simp
              try with_reducible rfl
            try simp only [Act.put, List.setIfInBounds_toArray, List.set_cons_zero, List.set_cons_succ]
            refine takeH (i := 17) (d := some 91) (v := ?_) rfl rfl (by kernel_rfl) (by kernel_rfl) (by kernel_rfl) (fun _ _ _ h => h) (Or.inl ⟨by rfl, ?_⟩) (by assumption) ?_
            rotate_left
            · intro w hSw
              try dsimp only at hSw
              go_simp
              try with_reducible rfl
            try simp only [Act.put, List.setIfInBounds_toArray, List.set_cons_zero, List.set_cons_succ]
            refine takeH (i := 18) (d := some 92) (v := ?_) rfl rfl (by kernel_rfl) (by kernel_rfl) (by kernel_rfl) (fun _ _ _ h => h) (Or.inl ⟨by rfl, ?_⟩) (by assumption) ?_
            rotate_left
            · intro w hSw
              try dsimp only at hSw
              go_simp
              try with_reducible rfl
            try simp only [Act.put, List.setIfInBounds_toArray, List.set_cons_zero, List.set_cons_succ]
            refine takeH (i := 19) (d := some 93) (v := ?_) rfl rfl (by kernel_rfl) (by kernel_rfl) (by kernel_rfl) (fun _ _ _ h => h) (Or.inl ⟨by rfl, ?_⟩) (by assumption) ?_
            rotate_left
            · intro w hSw
              try dsimp only at hSw
              have hb2 := HO3.out.turns hSw (fun _ _ h => h)
              have d0 := Owns.cell encT_len hb2 HF.out (j := 0) rfl
              have d1 := Owns.cell encT_len hb2 HF.out (j := 1) rfl
              have d2 := Owns.cell encT_len hb2 HF.out (j := 2) rfl
              simp only [Nat.zero_mul, Nat.zero_add] at d0 d1 d2
              clear hb2
              go_simp
              try with_reducible rfl
            try simp only [Act.put, List.setIfInBounds_toArray, List.set_cons_zero, List.set_cons_succ]
            refine takeH (i := 20) (d := some 94) (v := ?_) rfl rfl (by kernel_rfl) (by kernel_rfl) (by kernel_rfl) (fun _ _ _ h => h) (Or.inl ⟨by rfl, ?_⟩) (by assumption) ?_
            rotate_left
            · intro w hSw
              try dsimp only at hSw
              have hb2 := HX3.out.made hSw
              have d0 := hb2.cell 0
              have d1 := hb2.cell 1
              have d2 := hb2.cell 2
              simp only [List.getElem?_toArray, List.getElem?_cons_zero, List.getElem?_cons_succ] at d0 d1 d2
              clear hb2
              go_simp
              try with_reducible rfl
            try simp only [Act.put, List.setIfInBounds_toArray, List.set_cons_zero, List.set_cons_succ]
            refine takeH (i := 21) (d := some 95) (v := ?_) rfl rfl (by kernel_rfl) (by kernel_rfl) (by kernel_rfl) (fun _ _ _ h => h) (Or.inl ⟨by rfl, ?_⟩) (by assumption) ?_
            rotate_left
            · intro w hSw
              try dsimp only at hSw
              go_simp
              try with_reducible rfl
            try simp only [Act.put, List.setIfInBounds_toArray, List.set_cons_zero, List.set_cons_succ]
            refine takeH (i := 22) (d := some 96) (v := ?_) rfl rfl (by kernel_rfl) (by kernel_rfl) (by kernel_rfl) (fun _ _ _ h => h) (Or.inl ⟨by rfl, ?_⟩) (by assumption) ?_
            rotate_left
            · intro w hSw
              try dsimp only at hSw
              go_simp
              try with_reducible rfl
            try simp only [Act.put, List.setIfInBounds_toArray, List.set_cons_zero, List.set_cons_succ]
            refine takeH (i := 23) (d := some 97) (v := ?_) rfl rfl (by kernel_rfl) (by kernel_rfl) (by kernel_rfl) (fun _ _ _ h => h) (Or.inl ⟨by rfl, ?_⟩) (by assumption) ?_
            rotate_left
            · intro w hSw
              try dsimp only at hSw
              go_simp
              try with_reducible rfl
            try simp only [Act.put, List.setIfInBounds_toArray, List.set_cons_zero, List.set_cons_succ]
            refine wpAnyH_done (by kernel_rfl) ?_ _
            have HM4 := Lib.hid (HM3.out.trans hHeld)
            have HH4 := Lib.hid (HH3.out.made hHeld)
            have HO4 := Lib.hid (HO3.out.turns hHeld (fun _ _ h => h))
            clear hHeld HM3 HH3 HO3 HX3
            try clear hHeld
            generalize W.drew = W2 at *
            go_wp2_with fail
            go_loopw [14] (fun v14 wx => ∃ i : Nat, v14 = .int .i64 i ∧ Made w wx ∧ HeapAt wx p F' (m :: l) k ∧ Owns encT 30 3 wx (.slice (some ⟨g, 0, none⟩) ys.length rc) ys) (fun v14 _ => ys.length - (intOf v14).toNat)
            case atStart => exact ⟨0, rfl, HM4.out, HH4.out, HO4.out⟩
            case round =>
              clear HM4 HH4 HO4
              obtain ⟨i, rfl, hm, hh, ho⟩ := hrel
              by_cases hi : i < ys.length
              · obtain ⟨u, hu⟩ := get_of_lt hi
                have i1 : (0 : Int) ≤ (i : Int) := Int.natCast_nonneg _
                have i2 : (i : Int) < (ys.length : Int) := by omega
                have hfu : findL u.id (m :: l) = some u := (findL_some hh.uniq _ _).2 ⟨HPE.out.mem_iff.1 (List.mem_of_getElem? hu), rfl⟩
                have HFI := Lib.hid (hfind_c u.id wr hh)
                rw [hfu] at HFI
                simp only [optT, Option.getD_some, Option.isSome_some, aggT] at HFI
                have e0 := Owns.cell encT_len ho hu (j := 0) rfl
                simp only [Nat.add_zero] at e0
                have HM := Lib.hid hm
                have HH5 := Lib.hid hh
                have HO5 := Lib.hid ho
                have HUI := Lib.hid hu
                clear hm hh ho hu hfu
                go_wp2_with fail
                refine HFI.out.mono ?_
                rintro e w3 ⟨rfl, hm3⟩
                have HM6 := Lib.hid ((HM.out.trans hm3).trans (alloc_made _ (.cells #[.int .i64 u.id, .int .i64 u.when, .int .i64 u.seq] 30)))
                have HO6 := Lib.hid ((HO5.out.turns hm3 (fun _ _ h => h)).turns (alloc_made _ (.cells #[.int .i64 u.id, .int .i64 u.when, .int .i64 u.seq] 30)) (fun _ _ h => h))
                have HH6 := Lib.hid ((HH5.out.made hm3).made (alloc_made _ (.cells #[.int .i64 u.id, .int .i64 u.when, .int .i64 u.seq] 30)))
                have HX6 := Lib.hid (Blk.new w3 30 #[.int .i64 u.id, .int .i64 u.when, .int .i64 u.seq])
                clear hm3 HM HH5 HO5 HFI e0
                go_wp2_with fail
                generalize hbx : w3.heap.size = bx at *
                generalize w3.alloc (.cells #[.int .i64 u.id, .int .i64 u.when, .int .i64 u.seq] 30) = W3 at *
                clear hbx w3
                refine wp_region_held_drew (S := (fun w' => Made W3 w')) (by kernel_rfl) ?_ (fun hHeld => ?_)
                · exact (Turns.refl _ _).drew
                refine takeH (i := 0) (d := some 114) (v := ?_) rfl rfl (by kernel_rfl) (by kernel_rfl) (by kernel_rfl) (fun _ _ _ h => h) (Or.inl ⟨by rfl, ?_⟩) (by assumption) ?_
                rotate_left
                · intro w hSw
                  try dsimp only at hSw
                  go_simp
                  try with_reducible rfl
                try simp only [Act.put, List.setIfInBounds_toArray, List.set_cons_zero, List.set_cons_succ]
                refine takeH (i := 1) (d := some 115) (v := ?_) rfl rfl (by kernel_rfl) (by kernel_rfl) (by kernel_rfl) (fun _ _ _ h => h) (Or.inl ⟨by rfl, ?_⟩) (by assumption) ?_
                rotate_left
                · intro w hSw
                  try dsimp only at hSw
                  go_simp
                  try with_reducible rfl
                try simp only [Act.put, List.setIfInBounds_toArray, List.set_cons_zero, List.set_cons_succ]
                refine takeH (i := 2) (d := some 116) (v := ?_) rfl rfl (by kernel_rfl) (by kernel_rfl) (by kernel_rfl) (fun _ _ _ h => h) (Or.inl ⟨by rfl, ?_⟩) (by assumption) ?_
                rotate_left
                · intro w hSw
                  try dsimp only at hSw
                  go_simp
                  try with_reducible rfl
                try simp only [Act.put, List.setIfInBounds_toArray, List.set_cons_zero, List.set_cons_succ]
                refine takeH (i := 3) (d := some 117) (v := ?_) rfl rfl (by kernel_rfl) (by kernel_rfl) (by kernel_rfl) (fun _ _ _ h => h) (Or.inl ⟨by rfl, ?_⟩) (by assumption) ?_
                rotate_left
                · intro w hSw
                  try dsimp only at hSw
                  have hb2 := HX6.out.made hSw
                  have d0 := hb2.cell 0
                  have d1 := hb2.cell 1
                  have d2 := hb2.cell 2
                  simp only [List.getElem?_toArray, List.getElem?_cons_zero, List.getElem?_cons_succ] at d0 d1 d2
                  clear hb2
                  go_simp
                  try with_reducible rfl
                try simp only [Act.put, List.setIfInBounds_toArray, List.set_cons_zero, List.set_cons_succ]
                refine takeH (i := 4) (d := some 118) (v := ?_) rfl rfl (by kernel_rfl) (by kernel_rfl) (by kernel_rfl) (fun _ _ _ h => h) (Or.inl ⟨by rfl, ?_⟩) (by assumption) ?_
                rotate_left
                · intro w hSw
                  try dsimp only at hSw
                  go_simp
                  try with_reducible rfl
                try simp only [Act.put, List.setIfInBounds_toArray, List.set_cons_zero, List.set_cons_succ]
                refine takeH (i := 5) (d := some 119) (v := ?_) rfl rfl (by kernel_rfl) (by kernel_rfl) (by kernel_rfl) (fun _ _ _ h => h) (Or.inl ⟨by rfl, ?_⟩) (by assumption) ?_
                rotate_left
                · intro w hSw
                  try dsimp only at hSw
                  go_simp
                  try with_reducible rfl
                try simp only [Act.put, List.setIfInBounds_toArray, List.set_cons_zero, List.set_cons_succ]
                refine takeH (i := 6) (d := some 120) (v := ?_) rfl rfl (by kernel_rfl) (by kernel_rfl) (by kernel_rfl) (fun _ _ _ h => h) (Or.inl ⟨by rfl, ?_⟩) (by assumption) ?_
                rotate_left
                · intro w hSw
                  try dsimp only at hSw
                  go_simp
                  try with_reducible rfl
                try simp only [Act.put, List.setIfInBounds_toArray, List.set_cons_zero, List.set_cons_succ]
                refine takeH (i := 7) (d := some 121) (v := ?_) rfl rfl (by kernel_rfl) (by kernel_rfl) (by kernel_rfl) (fun _ _ _ h => h) (Or.inl ⟨by rfl, ?_⟩) (by assumption) ?_
                rotate_left
                · intro w hSw
                  try dsimp only at hSw
                  have hb2 := HO6.out.turns hSw (fun _ _ h => h)
                  have d0 := Owns.cell encT_len hb2 HUI.out (j := 0) rfl
                  have d1 := Owns.cell encT_len hb2 HUI.out (j := 1) rfl
                  have d2 := Owns.cell encT_len hb2 HUI.out (j := 2) rfl
                  simp only [Nat.add_zero] at d0
                  clear hb2
                  go_simp
                  try with_reducible rfl
                try simp only [Act.put, List.setIfInBounds_toArray, List.set_cons_zero, List.set_cons_succ]
                refine takeH (i := 8) (d := some 122) (v := ?_) rfl rfl (by kernel_rfl) (by kernel_rfl) (by kernel_rfl) (fun _ _ _ h => h) (Or.inl ⟨by rfl, ?_⟩) (by assumption) ?_
                rotate_left
                · intro w hSw
                  try dsimp only at hSw
                  go_simp
                  try with_reducible rfl
                try simp only [Act.put, List.setIfInBounds_toArray, List.set_cons_zero, List.set_cons_succ]
                refine takeH (i := 9) (d := some 123) (v := ?_) rfl rfl (by kernel_rfl) (by kernel_rfl) (by kernel_rfl) (fun _ _ _ h => h) (Or.inl ⟨by rfl, ?_⟩) (by assumption) ?_
                rotate_left
                · intro w hSw
                  try dsimp only at hSw
                  go_simp
                  try with_reducible rfl
                try simp only [Act.put, List.setIfInBounds_toArray, List.set_cons_zero, List.set_cons_succ]
                refine wpAnyH_done (by kernel_rfl) ?_ _
                have HM7 := Lib.hid (HM6.out.trans hHeld)
                have HH7 := Lib.hid (HH6.out.made hHeld)
                have HO7 := Lib.hid (HO6.out.turns hHeld (fun _ _ h => h))
                clear hHeld HM6 HH6 HO6 HX6
                try clear hHeld
                go_wp2_with fail
                go_roundw
                case rel => exact ⟨i + 1, by go_num, HM7.out, HH7.out, HO7.out⟩
                case measure => simp [intOf]; omega
              · have i2 : ¬ (i : Int) < (ys.length : Int) := by omega
                have HM := Lib.hid hm
                clear hm hh ho
                go_wp2_with fail
                refine (awake_c _).mono ?_
                rintro e w5 ⟨rfl, hm⟩
                have HM5 := Lib.hid (HM.out.trans hm)
                clear hm
                go_wp2_with fail
                go_ret
                exact ⟨rfl, HM5.out⟩
end Go.Proofs.Ytgjgopcomgclkaa
