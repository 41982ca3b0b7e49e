/-
  tarpaulinlaw12.ExpireRows: its walk.
-/
import Derived.Test.YtgjgopcomgclkaaEl1
import Derived.Test.YtgjgopcomgclkaaHl1
namespace Go.Proofs.Ytgjgopcomgclkaa
open Go.RowKit
set_option linter.unusedVariables false
set_option linter.unusedSimpArgs false

/-- The next of a row, where nothing is held. -/
theorem next_free {due period now : Int} (h0 : 0 ≤ due) (h1 : 1 ≤ period) (h2 : period ≤ 1073741824) (h3 : due ≤ now) (h4 : now ≤ 1099511627776) :
    nextZ due period now = (due + period * ((now - due) / period + 1), 0) ∧ now < due + period * ((now - due) / period + 1) ∧ due + period * ((now - due) / period + 1) ≤ now + period := by
  have e1 := Int.emod_add_mul_ediv (now - due) period
  have e2 := Int.emod_nonneg (now - due) (b := period) (by omega)
  have e3 := Int.emod_lt_of_pos (now - due) (b := period) (by omega)
  have e4 : period * ((now - due) / period + 1) = period * ((now - due) / period) + period := by rw [Int.mul_add, Int.mul_one]
  unfold nextZ
  rw [if_neg (by omega), if_neg (by omega)]
  unfold addZ
  rw [heldZ_id (t := now) (by omega) (by omega), heldZ_id (t := period - (now - due) % period) (by omega) (by omega), heldZ_id (t := now + (period - (now - due) % period)) (by omega) (by omega)]
  rw [e4]
  refine ⟨?_, by omega, by omega⟩
  congr 1
  omega

set_option maxHeartbeats 4000000 in
set_option maxRecDepth 100000 in
theorem erows_w (when period : Int) (a : Option Addr) (len cap : Nat) (ws : List Int) (w : World) (hw : RowIn (fun z => [Value.int .i64 z]) 1 w a len ws) (hc : len ≤ cap) :
    Calls Try.prog 8 #[.int .i64 when, .int .i64 period, .slice a len cap] w fun e w' => e = .returned (.bool true) ∧ Made w w' := by
  have HW := Lib.hid hw
  clear hw
  have hawake : ∀ (h : when < 0 ∨ 1073741824 < when ∨ period < 1 ∨ 1073741824 < period ∨ 40 < len), Calls Try.prog 8 #[.int .i64 when, .int .i64 period, .slice a len cap] w fun e w' => e = .returned (.bool true) ∧ Made w w' := by
    intro h
    by_cases h1 : when < 0
    · clear h
      go_enter Try.func8, Try.ntmps8
      go_wp2_with fail
      refine (awake12_c w).mono ?_
      rintro e w' ⟨rfl, hm⟩
      have HM := Lib.hid hm
      clear hm
      go_wp2_with fail
      go_ret
      exact ⟨rfl, HM.out⟩
    by_cases h2 : 1073741824 < when
    · clear h
      go_enter Try.func8, Try.ntmps8
      go_wp2_with fail
      refine (awake12_c w).mono ?_
      rintro e w' ⟨rfl, hm⟩
      have HM := Lib.hid hm
      clear hm
      go_wp2_with fail
      go_ret
      exact ⟨rfl, HM.out⟩
    by_cases h3 : period < 1
    · clear h
      go_enter Try.func8, Try.ntmps8
      go_wp2_with fail
      refine (awake12_c w).mono ?_
      rintro e w' ⟨rfl, hm⟩
      have HM := Lib.hid hm
      clear hm
      go_wp2_with fail
      go_ret
      exact ⟨rfl, HM.out⟩
    by_cases h4 : 1073741824 < period
    · clear h
      go_enter Try.func8, Try.ntmps8
      go_wp2_with fail
      refine (awake12_c w).mono ?_
      rintro e w' ⟨rfl, hm⟩
      have HM := Lib.hid hm
      clear hm
      go_wp2_with fail
      go_ret
      exact ⟨rfl, HM.out⟩
    have h5 : (40 : Int) < (len : Int) := by omega
    clear h
    go_enter Try.func8, Try.ntmps8
    go_wp2_with fail
    refine (awake12_c w).mono ?_
    rintro e w' ⟨rfl, hm⟩
    have HM := Lib.hid hm
    clear hm
    go_wp2_with fail
    go_ret
    exact ⟨rfl, HM.out⟩
  by_cases hout : when < 0 ∨ 1073741824 < when ∨ period < 1 ∨ 1073741824 < period ∨ 40 < len
  · exact hawake hout
  clear hawake
  have h1 : ¬ when < 0 := by omega
  have h2 : ¬ 1073741824 < when := by omega
  have h3 : ¬ period < 1 := by omega
  have h4 : ¬ 1073741824 < period := by omega
  have h5 : ¬ (40 : Int) < (len : Int) := by omega
  clear hout
  go_enter Try.func8, Try.ntmps8
  go_wp2_with fail
  refine (tnew_c _).mono ?_
  rintro e w1 ⟨q, G, rfl, hh, hm, hf⟩
  have HH0 := Lib.hid hh
  have HS0 := Lib.hid (Since.mk hm hf)
  clear hh hm hf
  go_wp2_with fail
  refine (tarm_c 3 when period _ HH0.out (by decide) (by omega) (by omega) (by omega) (by omega)).mono ?_
  rintro e w2 ⟨rfl, G1, hh, hs⟩
  have HH1 := Lib.hid (show TimAt w2 q G1 [⟨3, when, 1⟩] 1 (pset (fun _ => none) 3 period) from hh)
  have HS1 := Lib.hid (HS0.out.step hs)
  clear hh hs
  go_wp2_with fail
  go_loopw [8, 9, 10] (fun v8 v9 v10 wr => ∃ (i : Nat) (now due sq : Int) (G : Nat → Prop) (pf : Int → Option Int), i ≤ len ∧ v8 = .int .i64 now ∧ v9 = .int .i64 due ∧ v10 = .int .i64 i ∧ TimAt wr q G [⟨3, due, sq⟩] sq pf ∧ Since w wr G ∧ pf 3 = some period ∧ sq ≤ i + 1 ∧ 0 ≤ now ∧ now ≤ 2147483648 * i ∧ when ≤ due ∧ due ≤ 2147483648 * i + 2147483648 ∧ (due - when) % period = 0) (fun _ _ v10 _ => len - (intOf v10).toNat)
  case atStart => exact ⟨0, 0, when, 1, G1, _, Nat.zero_le _, rfl, rfl, rfl, HH1.out, HS1.out, rfl, by omega, by omega, by omega, by omega, by omega, by rw [Int.sub_self]; exact Int.zero_emod _⟩
  case round =>
    obtain ⟨i, now, due, sq, G, pf, hi, rfl, rfl, rfl, hh, hs, hpf, hsq, hn0, hn1, hd0, hd1, hdm⟩ := hrel
    by_cases hil : i < len
    · obtain ⟨hlen, h0 | ⟨b, off, rfl, hb, hlies⟩⟩ := HW.out.made hs.m
      · omega
      obtain ⟨z, hz⟩ := get_of_lt (xs := ws) (k := i) (by omega)
      have e0 := hlies.one' hz
      have i1 : (0 : Int) ≤ (i : Int) := Int.natCast_nonneg _
      have i2 : (i : Int) < (len : Int) := by omega
      have hr0 : 0 ≤ z % 2147483648 := Int.emod_nonneg _ (by omega)
      have hr1 : z % 2147483648 < 2147483648 := Int.emod_lt_of_pos _ (by omega)
      have HRC := Lib.hid (round_c z 2147483648 wr (by omega) (by omega))
      generalize z % 2147483648 = r at *
      have hw1 : IntKind.i64.wrap (now + r) = now + r := wrap_in _ (by omega)
      generalize hnow : now + r = now' at *
      have hq := eq_due
      by_cases hdue : due ≤ now'
      · obtain ⟨hnx, hnlt, hnle⟩ := next_free (due := due) (period := period) (now := now') (by omega) (by omega) (by omega) hdue (by omega)
        have HTK := Lib.hid (ttake_again (x := ⟨3, due, sq⟩) (l := []) now' period wr hh (by omega) (by omega) hdue hpf ⟨by simp only [hnx], by simp only [hnx]; exact hnlt⟩)
        simp only [hnx] at HTK
        have hdq : (now' - due).tdiv period = (now' - due) / period := Int.tdiv_eq_ediv_of_nonneg (by omega)
        have hq0 : 0 ≤ (now' - due) / period := Int.ediv_nonneg (by omega) (by omega)
        have hq1 : (now' - due) / period ≤ now' - due := Int.ediv_le_self _ (by omega)
        have hmm : period * ((now' - due) / period + 1) = due + period * ((now' - due) / period + 1) - due := by omega
        have hmod : (due + period * ((now' - due) / period + 1) - when) % period = 0 := by
          rw [show due + period * ((now' - due) / period + 1) - when = (due - when) + period * ((now' - due) / period + 1) from by omega, Int.add_mul_emod_self_left]
          exact hdm
        have hw2 : IntKind.i64.wrap (now' - due) = now' - due := wrap_in _ (by omega)
        have hw3 : IntKind.i64.wrap ((now' - due) / period) = (now' - due) / period := wrap_in _ (by omega)
        have hw4 : IntKind.i64.wrap ((now' - due) / period + 1) = (now' - due) / period + 1 := wrap_in _ (by omega)
        have hw5 : IntKind.i64.wrap (period * ((now' - due) / period + 1)) = period * ((now' - due) / period + 1) := wrap_in _ (by omega)
        have hw6 : IntKind.i64.wrap (due + period * ((now' - due) / period + 1)) = due + period * ((now' - due) / period + 1) := wrap_in _ (by omega)
        generalize hqq : (now' - due) / period = qq at *
        generalize hpp : period * (qq + 1) = pp at *
        generalize hdd : due + pp = due' at *
        have hp0 : (period == 0) = false := beq_eq_false_iff_ne.mpr (by omega)
        have hp1 : ¬ period = 0 := by omega
        have hw7 : IntKind.i64.wrap (due' - when) = due' - when := wrap_in _ (by omega)
        have htm : (due' - when).tmod period = 0 := by rw [Int.tmod_eq_emod_of_nonneg (by omega)]; exact hmod
        have HS := Lib.hid hs
        have HPF := Lib.hid hpf
        have HMOD := Lib.hid hmod
        have HSQ := Lib.hid hsq
        have HNW := Lib.hid (show 0 ≤ now' ∧ now' ≤ 2147483648 * (i : Int) + 2147483648 ∧ when ≤ due' ∧ due' ≤ 2147483648 * (i : Int) + 4294967296 from by omega)
        have n1 : ¬ now' < due := by omega
        clear hs hpf hdm hmod hsq hmm hnx hlies hz hb hh
        go_wp2_with fail
        refine HRC.out.mono ?_
        rintro e w3 ⟨rfl, rfl⟩
        clear HRC
        go_wp2_with fail
        refine HTK.out.mono ?_
        rintro e w4 ⟨rfl, G4, hh, hs⟩
        simp only [dueV]
        have HH4 := Lib.hid (TimAt.made (show TimAt w4 q G4 [⟨3, due', sq + 1⟩] (sq + 1) (pset pf 3 period) from hh) (alloc_made _ (.cells #[.int .i64 3, .int .i64 due, .int .i64 now'] 58)))
        have HS4 := Lib.hid ((HS.out.step hs).made (alloc_made _ (.cells #[.int .i64 3, .int .i64 due, .int .i64 now'] 58)))
        clear hh hs HTK
        have HAR := Lib.hid (tarmed_c 3 _ HH4.out)
        rw [show findL 3 [⟨3, due', sq + 1⟩] = some ⟨3, due', sq + 1⟩ from rfl, show pset pf 3 period 3 = some period from rfl] at HAR
        simp only [optT, Option.getD_some, Option.isSome_some] at HAR
        go_wp2_with fail
        refine HAR.out.mono ?_
        rintro e w5 ⟨rfl, hm⟩
        have HH5 := Lib.hid (HH4.out.made hm)
        have HS5 := Lib.hid (HS4.out.made hm)
        clear hm HAR HH4 HS4
        go_wp2_with fail
        go_roundw
        case rel => exact ⟨i + 1, now', due', sq + 1, G4, _, by omega, rfl, rfl, by go_num, HH5.out, HS5.out, rfl, by have := HSQ.out; omega, by have := HNW.out; omega, by have := HNW.out; omega, by have := HNW.out; omega, by have := HNW.out; omega, HMOD.out⟩
        case measure => simp [intOf]; omega
      · have HTK := Lib.hid (ttake_none now' wr hh (by intro x hx; cases hx; exact .inr (by simp only; omega)))
        have n1 : now' < due := by omega
        have hw7 : IntKind.i64.wrap (due - when) = due - when := wrap_in _ (by omega)
        have htm : (due - when).tmod period = 0 := by rw [Int.tmod_eq_emod_of_nonneg (by omega)]; exact hdm
        have hp0 : (period == 0) = false := beq_eq_false_iff_ne.mpr (by omega)
        have hp1 : ¬ period = 0 := by omega
        have HS := Lib.hid hs
        have HPF := Lib.hid hpf
        have HMOD := Lib.hid hdm
        have HSQ := Lib.hid hsq
        have HH := Lib.hid hh
        have HNW := Lib.hid (show 0 ≤ now' ∧ now' ≤ 2147483648 * (i : Int) + 2147483648 ∧ when ≤ due ∧ due ≤ 2147483648 * (i : Int) + 2147483648 from by omega)
        clear hs hpf hdm hsq hlies hz hb hh
        go_wp2_with fail
        refine HRC.out.mono ?_
        rintro e w3 ⟨rfl, rfl⟩
        clear HRC
        go_wp2_with fail
        refine HTK.out.mono ?_
        rintro e w4 ⟨rfl, hm⟩
        simp only [dueV]
        have HH4 := Lib.hid ((HH.out.made hm).made (alloc_made _ (.cells #[.int .i64 0, .int .i64 0, .int .i64 0] 58)))
        have HS4 := Lib.hid ((HS.out.made hm).made (alloc_made _ (.cells #[.int .i64 0, .int .i64 0, .int .i64 0] 58)))
        clear hm HTK HH HS
        have HAR := Lib.hid (tarmed_c 3 _ HH4.out)
        rw [show findL 3 [⟨3, due, sq⟩] = some ⟨3, due, sq⟩ from rfl, HPF.out] at HAR
        simp only [optT, Option.getD_some, Option.isSome_some] at HAR
        go_wp2_with fail
        refine HAR.out.mono ?_
        rintro e w5 ⟨rfl, hm⟩
        have HH5 := Lib.hid (HH4.out.made hm)
        have HS5 := Lib.hid (HS4.out.made hm)
        clear hm HAR HH4 HS4
        go_wp2_with fail
        go_roundw
        case rel => exact ⟨i + 1, now', due, sq, G, _, by omega, rfl, rfl, by go_num, HH5.out, HS5.out, HPF.out, by have := HSQ.out; omega, by have := HNW.out; omega, by have := HNW.out; omega, by have := HNW.out; omega, by have := HNW.out; omega, HMOD.out⟩
        case measure => simp [intOf]; omega
    · have i2 : ¬ (i : Int) < (len : Int) := by omega
      have HS := Lib.hid hs
      clear hh hs hpf hdm
      go_wp2_with fail
      refine (awake12_c _).mono ?_
      rintro e w8 ⟨rfl, hm⟩
      have HM := Lib.hid (HS.out.m.trans hm)
      clear hm
      go_wp2_with fail
      go_ret
      exact ⟨rfl, HM.out⟩
end Go.Proofs.Ytgjgopcomgclkaa
