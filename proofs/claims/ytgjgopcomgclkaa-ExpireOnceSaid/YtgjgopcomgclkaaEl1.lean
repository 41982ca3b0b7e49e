/-
  tarpaulinlaw12.ExpireHeld: its walk.
-/
import Derived.Test.YtgjgopcomgclkaaEw
namespace Go.Proofs.Ytgjgopcomgclkaa
open Go.RowKit
set_option linter.unusedVariables false
set_option linter.unusedSimpArgs false

theorem not_again_end (x : It) (pd : Int) : ¬ again x pd 4611686018427387904 := fun h => by
  have h1 := again_bd h (by decide)
  have h2 := h.2
  omega

set_option maxHeartbeats 4000000 in
set_option maxRecDepth 100000 in
theorem held_w (when period : Int) (w : World) :
    Calls Try.prog 11 #[.int .i64 when, .int .i64 period] w fun e w' => e = .returned (.bool true) ∧ Made w w' := by
  have hawake : ∀ (h : when < 0 ∨ 1000 < when ∨ period < 1 ∨ 1099511627776 < period), Calls Try.prog 11 #[.int .i64 when, .int .i64 period] w fun e w' => e = .returned (.bool true) ∧ Made w w' := by
    intro h
    by_cases h1 : when < 0
    · clear h
      go_enter Try.func11, Try.ntmps11
      go_wp2_with fail
      refine (awake12_c w).mono ?_
      rintro e w' ⟨rfl, hm⟩
      have HM := Lib.hid hm
      clear hm
      go_wp2_with fail
      go_ret
      exact ⟨rfl, HM.out⟩
    by_cases h2 : 1000 < when
    · clear h
      go_enter Try.func11, Try.ntmps11
      go_wp2_with fail
      refine (awake12_c w).mono ?_
      rintro e w' ⟨rfl, hm⟩
      have HM := Lib.hid hm
      clear hm
      go_wp2_with fail
      go_ret
      exact ⟨rfl, HM.out⟩
    by_cases h3 : period < 1
    · clear h
      go_enter Try.func11, Try.ntmps11
      go_wp2_with fail
      refine (awake12_c w).mono ?_
      rintro e w' ⟨rfl, hm⟩
      have HM := Lib.hid hm
      clear hm
      go_wp2_with fail
      go_ret
      exact ⟨rfl, HM.out⟩
    have h4 : 1099511627776 < period := by omega
    clear h
    go_enter Try.func11, Try.ntmps11
    go_wp2_with fail
    refine (awake12_c w).mono ?_
    rintro e w' ⟨rfl, hm⟩
    have HM := Lib.hid hm
    clear hm
    go_wp2_with fail
    go_ret
    exact ⟨rfl, HM.out⟩
  by_cases hout : when < 0 ∨ 1000 < when ∨ period < 1 ∨ 1099511627776 < period
  · exact hawake hout
  clear hawake
  have h1 : ¬ when < 0 := by omega
  have h2 : ¬ 1000 < when := by omega
  have h3 : ¬ period < 1 := by omega
  have h4 : ¬ 1099511627776 < period := by omega
  clear hout
  go_enter Try.func11, Try.ntmps11
  go_wp2_with fail
  refine (tnew_c _).mono ?_
  rintro e w1 ⟨q, G, rfl, hh, hm, hf⟩
  have HH0 := Lib.hid hh
  have HS0 := Lib.hid (Since.mk hm hf)
  clear hh hm hf
  go_wp2_with fail
  refine (tarm_c 1 when period _ HH0.out (by decide) (by omega) (by omega) (by omega) (by omega)).mono ?_
  rintro e w2 ⟨rfl, G1, hh, hs⟩
  have hh : TimAt w2 q G1 [⟨1, when, 1⟩] 1 (pset (fun _ => none) 1 period) := hh
  have HH1 := Lib.hid hh
  have HS1 := Lib.hid (HS0.out.step hs)
  clear hh hs
  go_wp2_with fail
  refine (tarm_c 2 4611686018427387904 0 _ HH1.out (by decide) (by omega) (by omega) (by omega) (by omega)).mono ?_
  rintro e w3 ⟨rfl, G2, hh, hs⟩
  have hins : insL ⟨2, 4611686018427387904, 1 + 1⟩ (delL 2 [⟨1, when, 1⟩]) = [⟨1, when, 1⟩, ⟨2, 4611686018427387904, 2⟩] := by
    have e1 : delL 2 [(⟨1, when, 1⟩ : It)] = [⟨1, when, 1⟩] := rfl
    rw [e1]
    unfold insL
    rw [if_neg (by unfold lt; simp only; omega)]
    rfl
  rw [hins] at hh
  have HH2 := Lib.hid (show TimAt w3 q G2 [⟨1, when, 1⟩, ⟨2, 4611686018427387904, 2⟩] 2 (pset (pset (fun _ => none) 1 period) 2 0) from hh)
  have HS2 := Lib.hid (HS1.out.step hs)
  clear hh hs hins
  go_wp2_with fail
  refine (tarm_bad _ 3 4611686018427387905 0 _ (by decide)).mono ?_
  rintro e w4 ⟨rfl, rfl⟩
  go_wp2_with fail
  refine (tarm_bad _ 3 5 4611686018427387905 _ (by decide)).mono ?_
  rintro e w4 ⟨rfl, rfl⟩
  go_wp2_with fail
  refine (ttake_once 4611686018427387904 period _ HH2.out (by decide) (by decide) (by simp only; omega) rfl (not_again_end _ _)).mono ?_
  rintro e w4 ⟨rfl, G3, hh, hs⟩
  simp only [dueV]
  have HH3 := Lib.hid (hh.made (alloc_made _ (.cells #[.int .i64 1, .int .i64 when, .int .i64 4611686018427387904] 58)))
  have HS3 := Lib.hid ((HS2.out.step hs).made (alloc_made _ (.cells #[.int .i64 1, .int .i64 when, .int .i64 4611686018427387904] 58)))
  have HA3 := Lib.hid (Side.fresh hh.gb 58 #[.int .i64 1, .int .i64 when, .int .i64 4611686018427387904])
  clear hh hs
  go_wp2_with fail
  generalize hbb : w4.heap.size = b0 at *
  generalize w4.alloc (.cells #[.int .i64 1, .int .i64 when, .int .i64 4611686018427387904] 58) = x4 at *
  clear hbb
  refine (tarmed_c 1 _ HH3.out).mono ?_
  rintro e w5 ⟨rfl, hm⟩
  simp only [show findL 1 [⟨2, 4611686018427387904, 2⟩] = none from rfl, optT, Option.getD_none, Option.isSome_none, zeroT]
  have HH4 := Lib.hid (HH3.out.made hm)
  have HS4 := Lib.hid (HS3.out.made hm)
  have HA4 := Lib.hid (HA3.out.made hm)
  clear hm
  go_wp2_with fail
  refine (ttake_once 4611686018427387904 0 _ HH4.out (by decide) (by decide) (by decide) rfl (not_again_end _ _)).mono ?_
  rintro e w6 ⟨rfl, G5, hh, hs⟩
  simp only [dueV]
  have HH5 := Lib.hid (hh.made (alloc_made _ (.cells #[.int .i64 2, .int .i64 4611686018427387904, .int .i64 4611686018427387904] 58)))
  have HS5 := Lib.hid ((HS4.out.step hs).made (alloc_made _ (.cells #[.int .i64 2, .int .i64 4611686018427387904, .int .i64 4611686018427387904] 58)))
  have HA5 := Lib.hid ((HA4.out.step hs).made (alloc_made _ (.cells #[.int .i64 2, .int .i64 4611686018427387904, .int .i64 4611686018427387904] 58)))
  have HB5 := Lib.hid (Side.fresh hh.gb 58 #[.int .i64 2, .int .i64 4611686018427387904, .int .i64 4611686018427387904])
  clear hh hs
  go_wp2_with fail
  generalize hbb : w6.heap.size = b1 at *
  generalize w6.alloc (.cells #[.int .i64 2, .int .i64 4611686018427387904, .int .i64 4611686018427387904] 58) = x6 at *
  clear hbb
  refine (ttake_none 4611686018427387904 _ HH5.out (by intro x hx; cases hx)).mono ?_
  rintro e w7 ⟨rfl, hm⟩
  simp only [dueV]
  have HH6 := Lib.hid ((HH5.out.made hm).made (alloc_made _ (.cells #[.int .i64 0, .int .i64 0, .int .i64 0] 58)))
  have HS6 := Lib.hid ((HS5.out.made hm).made (alloc_made _ (.cells #[.int .i64 0, .int .i64 0, .int .i64 0] 58)))
  have HA6 := Lib.hid ((HA5.out.made hm).made (alloc_made _ (.cells #[.int .i64 0, .int .i64 0, .int .i64 0] 58)))
  have HB6 := Lib.hid ((HB5.out.made hm).made (alloc_made _ (.cells #[.int .i64 0, .int .i64 0, .int .i64 0] 58)))
  clear hm
  have a0 := HA6.out.blk.cell 0
  have a1 := HA6.out.blk.cell 1
  have a2 := HA6.out.blk.cell 2
  have c0 := HB6.out.blk.cell 0
  have c1 := HB6.out.blk.cell 1
  have c2 := HB6.out.blk.cell 2
  simp only [List.getElem?_toArray, List.getElem?_cons_zero, List.getElem?_cons_succ] at a0 a1 a2 c0 c1 c2
  have hq := eq_due
  go_wp2_with fail
  refine (tlen_c _ HH6.out).mono ?_
  rintro e w8 ⟨rfl, rfl⟩
  go_wp2_with fail
  refine (awake12_c _).mono ?_
  rintro e w8 ⟨rfl, hm⟩
  have HM := Lib.hid (HS6.out.m.trans hm)
  clear hm
  go_wp2_with fail
  go_ret
  exact ⟨rfl, HM.out⟩
end Go.Proofs.Ytgjgopcomgclkaa
