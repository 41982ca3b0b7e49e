/-
  tarpaulinlaw12.awake returns true.
-/
import Derived.Test.YtgjgopcomgclkaaEz
import Derived.Laws.StructEq
namespace Go.Proofs.Ytgjgopcomgclkaa
open Go.RowKit
set_option linter.unusedVariables false
set_option linter.unusedSimpArgs false

theorem eq_due (a b c : Int) (w : World) : (binOp .eql 58 (.agg #[.int .i64 a, .int .i64 b, .int .i64 c]) (.agg #[.int .i64 a, .int .i64 b, .int .i64 c])).run Try.prog w = .ok (.bool true) w := by
  rw [run_eql_struct, run_equalIn_agg (ht := by kernel_rfl) (hp := by kernel_rfl)]
  unfold Program.fieldsOf
  rw [Try.underlying58]
  go_simp
theorem Side.fresh {w : World} {F : Nat → Prop} (h : ∀ k, F k → k < w.heap.size) (t : TypeId) (cs : Array Value) : Side (w.alloc (.cells cs t)) F w.heap.size t cs :=
  ⟨Blk.new w t cs, fun hf => by have := h _ hf; omega⟩
/-- A Take whose row does not come again. -/
theorem ttake_once {q : Nat} {G : Nat → Prop} {x : It} {l : List It} {sq : Int} {pf : Int → Option Int} (now pd : Int) (w : World) (h : TimAt w q G (x :: l) sq pf) (hsq : sq < 1000000) (hn : 0 ≤ now) (hx : x.when ≤ now) (hpd : pf x.id = some pd) (hag : ¬ again x pd now) :
    Calls Try.prog 33 #[.pointer (some ⟨q, 0, none⟩), .int .i64 now] w fun e w' => e = .returned (.tuple #[dueV x.id x.when now, .bool true]) ∧ ∃ G', TimAt w' q G' l sq (pdel pf x.id) ∧ Stp w w' G G' := by
  refine (ttake_c now pd w h hsq hn hx hpd).mono ?_
  rintro e w' ⟨rfl, G', -, h2, h3⟩
  exact ⟨rfl, G', h2 hag, h3⟩
/-- A Take whose row comes again. -/
theorem ttake_again {q : Nat} {G : Nat → Prop} {x : It} {l : List It} {sq : Int} {pf : Int → Option Int} (now pd : Int) (w : World) (h : TimAt w q G (x :: l) sq pf) (hsq : sq < 1000000) (hn : 0 ≤ now) (hx : x.when ≤ now) (hpd : pf x.id = some pd) (hag : again x pd now) :
    Calls Try.prog 33 #[.pointer (some ⟨q, 0, none⟩), .int .i64 now] w fun e w' => e = .returned (.tuple #[dueV x.id x.when now, .bool true]) ∧ ∃ G', TimAt w' q G' (insL ⟨x.id, (nextZ x.when pd now).1, sq + 1⟩ l) (sq + 1) (pset pf x.id pd) ∧ Stp w w' G G' := by
  refine (ttake_c now pd w h hsq hn hx hpd).mono ?_
  rintro e w' ⟨rfl, G', h1, -, h3⟩
  exact ⟨rfl, G', h1 hag, h3⟩

set_option maxHeartbeats 4000000 in
set_option maxRecDepth 100000 in
theorem awake12_c (w : World) : Calls Try.prog 27 #[] w fun e w' => e = .returned (.bool true) ∧ Made w w' := by
  go_enter Try.func27, Try.ntmps27
  go_wp2_with fail
  refine (tnew_c _).mono ?_
  rintro e w1 ⟨q, G, rfl, hh, hm, hf⟩
  have HH0 := Lib.hid hh
  have HS0 := Lib.hid (Since.mk hm hf)
  clear hh hm hf
  go_wp2_with fail
  refine (tarm_c 1 10 5 _ HH0.out (by decide) (by decide) (by decide) (by decide) (by decide)).mono ?_
  rintro e w2 ⟨rfl, G1, hh, hs⟩
  have hh : TimAt w2 q G1 [⟨1, 10, 1⟩] 1 (pset (fun _ => none) 1 5) := hh
  have HH1 := Lib.hid hh
  have HS1 := Lib.hid (HS0.out.step hs)
  clear hh hs
  go_wp2_with fail
  refine (tarm_c 2 12 0 _ HH1.out (by decide) (by decide) (by decide) (by decide) (by decide)).mono ?_
  rintro e w3 ⟨rfl, G2, hh, hs⟩
  have hh : TimAt w3 q G2 [⟨1, 10, 1⟩, ⟨2, 12, 2⟩] 2 (pset (pset (fun _ => none) 1 5) 2 0) := by simpa [insL, lt, delL] using hh
  have HH2 := Lib.hid hh
  have HS2 := Lib.hid (HS1.out.step hs)
  clear hh hs
  go_wp2_with fail
  refine (tarm_bad _ 3 (-1) 0 _ (by decide)).mono ?_
  rintro e w4 ⟨rfl, rfl⟩
  go_wp2_with fail
  refine (ttake_again 22 5 _ HH2.out (by decide) (by decide) (by decide) rfl (by unfold again; decide)).mono ?_
  rintro e w5 ⟨rfl, G3, hh, hs⟩
  have hh : TimAt w5 q G3 [⟨2, 12, 2⟩, ⟨1, 25, 3⟩] 3 (pset (pset (pset (fun _ => none) 1 5) 2 0) 1 5) := by simpa [insL, lt, nextZ, addZ, heldZ] using hh
  have HH3 := Lib.hid hh
  have HS3 := Lib.hid (HS2.out.step hs)
  clear hh hs
  simp only [dueV]
  have HH4 := Lib.hid (HH3.out.made (alloc_made _ (.cells #[.int .i64 1, .int .i64 10, .int .i64 22] 58)))
  have HS4 := Lib.hid (HS3.out.made (alloc_made _ (.cells #[.int .i64 1, .int .i64 10, .int .i64 22] 58)))
  have HA4_0 := Lib.hid (Side.fresh HH3.out.gb 58 #[.int .i64 1, .int .i64 10, .int .i64 22])
  go_wp2_with fail
  generalize hbb : w5.heap.size = b0 at *
  generalize w5.alloc (.cells #[.int .i64 1, .int .i64 10, .int .i64 22] 58) = x5 at *
  clear hbb
  refine (ttake_once 22 0 _ HH4.out (by decide) (by decide) (by decide) rfl (by unfold again; decide)).mono ?_
  rintro e w6 ⟨rfl, G4, hh, hs⟩
  have hh : TimAt w6 q G4 [⟨1, 25, 3⟩] 3 (pdel (pset (pset (pset (fun _ => none) 1 5) 2 0) 1 5) 2) := hh
  have HH5 := Lib.hid hh
  have HS5 := Lib.hid (HS4.out.step hs)
  have HA5_0 := Lib.hid (HA4_0.out.step hs)
  clear hh hs
  simp only [dueV]
  have HH6 := Lib.hid (HH5.out.made (alloc_made _ (.cells #[.int .i64 2, .int .i64 12, .int .i64 22] 58)))
  have HS6 := Lib.hid (HS5.out.made (alloc_made _ (.cells #[.int .i64 2, .int .i64 12, .int .i64 22] 58)))
  have HA6_0 := Lib.hid (HA5_0.out.made (alloc_made _ (.cells #[.int .i64 2, .int .i64 12, .int .i64 22] 58)))
  have HA6_1 := Lib.hid (Side.fresh HH5.out.gb 58 #[.int .i64 2, .int .i64 12, .int .i64 22])
  go_wp2_with fail
  generalize hbb : w6.heap.size = b1 at *
  generalize w6.alloc (.cells #[.int .i64 2, .int .i64 12, .int .i64 22] 58) = x6 at *
  clear hbb
  refine (ttake_none 22 _ HH6.out (by intro x hx; cases hx; exact .inr (by decide))).mono ?_
  rintro e w7 ⟨rfl, hm⟩
  have HH7 := Lib.hid (HH6.out.made hm)
  have HS7 := Lib.hid (HS6.out.made hm)
  have HA7_0 := Lib.hid (HA6_0.out.made hm)
  have HA7_1 := Lib.hid (HA6_1.out.made hm)
  clear hm
  simp only [dueV]
  have HH8 := Lib.hid (HH7.out.made (alloc_made _ (.cells #[.int .i64 0, .int .i64 0, .int .i64 0] 58)))
  have HS8 := Lib.hid (HS7.out.made (alloc_made _ (.cells #[.int .i64 0, .int .i64 0, .int .i64 0] 58)))
  have HA8_0 := Lib.hid (HA7_0.out.made (alloc_made _ (.cells #[.int .i64 0, .int .i64 0, .int .i64 0] 58)))
  have HA8_1 := Lib.hid (HA7_1.out.made (alloc_made _ (.cells #[.int .i64 0, .int .i64 0, .int .i64 0] 58)))
  have HA8_2 := Lib.hid (Side.fresh HH7.out.gb 58 #[.int .i64 0, .int .i64 0, .int .i64 0])
  go_wp2_with fail
  generalize hbb : w7.heap.size = b2 at *
  generalize w7.alloc (.cells #[.int .i64 0, .int .i64 0, .int .i64 0] 58) = x7 at *
  clear hbb
  refine (tarmed_c 1 _ HH8.out).mono ?_
  rintro e w8 ⟨rfl, hm⟩
  have HH9 := Lib.hid (HH8.out.made hm)
  have HS9 := Lib.hid (HS8.out.made hm)
  have HA9_0 := Lib.hid (HA8_0.out.made hm)
  have HA9_1 := Lib.hid (HA8_1.out.made hm)
  have HA9_2 := Lib.hid (HA8_2.out.made hm)
  clear hm
  simp only [show findL 1 [⟨1, 25, 3⟩] = some ⟨1, 25, 3⟩ from rfl, show (pdel (pset (pset (pset (fun _ => none) 1 5) 2 0) 1 5) 2) 1 = some 5 from rfl, optT, Option.getD_some, Option.isSome_some]
  go_wp2_with fail
  refine (tnext_c _ HH9.out).mono ?_
  rintro e w9 ⟨rfl, hm⟩
  have HH10 := Lib.hid (HH9.out.made hm)
  have HS10 := Lib.hid (HS9.out.made hm)
  have HA10_0 := Lib.hid (HA9_0.out.made hm)
  have HA10_1 := Lib.hid (HA9_1.out.made hm)
  have HA10_2 := Lib.hid (HA9_2.out.made hm)
  clear hm
  simp only [List.getElem?_cons_zero, optT, Option.getD_some, Option.isSome_some]
  have hq := eq_due
  have a0 := (HA10_0.out.blk).cell 0
  have c0 := (HA10_0.out.blk).cell 1
  have d0 := (HA10_0.out.blk).cell 2
  have a1 := (HA10_1.out.blk).cell 0
  have c1 := (HA10_1.out.blk).cell 1
  have d1 := (HA10_1.out.blk).cell 2
  have a2 := (HA10_2.out.blk).cell 0
  have c2 := (HA10_2.out.blk).cell 1
  have d2 := (HA10_2.out.blk).cell 2
  simp only [List.getElem?_toArray, List.getElem?_cons_zero, List.getElem?_cons_succ] at a0 a1 a2 c0 c1 c2 d0 d1 d2
  go_wp2_with fail
  refine (tstop_c 1 _ HH10.out (by decide)).mono ?_
  rintro e w10 ⟨rfl, hh, hs⟩
  have hh : TimAt w10 q G4 [] 3 (pdel (pdel (pset (pset (pset (fun _ => none) 1 5) 2 0) 1 5) 2) 1) := hh
  have HH11 := Lib.hid hh
  have HS11 := Lib.hid (HS10.out.step hs)
  have HA11_0 := Lib.hid (HA10_0.out.step hs)
  have HA11_1 := Lib.hid (HA10_1.out.step hs)
  have HA11_2 := Lib.hid (HA10_2.out.step hs)
  clear hh hs
  rw [show (findL 1 [⟨1, 25, 3⟩]).isSome = true from rfl]
  go_wp2_with fail
  refine (tstop_c 1 _ HH11.out (by decide)).mono ?_
  rintro e w11 ⟨rfl, hh, hs⟩
  have hh : TimAt w11 q G4 [] 3 (pdel (pdel (pdel (pset (pset (pset (fun _ => none) 1 5) 2 0) 1 5) 2) 1) 1) := hh
  have HH12 := Lib.hid hh
  have HS12 := Lib.hid (HS11.out.step hs)
  have HA12_0 := Lib.hid (HA11_0.out.step hs)
  have HA12_1 := Lib.hid (HA11_1.out.step hs)
  have HA12_2 := Lib.hid (HA11_2.out.step hs)
  clear hh hs
  rw [show (findL 1 []).isSome = false from rfl]
  go_wp2_with fail
  refine (tlen_c _ HH12.out).mono ?_
  rintro e w90 ⟨rfl, rfl⟩
  go_wp2_with fail
  refine (tstop_nil 1 _).mono ?_
  rintro e w91 ⟨rfl, rfl⟩
  go_wp2_with fail
  refine (tarm_nil 1 1 1 _).mono ?_
  rintro e w92 ⟨rfl, rfl⟩
  go_wp2_with fail
  go_ret
  exact ⟨rfl, HS12.out.m⟩
end Go.Proofs.Ytgjgopcomgclkaa
