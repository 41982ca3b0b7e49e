/-
  tarpaulinlaw11.awake returns true.
-/
import Derived.Test.YtgjgopcomgclkaaHpG
import Derived.Laws.StructEq
namespace Go.Proofs.Ytgjgopcomgclkaa
open Go.RowKit
set_option linter.unusedVariables false
set_option linter.unusedSimpArgs false

/-- What was made since w: all that turned is new, all that F has is new. -/
structure Since (w w' : World) (F : Nat → Prop) : Prop where
  m : Made w w'
  f : ∀ k, F k → w.heap.size ≤ k
theorem Since.step {w w1 w2 : World} {F F' : Nat → Prop} (h : Since w w1 F) (s : Stp w1 w2 F F') : Since w w2 F' :=
  ⟨h.m.then s.t (fun b hb hf => by have := h.f b hf; omega), fun k hk => (s.f k hk).elim (fun h2 => h.f k h2) (fun h2 => Nat.le_trans h.m.size h2)⟩
theorem Since.made {w w1 w2 : World} {F : Nat → Prop} (h : Since w w1 F) (s : Made w1 w2) : Since w w2 F := ⟨h.m.trans s, h.f⟩
/-- A block beside the heap. -/
structure Side (w : World) (F : Nat → Prop) (b : Nat) (t : TypeId) (cs : Array Value) : Prop where
  blk : Blk w b t cs
  n : ¬ F b
theorem Side.step {w w' : World} {F F' : Nat → Prop} {b : Nat} {t : TypeId} {cs : Array Value} (h : Side w F b t cs) (s : Stp w w' F F') : Side w' F' b t cs :=
  ⟨h.blk.turns s.t h.n, fun hf => (s.f b hf).elim h.n (fun h2 => by have := h.blk.lt; omega)⟩
theorem Side.made {w w' : World} {F : Nat → Prop} {b : Nat} {t : TypeId} {cs : Array Value} (h : Side w F b t cs) (s : Made w w') : Side w' F b t cs := ⟨h.blk.turns s (fun h => h), h.n⟩
theorem Side.new {w : World} {F : Nat → Prop} {p : Nat} {L : List It} {sq : Int} (h : HeapAt w p F L sq) (t : TypeId) (cs : Array Value) : Side (w.alloc (.cells cs t)) F w.heap.size t cs :=
  ⟨Blk.new w t cs, fun hf => by have := h.fb _ hf; omega⟩
theorem eq_item (a b c : Int) (w : World) : (binOp .eql 30 (.agg #[.int .i64 a, .int .i64 b, .int .i64 c]) (.agg #[.int .i64 a, .int .i64 b, .int .i64 c])).run Try.prog w = .ok (.bool true) w := by
  rw [run_eql_struct, run_equalIn_agg (ht := by kernel_rfl) (hp := by kernel_rfl)]
  unfold Program.fieldsOf
  rw [Try.underlying30]
  go_simp
theorem alloc_made (w : World) (o : Obj) : Made w (w.alloc o) := (Turns.refl _ _).alloc _

theorem Blk.made {w w' : World} {b : Nat} {t : TypeId} {cs : Array Value} (h : Blk w b t cs) (s : Made w w') : Blk w' b t cs := h.turns s (fun h => h)
set_option maxHeartbeats 4000000 in
set_option maxRecDepth 100000 in
theorem awake_c (w : World) : Calls Try.prog 15 #[] w fun e w' => e = .returned (.bool true) ∧ Made w w' := by
  go_enter Try.func15, Try.ntmps15
  go_wp2_with fail
  refine (hnew_c _).mono ?_
  rintro e w1 ⟨p, F, rfl, hh, hm, hf⟩
  have HH0 := Lib.hid hh
  have HS0 := Lib.hid (Since.mk hm hf)
  clear hh hm hf
  go_wp2_with fail
  refine (hadd_c 7 5 _ HH0.out rfl (by decide)).mono ?_
  rintro e w2 ⟨rfl, F1, hh, hs⟩
  have hh : HeapAt w2 p F1 [⟨7, 5, 1⟩] 1 := hh
  have HH1 := Lib.hid hh
  have HS1 := Lib.hid (HS0.out.step hs)
  clear hh hs
  go_wp2_with fail
  refine (hadd_c 8 3 _ HH1.out rfl (by decide)).mono ?_
  rintro e w3 ⟨rfl, F2, hh, hs⟩
  have hh : HeapAt w3 p F2 [⟨8, 3, 2⟩, ⟨7, 5, 1⟩] 2 := by simpa [insL, lt] using hh
  have HH2 := Lib.hid hh
  have HS2 := Lib.hid (HS1.out.step hs)
  clear hh hs
  go_wp2_with fail
  refine (hadd_there 7 1 _ HH2.out (x := ⟨7, 5, 1⟩) rfl).mono ?_
  rintro e w4 ⟨rfl, rfl⟩
  go_wp2_with fail
  refine (hmin_c _ HH2.out).mono ?_
  rintro e w5 ⟨rfl, hm⟩
  have HH3 := Lib.hid (HH2.out.made hm)
  have HS3 := Lib.hid (HS2.out.made hm)
  clear hm
  simp only [List.getElem?_cons_zero, List.getElem?_nil, Option.getD_none, Option.isSome_none, optT, Option.getD_some, Option.isSome_some, aggT, zeroT]
  have HH4 := Lib.hid (HH3.out.made (alloc_made _ (.cells #[.int .i64 8, .int .i64 3, .int .i64 2] 30)))
  have HS4 := Lib.hid (HS3.out.made (alloc_made _ (.cells #[.int .i64 8, .int .i64 3, .int .i64 2] 30)))
  have HA4_0 := Lib.hid (Side.new HH3.out 30 #[.int .i64 8, .int .i64 3, .int .i64 2])
  go_wp2_with fail
  generalize hbb : w5.heap.size = b0 at *
  generalize w5.alloc (.cells #[.int .i64 8, .int .i64 3, .int .i64 2] 30) = x5 at *
  clear hbb
  refine (hmove_c 8 9 _ HH4.out (by decide) (x := ⟨8, 3, 2⟩) rfl).mono ?_
  rintro e w6 ⟨rfl, F3, hh, hs⟩
  have hh : HeapAt w6 p F3 [⟨7, 5, 1⟩, ⟨8, 9, 3⟩] 3 := by simpa [insL, lt, delL] using hh
  have HH5 := Lib.hid hh
  have HS5 := Lib.hid (HS4.out.step hs)
  have HA5_0 := Lib.hid (HA4_0.out.step hs)
  clear hh hs
  go_wp2_with fail
  refine (hmove_none 4 1 _ HH5.out rfl).mono ?_
  rintro e w7 ⟨rfl, hm⟩
  have HH6 := Lib.hid (HH5.out.made hm)
  have HS6 := Lib.hid (HS5.out.made hm)
  have HA6_0 := Lib.hid (HA5_0.out.made hm)
  clear hm
  go_wp2_with fail
  refine (hpop_c _ HH6.out (by decide)).mono ?_
  rintro e w8 ⟨rfl, hh, hs⟩
  have hh : HeapAt w8 p F3 [⟨8, 9, 3⟩] 3 := hh
  have HH7 := Lib.hid hh
  have HS7 := Lib.hid (HS6.out.step hs)
  have HA7_0 := Lib.hid (HA6_0.out.step hs)
  clear hh hs
  simp only [List.getElem?_cons_zero, List.getElem?_nil, Option.getD_none, Option.isSome_none, optT, Option.getD_some, Option.isSome_some, aggT, zeroT]
  have HH8 := Lib.hid (HH7.out.made (alloc_made _ (.cells #[.int .i64 7, .int .i64 5, .int .i64 1] 30)))
  have HS8 := Lib.hid (HS7.out.made (alloc_made _ (.cells #[.int .i64 7, .int .i64 5, .int .i64 1] 30)))
  have HA8_0 := Lib.hid (HA7_0.out.made (alloc_made _ (.cells #[.int .i64 7, .int .i64 5, .int .i64 1] 30)))
  have HA8_1 := Lib.hid (Side.new HH7.out 30 #[.int .i64 7, .int .i64 5, .int .i64 1])
  go_wp2_with fail
  generalize hbb : w8.heap.size = b1 at *
  generalize w8.alloc (.cells #[.int .i64 7, .int .i64 5, .int .i64 1] 30) = x8 at *
  clear hbb
  refine (hfind_c 8 _ HH8.out).mono ?_
  rintro e w9 ⟨rfl, hm⟩
  have HH9 := Lib.hid (HH8.out.made hm)
  have HS9 := Lib.hid (HS8.out.made hm)
  have HA9_0 := Lib.hid (HA8_0.out.made hm)
  have HA9_1 := Lib.hid (HA8_1.out.made hm)
  clear hm
  simp only [show findL 8 [⟨8, 9, 3⟩] = some ⟨8, 9, 3⟩ from rfl]
  simp only [List.getElem?_cons_zero, List.getElem?_nil, Option.getD_none, Option.isSome_none, optT, Option.getD_some, Option.isSome_some, aggT, zeroT]
  have HH10 := Lib.hid (HH9.out.made (alloc_made _ (.cells #[.int .i64 8, .int .i64 9, .int .i64 3] 30)))
  have HS10 := Lib.hid (HS9.out.made (alloc_made _ (.cells #[.int .i64 8, .int .i64 9, .int .i64 3] 30)))
  have HA10_0 := Lib.hid (HA9_0.out.made (alloc_made _ (.cells #[.int .i64 8, .int .i64 9, .int .i64 3] 30)))
  have HA10_1 := Lib.hid (HA9_1.out.made (alloc_made _ (.cells #[.int .i64 8, .int .i64 9, .int .i64 3] 30)))
  have HA10_2 := Lib.hid (Side.new HH9.out 30 #[.int .i64 8, .int .i64 9, .int .i64 3])
  go_wp2_with fail
  generalize hbb : w9.heap.size = b2 at *
  generalize w9.alloc (.cells #[.int .i64 8, .int .i64 9, .int .i64 3] 30) = x9 at *
  clear hbb
  refine (hrem_c 8 _ HH10.out (by decide) (x := ⟨8, 9, 3⟩) rfl).mono ?_
  rintro e w10 ⟨rfl, hh, hs⟩
  have hh : HeapAt w10 p F3 [] 3 := hh
  have HH11 := Lib.hid hh
  have HS11 := Lib.hid (HS10.out.step hs)
  have HA11_0 := Lib.hid (HA10_0.out.step hs)
  have HA11_1 := Lib.hid (HA10_1.out.step hs)
  have HA11_2 := Lib.hid (HA10_2.out.step hs)
  clear hh hs
  simp only [List.getElem?_cons_zero, List.getElem?_nil, Option.getD_none, Option.isSome_none, optT, Option.getD_some, Option.isSome_some, aggT, zeroT]
  have HH12 := Lib.hid (HH11.out.made (alloc_made _ (.cells #[.int .i64 8, .int .i64 9, .int .i64 3] 30)))
  have HS12 := Lib.hid (HS11.out.made (alloc_made _ (.cells #[.int .i64 8, .int .i64 9, .int .i64 3] 30)))
  have HA12_0 := Lib.hid (HA11_0.out.made (alloc_made _ (.cells #[.int .i64 8, .int .i64 9, .int .i64 3] 30)))
  have HA12_1 := Lib.hid (HA11_1.out.made (alloc_made _ (.cells #[.int .i64 8, .int .i64 9, .int .i64 3] 30)))
  have HA12_2 := Lib.hid (HA11_2.out.made (alloc_made _ (.cells #[.int .i64 8, .int .i64 9, .int .i64 3] 30)))
  have HA12_3 := Lib.hid (Side.new HH11.out 30 #[.int .i64 8, .int .i64 9, .int .i64 3])
  go_wp2_with fail
  generalize hbb : w10.heap.size = b3 at *
  generalize w10.alloc (.cells #[.int .i64 8, .int .i64 9, .int .i64 3] 30) = x10 at *
  clear hbb
  refine (hpop_none _ HH12.out).mono ?_
  rintro e w11 ⟨rfl, hm⟩
  have HH13 := Lib.hid (HH12.out.made hm)
  have HS13 := Lib.hid (HS12.out.made hm)
  have HA13_0 := Lib.hid (HA12_0.out.made hm)
  have HA13_1 := Lib.hid (HA12_1.out.made hm)
  have HA13_2 := Lib.hid (HA12_2.out.made hm)
  have HA13_3 := Lib.hid (HA12_3.out.made hm)
  clear hm
  simp only [List.getElem?_cons_zero, List.getElem?_nil, Option.getD_none, Option.isSome_none, optT, Option.getD_some, Option.isSome_some, aggT, zeroT]
  have HH14 := Lib.hid (HH13.out.made (alloc_made _ (.cells #[.int .i64 0, .int .i64 0, .int .i64 0] 30)))
  have HS14 := Lib.hid (HS13.out.made (alloc_made _ (.cells #[.int .i64 0, .int .i64 0, .int .i64 0] 30)))
  have HA14_0 := Lib.hid (HA13_0.out.made (alloc_made _ (.cells #[.int .i64 0, .int .i64 0, .int .i64 0] 30)))
  have HA14_1 := Lib.hid (HA13_1.out.made (alloc_made _ (.cells #[.int .i64 0, .int .i64 0, .int .i64 0] 30)))
  have HA14_2 := Lib.hid (HA13_2.out.made (alloc_made _ (.cells #[.int .i64 0, .int .i64 0, .int .i64 0] 30)))
  have HA14_3 := Lib.hid (HA13_3.out.made (alloc_made _ (.cells #[.int .i64 0, .int .i64 0, .int .i64 0] 30)))
  have HA14_4 := Lib.hid (Side.new HH13.out 30 #[.int .i64 0, .int .i64 0, .int .i64 0])
  go_wp2_with fail
  generalize hbb : w11.heap.size = b4 at *
  generalize w11.alloc (.cells #[.int .i64 0, .int .i64 0, .int .i64 0] 30) = x11 at *
  clear hbb
  refine (hmin_nil _).mono ?_
  rintro e w12 ⟨rfl, hm⟩
  have HH15 := Lib.hid (HH14.out.made hm)
  have HS15 := Lib.hid (HS14.out.made hm)
  have HA15_0 := Lib.hid (HA14_0.out.made hm)
  have HA15_1 := Lib.hid (HA14_1.out.made hm)
  have HA15_2 := Lib.hid (HA14_2.out.made hm)
  have HA15_3 := Lib.hid (HA14_3.out.made hm)
  have HA15_4 := Lib.hid (HA14_4.out.made hm)
  clear hm
  have hq := eq_item
  have a0 := (HA15_0.out.blk.made (alloc_made _ (.cells #[.int .i64 0, .int .i64 0, .int .i64 0] 30))).cell 0
  have c0 := (HA15_0.out.blk.made (alloc_made _ (.cells #[.int .i64 0, .int .i64 0, .int .i64 0] 30))).cell 1
  have d0 := (HA15_0.out.blk.made (alloc_made _ (.cells #[.int .i64 0, .int .i64 0, .int .i64 0] 30))).cell 2
  have a1 := (HA15_1.out.blk.made (alloc_made _ (.cells #[.int .i64 0, .int .i64 0, .int .i64 0] 30))).cell 0
  have c1 := (HA15_1.out.blk.made (alloc_made _ (.cells #[.int .i64 0, .int .i64 0, .int .i64 0] 30))).cell 1
  have d1 := (HA15_1.out.blk.made (alloc_made _ (.cells #[.int .i64 0, .int .i64 0, .int .i64 0] 30))).cell 2
  have a2 := (HA15_2.out.blk.made (alloc_made _ (.cells #[.int .i64 0, .int .i64 0, .int .i64 0] 30))).cell 0
  have c2 := (HA15_2.out.blk.made (alloc_made _ (.cells #[.int .i64 0, .int .i64 0, .int .i64 0] 30))).cell 1
  have d2 := (HA15_2.out.blk.made (alloc_made _ (.cells #[.int .i64 0, .int .i64 0, .int .i64 0] 30))).cell 2
  have a3 := (HA15_3.out.blk.made (alloc_made _ (.cells #[.int .i64 0, .int .i64 0, .int .i64 0] 30))).cell 0
  have c3 := (HA15_3.out.blk.made (alloc_made _ (.cells #[.int .i64 0, .int .i64 0, .int .i64 0] 30))).cell 1
  have d3 := (HA15_3.out.blk.made (alloc_made _ (.cells #[.int .i64 0, .int .i64 0, .int .i64 0] 30))).cell 2
  have a4 := (HA15_4.out.blk.made (alloc_made _ (.cells #[.int .i64 0, .int .i64 0, .int .i64 0] 30))).cell 0
  have c4 := (HA15_4.out.blk.made (alloc_made _ (.cells #[.int .i64 0, .int .i64 0, .int .i64 0] 30))).cell 1
  have d4 := (HA15_4.out.blk.made (alloc_made _ (.cells #[.int .i64 0, .int .i64 0, .int .i64 0] 30))).cell 2
  simp only [List.getElem?_toArray, List.getElem?_cons_zero, List.getElem?_cons_succ, aggT, zeroT] at *
  go_wp2_with fail
  refine (hlen_c _ (HH15.out.made (alloc_made _ _))).mono ?_
  rintro e w13 ⟨rfl, rfl⟩
  go_wp2_with fail
  refine (hadd_nil 1 1 _).mono ?_
  rintro e w14 ⟨rfl, rfl⟩
  go_wp2_with fail
  go_ret
  exact ⟨rfl, (HS15.out.made (alloc_made _ _)).m⟩
end Go.Proofs.Ytgjgopcomgclkaa
