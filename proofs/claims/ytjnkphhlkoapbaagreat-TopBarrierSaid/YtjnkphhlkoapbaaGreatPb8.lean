/-
  Walks and laws under LawTopBarrier, part 8.
-/
import Derived.Deep.LoopGhost
import Derived.LaidEqlPtr
import Derived.Test.YtjnkphhlkoapbaaGreatPb7
namespace Go.Proofs.YtjnkphhlkoapbaaGreat
open Go.RowKit
set_option linter.unusedVariables false
set_option linter.unusedSimpArgs false
set_option maxRecDepth 100000 in
set_option maxHeartbeats 400000 in
theorem walone_0 {CX : World → (Nat → Prop) → Prop} {w : World} {b : Wp} {o : Nat → Nat} {ps : List (List Ins)} {s : Wst} {i j : Nat} {x : Tsk} {pc v : Int} {r : Reg} (hx : Ext CX) (h : WW CX w b o ps s) (hts : s.ts[i]? = some x) (hl : s.ts.length ≤ 64) (hst : x.st = 0) (hev : s.ev.length < 1000) :
  Calls Tryz.prog 49 #[.pointer (some ⟨b.pb, 0, none⟩), .int .i64 i, .agg (outA ⟨pc, r, false, v, false⟩)] w fun e w' => e = .returned (.tuple #[]) ∧ ∃ o', WW CX w' b o' ps { s with ts := s.ts.set i ⟨x.prog, pc, x.st, x.how, r, x.ins⟩ } ∧ Stp w w' (Own o) (Own o') := by
 have HXX := Lib.hid hx
 have HM := Lib.hid ((Turns.refl (fun _ => False) w).alloc (.cells (outA ⟨pc, r, false, v, false⟩) 125))
 have HO := Lib.hid (Blk.new w 125 (outA ⟨pc, r, false, v, false⟩))
 obtain ⟨vp, vc, vl, ve, h⟩ := h
 have HNR := Lib.hid (show ¬ Own o w.heap.size from fun e => absurd (h.lt _ e) (Nat.lt_irrefl _))
 have HW := Lib.hid (h.made hx HM.out)
 have HTS := Lib.hid (And.intro hts hst)
 have HEV := Lib.hid hev
 clear h hx hts hst hev
 go_enter Tryz.func49, Tryz.ntmps49
 go_wp2_with fail
 generalize w.alloc (.cells (outA ⟨pc, r, false, v, false⟩) 125) = W at *
 have HQ := Lib.hid HW.out.blk
 have HNB := Lib.hid (show ¬ o b.pb = 3 from by rw [HW.out.ob]; omega)
 have HNR3 := Lib.hid (show ¬ o w.heap.size = 3 from fun e => HNR.out (by show o w.heap.size ≠ 0; omega))
 have HWD := Lib.hid (HW.out.made HXX.out (Turns.refl (fun _ => False) W).drew)
 have HPT := Lib.hid (tabput_c (pc := pc) (r := r) HWD.out.tab HTS.out.1 hl HTS.out.2)
 refine wp_region_held_drew (S := fun w' => Blk w' (b.pb) 65 #[vp, .pointer (some ⟨b.pk, 0, none⟩), .pointer (some ⟨b.pt, 0, none⟩), vc, .int .i64 s.made, .pointer (some ⟨b.pm, 0, none⟩), .pointer (some ⟨b.px, 0, none⟩), .pointer (some ⟨b.pd, 0, none⟩), vl, .int .i64 s.steps, ve] ∧ Blk w' (w.heap.size) 125 (outA ⟨pc, r, false, v, false⟩) ∧ Turns (fun k => o k = 3) W w') (by kernel_rfl) ?_ (fun hHeld => ?_)
 ·exact ⟨HQ.out, HO.out, (Turns.refl _ W).drew⟩
 refine takeH (i := 0) (d := some 6) (v := ?_) rfl rfl (by kernel_rfl) (by kernel_rfl) (by kernel_rfl) (fun _ _ _ h => h) (Or.inl ⟨by rfl, ?_⟩) (by assumption) ?_
 rotate_left
 ·intro w hSw
  try dsimp only at hSw
  go_simp
  try with_reducible rfl
 try simp only [Act.put, List.setIfInBounds_toArray, List.set_cons_zero, List.set_cons_succ]
 refine takeH (i := 1) (d := some 7) (v := ?_) rfl rfl (by kernel_rfl) (by kernel_rfl) (by kernel_rfl) (fun _ _ _ h => h) (Or.inl ⟨by rfl, ?_⟩) (by assumption) ?_
 rotate_left
 ·intro w hSw
  try dsimp only at hSw
  go_simp
  try with_reducible rfl
 try simp only [Act.put, List.setIfInBounds_toArray, List.set_cons_zero, List.set_cons_succ]
 refine takeH (i := 2) (d := some 8) (v := ?_) rfl rfl (by kernel_rfl) (by kernel_rfl) (by kernel_rfl) (fun _ _ _ h => h) (Or.inl ⟨by rfl, ?_⟩) (by assumption) ?_
 rotate_left
 ·intro w hSw
  try dsimp only at hSw
  go_simp
  try with_reducible rfl
 try simp only [Act.put, List.setIfInBounds_toArray, List.set_cons_zero, List.set_cons_succ]
 refine takeH (i := 3) (d := some 9) (v := ?_) rfl rfl (by kernel_rfl) (by kernel_rfl) (by kernel_rfl) (fun _ _ _ h => h) (Or.inl ⟨by rfl, ?_⟩) (by assumption) ?_
 rotate_left
 ·intro w hSw
  try dsimp only at hSw
  have q0_0 := hSw.1.cell 0
  have q0_1 := hSw.1.cell 1
  have q0_2 := hSw.1.cell 2
  have q0_3 := hSw.1.cell 3
  have q0_4 := hSw.1.cell 4
  have q0_5 := hSw.1.cell 5
  have q0_6 := hSw.1.cell 6
  have q0_7 := hSw.1.cell 7
  have q0_8 := hSw.1.cell 8
  have q0_9 := hSw.1.cell 9
  have q0_10 := hSw.1.cell 10
  have q1_0 := hSw.2.1.cell 0
  simp only [List.getElem?_toArray, List.getElem?_cons_zero, List.getElem?_cons_succ] at q0_0 q0_1 q0_2 q0_3 q0_4 q0_5 q0_6 q0_7 q0_8 q0_9 q0_10 q1_0
  go_simp
  try with_reducible rfl
 try simp only [Act.put, List.setIfInBounds_toArray, List.set_cons_zero, List.set_cons_succ]
 refine takeH (i := 4) (d := some 10) (v := ?_) rfl rfl (by kernel_rfl) (by kernel_rfl) (by kernel_rfl) (fun _ _ _ h => h) (Or.inl ⟨by rfl, ?_⟩) (by assumption) ?_
 rotate_left
 ·intro w hSw
  try dsimp only at hSw
  go_simp
  try with_reducible rfl
 try simp only [Act.put, List.setIfInBounds_toArray, List.set_cons_zero, List.set_cons_succ]
 refine takeH (i := 5) (d := some 11) (v := ?_) rfl rfl (by kernel_rfl) (by kernel_rfl) (by kernel_rfl) (fun _ _ _ h => h) (Or.inl ⟨by rfl, ?_⟩) (by assumption) ?_
 rotate_left
 ·intro w hSw
  try dsimp only at hSw
  go_simp
  try with_reducible rfl
 try simp only [Act.put, List.setIfInBounds_toArray, List.set_cons_zero, List.set_cons_succ]
 refine takeH (i := 6) (d := some 12) (v := ?_) rfl rfl (by kernel_rfl) (by kernel_rfl) (by kernel_rfl) (fun _ _ _ h => h) (Or.inl ⟨by rfl, ?_⟩) (by assumption) ?_
 rotate_left
 ·intro w hSw
  try dsimp only at hSw
  have q0_0 := hSw.1.cell 0
  have q0_1 := hSw.1.cell 1
  have q0_2 := hSw.1.cell 2
  have q0_3 := hSw.1.cell 3
  have q0_4 := hSw.1.cell 4
  have q0_5 := hSw.1.cell 5
  have q0_6 := hSw.1.cell 6
  have q0_7 := hSw.1.cell 7
  have q0_8 := hSw.1.cell 8
  have q0_9 := hSw.1.cell 9
  have q0_10 := hSw.1.cell 10
  have q1_0 := hSw.2.1.cell 0
  simp only [List.getElem?_toArray, List.getElem?_cons_zero, List.getElem?_cons_succ] at q0_0 q0_1 q0_2 q0_3 q0_4 q0_5 q0_6 q0_7 q0_8 q0_9 q0_10 q1_0
  go_simp
  try with_reducible rfl
 try simp only [Act.put, List.setIfInBounds_toArray, List.set_cons_zero, List.set_cons_succ]
 refine takeH (i := 7) (d := some 13) (v := ?_) rfl rfl (by kernel_rfl) (by kernel_rfl) (by kernel_rfl) (fun _ _ _ h => h) (Or.inl ⟨by rfl, ?_⟩) (by assumption) ?_
 rotate_left
 ·intro w hSw
  try dsimp only at hSw
  go_simp
  try with_reducible rfl
 try simp only [Act.put, List.setIfInBounds_toArray, List.set_cons_zero, List.set_cons_succ]
 refine takeH (i := 8) (d := some 14) (v := ?_) rfl rfl (by kernel_rfl) (by kernel_rfl) (by kernel_rfl) (fun _ _ _ h => h) (Or.inl ⟨by rfl, ?_⟩) (by assumption) ?_
 rotate_left
 ·intro w hSw
  try dsimp only at hSw
  refine exec_load_at (P := Tryz.prog) (x := .tmp 13) (n := 1) (cs := [.int .i64 r.r0, .int .i64 r.r1, .int .i64 r.r2, .int .i64 r.r3, .int .i64 r.r4, .int .i64 r.r5, .int .i64 r.r6, .int .i64 r.r7]) ?_ ?_ (fun j v hv => by have hj : j < 8 := (List.getElem?_eq_some_iff.1 hv).1; refine (hSw.2.1.cell (1 + j)).trans ?_; rw [← hv]; rcases lt8 hj with rfl | rfl | rfl | rfl | rfl | rfl | rfl | rfl <;> rfl) Tryz.underlying36 ?_ Tryz.sizeReg <;> rfl
 try simp only [Act.put, List.setIfInBounds_toArray, List.set_cons_zero, List.set_cons_succ]
 refine wpAnyH_ready (rs := [9]) (by kernel_rfl) (by simp) ?_
 refine AllReadyH.cons rfl (fun K hK => ?_) AllReadyH.nil
 go_simp
 refine HPT.out.mono ?_
 rintro e w2 ⟨rfl, F2, ha2, hs2⟩
 refine hK.out _ _ ?_ (fun hHeld => ?_)
 ·exact ⟨hHeld.1.turns hs2.t HNB.out, hHeld.2.1.turns hs2.t HNR3.out, hHeld.2.2.trans hs2.t⟩
 clear hK K
 try simp only [Act.put, List.setIfInBounds_toArray, List.set_cons_zero, List.set_cons_succ]
 refine wpAnyH_done (by kernel_rfl) ?_ _
 obtain ⟨o2, h3, _, hs3⟩ := HWD.out.stepTab HXX.out ha2 hs2
 have HB2 := Lib.hid hHeld.2.1
 have HE := Lib.hid (And.intro (show WW CX w2 b o2 ps { s with ts := s.ts.set i ⟨x.prog, pc, x.st, x.how, r, x.ins⟩ } from ⟨_, _, _, _, h3⟩) ((Stp.made (F := Own o) (HM.out.trans (Turns.refl (fun _ => False) W).drew)).trans hs3))
 have HN2 := Lib.hid (show ¬ Own o2 w.heap.size from fun h0 => by
  rcases hs3.f _ h0 with h4 | h4
  ·exact HNR.out h4
  ·exact absurd HO.out.lt (Nat.not_lt.2 h4))
 have q9 := HB2.out.cell 9
 have q10 := HB2.out.cell 10
 have q11 := HB2.out.cell 11
 simp only [List.getElem?_toArray, List.getElem?_cons_zero, List.getElem?_cons_succ] at q9 q10 q11
 clear hHeld ha2 hs2 h3 hs3
 go_wp2_with fail
 go_end0
 exact ⟨rfl, o2, HE.out.1, HE.out.2⟩
set_option maxRecDepth 100000 in
set_option maxHeartbeats 400000 in
theorem walone_told {CX : World → (Nat → Prop) → Prop} {w : World} {b : Wp} {o : Nat → Nat} {ps : List (List Ins)} {s : Wst} {i j : Nat} {x : Tsk} {pc v : Int} {r : Reg} (hx : Ext CX) (h : WW CX w b o ps s) (hts : s.ts[i]? = some x) (hl : s.ts.length ≤ 64) (hst : x.st = 0) (hev : s.ev.length < 1000) :
  Calls Tryz.prog 49 #[.pointer (some ⟨b.pb, 0, none⟩), .int .i64 i, .agg (outA ⟨pc, r, true, v, false⟩)] w fun e w' => e = .returned (.tuple #[]) ∧ ∃ o', WW CX w' b o' ps { { s with ts := s.ts.set i ⟨x.prog, pc, x.st, x.how, r, x.ins⟩ } with ev := s.ev ++ [⟨s.steps, 1, i, v, 0, 0⟩] } ∧ Stp w w' (Own o) (Own o') := by
 have HXX := Lib.hid hx
 have HM := Lib.hid ((Turns.refl (fun _ => False) w).alloc (.cells (outA ⟨pc, r, true, v, false⟩) 125))
 have HO := Lib.hid (Blk.new w 125 (outA ⟨pc, r, true, v, false⟩))
 obtain ⟨vp, vc, vl, ve, h⟩ := h
 have HNR := Lib.hid (show ¬ Own o w.heap.size from fun e => absurd (h.lt _ e) (Nat.lt_irrefl _))
 have HW := Lib.hid (h.made hx HM.out)
 have HTS := Lib.hid (And.intro hts hst)
 have HEV := Lib.hid hev
 clear h hx hts hst hev
 go_enter Tryz.func49, Tryz.ntmps49
 go_wp2_with fail
 generalize w.alloc (.cells (outA ⟨pc, r, true, v, false⟩) 125) = W at *
 have HQ := Lib.hid HW.out.blk
 have HNB := Lib.hid (show ¬ o b.pb = 3 from by rw [HW.out.ob]; omega)
 have HNR3 := Lib.hid (show ¬ o w.heap.size = 3 from fun e => HNR.out (by show o w.heap.size ≠ 0; omega))
 have HWD := Lib.hid (HW.out.made HXX.out (Turns.refl (fun _ => False) W).drew)
 have HPT := Lib.hid (tabput_c (pc := pc) (r := r) HWD.out.tab HTS.out.1 hl HTS.out.2)
 refine wp_region_held_drew (S := fun w' => Blk w' (b.pb) 65 #[vp, .pointer (some ⟨b.pk, 0, none⟩), .pointer (some ⟨b.pt, 0, none⟩), vc, .int .i64 s.made, .pointer (some ⟨b.pm, 0, none⟩), .pointer (some ⟨b.px, 0, none⟩), .pointer (some ⟨b.pd, 0, none⟩), vl, .int .i64 s.steps, ve] ∧ Blk w' (w.heap.size) 125 (outA ⟨pc, r, true, v, false⟩) ∧ Turns (fun k => o k = 3) W w') (by kernel_rfl) ?_ (fun hHeld => ?_)
 ·exact ⟨HQ.out, HO.out, (Turns.refl _ W).drew⟩
 refine takeH (i := 0) (d := some 6) (v := ?_) rfl rfl (by kernel_rfl) (by kernel_rfl) (by kernel_rfl) (fun _ _ _ h => h) (Or.inl ⟨by rfl, ?_⟩) (by assumption) ?_
 rotate_left
 ·intro w hSw
  try dsimp only at hSw
  go_simp
  try with_reducible rfl
 try simp only [Act.put, List.setIfInBounds_toArray, List.set_cons_zero, List.set_cons_succ]
 refine takeH (i := 1) (d := some 7) (v := ?_) rfl rfl (by kernel_rfl) (by kernel_rfl) (by kernel_rfl) (fun _ _ _ h => h) (Or.inl ⟨by rfl, ?_⟩) (by assumption) ?_
 rotate_left
 ·intro w hSw
  try dsimp only at hSw
  go_simp
  try with_reducible rfl
 try simp only [Act.put, List.setIfInBounds_toArray, List.set_cons_zero, List.set_cons_succ]
 refine takeH (i := 2) (d := some 8) (v := ?_) rfl rfl (by kernel_rfl) (by kernel_rfl) (by kernel_rfl) (fun _ _ _ h => h) (Or.inl ⟨by rfl, ?_⟩) (by assumption) ?_
 rotate_left
 ·intro w hSw
  try dsimp only at hSw
  go_simp
  try with_reducible rfl
 try simp only [Act.put, List.setIfInBounds_toArray, List.set_cons_zero, List.set_cons_succ]
 refine takeH (i := 3) (d := some 9) (v := ?_) rfl rfl (by kernel_rfl) (by kernel_rfl) (by kernel_rfl) (fun _ _ _ h => h) (Or.inl ⟨by rfl, ?_⟩) (by assumption) ?_
 rotate_left
 ·intro w hSw
  try dsimp only at hSw
  have q0_0 := hSw.1.cell 0
  have q0_1 := hSw.1.cell 1
  have q0_2 := hSw.1.cell 2
  have q0_3 := hSw.1.cell 3
  have q0_4 := hSw.1.cell 4
  have q0_5 := hSw.1.cell 5
  have q0_6 := hSw.1.cell 6
  have q0_7 := hSw.1.cell 7
  have q0_8 := hSw.1.cell 8
  have q0_9 := hSw.1.cell 9
  have q0_10 := hSw.1.cell 10
  have q1_0 := hSw.2.1.cell 0
  simp only [List.getElem?_toArray, List.getElem?_cons_zero, List.getElem?_cons_succ] at q0_0 q0_1 q0_2 q0_3 q0_4 q0_5 q0_6 q0_7 q0_8 q0_9 q0_10 q1_0
  go_simp
  try with_reducible rfl
 try simp only [Act.put, List.setIfInBounds_toArray, List.set_cons_zero, List.set_cons_succ]
 refine takeH (i := 4) (d := some 10) (v := ?_) rfl rfl (by kernel_rfl) (by kernel_rfl) (by kernel_rfl) (fun _ _ _ h => h) (Or.inl ⟨by rfl, ?_⟩) (by assumption) ?_
 rotate_left
 ·intro w hSw
  try dsimp only at hSw
  go_simp
  try with_reducible rfl
 try simp only [Act.put, List.setIfInBounds_toArray, List.set_cons_zero, List.set_cons_succ]
 refine takeH (i := 5) (d := some 11) (v := ?_) rfl rfl (by kernel_rfl) (by kernel_rfl) (by kernel_rfl) (fun _ _ _ h => h) (Or.inl ⟨by rfl, ?_⟩) (by assumption) ?_
 rotate_left
 ·intro w hSw
  try dsimp only at hSw
  go_simp
  try with_reducible rfl
 try simp only [Act.put, List.setIfInBounds_toArray, List.set_cons_zero, List.set_cons_succ]
 refine takeH (i := 6) (d := some 12) (v := ?_) rfl rfl (by kernel_rfl) (by kernel_rfl) (by kernel_rfl) (fun _ _ _ h => h) (Or.inl ⟨by rfl, ?_⟩) (by assumption) ?_
 rotate_left
 ·intro w hSw
  try dsimp only at hSw
  have q0_0 := hSw.1.cell 0
  have q0_1 := hSw.1.cell 1
  have q0_2 := hSw.1.cell 2
  have q0_3 := hSw.1.cell 3
  have q0_4 := hSw.1.cell 4
  have q0_5 := hSw.1.cell 5
  have q0_6 := hSw.1.cell 6
  have q0_7 := hSw.1.cell 7
  have q0_8 := hSw.1.cell 8
  have q0_9 := hSw.1.cell 9
  have q0_10 := hSw.1.cell 10
  have q1_0 := hSw.2.1.cell 0
  simp only [List.getElem?_toArray, List.getElem?_cons_zero, List.getElem?_cons_succ] at q0_0 q0_1 q0_2 q0_3 q0_4 q0_5 q0_6 q0_7 q0_8 q0_9 q0_10 q1_0
  go_simp
  try with_reducible rfl
 try simp only [Act.put, List.setIfInBounds_toArray, List.set_cons_zero, List.set_cons_succ]
 refine takeH (i := 7) (d := some 13) (v := ?_) rfl rfl (by kernel_rfl) (by kernel_rfl) (by kernel_rfl) (fun _ _ _ h => h) (Or.inl ⟨by rfl, ?_⟩) (by assumption) ?_
 rotate_left
 ·intro w hSw
  try dsimp only at hSw
  go_simp
  try with_reducible rfl
 try simp only [Act.put, List.setIfInBounds_toArray, List.set_cons_zero, List.set_cons_succ]
 refine takeH (i := 8) (d := some 14) (v := ?_) rfl rfl (by kernel_rfl) (by kernel_rfl) (by kernel_rfl) (fun _ _ _ h => h) (Or.inl ⟨by rfl, ?_⟩) (by assumption) ?_
 rotate_left
 ·intro w hSw
  try dsimp only at hSw
  refine exec_load_at (P := Tryz.prog) (x := .tmp 13) (n := 1) (cs := [.int .i64 r.r0, .int .i64 r.r1, .int .i64 r.r2, .int .i64 r.r3, .int .i64 r.r4, .int .i64 r.r5, .int .i64 r.r6, .int .i64 r.r7]) ?_ ?_ (fun j v hv => by have hj : j < 8 := (List.getElem?_eq_some_iff.1 hv).1; refine (hSw.2.1.cell (1 + j)).trans ?_; rw [← hv]; rcases lt8 hj with rfl | rfl | rfl | rfl | rfl | rfl | rfl | rfl <;> rfl) Tryz.underlying36 ?_ Tryz.sizeReg <;> rfl
 try simp only [Act.put, List.setIfInBounds_toArray, List.set_cons_zero, List.set_cons_succ]
 refine wpAnyH_ready (rs := [9]) (by kernel_rfl) (by simp) ?_
 refine AllReadyH.cons rfl (fun K hK => ?_) AllReadyH.nil
 go_simp
 refine HPT.out.mono ?_
 rintro e w2 ⟨rfl, F2, ha2, hs2⟩
 refine hK.out _ _ ?_ (fun hHeld => ?_)
 ·exact ⟨hHeld.1.turns hs2.t HNB.out, hHeld.2.1.turns hs2.t HNR3.out, hHeld.2.2.trans hs2.t⟩
 clear hK K
 try simp only [Act.put, List.setIfInBounds_toArray, List.set_cons_zero, List.set_cons_succ]
 refine wpAnyH_done (by kernel_rfl) ?_ _
 obtain ⟨o2, h3, _, hs3⟩ := HWD.out.stepTab HXX.out ha2 hs2
 have HB2 := Lib.hid hHeld.2.1
 have HE := Lib.hid (And.intro (show WW CX w2 b o2 ps { s with ts := s.ts.set i ⟨x.prog, pc, x.st, x.how, r, x.ins⟩ } from ⟨_, _, _, _, h3⟩) ((Stp.made (F := Own o) (HM.out.trans (Turns.refl (fun _ => False) W).drew)).trans hs3))
 have HN2 := Lib.hid (show ¬ Own o2 w.heap.size from fun h0 => by
  rcases hs3.f _ h0 with h4 | h4
  ·exact HNR.out h4
  ·exact absurd HO.out.lt (Nat.not_lt.2 h4))
 have q9 := HB2.out.cell 9
 have q10 := HB2.out.cell 10
 have q11 := HB2.out.cell 11
 simp only [List.getElem?_toArray, List.getElem?_cons_zero, List.getElem?_cons_succ] at q9 q10 q11
 clear hHeld ha2 hs2 h3 hs3
 have HTL := Lib.hid (wtell_c (kind := 1) (who := (i : Int)) (ea := v) (eb := 0) (ec := 0) HXX.out HE.out.1 HEV.out)
 go_wp2_with fail
 refine HTL.out.mono ?_
 rintro e w3 ⟨rfl, o3, h3, hs3⟩
 have q11 := (HB2.out.turns hs3.t HN2.out).cell 11
 simp only [List.getElem?_toArray, List.getElem?_cons_zero, List.getElem?_cons_succ] at q11
 have HE2 := Lib.hid (And.intro h3 (HE.out.2.trans hs3))
 clear h3 hs3 q9 q10
 go_wp2_with fail
 go_end0
 exact ⟨rfl, o3, HE2.out.1, HE2.out.2⟩
set_option maxRecDepth 100000 in
set_option maxHeartbeats 400000 in
theorem walone_end {CX : World → (Nat → Prop) → Prop} {w : World} {b : Wp} {o : Nat → Nat} {ps : List (List Ins)} {s : Wst} {i j : Nat} {x : Tsk} {pc v : Int} {r : Reg} (hx : Ext CX) (h : WW CX w b o ps s) (hts : s.ts[i]? = some x) (hl : s.ts.length ≤ 64) (hst : x.st = 0) (hev : s.ev.length < 1000) (hj : s.rd[j]? = some (i : Int)) (hfj : ∀ k, k < j → s.rd[k]? ≠ some (i : Int)) (hrl : s.rd.length ≤ 1000) :
  Calls Tryz.prog 49 #[.pointer (some ⟨b.pb, 0, none⟩), .int .i64 i, .agg (outA ⟨pc, r, false, v, true⟩)] w fun e w' => e = .returned (.tuple #[]) ∧ ∃ o', WW CX w' b o' ps { { s with ts := s.ts.set i ⟨x.prog, pc, 2, 0, r, ⟨0, 0, 0, 0⟩⟩, rd := s.rd.eraseIdx j } with ev := s.ev ++ [⟨s.steps, 4, i, 0, 0, 0⟩] } ∧ Stp w w' (Own o) (Own o') := by
 have HXX := Lib.hid hx
 have HM := Lib.hid ((Turns.refl (fun _ => False) w).alloc (.cells (outA ⟨pc, r, false, v, true⟩) 125))
 have HO := Lib.hid (Blk.new w 125 (outA ⟨pc, r, false, v, true⟩))
 obtain ⟨vp, vc, vl, ve, h⟩ := h
 have HNR := Lib.hid (show ¬ Own o w.heap.size from fun e => absurd (h.lt _ e) (Nat.lt_irrefl _))
 have HW := Lib.hid (h.made hx HM.out)
 have HTS := Lib.hid (And.intro hts hst)
 have HEV := Lib.hid hev
 have HJ := Lib.hid (And.intro hj (And.intro hfj hrl))
 clear h hx hts hst hev hj hfj hrl
 go_enter Tryz.func49, Tryz.ntmps49
 go_wp2_with fail
 generalize w.alloc (.cells (outA ⟨pc, r, false, v, true⟩) 125) = W at *
 have HQ := Lib.hid HW.out.blk
 have HNB := Lib.hid (show ¬ o b.pb = 3 from by rw [HW.out.ob]; omega)
 have HNR3 := Lib.hid (show ¬ o w.heap.size = 3 from fun e => HNR.out (by show o w.heap.size ≠ 0; omega))
 have HWD := Lib.hid (HW.out.made HXX.out (Turns.refl (fun _ => False) W).drew)
 have HPT := Lib.hid (tabput_c (pc := pc) (r := r) HWD.out.tab HTS.out.1 hl HTS.out.2)
 refine wp_region_held_drew (S := fun w' => Blk w' (b.pb) 65 #[vp, .pointer (some ⟨b.pk, 0, none⟩), .pointer (some ⟨b.pt, 0, none⟩), vc, .int .i64 s.made, .pointer (some ⟨b.pm, 0, none⟩), .pointer (some ⟨b.px, 0, none⟩), .pointer (some ⟨b.pd, 0, none⟩), vl, .int .i64 s.steps, ve] ∧ Blk w' (w.heap.size) 125 (outA ⟨pc, r, false, v, true⟩) ∧ Turns (fun k => o k = 3) W w') (by kernel_rfl) ?_ (fun hHeld => ?_)
 ·exact ⟨HQ.out, HO.out, (Turns.refl _ W).drew⟩
 refine takeH (i := 0) (d := some 6) (v := ?_) rfl rfl (by kernel_rfl) (by kernel_rfl) (by kernel_rfl) (fun _ _ _ h => h) (Or.inl ⟨by rfl, ?_⟩) (by assumption) ?_
 rotate_left
 ·intro w hSw
  try dsimp only at hSw
  go_simp
  try with_reducible rfl
 try simp only [Act.put, List.setIfInBounds_toArray, List.set_cons_zero, List.set_cons_succ]
 refine takeH (i := 1) (d := some 7) (v := ?_) rfl rfl (by kernel_rfl) (by kernel_rfl) (by kernel_rfl) (fun _ _ _ h => h) (Or.inl ⟨by rfl, ?_⟩) (by assumption) ?_
 rotate_left
 ·intro w hSw
  try dsimp only at hSw
  go_simp
  try with_reducible rfl
 try simp only [Act.put, List.setIfInBounds_toArray, List.set_cons_zero, List.set_cons_succ]
 refine takeH (i := 2) (d := some 8) (v := ?_) rfl rfl (by kernel_rfl) (by kernel_rfl) (by kernel_rfl) (fun _ _ _ h => h) (Or.inl ⟨by rfl, ?_⟩) (by assumption) ?_
 rotate_left
 ·intro w hSw
  try dsimp only at hSw
  go_simp
  try with_reducible rfl
 try simp only [Act.put, List.setIfInBounds_toArray, List.set_cons_zero, List.set_cons_succ]
 refine takeH (i := 3) (d := some 9) (v := ?_) rfl rfl (by kernel_rfl) (by kernel_rfl) (by kernel_rfl) (fun _ _ _ h => h) (Or.inl ⟨by rfl, ?_⟩) (by assumption) ?_
 rotate_left
 ·intro w hSw
  try dsimp only at hSw
  have q0_0 := hSw.1.cell 0
  have q0_1 := hSw.1.cell 1
  have q0_2 := hSw.1.cell 2
  have q0_3 := hSw.1.cell 3
  have q0_4 := hSw.1.cell 4
  have q0_5 := hSw.1.cell 5
  have q0_6 := hSw.1.cell 6
  have q0_7 := hSw.1.cell 7
  have q0_8 := hSw.1.cell 8
  have q0_9 := hSw.1.cell 9
  have q0_10 := hSw.1.cell 10
  have q1_0 := hSw.2.1.cell 0
  simp only [List.getElem?_toArray, List.getElem?_cons_zero, List.getElem?_cons_succ] at q0_0 q0_1 q0_2 q0_3 q0_4 q0_5 q0_6 q0_7 q0_8 q0_9 q0_10 q1_0
  go_simp
  try with_reducible rfl
 try simp only [Act.put, List.setIfInBounds_toArray, List.set_cons_zero, List.set_cons_succ]
 refine takeH (i := 4) (d := some 10) (v := ?_) rfl rfl (by kernel_rfl) (by kernel_rfl) (by kernel_rfl) (fun _ _ _ h => h) (Or.inl ⟨by rfl, ?_⟩) (by assumption) ?_
 rotate_left
 ·intro w hSw
  try dsimp only at hSw
  go_simp
  try with_reducible rfl
 try simp only [Act.put, List.setIfInBounds_toArray, List.set_cons_zero, List.set_cons_succ]
 refine takeH (i := 5) (d := some 11) (v := ?_) rfl rfl (by kernel_rfl) (by kernel_rfl) (by kernel_rfl) (fun _ _ _ h => h) (Or.inl ⟨by rfl, ?_⟩) (by assumption) ?_
 rotate_left
 ·intro w hSw
  try dsimp only at hSw
  go_simp
  try with_reducible rfl
 try simp only [Act.put, List.setIfInBounds_toArray, List.set_cons_zero, List.set_cons_succ]
 refine takeH (i := 6) (d := some 12) (v := ?_) rfl rfl (by kernel_rfl) (by kernel_rfl) (by kernel_rfl) (fun _ _ _ h => h) (Or.inl ⟨by rfl, ?_⟩) (by assumption) ?_
 rotate_left
 ·intro w hSw
  try dsimp only at hSw
  have q0_0 := hSw.1.cell 0
  have q0_1 := hSw.1.cell 1
  have q0_2 := hSw.1.cell 2
  have q0_3 := hSw.1.cell 3
  have q0_4 := hSw.1.cell 4
  have q0_5 := hSw.1.cell 5
  have q0_6 := hSw.1.cell 6
  have q0_7 := hSw.1.cell 7
  have q0_8 := hSw.1.cell 8
  have q0_9 := hSw.1.cell 9
  have q0_10 := hSw.1.cell 10
  have q1_0 := hSw.2.1.cell 0
  simp only [List.getElem?_toArray, List.getElem?_cons_zero, List.getElem?_cons_succ] at q0_0 q0_1 q0_2 q0_3 q0_4 q0_5 q0_6 q0_7 q0_8 q0_9 q0_10 q1_0
  go_simp
  try with_reducible rfl
 try simp only [Act.put, List.setIfInBounds_toArray, List.set_cons_zero, List.set_cons_succ]
 refine takeH (i := 7) (d := some 13) (v := ?_) rfl rfl (by kernel_rfl) (by kernel_rfl) (by kernel_rfl) (fun _ _ _ h => h) (Or.inl ⟨by rfl, ?_⟩) (by assumption) ?_
 rotate_left
 ·intro w hSw
  try dsimp only at hSw
  go_simp
  try with_reducible rfl
 try simp only [Act.put, List.setIfInBounds_toArray, List.set_cons_zero, List.set_cons_succ]
 refine takeH (i := 8) (d := some 14) (v := ?_) rfl rfl (by kernel_rfl) (by kernel_rfl) (by kernel_rfl) (fun _ _ _ h => h) (Or.inl ⟨by rfl, ?_⟩) (by assumption) ?_
 rotate_left
 ·intro w hSw
  try dsimp only at hSw
  refine exec_load_at (P := Tryz.prog) (x := .tmp 13) (n := 1) (cs := [.int .i64 r.r0, .int .i64 r.r1, .int .i64 r.r2, .int .i64 r.r3, .int .i64 r.r4, .int .i64 r.r5, .int .i64 r.r6, .int .i64 r.r7]) ?_ ?_ (fun j v hv => by have hj : j < 8 := (List.getElem?_eq_some_iff.1 hv).1; refine (hSw.2.1.cell (1 + j)).trans ?_; rw [← hv]; rcases lt8 hj with rfl | rfl | rfl | rfl | rfl | rfl | rfl | rfl <;> rfl) Tryz.underlying36 ?_ Tryz.sizeReg <;> rfl
 try simp only [Act.put, List.setIfInBounds_toArray, List.set_cons_zero, List.set_cons_succ]
 refine wpAnyH_ready (rs := [9]) (by kernel_rfl) (by simp) ?_
 refine AllReadyH.cons rfl (fun K hK => ?_) AllReadyH.nil
 go_simp
 refine HPT.out.mono ?_
 rintro e w2 ⟨rfl, F2, ha2, hs2⟩
 refine hK.out _ _ ?_ (fun hHeld => ?_)
 ·exact ⟨hHeld.1.turns hs2.t HNB.out, hHeld.2.1.turns hs2.t HNR3.out, hHeld.2.2.trans hs2.t⟩
 clear hK K
 try simp only [Act.put, List.setIfInBounds_toArray, List.set_cons_zero, List.set_cons_succ]
 refine wpAnyH_done (by kernel_rfl) ?_ _
 obtain ⟨o2, h3, _, hs3⟩ := HWD.out.stepTab HXX.out ha2 hs2
 have HB2 := Lib.hid hHeld.2.1
 have HE := Lib.hid (And.intro (show WW CX w2 b o2 ps { s with ts := s.ts.set i ⟨x.prog, pc, x.st, x.how, r, x.ins⟩ } from ⟨_, _, _, _, h3⟩) ((Stp.made (F := Own o) (HM.out.trans (Turns.refl (fun _ => False) W).drew)).trans hs3))
 have HN2 := Lib.hid (show ¬ Own o2 w.heap.size from fun h0 => by
  rcases hs3.f _ h0 with h4 | h4
  ·exact HNR.out h4
  ·exact absurd HO.out.lt (Nat.not_lt.2 h4))
 have q9 := HB2.out.cell 9
 have q10 := HB2.out.cell 10
 have q11 := HB2.out.cell 11
 simp only [List.getElem?_toArray, List.getElem?_cons_zero, List.getElem?_cons_succ] at q9 q10 q11
 clear hHeld ha2 hs2 h3 hs3
 have q2 : w2.cell? ⟨b.pb, 2, none⟩ = some (.pointer (some ⟨b.pt, 0, none⟩)) := by obtain ⟨_, _, _, _, h4⟩ := HE.out.1; exact h4.blk.cell 2
 have HEN := Lib.hid (show Calls Tryz.prog 51 #[.pointer (some ⟨b.pt, 0, none⟩), .int .i64 i, .int .i64 0] w2 fun e w' => e = .returned (.int .i64 0) ∧ ∃ o', WW CX w' b o' ps { s with ts := s.ts.set i ⟨x.prog, pc, 2, 0, r, ⟨0, 0, 0, 0⟩⟩, rd := s.rd.eraseIdx j } ∧ Stp w2 w' (Own o2) (Own o') from by
  obtain ⟨vp4, vc4, vl4, ve4, h4⟩ := HE.out.1
  refine (tabend_c (how := 0) (x := ⟨x.prog, pc, x.st, x.how, r, x.ins⟩) h4.tab (by show (s.ts.set i _)[i]? = _; exact List.getElem?_set_self (List.getElem?_eq_some_iff.1 HTS.out.1).1) (by show (s.ts.set i _).length ≤ 64; rw [List.length_set]; exact hl) HTS.out.2 HJ.out.1 HJ.out.2.1 HJ.out.2.2).mono ?_
  rintro e w5 ⟨rfl, F5, hT5, hs5⟩
  obtain ⟨o5, h5, _, hst5⟩ := h4.stepTab HXX.out hT5 hs5
  refine ⟨rfl, o5, ⟨vp4, vc4, vl4, ve4, ?_⟩, hst5⟩
  simpa using h5)
 go_wp2_with fail
 refine HEN.out.mono ?_
 rintro e w3 ⟨rfl, o3, h3, hs3⟩
 have HTL := Lib.hid (wtell_c (kind := 4) (who := (i : Int)) (ea := 0) (eb := 0) (ec := 0) HXX.out h3 HEV.out)
 have HZ3 := Lib.hid hs3
 clear h3 hs3 q9 q10 q11 q2
 go_wp2_with fail
 refine HTL.out.mono ?_
 rintro e w4 ⟨rfl, o4, h4, hs4⟩
 have HE2 := Lib.hid (And.intro h4 ((HE.out.2.trans HZ3.out).trans hs4))
 clear h4 hs4
 go_wp2_with fail
 go_end0
 exact ⟨rfl, o4, HE2.out.1, HE2.out.2⟩
end Go.Proofs.YtjnkphhlkoapbaaGreat
namespace Go.Proofs.YtjnkphhlkoapbaaGreat
open Go.RowKit
set_option linter.unusedVariables false
set_option linter.unusedSimpArgs false
theorem Tryz.infoLk : (Tryz.prog.info? 123).map (fun i => (i.zero, i.size, i.bytes)) = some (some (.agg #[.slice none 0 0, .int .i64 0]), 2, 32) := by kernel_rfl
theorem WW.cell2 {CX : World → (Nat → Prop) → Prop} {w : World} {b : Wp} {o : Nat → Nat} {ps : List (List Ins)} {s : Wst} (h : WW CX w b o ps s) : w.cell? ⟨b.pb, 2, none⟩ = some (.pointer (some ⟨b.pt, 0, none⟩)) := by
 obtain ⟨vp, vc, vl, ve, h⟩ := h
 exact h.blk.cell 2
set_option maxRecDepth 100000 in
set_option maxHeartbeats 1000000 in
theorem wrun_none {CX : World → (Nat → Prop) → Prop} {w : World} {b : Wp} {o : Nat → Nat} {ps : List (List Ins)} {s : Wst} {n d : Int} (hx : Ext CX) (h : WW CX w b o ps s) (hrd : s.rd = []) (hrl : s.rd.length ≤ 1000) (hnl : s.nl < 900000) :
  Calls Tryz.prog 26 #[.pointer (some ⟨b.pb, 0, none⟩), .int .i64 n, .int .i64 d] w fun e w' => e = .returned (.tuple #[]) ∧ ∃ o', WW CX w' b o' ps { s with nl := s.nl + 1 } ∧ Stp w w' (Own o) (Own o') := by
 obtain ⟨i0, hi0, hz0, hz1, hz2⟩ := info_parts Tryz.infoLk
 have HXX := Lib.hid hx
 have HH := Lib.hid h
 have q2 := h.cell2
 have HRL := Lib.hid hrl
 have HNL := Lib.hid hnl
 have HRD := Lib.hid hrd
 have HRY : Hid _ := Lib.hid (show Calls Tryz.prog 46 #[.pointer (some ⟨b.pt, 0, none⟩)] w _ from by obtain ⟨vp, vc, vl, ve, h1⟩ := h; exact tabready_c h1.tab hrl)
 clear h hx hrl hnl hrd
 go_enter Tryz.func26, Tryz.ntmps26
 go_wp2_with fail
 refine HRY.out.mono ?_
 rintro e w1 ⟨v1, rfl, hro1, hm1, hrf1⟩
 have HM1 := Lib.hid hm1
 have HW1 := Lib.hid (HH.out.made HXX.out hm1)
 obtain ⟨a1, c1, rfl⟩ := owns_slice hro1
 have HR1 := Lib.hid (And.intro hro1 hrf1)
 have q2 := HW1.out.cell2
 clear hm1 hro1 hrf1
 have HPK : Hid _ := Lib.hid (show Calls Tryz.prog 47 #[.pointer (some ⟨b.pt, 0, none⟩), .int .i64 n] w1 _ from by obtain ⟨vp, vc, vl, ve, h1⟩ := HW1.out; have ht := h1.tab; rw [HRD.out] at ht; exact tabpick_none n ht)
 go_wp2_with fail
 refine HPK.out.mono ?_
 rintro e w2 ⟨rfl, rfl⟩
 clear HPK
 obtain ⟨w2, hw2⟩ : ∃ w2, w2 = w1 := ⟨_, rfl⟩
 rw [← hw2]
 rw [← hw2] at HM1 HW1 HR1 q2
 clear hw2 w1
 have HW2 := HW1
 obtain ⟨vp, vc, vl, ve, h2⟩ := HW2.out
 obtain ⟨ls, hl1, hl2⟩ := h2.lrow
 have HL1 := Lib.hid hl1
 have q8 : w2.cell? ⟨b.pb, 8, none⟩ = some vl := h2.blk.cell 8
 have HMX := Lib.hid ((Turns.refl (fun _ => False) w2).alloc (.cells (lkC ⟨(a1, s.rd.length, c1), (-1)⟩).toArray 123))
 have HBX := Lib.hid (Blk.new w2 123 (lkC ⟨(a1, s.rd.length, c1), (-1)⟩).toArray)
 have HOX := Lib.hid (hl2.made HMX.out)
 have HA2 := Lib.hid h2
 have HLL := Lib.hid (show ls.length + 1 ≤ 1000000 from by rw [hl1]; have := HNL.out; omega)
 clear h2 hl1 hl2
 go_wp2_with (at_builtin; refine wpList_push rfl (.tmp 35) (.tmp 38) _ rfl i0 _ 32 Tryz.underlying63 hi0 hz0 hz1 hz2 rfl (by omega) lkC_len lkC_one rfl HOX.out ⟨(a1, s.rd.length, c1), (-1)⟩ rfl HBX.out HLL.out (by omega) ?_; intro v3 w3 hO3 hT3 hV3; have hb3 := (HA2.out.blk.turns HMX.out (fun h => h)).turns hT3 (fun e => by have h9 := (HA2.out.lo _).1 e; rw [HA2.out.ob] at h9; omega); have HR := Lib.hid (HA2.out.pushLk HXX.out HL1.out HMX.out hO3 hT3 hV3); obtain ⟨a3, c3, rfl⟩ := owns_slice hO3; have r8 := hb3.cell 8; have f8 := hb3.free 8; simp only [List.getElem?_toArray, List.getElem?_cons_zero, List.getElem?_cons_succ] at r8; clear hO3 hT3 hV3 hb3)
 go_returns
 obtain ⟨o', h1, h2⟩ := HR.out
 exact ⟨rfl, o', ⟨_, _, _, _, by simpa using h1⟩, by simpa using (Stp.made (F := Own o) HM1.out).trans h2⟩
def outC (o : LOut) : List Value := [.int .i64 o.pc, .int .i64 o.regs.r0, .int .i64 o.regs.r1, .int .i64 o.regs.r2, .int .i64 o.regs.r3, .int .i64 o.regs.r4, .int .i64 o.regs.r5, .int .i64 o.regs.r6, .int .i64 o.regs.r7, .bool o.told, .int .i64 o.value, .bool o.ended]
theorem outC_one (x : LOut) : ∀ u ∈ outC x, u.oneCell' = true := by
 intro u hu
 simp only [outC, List.mem_cons, List.not_mem_nil, or_false] at hu
 rcases hu with rfl | rfl | rfl | rfl | rfl | rfl | rfl | rfl | rfl | rfl | rfl | rfl <;> rfl
theorem Tryz.sizeOut : (Tryz.prog.info? 125).map (·.size) = some 12 := by kernel_rfl
structure Sel (ps : List (List Ins)) (s : Wst) (n : Int) (j i : Nat) (x : Tsk) (p : List Ins) (pg pc : Nat) : Prop where
 hj : pickZ n s.rd.length = j
 hi : s.rd[j]? = some (i : Int)
 hx : s.ts[i]? = some x
 hp : x.prog = pg
 hps : ps[pg]? = some p
 hpc : x.pc = pc
 st : x.st = 0
 tl : s.ts.length ≤ 64
 pl : ps.length ≤ 16
 il : p.length ≤ 100
set_option maxRecDepth 100000 in
set_option maxHeartbeats 4000000 in
theorem wrun_local {CX : World → (Nat → Prop) → Prop} {w : World} {b : Wp} {o : Nat → Nat} {ps : List (List Ins)} {s : Wst} {n d : Int} {j i pg pc : Nat} {x : Tsk} {p : List Ins} {O : LOut} {s' : Wst} (hx : Ext CX) (h : WW CX w b o ps s) (hsl : Sel ps s n j i x p pg pc) (hrl : s.rd.length ≤ 1000) (hnl : s.nl < 900000)
  (hl : ∀ (w1 : World) (a : Option Addr) (ci : Nat), RowIn insC 6 w1 a p.length p → Calls Tryz.prog 48 #[.slice a p.length ci, .int .i64 pc, regV x.regs, .int .i64 s.now] w1 fun e w' => e = .returned (.tuple #[.agg (outA O), .int .i64 0]) ∧ Made w1 w')
  (ha : ∀ (w1 : World) (o1 : Nat → Nat), WW CX w1 b o1 ps { s with nl := s.nl + 1 } → Calls Tryz.prog 49 #[.pointer (some ⟨b.pb, 0, none⟩), .int .i64 i, .agg (outA O)] w1 fun e w' => e = .returned (.tuple #[]) ∧ ∃ o', WW CX w' b o' ps s' ∧ Stp w1 w' (Own o1) (Own o')) :
  Calls Tryz.prog 26 #[.pointer (some ⟨b.pb, 0, none⟩), .int .i64 n, .int .i64 d] w fun e w' => e = .returned (.tuple #[]) ∧ ∃ o', WW CX w' b o' ps s' ∧ Stp w w' (Own o) (Own o') := by
 obtain ⟨i0, hi0, hz0, hz1, hz2⟩ := info_parts Tryz.infoLk
 have HLD := Lib.hid hl
 have HAL := Lib.hid ha
 clear hl ha
 have HXX := Lib.hid hx
 have HH := Lib.hid h
 have q2 := h.cell2
 have HRL := Lib.hid hrl
 have HNL := Lib.hid hnl
 have HSL := Lib.hid hsl
 have HRY : Hid _ := Lib.hid (show Calls Tryz.prog 46 #[.pointer (some ⟨b.pt, 0, none⟩)] w _ from by obtain ⟨vp, vc, vl, ve, h1⟩ := h; exact tabready_c h1.tab hrl)
 clear h hx hrl hnl hsl
 go_enter Tryz.func26, Tryz.ntmps26
 go_wp2_with fail
 refine HRY.out.mono ?_
 rintro e w1 ⟨v1, rfl, hro1, hm1, hrf1⟩
 have HM1 := Lib.hid hm1
 have HW1 := Lib.hid (HH.out.made HXX.out hm1)
 obtain ⟨a1, c1, rfl⟩ := owns_slice hro1
 have HR1 := Lib.hid (And.intro hro1 hrf1)
 have q2 := HW1.out.cell2
 clear hm1 hro1 hrf1
 have HPK : Hid _ := Lib.hid (show Calls Tryz.prog 47 #[.pointer (some ⟨b.pt, 0, none⟩), .int .i64 n] w1 _ from by obtain ⟨vp, vc, vl, ve, h1⟩ := HW1.out; exact tabpick_c n h1.tab HSL.out.hj HSL.out.hi HRL.out)
 go_wp2_with fail
 refine HPK.out.mono ?_
 rintro e w2 ⟨rfl, hm2⟩
 have HW2 := Lib.hid (HW1.out.made HXX.out hm2)
 have HM2 := Lib.hid (HM1.out.trans hm2)
 have q2 := HW2.out.cell2
 clear hm2
 obtain ⟨vp, vc, vl, ve, h2⟩ := HW2.out
 obtain ⟨ls, hl1, hl2⟩ := h2.lrow
 have HL1 := Lib.hid hl1
 have q8 : w2.cell? ⟨b.pb, 8, none⟩ = some vl := h2.blk.cell 8
 have HMX := Lib.hid ((Turns.refl (fun _ => False) w2).alloc (.cells (lkC ⟨(a1, s.rd.length, c1), (i : Int)⟩).toArray 123))
 have HBX := Lib.hid (Blk.new w2 123 (lkC ⟨(a1, s.rd.length, c1), (i : Int)⟩).toArray)
 have HOX := Lib.hid (hl2.made HMX.out)
 have HA2 := Lib.hid h2
 have HLL := Lib.hid (show ls.length + 1 ≤ 1000000 from by rw [hl1]; have := HNL.out; omega)
 clear h2 hl1 hl2
 go_wp2_with (at_builtin; refine wpList_push rfl (.tmp 46) (.tmp 50) _ rfl i0 _ 32 Tryz.underlying63 hi0 hz0 hz1 hz2 rfl (by omega) lkC_len lkC_one rfl HOX.out ⟨(a1, s.rd.length, c1), (i : Int)⟩ rfl HBX.out HLL.out (by omega) ?_; intro v3 w3 hO3 hT3 hV3; have hb3 := (HA2.out.blk.turns HMX.out (fun h => h)).turns hT3 (fun e => by have h9 := (HA2.out.lo _).1 e; rw [HA2.out.ob] at h9; omega); have HR := Lib.hid (HA2.out.pushLk HXX.out HL1.out HMX.out hO3 hT3 hV3); obtain ⟨a3, c3, rfl⟩ := owns_slice hO3; have r8 := hb3.cell 8; have f8 := hb3.free 8; have r2 := hb3.cell 2; simp only [List.getElem?_toArray, List.getElem?_cons_zero, List.getElem?_cons_succ] at r8 r2; clear hO3 hT3 hV3 hb3)
 obtain ⟨o3, hw3, hs3⟩ := HR.out
 simp only [List.length_append, List.length_cons, List.length_nil, Nat.zero_add] at hw3 hs3
 have HW3 := Lib.hid (show WW CX _ b o3 ps { s with nl := s.nl + 1 } from ⟨_, _, _, _, hw3⟩)
 have HS3 := Lib.hid ((Stp.made (F := Own o) HM2.out).trans hs3)
 have HGT := Lib.hid (tabget_c hw3.tab HSL.out.hx HSL.out.tl)
 clear hw3 hs3 HR r2 r8 f8 q8 q2
 generalize w3.setCell ⟨b.pb, 8, none⟩ (.slice a3 (ls.length + 1) c3) = W3 at *
 refine HGT.out.mono ?_
 rintro e w4 ⟨rfl, hm4⟩
 have HW4 := Lib.hid (HW3.out.made HXX.out hm4)
 have HS4 := Lib.hid (HS3.out.then_made hm4)
 have HN4 := Lib.hid (show ¬ Own o3 w4.heap.size from fun h0 => absurd (HW4.out.lt _ h0) (Nat.lt_irrefl _))
 clear hm4
 go_upto_region 6 with (first
  | (refine wpList_store_blk (o := ⟨none, .store 38 (.tmp 9) (.tmp 61), _, _, _, _⟩) rfl _ _ _ rfl rfl _ rfl (tskC x) ([.int .i64 0, .int .i64 0, .int .i64 0, .int .i64 0, .int .i64 0, .int .i64 0, .int .i64 0, .int .i64 0, .int .i64 0, .int .i64 0, .int .i64 0, .int .i64 0, .int .i64 0, .int .i64 0, .int .i64 0, .int .i64 0, .slice none 0 0, .bool false]) 38 rfl (Blk.new _ _ _) rfl (tskC_one x) Tryz.sizeTsk ?_; intro w5 hb5 ht5; have HB5 := Lib.hid hb5; have HT5 := Lib.hid ht5; clear hb5 ht5)
  | fail)
 have HM5 := Lib.hid (show Made w4 w5 from ((Turns.refl (fun _ => False) w4).alloc _).then HT5.out (fun b hb e => by omega))
 obtain ⟨vp, vc5, vl5, ve5, hw5⟩ := HW4.out.made HXX.out HM5.out
 obtain ⟨gp, cp, rfl, hog, hgl, hget⟩ := hw5.prs.ex
 obtain ⟨ap, ci, hcp, hrow, hown⟩ := hget pg p HSL.out.hps
 have HW5 := Lib.hid (show WW CX w5 b o3 ps { s with nl := s.nl + 1 } from ⟨_, _, _, _, hw5⟩)
 have HRW := Lib.hid hrow
 have qz0 : w5.cell? ⟨b.pb, 0, none⟩ = some (.slice (some ⟨gp, 0, none⟩) ps.length cp) := hw5.blk.cell 0
 have y0 : w5.cell? ⟨w4.heap.size, 0, none⟩ = some (.int .i64 x.prog) := HB5.out.cell 0
 rw [HSL.out.hp] at y0
 have hpg : pg < ps.length := (List.getElem?_eq_some_iff.1 HSL.out.hps).1
 have j1 : (0 : Int) ≤ (pg : Int) := by omega
 have j2 : (pg : Int) < (ps.length : Int) := by omega
 have HS5 := Lib.hid (HS4.out.then_made HM5.out)
 clear hw5 hog hgl hget hrow hown
 go_quiet (fail)
 go_upto_region 7 with fail
 have HWQ := Lib.hid (HW5.out.made HXX.out ((Turns.refl _ w5).drewN nq))
 have HBQ := Lib.hid (HB5.out.turns ((Turns.refl (fun _ => False) w5).drewN nq) (fun h => h))
 have HRQ := Lib.hid (HRW.out.turns ((Turns.refl (fun _ => False) w5).drewN nq) (fun _ _ _ h => h))
 have HSQ := Lib.hid (HS5.out.then_made ((Turns.refl (fun _ => False) w5).drewN nq))
 have HPQ : Hid (w4.heap.size < (w5.drewN nq).heap.size) := Lib.hid HB5.out.lt
 clear y0 qz0 hcp HB5 HW5 HRW HS5 HM5
 generalize w5.drewN nq = W at *
 go_cut [12, 13] (fun v12 v13 wx => ∃ gO : Nat, v12 = .pointer (some ⟨gO, 0, none⟩) ∧ v13 = .int .i64 0 ∧ Made W wx ∧ Blk wx gO 125 (outA O) ∧ W.heap.size ≤ gO)
 case first =>
  refine wp_region_held_drew (S := fun w' => Blk w' w4.heap.size 38 (tskC x).toArray ∧ Made W w') (by kernel_rfl) ?_ (fun hHeld => ?_)
  ·exact ⟨HBQ.out, (Turns.refl (fun _ => False) W).drew⟩
  refine takeH (i := 0) (d := some 72) (v := ?_) rfl rfl (by kernel_rfl) (by kernel_rfl) (by kernel_rfl) (fun _ _ _ h => h) (Or.inl ⟨by rfl, ?_⟩) (by assumption) ?_
  rotate_left
  ·intro w hSw
   try dsimp only at hSw
   go_simp
   try with_reducible rfl
  try simp only [Act.put, List.setIfInBounds_toArray, List.set_cons_zero, List.set_cons_succ]
  refine takeH (i := 1) (d := some 73) (v := ?_) rfl rfl (by kernel_rfl) (by kernel_rfl) (by kernel_rfl) (fun _ _ _ h => h) (Or.inl ⟨by rfl, ?_⟩) (by assumption) ?_
  rotate_left
  ·intro w hSw
   try dsimp only at hSw
   go_simp
   try with_reducible rfl
  try simp only [Act.put, List.setIfInBounds_toArray, List.set_cons_zero, List.set_cons_succ]
  refine takeH (i := 2) (d := some 74) (v := ?_) rfl rfl (by kernel_rfl) (by kernel_rfl) (by kernel_rfl) (fun _ _ _ h => h) (Or.inl ⟨by rfl, ?_⟩) (by assumption) ?_
  rotate_left
  ·intro w hSw
   try dsimp only at hSw
   have q0 := hSw.1.cell 1
   simp only [tskC, List.getElem?_toArray, List.getElem?_cons_zero, List.getElem?_cons_succ] at q0
   rw [HSL.out.hpc] at q0
   go_simp
   try with_reducible rfl
  try simp only [Act.put, List.setIfInBounds_toArray, List.set_cons_zero, List.set_cons_succ]
  refine takeH (i := 3) (d := some 75) (v := ?_) rfl rfl (by kernel_rfl) (by kernel_rfl) (by kernel_rfl) (fun _ _ _ h => h) (Or.inl ⟨by rfl, ?_⟩) (by assumption) ?_
  rotate_left
  ·intro w hSw
   try dsimp only at hSw
   go_simp
   try with_reducible rfl
  try simp only [Act.put, List.setIfInBounds_toArray, List.set_cons_zero, List.set_cons_succ]
  refine takeH (i := 4) (d := some 76) (v := ?_) rfl rfl (by kernel_rfl) (by kernel_rfl) (by kernel_rfl) (fun _ _ _ h => h) (Or.inl ⟨by rfl, ?_⟩) (by assumption) ?_
  rotate_left
  ·intro w hSw
   try dsimp only at hSw
   refine exec_load_at (P := Tryz.prog) (x := .tmp 75) (n := 4) (cs := [.int .i64 x.regs.r0, .int .i64 x.regs.r1, .int .i64 x.regs.r2, .int .i64 x.regs.r3, .int .i64 x.regs.r4, .int .i64 x.regs.r5, .int .i64 x.regs.r6, .int .i64 x.regs.r7]) ?_ ?_ (fun j v hv => by have hj : j < 8 := (List.getElem?_eq_some_iff.1 hv).1; refine (hSw.1.cell (4 + j)).trans ?_; rw [← hv]; rcases lt8 hj with rfl | rfl | rfl | rfl | rfl | rfl | rfl | rfl <;> rfl) Tryz.underlying36 ?_ Tryz.sizeReg <;> rfl
  try simp only [Act.put, List.setIfInBounds_toArray, List.set_cons_zero, List.set_cons_succ]
  refine takeH (i := 5) (d := some 77) (v := ?_) rfl rfl (by kernel_rfl) (by kernel_rfl) (by kernel_rfl) (fun _ _ _ h => h) (Or.inl ⟨by rfl, ?_⟩) (by assumption) ?_
  rotate_left
  ·intro w hSw
   try dsimp only at hSw
   go_simp
   try with_reducible rfl
  try simp only [Act.put, List.setIfInBounds_toArray, List.set_cons_zero, List.set_cons_succ]
  refine wpAnyH_ready (rs := [6, 11]) (by kernel_rfl) (by simp) ?_
  refine AllReadyH.cons rfl (fun K hK => ?_) ?_
  ·as_aux_lemma =>
    go_simp
    refine (wnow_c (HWQ.out.made HXX.out hHeld.2)).mono ?_
    rintro e wN ⟨rfl, rfl⟩
    refine hK.out _ _ ?_ (fun hHeld => ?_)
    ·exact hHeld
    clear hK K
    try simp only [Act.put, List.setIfInBounds_toArray, List.set_cons_zero, List.set_cons_succ]
    refine wpAnyH_ready (rs := [7, 11]) (by kernel_rfl) (by simp) ?_
    refine AllReadyH.cons rfl (fun K hK => ?_) ?_
    ·as_aux_lemma =>
      go_simp
      refine (HLD.out _ _ _ (HRQ.out.turns hHeld.2 (fun _ _ _ h => h))).mono ?_
      rintro e wG ⟨rfl, hmG⟩
      refine hK.out _ _ ?_ (fun hHeld => ?_)
      ·exact ⟨hHeld.1.turns hmG (fun h => h), hHeld.2.trans hmG⟩
      clear hK K
      try simp only [Act.put, List.setIfInBounds_toArray, List.set_cons_zero, List.set_cons_succ]
      refine takeH (i := 8) (d := some 71) (v := ?_) rfl rfl (by kernel_rfl) (by kernel_rfl) (by kernel_rfl) (fun _ _ _ h => h) (Or.inl ⟨by rfl, ?_⟩) (by assumption) ?_
      rotate_left
      ·intro w hSw
       try dsimp only at hSw
       go_simp
       try with_reducible rfl
      try simp only [Act.put, List.setIfInBounds_toArray, List.set_cons_zero, List.set_cons_succ]
      refine takeH (i := 9) (d := some 80) (v := ?_) rfl rfl (by kernel_rfl) (by kernel_rfl) (by kernel_rfl) (fun _ _ _ h => h) (Or.inl ⟨by rfl, ?_⟩) (by assumption) ?_
      rotate_left
      ·intro w hSw
       try dsimp only at hSw
       go_simp
       try with_reducible rfl
      try simp only [Act.put, List.setIfInBounds_toArray, List.set_cons_zero, List.set_cons_succ]
      refine takeH (i := 10) (d := some 81) (v := ?_) rfl rfl (by kernel_rfl) (by kernel_rfl) (by kernel_rfl) (fun _ _ _ h => h) (Or.inl ⟨by rfl, ?_⟩) (by assumption) ?_
      rotate_left
      ·intro w hSw
       try dsimp only at hSw
       go_simp
       try with_reducible rfl
      try simp only [Act.put, List.setIfInBounds_toArray, List.set_cons_zero, List.set_cons_succ]
      refine wpAnyH_ready (rs := [11]) (by kernel_rfl) (by simp) ?_
      refine AllReadyH.cons rfl (fun K hK => ?_) AllReadyH.nil
      go_simp
      refine hK.out _ _ ?_ (fun hHeld => ?_)
      ·exact ⟨hHeld.1.alloc _, hHeld.2.alloc _⟩
      clear hK K
      try simp only [Act.put, List.setIfInBounds_toArray, List.set_cons_zero, List.set_cons_succ]
      have HZ := Blk.new wG 125 [.int .i64 0, .int .i64 0, .int .i64 0, .int .i64 0, .int .i64 0, .int .i64 0, .int .i64 0, .int .i64 0, .int .i64 0, .bool false, .int .i64 0, .bool false].toArray
      have HG6 : W.heap.size ≤ wG.heap.size := hmG.size
      refine wpAnyH_ready (rs := [12]) (by kernel_rfl) (by simp) ?_
      refine AllReadyH.cons rfl (fun K hK => ?_) AllReadyH.nil
      refine step_store_mid rfl rfl _ _ _ (by rfl) (by rfl) (outC O) [] [.int .i64 0, .int .i64 0, .int .i64 0, .int .i64 0, .int .i64 0, .int .i64 0, .int .i64 0, .int .i64 0, .int .i64 0, .bool false, .int .i64 0, .bool false] [] (by rfl) (t := 125) (show Blk _ _ _ _ from by simpa using HZ) (by rfl) (by rfl) (outC_one _) Tryz.sizeOut ?_
      intro wS hbS htS
      refine hK.out _ _ ?_ (fun hHeld => ?_)
      ·exact ⟨hHeld.1.turns htS (fun e => by have := HPQ.out; omega), hHeld.2.then htS (fun k hk e => by omega)⟩
      clear hK K
      try simp only [Act.put, List.setIfInBounds_toArray, List.set_cons_zero, List.set_cons_succ]
      refine takeH (i := 13) (d := some 13) (v := ?_) rfl rfl (by kernel_rfl) (by kernel_rfl) (by kernel_rfl) (fun _ _ _ h => h) (Or.inl ⟨by rfl, ?_⟩) (by assumption) ?_
      rotate_left
      ·intro w hSw
       try dsimp only at hSw
       go_simp
       try with_reducible rfl
      try simp only [Act.put, List.setIfInBounds_toArray, List.set_cons_zero, List.set_cons_succ]
      refine wpAnyH_done (by kernel_rfl) ?_ _
      have HS := Lib.hid hHeld.2
      have HB6 : Hid (Blk wS _ 125 (outA O)) := Lib.hid (by simpa [outC] using hbS)
      have HG7 := Lib.hid HG6
      clear hHeld hbS htS HZ HG6
      go_wp2_with fail
      go_meet
      exact ⟨_, rfl, rfl, HS.out, HB6.out, HG7.out⟩
    refine AllReadyH.cons rfl (fun K hK => ?_) ?_
    ·as_aux_lemma =>
      go_simp
      refine hK.out _ _ ?_ (fun hHeld => ?_)
      ·exact ⟨hHeld.1.alloc _, hHeld.2.alloc _⟩
      clear hK K
      try simp only [Act.put, List.setIfInBounds_toArray, List.set_cons_zero, List.set_cons_succ]
      have HZ : Blk (W.drew.alloc (.cells [.int .i64 0, .int .i64 0, .int .i64 0, .int .i64 0, .int .i64 0, .int .i64 0, .int .i64 0, .int .i64 0, .int .i64 0, .bool false, .int .i64 0, .bool false].toArray 125)) W.drew.heap.size 125 [.int .i64 0, .int .i64 0, .int .i64 0, .int .i64 0, .int .i64 0, .int .i64 0, .int .i64 0, .int .i64 0, .int .i64 0, .bool false, .int .i64 0, .bool false].toArray := Blk.new W.drew 125 [.int .i64 0, .int .i64 0, .int .i64 0, .int .i64 0, .int .i64 0, .int .i64 0, .int .i64 0, .int .i64 0, .int .i64 0, .bool false, .int .i64 0, .bool false].toArray
      have HG6 : W.heap.size ≤ W.drew.heap.size := Nat.le_refl _
      refine wpAnyH_ready (rs := [7]) (by kernel_rfl) (by simp) ?_
      refine AllReadyH.cons rfl (fun K hK => ?_) AllReadyH.nil
      go_simp
      refine (HLD.out _ _ _ (HRQ.out.turns hHeld.2 (fun _ _ _ h => h))).mono ?_
      rintro e wG ⟨rfl, hmG⟩
      refine hK.out _ _ ?_ (fun hHeld => ?_)
      ·exact ⟨hHeld.1.turns hmG (fun h => h), hHeld.2.trans hmG⟩
      clear hK K
      try simp only [Act.put, List.setIfInBounds_toArray, List.set_cons_zero, List.set_cons_succ]
      replace HZ := HZ.turns hmG (fun h => h)
      refine takeH (i := 8) (d := some 71) (v := ?_) rfl rfl (by kernel_rfl) (by kernel_rfl) (by kernel_rfl) (fun _ _ _ h => h) (Or.inl ⟨by rfl, ?_⟩) (by assumption) ?_
      rotate_left
      ·intro w hSw
       try dsimp only at hSw
       go_simp
       try with_reducible rfl
      try simp only [Act.put, List.setIfInBounds_toArray, List.set_cons_zero, List.set_cons_succ]
      refine takeH (i := 9) (d := some 80) (v := ?_) rfl rfl (by kernel_rfl) (by kernel_rfl) (by kernel_rfl) (fun _ _ _ h => h) (Or.inl ⟨by rfl, ?_⟩) (by assumption) ?_
      rotate_left
      ·intro w hSw
       try dsimp only at hSw
       go_simp
       try with_reducible rfl
      try simp only [Act.put, List.setIfInBounds_toArray, List.set_cons_zero, List.set_cons_succ]
      refine takeH (i := 10) (d := some 81) (v := ?_) rfl rfl (by kernel_rfl) (by kernel_rfl) (by kernel_rfl) (fun _ _ _ h => h) (Or.inl ⟨by rfl, ?_⟩) (by assumption) ?_
      rotate_left
      ·intro w hSw
       try dsimp only at hSw
       go_simp
       try with_reducible rfl
      try simp only [Act.put, List.setIfInBounds_toArray, List.set_cons_zero, List.set_cons_succ]
      refine wpAnyH_ready (rs := [12]) (by kernel_rfl) (by simp) ?_
      refine AllReadyH.cons rfl (fun K hK => ?_) AllReadyH.nil
      refine step_store_mid rfl rfl _ _ _ (by rfl) (by rfl) (outC O) [] [.int .i64 0, .int .i64 0, .int .i64 0, .int .i64 0, .int .i64 0, .int .i64 0, .int .i64 0, .int .i64 0, .int .i64 0, .bool false, .int .i64 0, .bool false] [] (by rfl) (t := 125) (show Blk _ _ _ _ from by simpa using HZ) (by rfl) (by rfl) (outC_one _) Tryz.sizeOut ?_
      intro wS hbS htS
      refine hK.out _ _ ?_ (fun hHeld => ?_)
      ·exact ⟨hHeld.1.turns htS (fun e => by have := HPQ.out; omega), hHeld.2.then htS (fun k hk e => by omega)⟩
      clear hK K
      try simp only [Act.put, List.setIfInBounds_toArray, List.set_cons_zero, List.set_cons_succ]
      refine takeH (i := 13) (d := some 13) (v := ?_) rfl rfl (by kernel_rfl) (by kernel_rfl) (by kernel_rfl) (fun _ _ _ h => h) (Or.inl ⟨by rfl, ?_⟩) (by assumption) ?_
      rotate_left
      ·intro w hSw
       try dsimp only at hSw
       go_simp
       try with_reducible rfl
      try simp only [Act.put, List.setIfInBounds_toArray, List.set_cons_zero, List.set_cons_succ]
      refine wpAnyH_done (by kernel_rfl) ?_ _
      have HS := Lib.hid hHeld.2
      have HB6 : Hid (Blk wS _ 125 (outA O)) := Lib.hid (by simpa [outC] using hbS)
      have HG7 := Lib.hid HG6
      clear hHeld hbS htS HZ HG6
      go_wp2_with fail
      go_meet
      exact ⟨_, rfl, rfl, HS.out, HB6.out, HG7.out⟩
    exact AllReadyH.nil
  refine AllReadyH.cons rfl (fun K hK => ?_) ?_
  ·as_aux_lemma =>
    go_simp
    refine hK.out _ _ ?_ (fun hHeld => ?_)
    ·exact ⟨hHeld.1.alloc _, hHeld.2.alloc _⟩
    clear hK K
    try simp only [Act.put, List.setIfInBounds_toArray, List.set_cons_zero, List.set_cons_succ]
    have HZ : Blk (W.drew.alloc (.cells [.int .i64 0, .int .i64 0, .int .i64 0, .int .i64 0, .int .i64 0, .int .i64 0, .int .i64 0, .int .i64 0, .int .i64 0, .bool false, .int .i64 0, .bool false].toArray 125)) W.drew.heap.size 125 [.int .i64 0, .int .i64 0, .int .i64 0, .int .i64 0, .int .i64 0, .int .i64 0, .int .i64 0, .int .i64 0, .int .i64 0, .bool false, .int .i64 0, .bool false].toArray := Blk.new W.drew 125 [.int .i64 0, .int .i64 0, .int .i64 0, .int .i64 0, .int .i64 0, .int .i64 0, .int .i64 0, .int .i64 0, .int .i64 0, .bool false, .int .i64 0, .bool false].toArray
    have HG6 : W.heap.size ≤ W.drew.heap.size := Nat.le_refl _
    refine wpAnyH_ready (rs := [6]) (by kernel_rfl) (by simp) ?_
    refine AllReadyH.cons rfl (fun K hK => ?_) AllReadyH.nil
    go_simp
    refine (wnow_c (HWQ.out.made HXX.out hHeld.2)).mono ?_
    rintro e wN ⟨rfl, rfl⟩
    refine hK.out _ _ ?_ (fun hHeld => ?_)
    ·exact hHeld
    clear hK K
    try simp only [Act.put, List.setIfInBounds_toArray, List.set_cons_zero, List.set_cons_succ]
    refine wpAnyH_ready (rs := [7]) (by kernel_rfl) (by simp) ?_
    refine AllReadyH.cons rfl (fun K hK => ?_) AllReadyH.nil
    go_simp
    refine (HLD.out _ _ _ (HRQ.out.turns hHeld.2 (fun _ _ _ h => h))).mono ?_
    rintro e wG ⟨rfl, hmG⟩
    refine hK.out _ _ ?_ (fun hHeld => ?_)
    ·exact ⟨hHeld.1.turns hmG (fun h => h), hHeld.2.trans hmG⟩
    clear hK K
    try simp only [Act.put, List.setIfInBounds_toArray, List.set_cons_zero, List.set_cons_succ]
    replace HZ := HZ.turns hmG (fun h => h)
    refine takeH (i := 8) (d := some 71) (v := ?_) rfl rfl (by kernel_rfl) (by kernel_rfl) (by kernel_rfl) (fun _ _ _ h => h) (Or.inl ⟨by rfl, ?_⟩) (by assumption) ?_
    rotate_left
    ·intro w hSw
     try dsimp only at hSw
     go_simp
     try with_reducible rfl
    try simp only [Act.put, List.setIfInBounds_toArray, List.set_cons_zero, List.set_cons_succ]
    refine takeH (i := 9) (d := some 80) (v := ?_) rfl rfl (by kernel_rfl) (by kernel_rfl) (by kernel_rfl) (fun _ _ _ h => h) (Or.inl ⟨by rfl, ?_⟩) (by assumption) ?_
    rotate_left
    ·intro w hSw
     try dsimp only at hSw
     go_simp
     try with_reducible rfl
    try simp only [Act.put, List.setIfInBounds_toArray, List.set_cons_zero, List.set_cons_succ]
    refine takeH (i := 10) (d := some 81) (v := ?_) rfl rfl (by kernel_rfl) (by kernel_rfl) (by kernel_rfl) (fun _ _ _ h => h) (Or.inl ⟨by rfl, ?_⟩) (by assumption) ?_
    rotate_left
    ·intro w hSw
     try dsimp only at hSw
     go_simp
     try with_reducible rfl
    try simp only [Act.put, List.setIfInBounds_toArray, List.set_cons_zero, List.set_cons_succ]
    refine wpAnyH_ready (rs := [12]) (by kernel_rfl) (by simp) ?_
    refine AllReadyH.cons rfl (fun K hK => ?_) AllReadyH.nil
    refine step_store_mid rfl rfl _ _ _ (by rfl) (by rfl) (outC O) [] [.int .i64 0, .int .i64 0, .int .i64 0, .int .i64 0, .int .i64 0, .int .i64 0, .int .i64 0, .int .i64 0, .int .i64 0, .bool false, .int .i64 0, .bool false] [] (by rfl) (t := 125) (show Blk _ _ _ _ from by simpa using HZ) (by rfl) (by rfl) (outC_one _) Tryz.sizeOut ?_
    intro wS hbS htS
    refine hK.out _ _ ?_ (fun hHeld => ?_)
    ·exact ⟨hHeld.1.turns htS (fun e => by have := HPQ.out; omega), hHeld.2.then htS (fun k hk e => by omega)⟩
    clear hK K
    try simp only [Act.put, List.setIfInBounds_toArray, List.set_cons_zero, List.set_cons_succ]
    refine takeH (i := 13) (d := some 13) (v := ?_) rfl rfl (by kernel_rfl) (by kernel_rfl) (by kernel_rfl) (fun _ _ _ h => h) (Or.inl ⟨by rfl, ?_⟩) (by assumption) ?_
    rotate_left
    ·intro w hSw
     try dsimp only at hSw
     go_simp
     try with_reducible rfl
    try simp only [Act.put, List.setIfInBounds_toArray, List.set_cons_zero, List.set_cons_succ]
    refine wpAnyH_done (by kernel_rfl) ?_ _
    have HS := Lib.hid hHeld.2
    have HB6 : Hid (Blk wS _ 125 (outA O)) := Lib.hid (by simpa [outC] using hbS)
    have HG7 := Lib.hid HG6
    clear hHeld hbS htS HZ HG6
    go_wp2_with fail
    go_meet
    exact ⟨_, rfl, rfl, HS.out, HB6.out, HG7.out⟩
  exact AllReadyH.nil
 case rest =>
  obtain ⟨gO, rfl, rfl, hmC, hbO, hgO⟩ := hcut
  have HWC := Lib.hid (HWQ.out.made HXX.out hmC)
  have HSC := Lib.hid (HSQ.out.then_made hmC)
  have HCO := Lib.hid (blk_cells (cs := outC O) (show Blk _ _ _ (outC O).toArray from hbO))
  clear hmC hbO hgO
  go_wp2_with (first
   | (refine wpList_load_at (o := ⟨some 86, .load 125 (.tmp 12), _, _, _, _⟩) rfl _ _ rfl _ 0 rfl (outC O) _ HCO.out Tryz.underlying125 rfl Tryz.sizeOut ?_)
   | fail)
  refine (HAL.out _ _ HWC.out).mono ?_
  rintro e w6 ⟨rfl, o6, hw6, hs6⟩
  have HE := Lib.hid (And.intro hw6 (HSC.out.trans hs6))
  clear hw6 hs6
  go_wp2_with fail
  go_returns
  exact ⟨rfl, o6, HE.out.1, HE.out.2⟩
end Go.Proofs.YtjnkphhlkoapbaaGreat
namespace Go.Proofs.YtjnkphhlkoapbaaGreat
open Go.RowKit
set_option linter.unusedVariables false
set_option linter.unusedSimpArgs false
def offS (s : Wst) (i : Nat) : List Int := s.rd.eraseIdx (s.rd.idxOf (i : Int))
def parkS (s : Wst) (i : Nat) (x : Tsk) (ins : Ins) : Wst := { s with ts := s.ts.set i ⟨x.prog, x.pc, 1, x.how, x.regs, ins⟩, rd := offS s i, ev := s.ev ++ [⟨s.steps, 2, i, 0, 0, 0⟩] }
def putS (s : Wst) (i : Nat) (x : Tsk) (r : Reg) : Wst := { s with ts := s.ts.set i ⟨x.prog, x.pc + 1, x.st, x.how, r, x.ins⟩ }
def finS (s : Wst) (i : Nat) (x : Tsk) (x2 : Ac) : Wst := match x2.parks with
 | true => parkS s i x x2.i
 | false => putS s i x x2.regs
theorem lt6 {i : Nat} (h : i < 6) : i = 0 ∨ i = 1 ∨ i = 2 ∨ i = 3 ∨ i = 4 ∨ i = 5 := by omega
structure FinOK (s : Wst) (i : Nat) (x : Tsk) (x2 : Ac) : Prop where
 how : x2.how = 0
 ts : s.ts[i]? = some x
 tl : s.ts.length ≤ 64
 ev : s.ev.length < 1000
 rl : s.rd.length ≤ 1000
 rd : s.rd[s.rd.idxOf (i : Int)]? = some (i : Int) ∧ ∀ k, k < s.rd.idxOf (i : Int) → s.rd[k]? ≠ some (i : Int)
 pk : x2.parks = true → x2.i.op = 11 ∧ GoodC x2.i 1
set_option maxRecDepth 100000 in
set_option maxHeartbeats 4000000 in
theorem wrun_act {CX : World → (Nat → Prop) → Prop} {w : World} {b : Wp} {o : Nat → Nat} {ps : List (List Ins)} {s : Wst} {n d : Int} {j i pg pc : Nat} {x : Tsk} {p : List Ins} {ins : Ins} {Q : Wst → Ac → Prop} (hx : Ext CX) (h : WW CX w b o ps s) (hsl : Sel ps s n j i x p pg pc) (hins : p[pc]? = some ins) (hrl : s.rd.length ≤ 1000) (hnl : s.nl < 900000)
  (hl : ∀ (w1 : World) (a : Option Addr) (ci : Nat), RowIn insC 6 w1 a p.length p → Calls Tryz.prog 48 #[.slice a p.length ci, .int .i64 pc, regV x.regs, .int .i64 s.now] w1 fun e w' => e = .returned (.tuple #[.agg (outA ⟨0, ⟨0, 0, 0, 0, 0, 0, 0, 0⟩, false, 0, false⟩), .int .i64 7]) ∧ Made w1 w')
  (ha : ∀ (w1 : World) (o1 : Nat → Nat) (g : Nat), WW CX w1 b o1 ps { s with nl := s.nl + 1 } → Blk w1 g 131 (acA b.pb ⟨i, ins, x.regs, x.regs, d, 0, false⟩) → ¬ Own o1 g → Calls Tryz.prog 50 #[.pointer (some ⟨g, 0, none⟩)] w1 fun e w' => e = .returned (.tuple #[]) ∧ ∃ o' s2 x2, Q s2 x2 ∧ WW CX w' b o' ps s2 ∧ AStp w1 w' o1 o' g ∧ Blk w' g 131 (acA b.pb x2))
  (hq : ∀ s2 x2, Q s2 x2 → FinOK s2 i x x2) :
  Calls Tryz.prog 26 #[.pointer (some ⟨b.pb, 0, none⟩), .int .i64 n, .int .i64 d] w fun e w' => e = .returned (.tuple #[]) ∧ ∃ o' s2 x2, Q s2 x2 ∧ WW CX w' b o' ps (finS s2 i x x2) ∧ Stp w w' (Own o) (Own o') := by
 obtain ⟨i0, hi0, hz0, hz1, hz2⟩ := info_parts Tryz.infoLk
 have HLD := Lib.hid hl
 have HAC := Lib.hid ha
 have HQQ := Lib.hid hq
 have HIN := Lib.hid hins
 clear hl ha hq hins
 have HXX := Lib.hid hx
 have HH := Lib.hid h
 have q2 := h.cell2
 have HRL := Lib.hid hrl
 have HNL := Lib.hid hnl
 have HSL := Lib.hid hsl
 have HRY : Hid _ := Lib.hid (show Calls Tryz.prog 46 #[.pointer (some ⟨b.pt, 0, none⟩)] w _ from by obtain ⟨vp, vc, vl, ve, h1⟩ := h; exact tabready_c h1.tab hrl)
 clear h hx hrl hnl hsl
 go_enter Tryz.func26, Tryz.ntmps26
 go_wp2_with fail
 refine HRY.out.mono ?_
 rintro e w1 ⟨v1, rfl, hro1, hm1, hrf1⟩
 have HM1 := Lib.hid hm1
 have HW1 := Lib.hid (HH.out.made HXX.out hm1)
 obtain ⟨a1, c1, rfl⟩ := owns_slice hro1
 have HR1 := Lib.hid (And.intro hro1 hrf1)
 have q2 := HW1.out.cell2
 clear hm1 hro1 hrf1
 have HPK : Hid _ := Lib.hid (show Calls Tryz.prog 47 #[.pointer (some ⟨b.pt, 0, none⟩), .int .i64 n] w1 _ from by obtain ⟨vp, vc, vl, ve, h1⟩ := HW1.out; exact tabpick_c n h1.tab HSL.out.hj HSL.out.hi HRL.out)
 go_wp2_with fail
 refine HPK.out.mono ?_
 rintro e w2 ⟨rfl, hm2⟩
 have HW2 := Lib.hid (HW1.out.made HXX.out hm2)
 have HM2 := Lib.hid (HM1.out.trans hm2)
 have q2 := HW2.out.cell2
 clear hm2
 obtain ⟨vp, vc, vl, ve, h2⟩ := HW2.out
 obtain ⟨ls, hl1, hl2⟩ := h2.lrow
 have HL1 := Lib.hid hl1
 have q8 : w2.cell? ⟨b.pb, 8, none⟩ = some vl := h2.blk.cell 8
 have HMX := Lib.hid ((Turns.refl (fun _ => False) w2).alloc (.cells (lkC ⟨(a1, s.rd.length, c1), (i : Int)⟩).toArray 123))
 have HBX := Lib.hid (Blk.new w2 123 (lkC ⟨(a1, s.rd.length, c1), (i : Int)⟩).toArray)
 have HOX := Lib.hid (hl2.made HMX.out)
 have HA2 := Lib.hid h2
 have HLL := Lib.hid (show ls.length + 1 ≤ 1000000 from by rw [hl1]; have := HNL.out; omega)
 clear h2 hl1 hl2
 go_wp2_with (at_builtin; refine wpList_push rfl (.tmp 46) (.tmp 50) _ rfl i0 _ 32 Tryz.underlying63 hi0 hz0 hz1 hz2 rfl (by omega) lkC_len lkC_one rfl HOX.out ⟨(a1, s.rd.length, c1), (i : Int)⟩ rfl HBX.out HLL.out (by omega) ?_; intro v3 w3 hO3 hT3 hV3; have hb3 := (HA2.out.blk.turns HMX.out (fun h => h)).turns hT3 (fun e => by have h9 := (HA2.out.lo _).1 e; rw [HA2.out.ob] at h9; omega); have HR := Lib.hid (HA2.out.pushLk HXX.out HL1.out HMX.out hO3 hT3 hV3); obtain ⟨a3, c3, rfl⟩ := owns_slice hO3; have r8 := hb3.cell 8; have f8 := hb3.free 8; have r2 := hb3.cell 2; simp only [List.getElem?_toArray, List.getElem?_cons_zero, List.getElem?_cons_succ] at r8 r2; clear hO3 hT3 hV3 hb3)
 obtain ⟨o3, hw3, hs3⟩ := HR.out
 simp only [List.length_append, List.length_cons, List.length_nil, Nat.zero_add] at hw3 hs3
 have HW3 := Lib.hid (show WW CX _ b o3 ps { s with nl := s.nl + 1 } from ⟨_, _, _, _, hw3⟩)
 have HS3 := Lib.hid ((Stp.made (F := Own o) HM2.out).trans hs3)
 have HGT := Lib.hid (tabget_c hw3.tab HSL.out.hx HSL.out.tl)
 clear hw3 hs3 HR r2 r8 f8 q8 q2
 generalize w3.setCell ⟨b.pb, 8, none⟩ (.slice a3 (ls.length + 1) c3) = W3 at *
 refine HGT.out.mono ?_
 rintro e w4 ⟨rfl, hm4⟩
 have HW4 := Lib.hid (HW3.out.made HXX.out hm4)
 have HS4 := Lib.hid (HS3.out.then_made hm4)
 have HN4 := Lib.hid (show ¬ Own o3 w4.heap.size from fun h0 => absurd (HW4.out.lt _ h0) (Nat.lt_irrefl _))
 clear hm4
 go_upto_region 6 with (first
  | (refine wpList_store_blk (o := ⟨none, .store 38 (.tmp 9) (.tmp 61), _, _, _, _⟩) rfl _ _ _ rfl rfl _ rfl (tskC x) ([.int .i64 0, .int .i64 0, .int .i64 0, .int .i64 0, .int .i64 0, .int .i64 0, .int .i64 0, .int .i64 0, .int .i64 0, .int .i64 0, .int .i64 0, .int .i64 0, .int .i64 0, .int .i64 0, .int .i64 0, .int .i64 0, .slice none 0 0, .bool false]) 38 rfl (Blk.new _ _ _) rfl (tskC_one x) Tryz.sizeTsk ?_; intro w5 hb5 ht5; have HB5 := Lib.hid hb5; have HT5 := Lib.hid ht5; clear hb5 ht5)
  | fail)
 have HM5 := Lib.hid (show Made w4 w5 from ((Turns.refl (fun _ => False) w4).alloc _).then HT5.out (fun b hb e => by omega))
 obtain ⟨vp, vc5, vl5, ve5, hw5⟩ := HW4.out.made HXX.out HM5.out
 obtain ⟨gp, cp, rfl, hog, hgl, hget⟩ := hw5.prs.ex
 obtain ⟨ap, ci, hcp, hrow, hown⟩ := hget pg p HSL.out.hps
 have HW5 := Lib.hid (show WW CX w5 b o3 ps { s with nl := s.nl + 1 } from ⟨_, _, _, _, hw5⟩)
 have HRW := Lib.hid hrow
 have qz0 : w5.cell? ⟨b.pb, 0, none⟩ = some (.slice (some ⟨gp, 0, none⟩) ps.length cp) := hw5.blk.cell 0
 have y0 : w5.cell? ⟨w4.heap.size, 0, none⟩ = some (.int .i64 x.prog) := HB5.out.cell 0
 rw [HSL.out.hp] at y0
 have hpg : pg < ps.length := (List.getElem?_eq_some_iff.1 HSL.out.hps).1
 have j1 : (0 : Int) ≤ (pg : Int) := by omega
 have j2 : (pg : Int) < (ps.length : Int) := by omega
 have HS5 := Lib.hid (HS4.out.then_made HM5.out)
 clear hw5 hog hgl hget hrow hown
 go_quiet (fail)
 go_upto_region 7 with fail
 have HWQ := Lib.hid (HW5.out.made HXX.out ((Turns.refl _ w5).drewN nq))
 have HBQ := Lib.hid (HB5.out.turns ((Turns.refl (fun _ => False) w5).drewN nq) (fun h => h))
 have HRQ := Lib.hid (HRW.out.turns ((Turns.refl (fun _ => False) w5).drewN nq) (fun _ _ _ h => h))
 have HSQ := Lib.hid (HS5.out.then_made ((Turns.refl (fun _ => False) w5).drewN nq))
 have HPQ : Hid (w4.heap.size < (w5.drewN nq).heap.size) := Lib.hid HB5.out.lt
 clear y0 qz0 hcp HB5 HW5 HRW HS5 HM5
 generalize w5.drewN nq = W at *
 go_cut [12, 13] (fun v12 v13 wx => ∃ gO : Nat, v12 = .pointer (some ⟨gO, 0, none⟩) ∧ v13 = .int .i64 7 ∧ Made W wx ∧ Blk wx gO 125 (outA ⟨0, ⟨0, 0, 0, 0, 0, 0, 0, 0⟩, false, 0, false⟩) ∧ W.heap.size ≤ gO)
 case first =>
  refine wp_region_held_drew (S := fun w' => Blk w' w4.heap.size 38 (tskC x).toArray ∧ Made W w') (by kernel_rfl) ?_ (fun hHeld => ?_)
  ·exact ⟨HBQ.out, (Turns.refl (fun _ => False) W).drew⟩
  refine takeH (i := 0) (d := some 72) (v := ?_) rfl rfl (by kernel_rfl) (by kernel_rfl) (by kernel_rfl) (fun _ _ _ h => h) (Or.inl ⟨by rfl, ?_⟩) (by assumption) ?_
  rotate_left
  ·intro w hSw
   try dsimp only at hSw
   go_simp
   try with_reducible rfl
  try simp only [Act.put, List.setIfInBounds_toArray, List.set_cons_zero, List.set_cons_succ]
  refine takeH (i := 1) (d := some 73) (v := ?_) rfl rfl (by kernel_rfl) (by kernel_rfl) (by kernel_rfl) (fun _ _ _ h => h) (Or.inl ⟨by rfl, ?_⟩) (by assumption) ?_
  rotate_left
  ·intro w hSw
   try dsimp only at hSw
   go_simp
   try with_reducible rfl
  try simp only [Act.put, List.setIfInBounds_toArray, List.set_cons_zero, List.set_cons_succ]
  refine takeH (i := 2) (d := some 74) (v := ?_) rfl rfl (by kernel_rfl) (by kernel_rfl) (by kernel_rfl) (fun _ _ _ h => h) (Or.inl ⟨by rfl, ?_⟩) (by assumption) ?_
  rotate_left
  ·intro w hSw
   try dsimp only at hSw
   have q0 := hSw.1.cell 1
   simp only [tskC, List.getElem?_toArray, List.getElem?_cons_zero, List.getElem?_cons_succ] at q0
   rw [HSL.out.hpc] at q0
   go_simp
   try with_reducible rfl
  try simp only [Act.put, List.setIfInBounds_toArray, List.set_cons_zero, List.set_cons_succ]
  refine takeH (i := 3) (d := some 75) (v := ?_) rfl rfl (by kernel_rfl) (by kernel_rfl) (by kernel_rfl) (fun _ _ _ h => h) (Or.inl ⟨by rfl, ?_⟩) (by assumption) ?_
  rotate_left
  ·intro w hSw
   try dsimp only at hSw
   go_simp
   try with_reducible rfl
  try simp only [Act.put, List.setIfInBounds_toArray, List.set_cons_zero, List.set_cons_succ]
  refine takeH (i := 4) (d := some 76) (v := ?_) rfl rfl (by kernel_rfl) (by kernel_rfl) (by kernel_rfl) (fun _ _ _ h => h) (Or.inl ⟨by rfl, ?_⟩) (by assumption) ?_
  rotate_left
  ·intro w hSw
   try dsimp only at hSw
   refine exec_load_at (P := Tryz.prog) (x := .tmp 75) (n := 4) (cs := [.int .i64 x.regs.r0, .int .i64 x.regs.r1, .int .i64 x.regs.r2, .int .i64 x.regs.r3, .int .i64 x.regs.r4, .int .i64 x.regs.r5, .int .i64 x.regs.r6, .int .i64 x.regs.r7]) ?_ ?_ (fun j v hv => by have hj : j < 8 := (List.getElem?_eq_some_iff.1 hv).1; refine (hSw.1.cell (4 + j)).trans ?_; rw [← hv]; rcases lt8 hj with rfl | rfl | rfl | rfl | rfl | rfl | rfl | rfl <;> rfl) Tryz.underlying36 ?_ Tryz.sizeReg <;> rfl
  try simp only [Act.put, List.setIfInBounds_toArray, List.set_cons_zero, List.set_cons_succ]
  refine takeH (i := 5) (d := some 77) (v := ?_) rfl rfl (by kernel_rfl) (by kernel_rfl) (by kernel_rfl) (fun _ _ _ h => h) (Or.inl ⟨by rfl, ?_⟩) (by assumption) ?_
  rotate_left
  ·intro w hSw
   try dsimp only at hSw
   go_simp
   try with_reducible rfl
  try simp only [Act.put, List.setIfInBounds_toArray, List.set_cons_zero, List.set_cons_succ]
  refine wpAnyH_ready (rs := [6, 11]) (by kernel_rfl) (by simp) ?_
  refine AllReadyH.cons rfl (fun K hK => ?_) ?_
  ·as_aux_lemma =>
    go_simp
    refine (wnow_c (HWQ.out.made HXX.out hHeld.2)).mono ?_
    rintro e wN ⟨rfl, rfl⟩
    refine hK.out _ _ ?_ (fun hHeld => ?_)
    ·exact hHeld
    clear hK K
    try simp only [Act.put, List.setIfInBounds_toArray, List.set_cons_zero, List.set_cons_succ]
    refine wpAnyH_ready (rs := [7, 11]) (by kernel_rfl) (by simp) ?_
    refine AllReadyH.cons rfl (fun K hK => ?_) ?_
    ·as_aux_lemma =>
      go_simp
      refine (HLD.out _ _ _ (HRQ.out.turns hHeld.2 (fun _ _ _ h => h))).mono ?_
      rintro e wG ⟨rfl, hmG⟩
      refine hK.out _ _ ?_ (fun hHeld => ?_)
      ·exact ⟨hHeld.1.turns hmG (fun h => h), hHeld.2.trans hmG⟩
      clear hK K
      try simp only [Act.put, List.setIfInBounds_toArray, List.set_cons_zero, List.set_cons_succ]
      refine takeH (i := 8) (d := some 71) (v := ?_) rfl rfl (by kernel_rfl) (by kernel_rfl) (by kernel_rfl) (fun _ _ _ h => h) (Or.inl ⟨by rfl, ?_⟩) (by assumption) ?_
      rotate_left
      ·intro w hSw
       try dsimp only at hSw
       go_simp
       try with_reducible rfl
      try simp only [Act.put, List.setIfInBounds_toArray, List.set_cons_zero, List.set_cons_succ]
      refine takeH (i := 9) (d := some 80) (v := ?_) rfl rfl (by kernel_rfl) (by kernel_rfl) (by kernel_rfl) (fun _ _ _ h => h) (Or.inl ⟨by rfl, ?_⟩) (by assumption) ?_
      rotate_left
      ·intro w hSw
       try dsimp only at hSw
       go_simp
       try with_reducible rfl
      try simp only [Act.put, List.setIfInBounds_toArray, List.set_cons_zero, List.set_cons_succ]
      refine takeH (i := 10) (d := some 81) (v := ?_) rfl rfl (by kernel_rfl) (by kernel_rfl) (by kernel_rfl) (fun _ _ _ h => h) (Or.inl ⟨by rfl, ?_⟩) (by assumption) ?_
      rotate_left
      ·intro w hSw
       try dsimp only at hSw
       go_simp
       try with_reducible rfl
      try simp only [Act.put, List.setIfInBounds_toArray, List.set_cons_zero, List.set_cons_succ]
      refine wpAnyH_ready (rs := [11]) (by kernel_rfl) (by simp) ?_
      refine AllReadyH.cons rfl (fun K hK => ?_) AllReadyH.nil
      go_simp
      refine hK.out _ _ ?_ (fun hHeld => ?_)
      ·exact ⟨hHeld.1.alloc _, hHeld.2.alloc _⟩
      clear hK K
      try simp only [Act.put, List.setIfInBounds_toArray, List.set_cons_zero, List.set_cons_succ]
      have HZ := Blk.new wG 125 [.int .i64 0, .int .i64 0, .int .i64 0, .int .i64 0, .int .i64 0, .int .i64 0, .int .i64 0, .int .i64 0, .int .i64 0, .bool false, .int .i64 0, .bool false].toArray
      have HG6 : W.heap.size ≤ wG.heap.size := hmG.size
      refine wpAnyH_ready (rs := [12]) (by kernel_rfl) (by simp) ?_
      refine AllReadyH.cons rfl (fun K hK => ?_) AllReadyH.nil
      refine step_store_mid rfl rfl _ _ _ (by rfl) (by rfl) (outC ⟨0, ⟨0, 0, 0, 0, 0, 0, 0, 0⟩, false, 0, false⟩) [] [.int .i64 0, .int .i64 0, .int .i64 0, .int .i64 0, .int .i64 0, .int .i64 0, .int .i64 0, .int .i64 0, .int .i64 0, .bool false, .int .i64 0, .bool false] [] (by rfl) (t := 125) (show Blk _ _ _ _ from by simpa using HZ) (by rfl) (by rfl) (outC_one _) Tryz.sizeOut ?_
      intro wS hbS htS
      refine hK.out _ _ ?_ (fun hHeld => ?_)
      ·exact ⟨hHeld.1.turns htS (fun e => by have := HPQ.out; omega), hHeld.2.then htS (fun k hk e => by omega)⟩
      clear hK K
      try simp only [Act.put, List.setIfInBounds_toArray, List.set_cons_zero, List.set_cons_succ]
      refine takeH (i := 13) (d := some 13) (v := ?_) rfl rfl (by kernel_rfl) (by kernel_rfl) (by kernel_rfl) (fun _ _ _ h => h) (Or.inl ⟨by rfl, ?_⟩) (by assumption) ?_
      rotate_left
      ·intro w hSw
       try dsimp only at hSw
       go_simp
       try with_reducible rfl
      try simp only [Act.put, List.setIfInBounds_toArray, List.set_cons_zero, List.set_cons_succ]
      refine wpAnyH_done (by kernel_rfl) ?_ _
      have HS := Lib.hid hHeld.2
      have HB6 : Hid (Blk wS _ 125 (outA ⟨0, ⟨0, 0, 0, 0, 0, 0, 0, 0⟩, false, 0, false⟩)) := Lib.hid (by simpa [outC] using hbS)
      have HG7 := Lib.hid HG6
      clear hHeld hbS htS HZ HG6
      go_wp2_with fail
      go_meet
      exact ⟨_, rfl, rfl, HS.out, HB6.out, HG7.out⟩
    refine AllReadyH.cons rfl (fun K hK => ?_) ?_
    ·as_aux_lemma =>
      go_simp
      refine hK.out _ _ ?_ (fun hHeld => ?_)
      ·exact ⟨hHeld.1.alloc _, hHeld.2.alloc _⟩
      clear hK K
      try simp only [Act.put, List.setIfInBounds_toArray, List.set_cons_zero, List.set_cons_succ]
      have HZ : Blk (W.drew.alloc (.cells [.int .i64 0, .int .i64 0, .int .i64 0, .int .i64 0, .int .i64 0, .int .i64 0, .int .i64 0, .int .i64 0, .int .i64 0, .bool false, .int .i64 0, .bool false].toArray 125)) W.drew.heap.size 125 [.int .i64 0, .int .i64 0, .int .i64 0, .int .i64 0, .int .i64 0, .int .i64 0, .int .i64 0, .int .i64 0, .int .i64 0, .bool false, .int .i64 0, .bool false].toArray := Blk.new W.drew 125 [.int .i64 0, .int .i64 0, .int .i64 0, .int .i64 0, .int .i64 0, .int .i64 0, .int .i64 0, .int .i64 0, .int .i64 0, .bool false, .int .i64 0, .bool false].toArray
      have HG6 : W.heap.size ≤ W.drew.heap.size := Nat.le_refl _
      refine wpAnyH_ready (rs := [7]) (by kernel_rfl) (by simp) ?_
      refine AllReadyH.cons rfl (fun K hK => ?_) AllReadyH.nil
      go_simp
      refine (HLD.out _ _ _ (HRQ.out.turns hHeld.2 (fun _ _ _ h => h))).mono ?_
      rintro e wG ⟨rfl, hmG⟩
      refine hK.out _ _ ?_ (fun hHeld => ?_)
      ·exact ⟨hHeld.1.turns hmG (fun h => h), hHeld.2.trans hmG⟩
      clear hK K
      try simp only [Act.put, List.setIfInBounds_toArray, List.set_cons_zero, List.set_cons_succ]
      replace HZ := HZ.turns hmG (fun h => h)
      refine takeH (i := 8) (d := some 71) (v := ?_) rfl rfl (by kernel_rfl) (by kernel_rfl) (by kernel_rfl) (fun _ _ _ h => h) (Or.inl ⟨by rfl, ?_⟩) (by assumption) ?_
      rotate_left
      ·intro w hSw
       try dsimp only at hSw
       go_simp
       try with_reducible rfl
      try simp only [Act.put, List.setIfInBounds_toArray, List.set_cons_zero, List.set_cons_succ]
      refine takeH (i := 9) (d := some 80) (v := ?_) rfl rfl (by kernel_rfl) (by kernel_rfl) (by kernel_rfl) (fun _ _ _ h => h) (Or.inl ⟨by rfl, ?_⟩) (by assumption) ?_
      rotate_left
      ·intro w hSw
       try dsimp only at hSw
       go_simp
       try with_reducible rfl
      try simp only [Act.put, List.setIfInBounds_toArray, List.set_cons_zero, List.set_cons_succ]
      refine takeH (i := 10) (d := some 81) (v := ?_) rfl rfl (by kernel_rfl) (by kernel_rfl) (by kernel_rfl) (fun _ _ _ h => h) (Or.inl ⟨by rfl, ?_⟩) (by assumption) ?_
      rotate_left
      ·intro w hSw
       try dsimp only at hSw
       go_simp
       try with_reducible rfl
      try simp only [Act.put, List.setIfInBounds_toArray, List.set_cons_zero, List.set_cons_succ]
      refine wpAnyH_ready (rs := [12]) (by kernel_rfl) (by simp) ?_
      refine AllReadyH.cons rfl (fun K hK => ?_) AllReadyH.nil
      refine step_store_mid rfl rfl _ _ _ (by rfl) (by rfl) (outC ⟨0, ⟨0, 0, 0, 0, 0, 0, 0, 0⟩, false, 0, false⟩) [] [.int .i64 0, .int .i64 0, .int .i64 0, .int .i64 0, .int .i64 0, .int .i64 0, .int .i64 0, .int .i64 0, .int .i64 0, .bool false, .int .i64 0, .bool false] [] (by rfl) (t := 125) (show Blk _ _ _ _ from by simpa using HZ) (by rfl) (by rfl) (outC_one _) Tryz.sizeOut ?_
      intro wS hbS htS
      refine hK.out _ _ ?_ (fun hHeld => ?_)
      ·exact ⟨hHeld.1.turns htS (fun e => by have := HPQ.out; omega), hHeld.2.then htS (fun k hk e => by omega)⟩
      clear hK K
      try simp only [Act.put, List.setIfInBounds_toArray, List.set_cons_zero, List.set_cons_succ]
      refine takeH (i := 13) (d := some 13) (v := ?_) rfl rfl (by kernel_rfl) (by kernel_rfl) (by kernel_rfl) (fun _ _ _ h => h) (Or.inl ⟨by rfl, ?_⟩) (by assumption) ?_
      rotate_left
      ·intro w hSw
       try dsimp only at hSw
       go_simp
       try with_reducible rfl
      try simp only [Act.put, List.setIfInBounds_toArray, List.set_cons_zero, List.set_cons_succ]
      refine wpAnyH_done (by kernel_rfl) ?_ _
      have HS := Lib.hid hHeld.2
      have HB6 : Hid (Blk wS _ 125 (outA ⟨0, ⟨0, 0, 0, 0, 0, 0, 0, 0⟩, false, 0, false⟩)) := Lib.hid (by simpa [outC] using hbS)
      have HG7 := Lib.hid HG6
      clear hHeld hbS htS HZ HG6
      go_wp2_with fail
      go_meet
      exact ⟨_, rfl, rfl, HS.out, HB6.out, HG7.out⟩
    exact AllReadyH.nil
  refine AllReadyH.cons rfl (fun K hK => ?_) ?_
  ·as_aux_lemma =>
    go_simp
    refine hK.out _ _ ?_ (fun hHeld => ?_)
    ·exact ⟨hHeld.1.alloc _, hHeld.2.alloc _⟩
    clear hK K
    try simp only [Act.put, List.setIfInBounds_toArray, List.set_cons_zero, List.set_cons_succ]
    have HZ : Blk (W.drew.alloc (.cells [.int .i64 0, .int .i64 0, .int .i64 0, .int .i64 0, .int .i64 0, .int .i64 0, .int .i64 0, .int .i64 0, .int .i64 0, .bool false, .int .i64 0, .bool false].toArray 125)) W.drew.heap.size 125 [.int .i64 0, .int .i64 0, .int .i64 0, .int .i64 0, .int .i64 0, .int .i64 0, .int .i64 0, .int .i64 0, .int .i64 0, .bool false, .int .i64 0, .bool false].toArray := Blk.new W.drew 125 [.int .i64 0, .int .i64 0, .int .i64 0, .int .i64 0, .int .i64 0, .int .i64 0, .int .i64 0, .int .i64 0, .int .i64 0, .bool false, .int .i64 0, .bool false].toArray
    have HG6 : W.heap.size ≤ W.drew.heap.size := Nat.le_refl _
    refine wpAnyH_ready (rs := [6]) (by kernel_rfl) (by simp) ?_
    refine AllReadyH.cons rfl (fun K hK => ?_) AllReadyH.nil
    go_simp
    refine (wnow_c (HWQ.out.made HXX.out hHeld.2)).mono ?_
    rintro e wN ⟨rfl, rfl⟩
    refine hK.out _ _ ?_ (fun hHeld => ?_)
    ·exact hHeld
    clear hK K
    try simp only [Act.put, List.setIfInBounds_toArray, List.set_cons_zero, List.set_cons_succ]
    refine wpAnyH_ready (rs := [7]) (by kernel_rfl) (by simp) ?_
    refine AllReadyH.cons rfl (fun K hK => ?_) AllReadyH.nil
    go_simp
    refine (HLD.out _ _ _ (HRQ.out.turns hHeld.2 (fun _ _ _ h => h))).mono ?_
    rintro e wG ⟨rfl, hmG⟩
    refine hK.out _ _ ?_ (fun hHeld => ?_)
    ·exact ⟨hHeld.1.turns hmG (fun h => h), hHeld.2.trans hmG⟩
    clear hK K
    try simp only [Act.put, List.setIfInBounds_toArray, List.set_cons_zero, List.set_cons_succ]
    replace HZ := HZ.turns hmG (fun h => h)
    refine takeH (i := 8) (d := some 71) (v := ?_) rfl rfl (by kernel_rfl) (by kernel_rfl) (by kernel_rfl) (fun _ _ _ h => h) (Or.inl ⟨by rfl, ?_⟩) (by assumption) ?_
    rotate_left
    ·intro w hSw
     try dsimp only at hSw
     go_simp
     try with_reducible rfl
    try simp only [Act.put, List.setIfInBounds_toArray, List.set_cons_zero, List.set_cons_succ]
    refine takeH (i := 9) (d := some 80) (v := ?_) rfl rfl (by kernel_rfl) (by kernel_rfl) (by kernel_rfl) (fun _ _ _ h => h) (Or.inl ⟨by rfl, ?_⟩) (by assumption) ?_
    rotate_left
    ·intro w hSw
     try dsimp only at hSw
     go_simp
     try with_reducible rfl
    try simp only [Act.put, List.setIfInBounds_toArray, List.set_cons_zero, List.set_cons_succ]
    refine takeH (i := 10) (d := some 81) (v := ?_) rfl rfl (by kernel_rfl) (by kernel_rfl) (by kernel_rfl) (fun _ _ _ h => h) (Or.inl ⟨by rfl, ?_⟩) (by assumption) ?_
    rotate_left
    ·intro w hSw
     try dsimp only at hSw
     go_simp
     try with_reducible rfl
    try simp only [Act.put, List.setIfInBounds_toArray, List.set_cons_zero, List.set_cons_succ]
    refine wpAnyH_ready (rs := [12]) (by kernel_rfl) (by simp) ?_
    refine AllReadyH.cons rfl (fun K hK => ?_) AllReadyH.nil
    refine step_store_mid rfl rfl _ _ _ (by rfl) (by rfl) (outC ⟨0, ⟨0, 0, 0, 0, 0, 0, 0, 0⟩, false, 0, false⟩) [] [.int .i64 0, .int .i64 0, .int .i64 0, .int .i64 0, .int .i64 0, .int .i64 0, .int .i64 0, .int .i64 0, .int .i64 0, .bool false, .int .i64 0, .bool false] [] (by rfl) (t := 125) (show Blk _ _ _ _ from by simpa using HZ) (by rfl) (by rfl) (outC_one _) Tryz.sizeOut ?_
    intro wS hbS htS
    refine hK.out _ _ ?_ (fun hHeld => ?_)
    ·exact ⟨hHeld.1.turns htS (fun e => by have := HPQ.out; omega), hHeld.2.then htS (fun k hk e => by omega)⟩
    clear hK K
    try simp only [Act.put, List.setIfInBounds_toArray, List.set_cons_zero, List.set_cons_succ]
    refine takeH (i := 13) (d := some 13) (v := ?_) rfl rfl (by kernel_rfl) (by kernel_rfl) (by kernel_rfl) (fun _ _ _ h => h) (Or.inl ⟨by rfl, ?_⟩) (by assumption) ?_
    rotate_left
    ·intro w hSw
     try dsimp only at hSw
     go_simp
     try with_reducible rfl
    try simp only [Act.put, List.setIfInBounds_toArray, List.set_cons_zero, List.set_cons_succ]
    refine wpAnyH_done (by kernel_rfl) ?_ _
    have HS := Lib.hid hHeld.2
    have HB6 : Hid (Blk wS _ 125 (outA ⟨0, ⟨0, 0, 0, 0, 0, 0, 0, 0⟩, false, 0, false⟩)) := Lib.hid (by simpa [outC] using hbS)
    have HG7 := Lib.hid HG6
    clear hHeld hbS htS HZ HG6
    go_wp2_with fail
    go_meet
    exact ⟨_, rfl, rfl, HS.out, HB6.out, HG7.out⟩
  exact AllReadyH.nil
 case rest =>
  obtain ⟨gO, rfl, rfl, hmC, hbO, hgO⟩ := hcut
  have HWC := Lib.hid (HWQ.out.made HXX.out hmC)
  have HSC := Lib.hid (HSQ.out.then_made hmC)
  have HBC := Lib.hid (HBQ.out.turns hmC (fun h => h))
  obtain ⟨bp, off, rfl, hbp, hpl, -⟩ := ins_at (HRQ.out.turns hmC (fun _ _ _ h => h)) HIN.out
  have HLI : Hid (∀ w', Made wc w' → ∀ j v, (insC ins)[j]? = some v → w'.cell? ⟨bp, off + pc * 6 + j, none⟩ = some v) := Lib.hid (fun w' hm j v hv => by
   rcases (HRQ.out.turns hmC (fun _ _ _ h => h)).2 with h0 | ⟨b2, off2, e2, hb2, hli⟩
   ·have := (List.getElem?_eq_some_iff.1 HIN.out).1; omega
   ·cases e2
    exact (hm.cell (p := ⟨bp, off + pc * 6 + j, none⟩) hb2 (fun h => h)).trans (hli pc ins HIN.out j v hv))
  have j3 : (0 : Int) ≤ (pc : Int) := by omega
  have j4 : (pc : Int) < (p.length : Int) := by omega
  clear hmC hbO hgO hbp hpl
  go_wp2_with fail
  have HPB := Lib.hid HBC.out.lt
  have j3 : (0 : Int) ≤ (pc : Int) := by omega
  refine wp_region_held_drew (S := fun w' => Blk w' w4.heap.size 38 (tskC x).toArray ∧ Made wc w') (by kernel_rfl) ?_ (fun hHeld => ?_)
  ·exact ⟨HBC.out, (Turns.refl (fun _ => False) wc).drew⟩
  refine takeH (i := 0) (d := some 88) (v := ?_) rfl rfl (by kernel_rfl) (by kernel_rfl) (by kernel_rfl) (fun _ _ _ h => h) (Or.inl ⟨by rfl, ?_⟩) (by assumption) ?_
  rotate_left
  ·intro w hSw
   try dsimp only at hSw
   go_simp
   try with_reducible rfl
  try simp only [Act.put, List.setIfInBounds_toArray, List.set_cons_zero, List.set_cons_succ]
  refine takeH (i := 1) (d := some 89) (v := ?_) rfl rfl (by kernel_rfl) (by kernel_rfl) (by kernel_rfl) (fun _ _ _ h => h) (Or.inl ⟨by rfl, ?_⟩) (by assumption) ?_
  rotate_left
  ·intro w hSw
   try dsimp only at hSw
   go_simp
   try with_reducible rfl
  try simp only [Act.put, List.setIfInBounds_toArray, List.set_cons_zero, List.set_cons_succ]
  refine takeH (i := 2) (d := some 90) (v := ?_) rfl rfl (by kernel_rfl) (by kernel_rfl) (by kernel_rfl) (fun _ _ _ h => h) (Or.inl ⟨by rfl, ?_⟩) (by assumption) ?_
  rotate_left
  ·intro w hSw
   try dsimp only at hSw
   go_simp
   try with_reducible rfl
  try simp only [Act.put, List.setIfInBounds_toArray, List.set_cons_zero, List.set_cons_succ]
  refine takeH (i := 3) (d := some 91) (v := ?_) rfl rfl (by kernel_rfl) (by kernel_rfl) (by kernel_rfl) (fun _ _ _ h => h) (Or.inl ⟨by rfl, ?_⟩) (by assumption) ?_
  rotate_left
  ·intro w hSw
   try dsimp only at hSw
   go_simp
   try with_reducible rfl
  try simp only [Act.put, List.setIfInBounds_toArray, List.set_cons_zero, List.set_cons_succ]
  refine takeH (i := 4) (d := some 92) (v := ?_) rfl rfl (by kernel_rfl) (by kernel_rfl) (by kernel_rfl) (fun _ _ _ h => h) (Or.inl ⟨by rfl, ?_⟩) (by assumption) ?_
  rotate_left
  ·intro w hSw
   try dsimp only at hSw
   have q0 := hSw.1.cell 1
   simp only [tskC, List.getElem?_toArray, List.getElem?_cons_zero, List.getElem?_cons_succ] at q0
   rw [HSL.out.hpc] at q0
   go_simp
   try with_reducible rfl
  try simp only [Act.put, List.setIfInBounds_toArray, List.set_cons_zero, List.set_cons_succ]
  refine takeH (i := 5) (d := some 93) (v := ?_) rfl rfl (by kernel_rfl) (by kernel_rfl) (by kernel_rfl) (fun _ _ _ h => h) (Or.inl ⟨by rfl, ?_⟩) (by assumption) ?_
  rotate_left
  ·intro w hSw
   try dsimp only at hSw
   go_simp
   try with_reducible rfl
  try simp only [Act.put, List.setIfInBounds_toArray, List.set_cons_zero, List.set_cons_succ]
  refine takeH (i := 6) (d := some 94) (v := ?_) rfl rfl (by kernel_rfl) (by kernel_rfl) (by kernel_rfl) (fun _ _ _ h => h) (Or.inl ⟨by rfl, ?_⟩) (by assumption) ?_
  rotate_left
  ·intro w hSw
   try dsimp only at hSw
   refine exec_load_at (P := Tryz.prog) (x := .tmp 93) (n := off + pc * 6) (cs := [.int .i64 ins.op, .int .i64 ins.a, .int .i64 ins.b, .int .i64 ins.c, .slice none 0 0, .bool false]) ?_ ?_ (fun j v hv => HLI.out _ hSw.2 j v hv) Tryz.underlying25 ?_ Tryz.sizeIns <;> rfl
  try simp only [Act.put, List.setIfInBounds_toArray, List.set_cons_zero, List.set_cons_succ]
  refine takeH (i := 7) (d := some 95) (v := ?_) rfl rfl (by kernel_rfl) (by kernel_rfl) (by kernel_rfl) (fun _ _ _ h => h) (Or.inl ⟨by rfl, ?_⟩) (by assumption) ?_
  rotate_left
  ·intro w hSw
   try dsimp only at hSw
   go_simp
   try with_reducible rfl
  try simp only [Act.put, List.setIfInBounds_toArray, List.set_cons_zero, List.set_cons_succ]
  refine takeH (i := 8) (d := some 96) (v := ?_) rfl rfl (by kernel_rfl) (by kernel_rfl) (by kernel_rfl) (fun _ _ _ h => h) (Or.inl ⟨by rfl, ?_⟩) (by assumption) ?_
  rotate_left
  ·intro w hSw
   try dsimp only at hSw
   refine exec_load_at (P := Tryz.prog) (x := .tmp 95) (n := 4) (cs := [.int .i64 x.regs.r0, .int .i64 x.regs.r1, .int .i64 x.regs.r2, .int .i64 x.regs.r3, .int .i64 x.regs.r4, .int .i64 x.regs.r5, .int .i64 x.regs.r6, .int .i64 x.regs.r7]) ?_ ?_ (fun j v hv => by have hj : j < 8 := (List.getElem?_eq_some_iff.1 hv).1; refine (hSw.1.cell (4 + j)).trans ?_; rw [← hv]; rcases lt8 hj with rfl | rfl | rfl | rfl | rfl | rfl | rfl | rfl <;> rfl) Tryz.underlying36 ?_ Tryz.sizeReg <;> rfl
  try simp only [Act.put, List.setIfInBounds_toArray, List.set_cons_zero, List.set_cons_succ]
  refine takeH (i := 9) (d := some 97) (v := ?_) rfl rfl (by kernel_rfl) (by kernel_rfl) (by kernel_rfl) (fun _ _ _ h => h) (Or.inl ⟨by rfl, ?_⟩) (by assumption) ?_
  rotate_left
  ·intro w hSw
   try dsimp only at hSw
   go_simp
   try with_reducible rfl
  try simp only [Act.put, List.setIfInBounds_toArray, List.set_cons_zero, List.set_cons_succ]
  refine takeH (i := 10) (d := some 98) (v := ?_) rfl rfl (by kernel_rfl) (by kernel_rfl) (by kernel_rfl) (fun _ _ _ h => h) (Or.inl ⟨by rfl, ?_⟩) (by assumption) ?_
  rotate_left
  ·intro w hSw
   try dsimp only at hSw
   refine exec_load_at (P := Tryz.prog) (x := .tmp 97) (n := 4) (cs := [.int .i64 x.regs.r0, .int .i64 x.regs.r1, .int .i64 x.regs.r2, .int .i64 x.regs.r3, .int .i64 x.regs.r4, .int .i64 x.regs.r5, .int .i64 x.regs.r6, .int .i64 x.regs.r7]) ?_ ?_ (fun j v hv => by have hj : j < 8 := (List.getElem?_eq_some_iff.1 hv).1; refine (hSw.1.cell (4 + j)).trans ?_; rw [← hv]; rcases lt8 hj with rfl | rfl | rfl | rfl | rfl | rfl | rfl | rfl <;> rfl) Tryz.underlying36 ?_ Tryz.sizeReg <;> rfl
  try simp only [Act.put, List.setIfInBounds_toArray, List.set_cons_zero, List.set_cons_succ]
  refine takeH (i := 11) (d := some 99) (v := ?_) rfl rfl (by kernel_rfl) (by kernel_rfl) (by kernel_rfl) (fun _ _ _ h => h) (Or.inl ⟨by rfl, ?_⟩) (by assumption) ?_
  rotate_left
  ·intro w hSw
   try dsimp only at hSw
   go_simp
   try with_reducible rfl
  try simp only [Act.put, List.setIfInBounds_toArray, List.set_cons_zero, List.set_cons_succ]
  refine takeH (i := 12) (d := some 100) (v := ?_) rfl rfl (by kernel_rfl) (by kernel_rfl) (by kernel_rfl) (fun _ _ _ h => h) (Or.inl ⟨by rfl, ?_⟩) (by assumption) ?_
  rotate_left
  ·intro w hSw
   try dsimp only at hSw
   go_simp
   try with_reducible rfl
  try simp only [Act.put, List.setIfInBounds_toArray, List.set_cons_zero, List.set_cons_succ]
  refine wpAnyH_ready (rs := [13]) (by kernel_rfl) (by simp) ?_
  refine AllReadyH.cons rfl (fun K hK => ?_) AllReadyH.nil
  go_simp
  refine hK.out _ _ ?_ (fun hHeld => ?_)
  ·exact ⟨hHeld.1.alloc _, hHeld.2.alloc _⟩
  clear hK K
  try simp only [Act.put, List.setIfInBounds_toArray, List.set_cons_zero, List.set_cons_succ]
  refine takeH (i := 14) (d := some 14) (v := ?_) rfl rfl (by kernel_rfl) (by kernel_rfl) (by kernel_rfl) (fun _ _ _ h => h) (Or.inl ⟨by rfl, ?_⟩) (by assumption) ?_
  rotate_left
  ·intro w hSw
   try dsimp only at hSw
   go_simp
   try with_reducible rfl
  try simp only [Act.put, List.setIfInBounds_toArray, List.set_cons_zero, List.set_cons_succ]
  refine wpAnyH_done (by kernel_rfl) ?_ _
  go_upto_region 11 with fail
  have HMA := Lib.hid ((((Turns.refl (fun _ => False) wc).alloc (.cells #[.pointer (some ⟨b.pb, 0, none⟩), .int .i64 i, .int .i64 ins.op, .int .i64 ins.a, .int .i64 ins.b, .int .i64 ins.c, .slice none 0 0, .bool false, .int .i64 x.regs.r0, .int .i64 x.regs.r1, .int .i64 x.regs.r2, .int .i64 x.regs.r3, .int .i64 x.regs.r4, .int .i64 x.regs.r5, .int .i64 x.regs.r6, .int .i64 x.regs.r7, .int .i64 x.regs.r0, .int .i64 x.regs.r1, .int .i64 x.regs.r2, .int .i64 x.regs.r3, .int .i64 x.regs.r4, .int .i64 x.regs.r5, .int .i64 x.regs.r6, .int .i64 x.regs.r7, .int .i64 d, .int .i64 0, .bool false] 131))).drew)
  have HBA : Hid (Blk (wc.alloc (.cells #[.pointer (some ⟨b.pb, 0, none⟩), .int .i64 i, .int .i64 ins.op, .int .i64 ins.a, .int .i64 ins.b, .int .i64 ins.c, .slice none 0 0, .bool false, .int .i64 x.regs.r0, .int .i64 x.regs.r1, .int .i64 x.regs.r2, .int .i64 x.regs.r3, .int .i64 x.regs.r4, .int .i64 x.regs.r5, .int .i64 x.regs.r6, .int .i64 x.regs.r7, .int .i64 x.regs.r0, .int .i64 x.regs.r1, .int .i64 x.regs.r2, .int .i64 x.regs.r3, .int .i64 x.regs.r4, .int .i64 x.regs.r5, .int .i64 x.regs.r6, .int .i64 x.regs.r7, .int .i64 d, .int .i64 0, .bool false] 131)).drew wc.heap.size 131 (acA b.pb ⟨i, ins, x.regs, x.regs, d, 0, false⟩)) := Lib.hid (Blk.new wc 131 #[.pointer (some ⟨b.pb, 0, none⟩), .int .i64 i, .int .i64 ins.op, .int .i64 ins.a, .int .i64 ins.b, .int .i64 ins.c, .slice none 0 0, .bool false, .int .i64 x.regs.r0, .int .i64 x.regs.r1, .int .i64 x.regs.r2, .int .i64 x.regs.r3, .int .i64 x.regs.r4, .int .i64 x.regs.r5, .int .i64 x.regs.r6, .int .i64 x.regs.r7, .int .i64 x.regs.r0, .int .i64 x.regs.r1, .int .i64 x.regs.r2, .int .i64 x.regs.r3, .int .i64 x.regs.r4, .int .i64 x.regs.r5, .int .i64 x.regs.r6, .int .i64 x.regs.r7, .int .i64 d, .int .i64 0, .bool false])
  have HNA : Hid (¬ Own o3 wc.heap.size) := Lib.hid (fun h0 => absurd (HWC.out.lt _ h0) (Nat.lt_irrefl _))
  have HLA : Hid (wc.heap.size < (wc.alloc (.cells #[.pointer (some ⟨b.pb, 0, none⟩), .int .i64 i, .int .i64 ins.op, .int .i64 ins.a, .int .i64 ins.b, .int .i64 ins.c, .slice none 0 0, .bool false, .int .i64 x.regs.r0, .int .i64 x.regs.r1, .int .i64 x.regs.r2, .int .i64 x.regs.r3, .int .i64 x.regs.r4, .int .i64 x.regs.r5, .int .i64 x.regs.r6, .int .i64 x.regs.r7, .int .i64 x.regs.r0, .int .i64 x.regs.r1, .int .i64 x.regs.r2, .int .i64 x.regs.r3, .int .i64 x.regs.r4, .int .i64 x.regs.r5, .int .i64 x.regs.r6, .int .i64 x.regs.r7, .int .i64 d, .int .i64 0, .bool false] 131)).drew.heap.size) := Lib.hid HBA.out.lt
  have HWA := Lib.hid (HWC.out.made HXX.out HMA.out)
  have HTA := Lib.hid (HBC.out.turns HMA.out (fun h => h))
  have HSA := Lib.hid (HSC.out.then_made HMA.out)
  clear hHeld
  generalize (wc.alloc (.cells #[.pointer (some ⟨b.pb, 0, none⟩), .int .i64 i, .int .i64 ins.op, .int .i64 ins.a, .int .i64 ins.b, .int .i64 ins.c, .slice none 0 0, .bool false, .int .i64 x.regs.r0, .int .i64 x.regs.r1, .int .i64 x.regs.r2, .int .i64 x.regs.r3, .int .i64 x.regs.r4, .int .i64 x.regs.r5, .int .i64 x.regs.r6, .int .i64 x.regs.r7, .int .i64 x.regs.r0, .int .i64 x.regs.r1, .int .i64 x.regs.r2, .int .i64 x.regs.r3, .int .i64 x.regs.r4, .int .i64 x.regs.r5, .int .i64 x.regs.r6, .int .i64 x.regs.r7, .int .i64 d, .int .i64 0, .bool false] 131)).drew = WA at *
  go_wp2_with fail
  refine (HAC.out _ _ _ HWA.out HBA.out HNA.out).mono ?_
  rintro e w6 ⟨rfl, o6, s6, x6, hq6, hw6, hst6, hb6⟩
  have HF := Lib.hid (HQQ.out _ _ hq6)
  have HQ6 := Lib.hid hq6
  have hn6 : ¬ Own o6 wc.heap.size := hst6.no HNA.out HLA.out
  have hn64 : ¬ Own o6 w4.heap.size := fun h0 => (hst6.f _ h0).elim HN4.out (fun h => absurd (Nat.lt_trans HPB.out HLA.out) (Nat.not_lt.2 h))
  have HN6 := Lib.hid (And.intro hn6 hn64)
  have HT6 := Lib.hid (HTA.out.turns hst6.t (fun e => e.elim HN4.out (fun e => by have := HPB.out; omega)))
  have HS6 := Lib.hid (show Stp w w6 (Own o) (Own o6) from ⟨HSA.out.t.then hst6.t (fun k hk e => e.elim (fun e => (HSA.out.f k e).elim id (fun h => absurd hk (Nat.not_lt.2 h))) (fun e => by have h1 := HSC.out.t.size; omega)), fun k hk => (hst6.f k hk).elim (HSA.out.f k) (fun h => .inr (Nat.le_trans HSA.out.t.size h))⟩)
  obtain ⟨xid, ⟨xo, xa, xb, xc⟩, xw, xr, xd, xh, xp⟩ := x6
  have hh : xh = 0 := HF.out.how
  subst hh
  obtain ⟨vp6, vc6, vl6, ve6, hw6⟩ := hw6
  have HW6 := Lib.hid hw6
  have HQB := Lib.hid hw6.blk
  have y25 : w6.cell? ⟨wc.heap.size, 25, none⟩ = some (.int .i64 0) := hb6.cell 25
  have y26 : w6.cell? ⟨wc.heap.size, 26, none⟩ = some (.bool xp) := hb6.cell 26
  have HNB := Lib.hid (show ¬ o6 b.pb = 3 from by rw [hw6.ob]; omega)
  have HNK := Lib.hid (show ¬ o6 wc.heap.size = 3 from fun e => hn6 (by show o6 wc.heap.size ≠ 0; omega))
  have HNT := Lib.hid (show ¬ o6 w4.heap.size = 3 from fun e => hn64 (by show o6 w4.heap.size ≠ 0; omega))
  have HB6 := Lib.hid hb6
  clear hq6 hst6 hb6 hn6 hn64 hw6
  cases xp
  case true =>
   obtain ⟨hop, hgd⟩ := HF.out.pk rfl
   have hop : xo = 11 := hop
   subst hop
   have HGD := Lib.hid hgd
   clear hgd
   go_wp2_with fail
   have HPK := Lib.hid (tabpark_c (w := w6.drew) (HW6.out.tab.made (Turns.refl (fun _ => False) w6).drew) HF.out.ts HF.out.tl HSL.out.st HGD.out HF.out.rd.1 HF.out.rd.2 HF.out.rl)
   refine wp_region_held_drew (S := fun w' => Blk w' (b.pb) 65 #[vp6, .pointer (some ⟨b.pk, 0, none⟩), .pointer (some ⟨b.pt, 0, none⟩), vc6, .int .i64 s6.made, .pointer (some ⟨b.pm, 0, none⟩), .pointer (some ⟨b.px, 0, none⟩), .pointer (some ⟨b.pd, 0, none⟩), vl6, .int .i64 s6.steps, ve6] ∧ Blk w' (wc.heap.size) 131 (acA b.pb ⟨xid, ⟨11, xa, xb, xc⟩, xw, xr, xd, 0, true⟩) ∧ Turns (fun k => o6 k = 3) w6 w') (by kernel_rfl) ?_ (fun hHeld => ?_)
   ·exact ⟨HQB.out, HB6.out, (Turns.refl _ w6).drew⟩
   refine takeH (i := 0) (d := some 145) (v := ?_) rfl rfl (by kernel_rfl) (by kernel_rfl) (by kernel_rfl) (fun _ _ _ h => h) (Or.inl ⟨by rfl, ?_⟩) (by assumption) ?_
   rotate_left
   ·intro w hSw
    try dsimp only at hSw
    go_simp
    try with_reducible rfl
   try simp only [Act.put, List.setIfInBounds_toArray, List.set_cons_zero, List.set_cons_succ]
   refine takeH (i := 1) (d := some 146) (v := ?_) rfl rfl (by kernel_rfl) (by kernel_rfl) (by kernel_rfl) (fun _ _ _ h => h) (Or.inl ⟨by rfl, ?_⟩) (by assumption) ?_
   rotate_left
   ·intro w hSw
    try dsimp only at hSw
    go_simp
    try with_reducible rfl
   try simp only [Act.put, List.setIfInBounds_toArray, List.set_cons_zero, List.set_cons_succ]
   refine takeH (i := 2) (d := some 147) (v := ?_) rfl rfl (by kernel_rfl) (by kernel_rfl) (by kernel_rfl) (fun _ _ _ h => h) (Or.inl ⟨by rfl, ?_⟩) (by assumption) ?_
   rotate_left
   ·intro w hSw
    try dsimp only at hSw
    go_simp
    try with_reducible rfl
   try simp only [Act.put, List.setIfInBounds_toArray, List.set_cons_zero, List.set_cons_succ]
   refine takeH (i := 3) (d := some 148) (v := ?_) rfl rfl (by kernel_rfl) (by kernel_rfl) (by kernel_rfl) (fun _ _ _ h => h) (Or.inl ⟨by rfl, ?_⟩) (by assumption) ?_
   rotate_left
   ·intro w hSw
    try dsimp only at hSw
    have q0_0 := hSw.1.cell 0
    have q0_1 := hSw.1.cell 1
    have q0_2 := hSw.1.cell 2
    have q0_3 := hSw.1.cell 3
    have q0_4 := hSw.1.cell 4
    have q0_5 := hSw.1.cell 5
    have q0_6 := hSw.1.cell 6
    have q0_7 := hSw.1.cell 7
    have q0_8 := hSw.1.cell 8
    have q0_9 := hSw.1.cell 9
    have q0_10 := hSw.1.cell 10
    simp only [List.getElem?_toArray, List.getElem?_cons_zero, List.getElem?_cons_succ] at q0_0 q0_1 q0_2 q0_3 q0_4 q0_5 q0_6 q0_7 q0_8 q0_9 q0_10
    go_simp
    try with_reducible rfl
   try simp only [Act.put, List.setIfInBounds_toArray, List.set_cons_zero, List.set_cons_succ]
   refine takeH (i := 4) (d := some 149) (v := ?_) rfl rfl (by kernel_rfl) (by kernel_rfl) (by kernel_rfl) (fun _ _ _ h => h) (Or.inl ⟨by rfl, ?_⟩) (by assumption) ?_
   rotate_left
   ·intro w hSw
    try dsimp only at hSw
    go_simp
    try with_reducible rfl
   try simp only [Act.put, List.setIfInBounds_toArray, List.set_cons_zero, List.set_cons_succ]
   refine takeH (i := 5) (d := some 150) (v := ?_) rfl rfl (by kernel_rfl) (by kernel_rfl) (by kernel_rfl) (fun _ _ _ h => h) (Or.inl ⟨by rfl, ?_⟩) (by assumption) ?_
   rotate_left
   ·intro w hSw
    try dsimp only at hSw
    go_simp
    try with_reducible rfl
   try simp only [Act.put, List.setIfInBounds_toArray, List.set_cons_zero, List.set_cons_succ]
   refine takeH (i := 6) (d := some 151) (v := ?_) rfl rfl (by kernel_rfl) (by kernel_rfl) (by kernel_rfl) (fun _ _ _ h => h) (Or.inl ⟨by rfl, ?_⟩) (by assumption) ?_
   rotate_left
   ·intro w hSw
    try dsimp only at hSw
    go_simp
    try with_reducible rfl
   try simp only [Act.put, List.setIfInBounds_toArray, List.set_cons_zero, List.set_cons_succ]
   refine takeH (i := 7) (d := some 152) (v := ?_) rfl rfl (by kernel_rfl) (by kernel_rfl) (by kernel_rfl) (fun _ _ _ h => h) (Or.inl ⟨by rfl, ?_⟩) (by assumption) ?_
   rotate_left
   ·intro w hSw
    try dsimp only at hSw
    go_simp
    try with_reducible rfl
   try simp only [Act.put, List.setIfInBounds_toArray, List.set_cons_zero, List.set_cons_succ]
   refine takeH (i := 8) (d := some 153) (v := ?_) rfl rfl (by kernel_rfl) (by kernel_rfl) (by kernel_rfl) (fun _ _ _ h => h) (Or.inl ⟨by rfl, ?_⟩) (by assumption) ?_
   rotate_left
   ·intro w hSw
    try dsimp only at hSw
    refine exec_load_at (P := Tryz.prog) (x := .tmp 152) (n := 2) (cs := [.int .i64 11, .int .i64 xa, .int .i64 xb, .int .i64 xc, .slice none 0 0, .bool false]) ?_ ?_ (fun j v hv => by have hj : j < 6 := (List.getElem?_eq_some_iff.1 hv).1; refine (hSw.2.1.cell (2 + j)).trans ?_; rw [← hv]; rcases lt6 hj with rfl | rfl | rfl | rfl | rfl | rfl <;> rfl) Tryz.underlying25 ?_ Tryz.sizeIns <;> rfl
   try simp only [Act.put, List.setIfInBounds_toArray, List.set_cons_zero, List.set_cons_succ]
   refine wpAnyH_ready (rs := [9]) (by kernel_rfl) (by simp) ?_
   refine AllReadyH.cons rfl (fun K hK => ?_) AllReadyH.nil
   go_simp
   refine HPK.out.mono ?_
   rintro e w7 ⟨rfl, F7, hT7, hs7⟩
   refine hK.out _ _ ?_ (fun hHeld => ?_)
   ·exact ⟨hHeld.1.turns hs7.t HNB.out, hHeld.2.1.turns hs7.t HNK.out, hHeld.2.2.trans hs7.t⟩
   clear hK K
   try simp only [Act.put, List.setIfInBounds_toArray, List.set_cons_zero, List.set_cons_succ]
   refine wpAnyH_done (by kernel_rfl) ?_ _
   obtain ⟨o7, h7, _, hs7⟩ := (HW6.out.made HXX.out (Turns.refl (fun _ => False) w6).drew).stepTab HXX.out hT7 hs7
   have HE7 := Lib.hid (And.intro (show WW CX w7 b o7 ps { s6 with ts := _, rd := _ } from ⟨_, _, _, _, h7⟩) (HS6.out.trans ((Stp.made (F := Own o6) (Turns.refl (fun _ => False) w6).drew).trans hs7)))
   have HTL := Lib.hid (wtell_c (kind := 2) (who := (i : Int)) (ea := 0) (eb := 0) (ec := 0) HXX.out HE7.out.1 HF.out.ev)
   clear hHeld hT7 hs7 h7 y25 y26
   go_wp2_with fail
   refine HTL.out.mono ?_
   rintro e w8 ⟨rfl, o8, hw8, hs8⟩
   have HE8 := Lib.hid (And.intro hw8 (HE7.out.2.trans hs8))
   clear hw8 hs8
   go_wp2_with fail
   go_end0
   exact ⟨rfl, o8, s6, _, HQ6.out, HE8.out.1, HE8.out.2⟩
  case false =>
   have HPT := Lib.hid (tabput_c (w := w6.drew) (pc := (pc : Int) + 1) (r := xr) (HW6.out.tab.made (Turns.refl (fun _ => False) w6).drew) HF.out.ts HF.out.tl HSL.out.st)
   have HIL := Lib.hid (show (pc : Int) + 1 ≤ 1000 from by have := HSL.out.il; omega)
   go_wp2_with fail
   refine wp_region_held_drew (S := fun w' => Blk w' (b.pb) 65 #[vp6, .pointer (some ⟨b.pk, 0, none⟩), .pointer (some ⟨b.pt, 0, none⟩), vc6, .int .i64 s6.made, .pointer (some ⟨b.pm, 0, none⟩), .pointer (some ⟨b.px, 0, none⟩), .pointer (some ⟨b.pd, 0, none⟩), vl6, .int .i64 s6.steps, ve6] ∧ Blk w' (wc.heap.size) 131 (acA b.pb ⟨xid, ⟨xo, xa, xb, xc⟩, xw, xr, xd, 0, false⟩) ∧ Blk w' (w4.heap.size) 38 (tskC x).toArray ∧ Turns (fun k => o6 k = 3) w6 w') (by kernel_rfl) ?_ (fun hHeld => ?_)
   ·exact ⟨HQB.out, HB6.out, HT6.out, (Turns.refl _ w6).drew⟩
   refine takeH (i := 0) (d := some 104) (v := ?_) rfl rfl (by kernel_rfl) (by kernel_rfl) (by kernel_rfl) (fun _ _ _ h => h) (Or.inl ⟨by rfl, ?_⟩) (by assumption) ?_
   rotate_left
   ·intro w hSw
    try dsimp only at hSw
    go_simp
    try with_reducible rfl
   try simp only [Act.put, List.setIfInBounds_toArray, List.set_cons_zero, List.set_cons_succ]
   refine takeH (i := 1) (d := some 105) (v := ?_) rfl rfl (by kernel_rfl) (by kernel_rfl) (by kernel_rfl) (fun _ _ _ h => h) (Or.inl ⟨by rfl, ?_⟩) (by assumption) ?_
   rotate_left
   ·intro w hSw
    try dsimp only at hSw
    go_simp
    try with_reducible rfl
   try simp only [Act.put, List.setIfInBounds_toArray, List.set_cons_zero, List.set_cons_succ]
   refine takeH (i := 2) (d := some 106) (v := ?_) rfl rfl (by kernel_rfl) (by kernel_rfl) (by kernel_rfl) (fun _ _ _ h => h) (Or.inl ⟨by rfl, ?_⟩) (by assumption) ?_
   rotate_left
   ·intro w hSw
    try dsimp only at hSw
    go_simp
    try with_reducible rfl
   try simp only [Act.put, List.setIfInBounds_toArray, List.set_cons_zero, List.set_cons_succ]
   refine takeH (i := 3) (d := some 107) (v := ?_) rfl rfl (by kernel_rfl) (by kernel_rfl) (by kernel_rfl) (fun _ _ _ h => h) (Or.inl ⟨by rfl, ?_⟩) (by assumption) ?_
   rotate_left
   ·intro w hSw
    try dsimp only at hSw
    have q0_0 := hSw.1.cell 0
    have q0_1 := hSw.1.cell 1
    have q0_2 := hSw.1.cell 2
    have q0_3 := hSw.1.cell 3
    have q0_4 := hSw.1.cell 4
    have q0_5 := hSw.1.cell 5
    have q0_6 := hSw.1.cell 6
    have q0_7 := hSw.1.cell 7
    have q0_8 := hSw.1.cell 8
    have q0_9 := hSw.1.cell 9
    have q0_10 := hSw.1.cell 10
    simp only [List.getElem?_toArray, List.getElem?_cons_zero, List.getElem?_cons_succ] at q0_0 q0_1 q0_2 q0_3 q0_4 q0_5 q0_6 q0_7 q0_8 q0_9 q0_10
    go_simp
    try with_reducible rfl
   try simp only [Act.put, List.setIfInBounds_toArray, List.set_cons_zero, List.set_cons_succ]
   refine takeH (i := 4) (d := some 108) (v := ?_) rfl rfl (by kernel_rfl) (by kernel_rfl) (by kernel_rfl) (fun _ _ _ h => h) (Or.inl ⟨by rfl, ?_⟩) (by assumption) ?_
   rotate_left
   ·intro w hSw
    try dsimp only at hSw
    go_simp
    try with_reducible rfl
   try simp only [Act.put, List.setIfInBounds_toArray, List.set_cons_zero, List.set_cons_succ]
   refine takeH (i := 5) (d := some 109) (v := ?_) rfl rfl (by kernel_rfl) (by kernel_rfl) (by kernel_rfl) (fun _ _ _ h => h) (Or.inl ⟨by rfl, ?_⟩) (by assumption) ?_
   rotate_left
   ·intro w hSw
    try dsimp only at hSw
    go_simp
    try with_reducible rfl
   try simp only [Act.put, List.setIfInBounds_toArray, List.set_cons_zero, List.set_cons_succ]
   refine takeH (i := 6) (d := some 110) (v := ?_) rfl rfl (by kernel_rfl) (by kernel_rfl) (by kernel_rfl) (fun _ _ _ h => h) (Or.inl ⟨by rfl, ?_⟩) (by assumption) ?_
   rotate_left
   ·intro w hSw
    try dsimp only at hSw
    have q0 := hSw.2.2.1.cell 1
    simp only [tskC, List.getElem?_toArray, List.getElem?_cons_zero, List.getElem?_cons_succ] at q0
    rw [HSL.out.hpc] at q0
    go_simp
    try with_reducible rfl
   try simp only [Act.put, List.setIfInBounds_toArray, List.set_cons_zero, List.set_cons_succ]
   refine takeH (i := 7) (d := some 111) (v := ?_) rfl rfl (by kernel_rfl) (by kernel_rfl) (by kernel_rfl) (fun _ _ _ h => h) (Or.inl ⟨by rfl, ?_⟩) (by assumption) ?_
   rotate_left
   ·intro w hSw
    try dsimp only at hSw
    have hw := IntWalk.i64_in ((pc : Int) + 1) (by have := HIL.out; omega)
    go_simp
    try with_reducible rfl
   try simp only [Act.put, List.setIfInBounds_toArray, List.set_cons_zero, List.set_cons_succ]
   refine takeH (i := 8) (d := some 112) (v := ?_) rfl rfl (by kernel_rfl) (by kernel_rfl) (by kernel_rfl) (fun _ _ _ h => h) (Or.inl ⟨by rfl, ?_⟩) (by assumption) ?_
   rotate_left
   ·intro w hSw
    try dsimp only at hSw
    go_simp
    try with_reducible rfl
   try simp only [Act.put, List.setIfInBounds_toArray, List.set_cons_zero, List.set_cons_succ]
   refine takeH (i := 9) (d := some 113) (v := ?_) rfl rfl (by kernel_rfl) (by kernel_rfl) (by kernel_rfl) (fun _ _ _ h => h) (Or.inl ⟨by rfl, ?_⟩) (by assumption) ?_
   rotate_left
   ·intro w hSw
    try dsimp only at hSw
    go_simp
    try with_reducible rfl
   try simp only [Act.put, List.setIfInBounds_toArray, List.set_cons_zero, List.set_cons_succ]
   refine takeH (i := 10) (d := some 114) (v := ?_) rfl rfl (by kernel_rfl) (by kernel_rfl) (by kernel_rfl) (fun _ _ _ h => h) (Or.inl ⟨by rfl, ?_⟩) (by assumption) ?_
   rotate_left
   ·intro w hSw
    try dsimp only at hSw
    go_simp
    try with_reducible rfl
   try simp only [Act.put, List.setIfInBounds_toArray, List.set_cons_zero, List.set_cons_succ]
   refine takeH (i := 11) (d := some 115) (v := ?_) rfl rfl (by kernel_rfl) (by kernel_rfl) (by kernel_rfl) (fun _ _ _ h => h) (Or.inl ⟨by rfl, ?_⟩) (by assumption) ?_
   rotate_left
   ·intro w hSw
    try dsimp only at hSw
    refine exec_load_at (P := Tryz.prog) (x := .tmp 114) (n := 16) (cs := [.int .i64 xr.r0, .int .i64 xr.r1, .int .i64 xr.r2, .int .i64 xr.r3, .int .i64 xr.r4, .int .i64 xr.r5, .int .i64 xr.r6, .int .i64 xr.r7]) ?_ ?_ (fun j v hv => by have hj : j < 8 := (List.getElem?_eq_some_iff.1 hv).1; refine (hSw.2.1.cell (16 + j)).trans ?_; rw [← hv]; rcases lt8 hj with rfl | rfl | rfl | rfl | rfl | rfl | rfl | rfl <;> rfl) Tryz.underlying36 ?_ Tryz.sizeReg <;> rfl
   try simp only [Act.put, List.setIfInBounds_toArray, List.set_cons_zero, List.set_cons_succ]
   refine wpAnyH_ready (rs := [12]) (by kernel_rfl) (by simp) ?_
   refine AllReadyH.cons rfl (fun K hK => ?_) AllReadyH.nil
   go_simp
   refine HPT.out.mono ?_
   rintro e w7 ⟨rfl, F7, hT7, hs7⟩
   refine hK.out _ _ ?_ (fun hHeld => ?_)
   ·exact ⟨hHeld.1.turns hs7.t HNB.out, hHeld.2.1.turns hs7.t HNK.out, hHeld.2.2.1.turns hs7.t HNT.out, hHeld.2.2.2.trans hs7.t⟩
   clear hK K
   try simp only [Act.put, List.setIfInBounds_toArray, List.set_cons_zero, List.set_cons_succ]
   refine wpAnyH_done (by kernel_rfl) ?_ _
   obtain ⟨o7, h7, _, hs7⟩ := (HW6.out.made HXX.out (Turns.refl (fun _ => False) w6).drew).stepTab HXX.out hT7 hs7
   have HE7 := Lib.hid (And.intro (show WW CX w7 b o7 ps { s6 with ts := s6.ts.set i ⟨x.prog, (pc : Int) + 1, x.st, x.how, xr, x.ins⟩ } from ⟨_, _, _, _, h7⟩) (HS6.out.trans ((Stp.made (F := Own o6) (Turns.refl (fun _ => False) w6).drew).trans hs7)))
   clear hHeld hT7 hs7 h7 y25 y26
   go_wp2_with fail
   go_end0
   refine ⟨rfl, o7, s6, _, HQ6.out, ?_, HE7.out.2⟩
   have h9 := HE7.out.1
   rw [← HSL.out.hpc] at h9
   exact h9
end Go.Proofs.YtjnkphhlkoapbaaGreat
namespace Go.Proofs.YtjnkphhlkoapbaaGreat
open Go.RowKit
set_option linter.unusedVariables false
set_option linter.unusedSimpArgs false
set_option maxRecDepth 100000 in
set_option maxHeartbeats 8000000 in
theorem acstop_1 {CX : World → (Nat → Prop) → Prop} {w : World} {b : Wp} {o : Nat → Nat} {ps : List (List Ins)} {s : Wst} {g a bb cc i cp ci : Nat} {x : Ac} {c : Chn} {kd dt : Int} {sg cl rm : Bool} {l : List Wt} {v : Int} (hx : Ext CX) (h : WW CX w b o ps s) (hb : Blk w g 131 (acA b.pb x)) (hg : ¬ Own o g) (hop : x.i.op = 20) (hxa : x.i.a = a) (hxb : x.i.b = bb) (ha : a < 8) (hbb : bb < 8) (hi : x.was.get a = i) (htm : s.tms[i]? = some ⟨1, dt, some cp⟩) (hch : s.chs[ci]? = some (cp, ⟨true, sg, cl, rm, some v, l⟩)) (htl : s.tms.length ≤ 1000) (hsq : s.sq ≤ 1000000) :
  Calls Tryz.prog 81 #[.pointer (some ⟨g, 0, none⟩)] w fun e w' => e = .returned (.tuple #[]) ∧ ∃ o', WW CX w' b o' ps { s with L := delL i s.L, chs := s.chs.set ci (cp, ⟨true, sg, cl, rm, none, l⟩) } ∧ AStp w w' o o' g ∧ Blk w' g 131 (acA b.pb { x with regs := x.regs.set bb 1 }) := by
 have HB := Lib.hid hb
 have HXX := Lib.hid hx
 have HLT := Lib.hid hbb
 have HX := Lib.hid (And.intro hxa (And.intro hxb (And.intro hop hi)))
 have HG := Lib.hid hg
 have HGL := Lib.hid hb.lt
 have HLA := Lib.hid ha
 have HT := Lib.hid (And.intro htm (And.intro hch (And.intro htl hsq)))
 have HW := Lib.hid h
 have jb1 : (0 : Int) ≤ (bb : Int) := by omega
 have jb2 : (bb : Int) < 8 := by omega
 have q0 : w.cell? ⟨g, 0, none⟩ = some (.pointer (some ⟨b.pb, 0, none⟩)) := hb.cell 0
 have q5 := h.cell5
 have HA1 := Lib.hid (aca_c hb hxa ha)
 have HBT := Lib.hid (fun ww => (show Calls Tryz.prog 117 #[.bool true] ww (fun e w' => e = .returned (.int .i64 1) ∧ ww = w') from bit_c true ww))
 clear h hb hx hxa hxb hg hop htm hch htl hsq hi
 go_enter Tryz.func81, Tryz.ntmps81
 go_wp2_with fail
 refine HA1.out.mono ?_
 rintro e w1 ⟨rfl, hm1⟩
 have HM1 := Lib.hid hm1
 have HB1 := Lib.hid (HB.out.turns hm1 (fun h => h))
 obtain ⟨vp, vc, vl, ve, hw1⟩ := HW.out.made HXX.out hm1
 have HW1 := Lib.hid hw1
 have HKD := Lib.hid (tskind_c hw1.tms HT.out.1 HT.out.2.2.1)
 rw [HX.out.2.2.2]
 clear hm1 hw1 q0 q5
 go_wp2_with fail
 refine HKD.out.mono ?_
 rintro e w2 ⟨rfl, rfl⟩
 have q2 : w1.cell? ⟨g, 2, none⟩ = some (.int .i64 x.i.op) := HB1.out.cell 2
 rw [HX.out.2.2.1] at q2
 have HA2 := Lib.hid (aca_c HB1.out HX.out.1 HLA.out)
 go_wp2_with fail
 refine HA2.out.mono ?_
 rintro e w3 ⟨rfl, hm3⟩
 have HM3 := Lib.hid (HM1.out.trans hm3)
 have HB3 := Lib.hid (HB1.out.turns hm3 (fun h => h))
 have hw3 := HW1.out.made HXX.out hm3
 have HW3 := Lib.hid hw3
 have HST := Lib.hid (tsstop_1 hw3.tms HT.out.1 (hw3.chn cp _ (List.mem_of_getElem? HT.out.2.1)) (fun k hk h4 => by have h5 : o k = 16 + cp := hk; have h6 : o k = 4 := h4; omega) HT.out.2.2.1 HT.out.2.2.2)
 rw [HX.out.2.2.2]
 clear hm3 hw3 q2
 go_wp2_with fail
 refine HST.out.mono ?_
 rintro e w4 ⟨rfl, hT, hC, ht⟩
 obtain ⟨o4, h4, _, _, hs4, _⟩ := HW3.out.stepTC HXX.out HT.out.2.1 hT hC ht (fun k hk => .inl hk) (fun k hk => .inl hk) (fun k hk h4 => by have h5 : o k = 16 + cp := hk; have h6 : o k = 4 := h4; omega)
 have HW4 := Lib.hid h4
 have HS4 := Lib.hid ((Stp.made (F := Own o) HM3.out).trans hs4)
 have HB4 := Lib.hid (HB3.out.turns hs4.t HG.out)
 clear hT hC ht h4 hs4
 go_upto_region 10 with fail
 refine wp_region_held_drew (S := fun w' => Low w' g b.pb (x) ∧ (w' = w4.drew ∨ True)) (by kernel_rfl) ?_ (fun hHeld => ?_)
 ·exact ⟨low_of (HB4.out), .inr trivial⟩
 refine takeH (i := 0) (d := some 73) (v := ?_) rfl rfl (by kernel_rfl) (by kernel_rfl) (by kernel_rfl) (fun _ _ _ h => h) (Or.inl ⟨by rfl, ?_⟩) (by assumption) ?_
 rotate_left
 ·intro w hSw
  try dsimp only at hSw
  go_simp
  try with_reducible rfl
 try simp only [Act.put, List.setIfInBounds_toArray, List.set_cons_zero, List.set_cons_succ]
 refine takeH (i := 1) (d := some 74) (v := ?_) rfl rfl (by kernel_rfl) (by kernel_rfl) (by kernel_rfl) (fun _ _ _ h => h) (Or.inl ⟨by rfl, ?_⟩) (by assumption) ?_
 rotate_left
 ·intro w hSw
  try dsimp only at hSw
  go_simp
  try with_reducible rfl
 try simp only [Act.put, List.setIfInBounds_toArray, List.set_cons_zero, List.set_cons_succ]
 refine takeH (i := 2) (d := some 75) (v := ?_) rfl rfl (by kernel_rfl) (by kernel_rfl) (by kernel_rfl) (fun _ _ _ h => h) (Or.inl ⟨by rfl, ?_⟩) (by assumption) ?_
 rotate_left
 ·intro w hSw
  try dsimp only at hSw
  go_simp
  try with_reducible rfl
 try simp only [Act.put, List.setIfInBounds_toArray, List.set_cons_zero, List.set_cons_succ]
 refine takeH (i := 3) (d := some 76) (v := ?_) rfl rfl (by kernel_rfl) (by kernel_rfl) (by kernel_rfl) (fun _ _ _ h => h) (Or.inl ⟨by rfl, ?_⟩) (by assumption) ?_
 rotate_left
 ·intro w hSw
  try dsimp only at hSw
  go_simp
  try with_reducible rfl
 try simp only [Act.put, List.setIfInBounds_toArray, List.set_cons_zero, List.set_cons_succ]
 refine takeH (i := 4) (d := some 77) (v := ?_) rfl rfl (by kernel_rfl) (by kernel_rfl) (by kernel_rfl) (fun _ _ _ h => h) (Or.inl ⟨by rfl, ?_⟩) (by assumption) ?_
 rotate_left
 ·intro w hSw
  try dsimp only at hSw
  go_simp
  try with_reducible rfl
 try simp only [Act.put, List.setIfInBounds_toArray, List.set_cons_zero, List.set_cons_succ]
 refine takeH (i := 5) (d := some 78) (v := ?_) rfl rfl (by kernel_rfl) (by kernel_rfl) (by kernel_rfl) (fun _ _ _ h => h) (Or.inl ⟨by rfl, ?_⟩) (by assumption) ?_
 rotate_left
 ·intro w hSw
  try dsimp only at hSw
  have q3 : w.cell? ⟨g, 4, none⟩ = some (.int .i64 (x.i.b)) := hSw.1 4 (by omega)
  rw [HX.out.2.1] at q3
  go_simp
  try with_reducible rfl
 try simp only [Act.put, List.setIfInBounds_toArray, List.set_cons_zero, List.set_cons_succ]
 refine takeH (i := 6) (d := some 79) (v := ?_) rfl rfl (by kernel_rfl) (by kernel_rfl) (by kernel_rfl) (fun _ _ _ h => h) (Or.inl ⟨by rfl, ?_⟩) (by assumption) ?_
 rotate_left
 ·intro w hSw
  try dsimp only at hSw
  go_simp
  try with_reducible rfl
 try simp only [Act.put, List.setIfInBounds_toArray, List.set_cons_zero, List.set_cons_succ]
 refine takeH (i := 8) (d := some 81) (v := ?_) rfl rfl (by kernel_rfl) (by kernel_rfl) (by kernel_rfl) (fun _ _ _ h => h) (Or.inl ⟨by rfl, ?_⟩) (by assumption) ?_
 rotate_left
 ·intro w hSw
  try dsimp only at hSw
  go_simp
  try with_reducible rfl
 try simp only [Act.put, List.setIfInBounds_toArray, List.set_cons_zero, List.set_cons_succ]
 refine takeH (i := 9) (d := some 82) (v := ?_) rfl rfl (by kernel_rfl) (by kernel_rfl) (by kernel_rfl) (fun _ _ _ h => h) (Or.inl ⟨by rfl, ?_⟩) (by assumption) ?_
 rotate_left
 ·intro w hSw
  try dsimp only at hSw
  go_simp
  try with_reducible rfl
 try simp only [Act.put, List.setIfInBounds_toArray, List.set_cons_zero, List.set_cons_succ]
 refine wpAnyH_ready (rs := [7]) (by kernel_rfl) (by simp) ?_
 refine AllReadyH.cons rfl (fun K hK => ?_) AllReadyH.nil
 go_simp
 refine (HBT.out _).mono ?_
 rintro e w9 ⟨rfl, rfl⟩
 refine hK.out _ _ ?_ (fun hHeld => ?_)
 ·exact hHeld
 clear hK K
 try simp only [Act.put, List.setIfInBounds_toArray, List.set_cons_zero, List.set_cons_succ]
 refine takeH (i := 10) (d := some 83) (v := ?_) rfl rfl (by kernel_rfl) (by kernel_rfl) (by kernel_rfl) (fun _ _ _ h => h) (Or.inl ⟨by rfl, ?_⟩) (by assumption) ?_
 rotate_left
 ·intro w hSw
  try dsimp only at hSw
  go_simp
  try with_reducible rfl
 try simp only [Act.put, List.setIfInBounds_toArray, List.set_cons_zero, List.set_cons_succ]
 refine wpAnyH_ready (rs := [11]) (by kernel_rfl) (by simp) ?_
 refine AllReadyH.cons rfl (fun K hK => ?_) AllReadyH.nil
 have qz0 := (HB4.out).cell (16 + bb)
 rw [ac_reg _ _ HLT.out] at qz0
 have qz1 : w4.drew.cell? ⟨g, 16 + bb, none⟩ = _ := qz0
 have qf := (HB4.out).free (16 + bb)
 have qf1 : w4.drew.frozen? ⟨g, 16 + bb, none⟩ = false := qf
 go_simp
 refine hK.out _ _ ?_ (fun hHeld => ?_)
 ·exact ⟨low_regs (r := (x).regs.set bb (1)) (low_of (by have hb4 := (show Blk w4.drew g 131 _ from HB4.out).put (16 + bb) (.int .i64 (1)); rw [ac_set _ _ _ HLT.out] at hb4; exact hb4)), .inr trivial⟩
 clear hK K
 try simp only [Act.put, List.setIfInBounds_toArray, List.set_cons_zero, List.set_cons_succ]
 refine wpAnyH_done (by kernel_rfl) ?_ _
 have hb4 := (show Blk w4.drew g 131 _ from HB4.out).put (16 + bb) (.int .i64 (1))
 have ht4 : Turns (fun k => k = g) w4 (w4.drew.setCell ⟨g, 16 + bb, none⟩ (.int .i64 (1))) := ((Turns.refl (fun k => k = g) w4).drew).setCell (p := ⟨g, 16 + bb, none⟩) (fun _ => rfl) _
 rw [ac_set _ _ _ HLT.out] at hb4
 have HE := Lib.hid (And.intro hb4 ht4)
 clear hb4 ht4 hHeld
 go_wp2_with fail
 go_end0
 exact ⟨rfl, o4, (show WW CX w4 b o4 ps _ from ⟨_, _, _, _, HW4.out⟩).turns HXX.out HE.out.2 (fun k hk e => (AStp.of g HS4.out).no HG.out HGL.out (by rw [← show k = g from e]; exact hk)), (AStp.of g HS4.out).set HE.out.2, HE.out.1⟩
end Go.Proofs.YtjnkphhlkoapbaaGreat
namespace Go.Proofs.YtjnkphhlkoapbaaGreat
open Go.RowKit
set_option linter.unusedVariables false
set_option linter.unusedSimpArgs false
abbrev wtA (x : Wt) : Array Value := #[.int .i64 x.task, .int .i64 x.kase, .int .i64 x.val]
theorem endf_c {w : World} {g : Nat} {x : Wk} {t : Wt} (hg : Blk w g 245 (wtA t)) (hne : x.task ≠ t.task) :
  Calls Tryz.prog 207 #[.agg #[.int .i64 x.task, .int .i64 x.kase, .int .i64 x.val, .bool x.ok, .bool x.panic], .pointer (some ⟨g, 0, none⟩)] w fun e w' => e = .returned (.bool false) ∧ Made w w' := by
 have hm := (Turns.refl (fun _ => False) w).alloc (.cells #[.int .i64 x.task, .int .i64 x.kase, .int .i64 x.val, .bool x.ok, .bool x.panic] 207)
 have q0 : (w.alloc (.cells #[.int .i64 x.task, .int .i64 x.kase, .int .i64 x.val, .bool x.ok, .bool x.panic] 207)).cell? ⟨g, 0, none⟩ = some (.int .i64 t.task) := (hg.turns hm (fun h => h)).cell 0
 have b0 : (x.task == t.task) = false := by simpa using hne
 have HM := Lib.hid hm
 clear hg hne hm
 go_enter Tryz.func207, Tryz.ntmps207
 go_wp2_with fail
 go_ret
 exact ⟨by first | rfl | simp [b0], HM.out⟩
theorem idx_end {a : Option Addr} {xs : List Wk} {len cap g : Nat} {t : Wt} (w : World) (hg : Blk w g 245 (wtA t)) (hgood : ∀ x ∈ xs, x.task ≠ t.task) (h : RowIn wkC 5 w a len xs) (hl : len ≤ 1000) :
  Calls Tryz.prog 214 #[.slice a len cap, .func (.func 207) #[] #[.pointer (some ⟨g, 0, none⟩)]] w fun e w' => e = .returned (.int .i64 (-1)) ∧ Made w w' := by
 obtain ⟨hlen, hrow⟩ := h
 subst hlen
 have HGD := Lib.hid hgood
 have HG := Lib.hid hg
 have HR := Lib.hid hrow
 clear hgood hg hrow
 go_enter Tryz.func214, Tryz.ntmps214
 go_wp2_with fail
 go_loopw [8] (fun v8 wr => ∃ k : Nat, k ≤ xs.length ∧ v8 = .int .i64 k ∧ Made w wr) (fun v8 _ => xs.length - (intOf v8).toNat)
 case atStart => exact ⟨0, Nat.zero_le _, rfl, Turns.refl _ _⟩
 case round =>
  obtain ⟨k, hk, rfl, hmade⟩ := hrel
  by_cases hlt : k < xs.length
  ·rcases HR.out with h0 | ⟨b, off, rfl, hb, hlies⟩
   ·omega
   obtain ⟨x, hx⟩ := get_of_lt (xs := xs) (k := k) hlt
   have hl1 : Lies wkC 5 wr b off xs := hlies.keep fun o => hmade.cell (p := ⟨b, o, none⟩) hb (fun h => h)
   have c0 : wr.cell? ⟨b, off + k * 5, none⟩ = some (.int .i64 x.task) := hl1 k x hx 0 _ rfl
   have c1 : wr.cell? ⟨b, off + k * 5 + 1, none⟩ = some (.int .i64 x.kase) := hl1 k x hx 1 _ rfl
   have c2 : wr.cell? ⟨b, off + k * 5 + 2, none⟩ = some (.int .i64 x.val) := hl1 k x hx 2 _ rfl
   have c3 : wr.cell? ⟨b, off + k * 5 + 3, none⟩ = some (.bool x.ok) := hl1 k x hx 3 _ rfl
   have c4 : wr.cell? ⟨b, off + k * 5 + 4, none⟩ = some (.bool x.panic) := hl1 k x hx 4 _ rfl
   have HC := Lib.hid (endf_c (x := x) (HG.out.turns hmade (fun h => h)) (HGD.out x (List.mem_of_getElem? hx)))
   have HM := Lib.hid hmade
   clear hl1 hlies hx hmade
   go_wp2_with fail
   refine HC.out.mono ?_
   rintro e w2 ⟨rfl, hm⟩
   have HM2 := Lib.hid (HM.out.trans hm)
   clear hm c0 c1 c2 c3 c4
   go_wp2_with fail
   go_roundw
   case rel => exact ⟨k + 1, by omega, by go_num, HM2.out⟩
   case measure => simp [intOf]; omega
  ·have HM := Lib.hid hmade
   clear hmade
   go_wp2_with fail
   go_ret
   exact ⟨rfl, HM.out⟩
theorem any_end {a : Option Addr} {xs : List Wk} {len cap g : Nat} {t : Wt} (w : World) (hg : Blk w g 245 (wtA t)) (hgood : ∀ x ∈ xs, x.task ≠ t.task) (h : RowIn wkC 5 w a len xs) (hl : len ≤ 1000) :
  Calls Tryz.prog 206 #[.slice a len cap, .func (.func 207) #[] #[.pointer (some ⟨g, 0, none⟩)]] w fun e w' => e = .returned (.bool false) ∧ Made w w' := by
 have H := Lib.hid (idx_end (cap := cap) w hg hgood h hl)
 clear hg hgood h
 go_enter Tryz.func206, Tryz.ntmps206
 go_wp2_with fail
 refine H.out.mono ?_
 rintro e w1 ⟨rfl, hm⟩
 have HM := Lib.hid hm
 clear hm
 go_wp2_with fail
 go_ret
 exact ⟨rfl, HM.out⟩
end Go.Proofs.YtjnkphhlkoapbaaGreat
namespace Go.Proofs.YtjnkphhlkoapbaaGreat
open Go.RowKit
set_option linter.unusedVariables false
set_option linter.unusedSimpArgs false
theorem Tryz.infoWk : (Tryz.prog.info? 207).map (fun i => (i.zero, i.size, i.bytes)) = some (some (.agg #[.int .i64 0, .int .i64 0, .int .i64 0, .bool false, .bool false]), 5, 32) := by kernel_rfl
theorem Tryz.infoQu : (Tryz.prog.info? 287).map (fun i => (i.zero, i.size, i.bytes)) = some (some (.agg #[.pointer none, .pointer none, .int .i64 0]), 3, 24) := by kernel_rfl
theorem wkC_len (x : Wk) : (wkC x).length = 5 := rfl
theorem wkC_one (x : Wk) : ∀ u ∈ wkC x, u.oneCell' = true := by
 intro u hu
 simp only [wkC, List.mem_cons, List.not_mem_nil, or_false] at hu
 rcases hu with rfl | rfl | rfl | rfl | rfl <;> rfl
theorem fillWk {i : TypeInfo} (h : i.size = 5) (a b c d e : Value) : Instr.fill (fun k => some (k * i.size, i.size)) ((Array.range (1 * i.size)).map ((Value.agg #[.int .i64 0, .int .i64 0, .int .i64 0, .bool false, .bool false]).cells[· % (Value.agg #[.int .i64 0, .int .i64 0, .int .i64 0, .bool false, .bool false]).cells.size]!)) [(0, .agg #[a, b, c, d, e])] = some #[a, b, c, d, e] := by
 rw [h]
 first | kernel_rfl | simp [Instr.fill]
def clW (x : Wt) : Wk := ⟨x.task, x.kase, 0, false, false⟩
theorem chpop_any {w : World} {p r q1 q2 : Nat} {lb : Nat → Nat} {F : Nat → Prop} {t s cl rm : Bool} {v : Option Int} {l : List Wt} (h : ChIn w p r q1 q2 lb ⟨t, s, cl, rm, v, l⟩) (hl : Lab w lb F) (hn : l.length ≤ 1000) :
  Calls Tryz.prog 154 #[.pointer (some ⟨q1, 0, none⟩)] w fun e w' => ∃ cur ok lb' F', e = .returned (.tuple #[.agg (wtA cur), .bool ok]) ∧ ok = !l.isEmpty ∧ (∀ x rest, l = x :: rest → cur = x) ∧ ChIn w' p r q1 q2 lb' ⟨t, s, cl, rm, v, l.tail⟩ ∧ Lab w' lb' F' ∧ Stp w w' F F' := by
 cases l with
 | nil =>
  refine (wpop_nil h.qr).mono ?_
  rintro e w' ⟨rfl, hm⟩
  exact ⟨⟨0, 0, 0⟩, false, lb, F, rfl, rfl, fun x rest e => (by cases e), h.made hm, hl.turns hm, Stp.made hm⟩
 | cons x l =>
  refine (wpop_c h.qr (by simp only [List.length_cons] at hn; omega)).mono ?_
  rintro e w' ⟨rfl, F', hq, hs⟩
  obtain ⟨lb', FF, h1, h2, h3⟩ := h.setQr hl hq hs
  exact ⟨x, true, lb', FF, rfl, rfl, fun y rest e => (by cases e; rfl), h1, h2, h3⟩
def EndR (w : World) (F : Nat → Prop) (p r q1 q2 : Nat) (t s rm : Bool) (v : Option Int) (l : List Wt) (gq : Nat) (k : Nat) (v2 : Value) (g5 : Nat) (ok : Bool) (wr : World) : Prop :=
 ∃ dn rem cur lb' F', l = dn ++ rem ∧ k = rem.length ∧ ok = !rem.isEmpty ∧ (∀ x rest, rem = x :: rest → cur = x) ∧ ChIn wr p r q1 q2 lb' ⟨t, s, true, rm, v, rem.tail⟩ ∧ Lab wr lb' F' ∧ Stp w wr F F' ∧ Owns wkC 207 5 wr v2 (dn.map clW) ∧ (∀ j, v2.ownBlock = some j → w.heap.size ≤ j ∧ ¬ F' j ∧ j ≠ gq ∧ j ≠ g5) ∧ Blk wr g5 245 (wtA cur) ∧ w.heap.size ≤ g5 ∧ ¬ F' g5 ∧ g5 ≠ gq ∧ Blk wr gq 192 #[.pointer (some ⟨q1, 0, none⟩), .pointer (some ⟨q2, 0, none⟩)] ∧ w.heap.size ≤ gq ∧ ¬ F' gq
set_option maxRecDepth 100000 in
set_option maxHeartbeats 4000000 in
theorem chend_c {w : World} {p : Nat} {F : Nat → Prop} {t s rm : Bool} {v : Option Int} {l : List Wt} (h : ChAt w p F ⟨t, s, false, rm, v, l⟩) (hnd : (l.map Wt.task).Nodup) (hn : l.length ≤ 900) :
  Calls Tryz.prog 191 #[.pointer (some ⟨p, 0, none⟩)] w fun e w' => ∃ a F' cap, e = .returned (.slice a l.length cap) ∧ WkRow w w' F' a (l.map clW) ∧ ChAt w' p F' ⟨t, s, true, rm, v, []⟩ ∧ Stp w w' F F' := by
 obtain ⟨r, q1, q2, lb, h, hl⟩ := h
 obtain ⟨i0, hi0, hz0, hz1, hz2⟩ := info_parts Tryz.infoWk
 have q5 := h.blk.cell 5
 have f5 := h.blk.free 5
 simp only [List.getElem?_toArray, List.getElem?_cons_zero, List.getElem?_cons_succ] at q5
 have hb5 := h.blk.put 5 (.bool true)
 simp only [List.setIfInBounds_toArray, List.set_cons_zero, List.set_cons_succ] at hb5
 have h5 : ChIn (w.setCell ⟨p, 5, none⟩ (.bool true)) p r q1 q2 lb ⟨t, s, true, rm, v, l⟩ := ⟨hb5, h.lp, h.ring.turns (set1 w p 5 _) (fun k hk e => by have := h.lp; rw [← e] at this; omega), h.qr.turns (set1 w p 5 _) (fun k hk e => by have := h.lp; rw [← e] at this; omega), h.qs.turns (set1 w p 5 _) (fun k hk e => by have := h.lp; rw [← e] at this; omega)⟩
 have hst5 : Stp w (w.setCell ⟨p, 5, none⟩ (.bool true)) F F := ⟨(set1 w p 5 _).mono (fun k _ e => (hl.on k).2 (by rw [e, h.lp]; omega)), fun k hk => .inl hk⟩
 have hl5 : Lab (w.setCell ⟨p, 5, none⟩ (.bool true)) lb F := hl.turns (set1 w p 5 (.bool true))
 have HC5 := Lib.hid h5
 have HL5 := Lib.hid hl5
 have HS5 := Lib.hid hst5
 have HND := Lib.hid (And.intro hnd hn)
 have HFB := Lib.hid (show ∀ k, F k → k < w.heap.size from fun k hk => hl.lt k ((hl.on k).1 hk))
 have hqq : q1 ≠ q2 := fun e => by
  obtain ⟨_, _, hq1⟩ := h.qr
  obtain ⟨_, _, hq2⟩ := h.qs
  have h1 : lb q1 = 3 := (hq1 q1).2 (.inl rfl)
  have h2 : lb q2 = 4 := (hq2 q2).2 (.inl rfl)
  rw [e] at h1; omega
 have HQQ := Lib.hid hqq
 clear h hl h5 hl5 hst5 hb5 hnd hn hqq
 go_enter Tryz.func191, Tryz.ntmps191
 go_upto_region 2 with fail
 clear q5 f5
 have HW5 : Hid (w.heap.size ≤ (w.setCell ⟨p, 5, none⟩ (.bool true)).heap.size) := Lib.hid HS5.out.t.size
 generalize w.setCell ⟨p, 5, none⟩ (.bool true) = W at *
 refine wp_region_held_drew (S := fun w' => Blk w' (p) 194 #[.pointer (some ⟨r, 0, none⟩), .pointer (some ⟨q1, 0, none⟩), .pointer (some ⟨q2, 0, none⟩), .bool t, .bool s, .bool true] ∧ (w' = W.drew ∨ True)) (by kernel_rfl) ?_ (fun hHeld => ?_)
 ·exact ⟨HC5.out.blk, .inr trivial⟩
 refine takeH (i := 0) (d := some 10) (v := ?_) rfl rfl (by kernel_rfl) (by kernel_rfl) (by kernel_rfl) (fun _ _ _ h => h) (Or.inl ⟨by rfl, ?_⟩) (by assumption) ?_
 rotate_left
 ·intro w hSw
  try dsimp only at hSw
  go_simp
  try with_reducible rfl
 try simp only [Act.put, List.setIfInBounds_toArray, List.set_cons_zero, List.set_cons_succ]
 refine takeH (i := 1) (d := some 11) (v := ?_) rfl rfl (by kernel_rfl) (by kernel_rfl) (by kernel_rfl) (fun _ _ _ h => h) (Or.inl ⟨by rfl, ?_⟩) (by assumption) ?_
 rotate_left
 ·intro w hSw
  try dsimp only at hSw
  go_simp
  try with_reducible rfl
 try simp only [Act.put, List.setIfInBounds_toArray, List.set_cons_zero, List.set_cons_succ]
 refine takeH (i := 2) (d := some 12) (v := ?_) rfl rfl (by kernel_rfl) (by kernel_rfl) (by kernel_rfl) (fun _ _ _ h => h) (Or.inl ⟨by rfl, ?_⟩) (by assumption) ?_
 rotate_left
 ·intro w hSw
  try dsimp only at hSw
  go_simp
  try with_reducible rfl
 try simp only [Act.put, List.setIfInBounds_toArray, List.set_cons_zero, List.set_cons_succ]
 refine takeH (i := 3) (d := some 13) (v := ?_) rfl rfl (by kernel_rfl) (by kernel_rfl) (by kernel_rfl) (fun _ _ _ h => h) (Or.inl ⟨by rfl, ?_⟩) (by assumption) ?_
 rotate_left
 ·intro w hSw
  try dsimp only at hSw
  have q0_0 := hSw.1.cell 0
  have q0_1 := hSw.1.cell 1
  have q0_2 := hSw.1.cell 2
  have q0_3 := hSw.1.cell 3
  have q0_4 := hSw.1.cell 4
  have q0_5 := hSw.1.cell 5
  simp only [List.getElem?_toArray, List.getElem?_cons_zero, List.getElem?_cons_succ] at q0_0 q0_1 q0_2 q0_3 q0_4 q0_5
  go_simp
  try with_reducible rfl
 try simp only [Act.put, List.setIfInBounds_toArray, List.set_cons_zero, List.set_cons_succ]
 refine takeH (i := 4) (d := some 14) (v := ?_) rfl rfl (by kernel_rfl) (by kernel_rfl) (by kernel_rfl) (fun _ _ _ h => h) (Or.inl ⟨by rfl, ?_⟩) (by assumption) ?_
 rotate_left
 ·intro w hSw
  try dsimp only at hSw
  go_simp
  try with_reducible rfl
 try simp only [Act.put, List.setIfInBounds_toArray, List.set_cons_zero, List.set_cons_succ]
 refine takeH (i := 5) (d := some 15) (v := ?_) rfl rfl (by kernel_rfl) (by kernel_rfl) (by kernel_rfl) (fun _ _ _ h => h) (Or.inl ⟨by rfl, ?_⟩) (by assumption) ?_
 rotate_left
 ·intro w hSw
  try dsimp only at hSw
  go_simp
  try with_reducible rfl
 try simp only [Act.put, List.setIfInBounds_toArray, List.set_cons_zero, List.set_cons_succ]
 refine takeH (i := 6) (d := some 16) (v := ?_) rfl rfl (by kernel_rfl) (by kernel_rfl) (by kernel_rfl) (fun _ _ _ h => h) (Or.inl ⟨by rfl, ?_⟩) (by assumption) ?_
 rotate_left
 ·intro w hSw
  try dsimp only at hSw
  go_simp
  try with_reducible rfl
 try simp only [Act.put, List.setIfInBounds_toArray, List.set_cons_zero, List.set_cons_succ]
 refine takeH (i := 7) (d := some 17) (v := ?_) rfl rfl (by kernel_rfl) (by kernel_rfl) (by kernel_rfl) (fun _ _ _ h => h) (Or.inl ⟨by rfl, ?_⟩) (by assumption) ?_
 rotate_left
 ·intro w hSw
  try dsimp only at hSw
  have q0_0 := hSw.1.cell 0
  have q0_1 := hSw.1.cell 1
  have q0_2 := hSw.1.cell 2
  have q0_3 := hSw.1.cell 3
  have q0_4 := hSw.1.cell 4
  have q0_5 := hSw.1.cell 5
  simp only [List.getElem?_toArray, List.getElem?_cons_zero, List.getElem?_cons_succ] at q0_0 q0_1 q0_2 q0_3 q0_4 q0_5
  go_simp
  try with_reducible rfl
 try simp only [Act.put, List.setIfInBounds_toArray, List.set_cons_zero, List.set_cons_succ]
 refine takeH (i := 10) (d := some 20) (v := ?_) rfl rfl (by kernel_rfl) (by kernel_rfl) (by kernel_rfl) (fun _ _ _ h => h) (Or.inl ⟨by rfl, ?_⟩) (by assumption) ?_
 rotate_left
 ·intro w hSw
  try dsimp only at hSw
  go_simp
  try with_reducible rfl
 try simp only [Act.put, List.setIfInBounds_toArray, List.set_cons_zero, List.set_cons_succ]
 refine wpAnyH_ready (rs := [8]) (by kernel_rfl) (by simp) ?_
 refine AllReadyH.cons rfl (fun K hK => ?_) AllReadyH.nil
 go_simp
 refine hK.out _ _ ?_ (fun hHeld => ?_)
 ·exact ⟨hHeld.1.alloc _, .inr trivial⟩
 clear hK K
 try simp only [Act.put, List.setIfInBounds_toArray, List.set_cons_zero, List.set_cons_succ]
 refine takeH (i := 9) (d := some 19) (v := ?_) rfl rfl (by kernel_rfl) (by kernel_rfl) (by kernel_rfl) (fun _ _ _ h => h) (Or.inl ⟨by rfl, ?_⟩) (by assumption) ?_
 rotate_left
 ·intro w hSw
  try dsimp only at hSw
  go_simp
  try with_reducible rfl
 try simp only [Act.put, List.setIfInBounds_toArray, List.set_cons_zero, List.set_cons_succ]
 refine wpAnyH_done (by kernel_rfl) ?_ _
 clear hHeld
 go_wp2_with fail
 have HGB : Hid (Blk (W.alloc (.cells #[.pointer (some ⟨q1, 0, none⟩), .pointer (some ⟨q2, 0, none⟩)] 192)).drew W.heap.size 192 #[.pointer (some ⟨q1, 0, none⟩), .pointer (some ⟨q2, 0, none⟩)]) := Lib.hid (Blk.new W _ _)
 have HMG := Lib.hid (((Turns.refl (fun _ => False) W).alloc (.cells #[.pointer (some ⟨q1, 0, none⟩), .pointer (some ⟨q2, 0, none⟩)] 192)).drew)
 generalize (W.alloc (.cells #[.pointer (some ⟨q1, 0, none⟩), .pointer (some ⟨q2, 0, none⟩)] 192)).drew = W2 at *
 have hg0 := HGB.out.cell 0
 have hg1 := HGB.out.cell 1
 simp only [List.getElem?_toArray, List.getElem?_cons_zero, List.getElem?_cons_succ] at hg0 hg1
 have HC2 := Lib.hid (HC5.out.made HMG.out)
 have HL2 := Lib.hid (HL5.out.turns HMG.out)
 have HS2 := Lib.hid (HS5.out.then_made HMG.out)
 have HP1 := Lib.hid (chpop_any HC2.out HL2.out (by show l.length ≤ 1000; have := HND.out.2; omega))
 refine wp_loop_rounds 3 ?_
 rw [rounds_succ]
 go_wp2_with fail
 refine HP1.out.mono ?_
 rintro e w3 ⟨cur, ok, lb3, F3, rfl, hok, hcur, hc3, hl3, hs3⟩
 have HOK := Lib.hid hok
 have hm3 := (Turns.refl (fun _ => False) w3).alloc (.cells (wtA cur) 245)
 have hfb2 : ∀ k, F k → k < w.heap.size := HFB.out
 have HR0 : Hid (EndR w F p r q1 q2 t s rm v l W.heap.size l.length (.slice none 0 0) w3.heap.size ok (w3.alloc (.cells (wtA cur) 245))) := Lib.hid (by
  have h32 := hs3.t.size
  have h2w := HMG.out.size
  have hst := (HS2.out.trans hs3).then_made hm3
  have hgl := HGB.out.lt
  have hFl : ∀ k, F3 k → k < w3.heap.size := fun k hk => hl3.lt k ((hl3.on k).1 hk)
  have hgF : ¬ F W.heap.size := fun h0 => by have := HFB.out _ h0; have := HW5.out; omega
  have hgF3 : ¬ F3 W.heap.size := fun h0 => (hs3.f _ h0).elim hgF (fun h => by omega)
  exact ⟨[], l, cur, lb3, F3, rfl, rfl, hok, hcur, hc3.made hm3, hl3.turns hm3, hst, Owns.nil, fun j hj => (by cases hj), Blk.new w3 _ _, by have := HS2.out.t.size; omega, fun h0 => absurd (hFl _ h0) (Nat.lt_irrefl _), by omega, (HGB.out.turns hs3.t hgF).turns hm3 (fun h => h), by have := HW5.out; omega, hgF3⟩)
 clear hok hcur hc3 hl3 hs3 hm3 hfb2
 go_upto_block 2 with fail
 generalize w3.alloc (.cells (wtA cur) 245) = W3 at *
 clear hg0 hg1
 go_wp2_with fail
 go_loopg [2, 5, 6] l.length (fun kn v2 v5 v6 wr => ∃ (g5 : Nat) (ok : Bool), v5 = .pointer (some ⟨g5, 0, none⟩) ∧ v6 = .bool ok ∧ EndR w F p r q1 q2 t s rm v l W.heap.size kn v2 g5 ok wr)
 case atStart => exact ⟨_, ok, rfl, rfl, HR0.out⟩
 case round =>
  obtain ⟨g5, ok1, rfl, rfl, hr⟩ := hrel
  obtain ⟨dn, rem, cu, lb4, F4, hl4, hk4, hok4, hcu4, hc4, hlb4, hs4, ho4, hf4, hb4, hg4, hn4, hgq4, hbq4, hgw4, hnq4⟩ := hr
  cases ok1 with
  | false =>
   cases rem with
   | cons x rest => cases hok4
   | nil =>
    rw [List.append_nil] at hl4
    subst hl4
    obtain ⟨a4, c4, hv4, hrow, -⟩ := ho4.rowIn wkC_len
    rw [List.length_map] at hv4
    subst hv4
    have HP2 := Lib.hid (wpop_nil hc4.qs)
    have hg1 : wr.cell? ⟨W.heap.size, 1, none⟩ = some (.pointer (some ⟨q2, 0, none⟩)) := hbq4.cell 1
    have HE := Lib.hid (And.intro hc4 (And.intro hlb4 (And.intro hs4 (And.intro hrow (fun k hk => hf4 k hk)))))
    clear hk4 hok4 hcu4 hc4 hlb4 hs4 ho4 hf4 hb4 hg4 hn4 hgq4 hbq4 hgw4 hnq4 hrow
    go_wp2_with fail
    rw [rounds_succ]
    go_wp2_with fail
    refine HP2.out.mono ?_
    rintro e w7 ⟨rfl, hm7⟩
    have HM7 := Lib.hid (hm7.alloc (.cells #[.int .i64 0, .int .i64 0, .int .i64 0] 245))
    clear hm7 hg1
    go_wp2_with fail
    refine wp_loop_rounds 1 ?_
    rw [rounds_succ]
    go_wp2_with fail
    rw [rounds_succ]
    go_wp2_with fail
    go_ret
    obtain ⟨hc4, hlb4, hs4, hrow, hf4⟩ := HE.out
    exact ⟨a4, F4, c4, rfl, ⟨hrow.turns HM7.out (fun _ _ _ h => h), fun b off e => by subst e; exact ⟨(hf4 b rfl).1, (hf4 b rfl).2.1⟩⟩, ⟨r, q1, q2, lb4, hc4.made HM7.out, hlb4.turns HM7.out⟩, hs4.then_made HM7.out⟩
  | true =>
   cases rem with
   | nil => cases hok4
   | cons x rest =>
    have hx : cu = x := hcu4 x rest rfl
    subst hx
    have hnx : ∀ y ∈ dn.map clW, y.task ≠ cu.task := fun y hy => by
     obtain ⟨z, hz, rfl⟩ := List.mem_map.1 hy
     have h1 := HND.out.1
     rw [hl4, List.map_append, List.nodup_append] at h1
     exact h1.2.2 z.task (List.mem_map_of_mem hz) cu.task (by simp)
    have hdl : dn.length + rest.length < 900 := by have h1 := HND.out.2; rw [hl4] at h1; simp only [List.length_append, List.length_cons] at h1; omega
    obtain ⟨a4, c4, hv4, hrow, -⟩ := ho4.rowIn wkC_len
    rw [List.length_map] at hv4 hrow
    subst hv4
    have HAN := Lib.hid (any_end (cap := c4) wr hb4 hnx hrow (by omega))
    have HDL := Lib.hid hdl
    have HC4 := Lib.hid hc4
    have HO4 := Lib.hid (And.intro ho4 hf4)
    have HB4 := Lib.hid hb4
    have HX4 := Lib.hid (And.intro hlb4 (And.intro hs4 (And.intro hg4 (And.intro hn4 (And.intro hgq4 (And.intro hbq4 (And.intro hgw4 hnq4)))))))
    have HL4 := Lib.hid (And.intro hl4 hk4)
    clear hl4 hk4 hok4 hcu4 hc4 hlb4 hs4 ho4 hf4 hb4 hg4 hn4 hgq4 hbq4 hgw4 hnq4 hrow hdl hnx
    go_wp2_with fail
    refine HAN.out.mono ?_
    rintro e w4 ⟨rfl, hm4⟩
    have HM4 := Lib.hid hm4
    clear hm4
    go_upto_region 9 with fail
    have HQ4 := Lib.hid (HC4.out.made HM4.out)
    have HB5 := Lib.hid (HB4.out.turns HM4.out (fun h => h))
    have HNG := Lib.hid (show ∀ k, (Value.slice a4 dn.length c4).ownBlock = some k → k ≠ g5 from fun k hk => (HO4.out.2 k hk).2.2.2)
    have HNP := Lib.hid (show ∀ k, (Value.slice a4 dn.length c4).ownBlock = some k → k ≠ p from fun k hk e => (HO4.out.2 k hk).2.1 ((HX4.out.1.on k).2 (by rw [e, HC4.out.lp]; omega)))
    have HN1 := Lib.hid (show ∀ k, (Value.slice a4 dn.length c4).ownBlock = some k → k ≠ q1 from fun k hk e => (HO4.out.2 k hk).2.1 ((HX4.out.1.on k).2 (by obtain ⟨_, _, hq⟩ := HC4.out.qr; have h1 : lb4 q1 = 3 := (hq q1).2 (.inl rfl); rw [e, h1]; omega)))
    have HN2 := Lib.hid (show ∀ k, (Value.slice a4 dn.length c4).ownBlock = some k → k ≠ q2 from fun k hk e => (HO4.out.2 k hk).2.1 ((HX4.out.1.on k).2 (by obtain ⟨_, _, hq⟩ := HC4.out.qs; have h1 : lb4 q2 = 4 := (hq q2).2 (.inl rfl); rw [e, h1]; omega)))
    obtain ⟨k1, hk1⟩ : ∃ k1, Blk w4 q1 287 k1 := by obtain ⟨_, hq, _⟩ := HQ4.out.qr; exact ⟨_, hq.blk⟩
    obtain ⟨k2, hk2⟩ : ∃ k2, Blk w4 q2 287 k2 := by obtain ⟨_, hq, _⟩ := HQ4.out.qs; exact ⟨_, hq.blk⟩
    have HK1 := Lib.hid hk1
    have HK2 := Lib.hid hk2
    clear hk1 hk2
    obtain ⟨j0, hj0, hj1, hj2, hj3⟩ := info_parts Tryz.infoQu
    have HOW := Lib.hid (HO4.out.1.made HM4.out)
    have HDM := Lib.hid (show (dn.map clW).length + 1 ≤ 1000000 from by rw [List.length_map]; have := HDL.out; omega)
    refine wp_region_held_drew (S := fun w' => Blk w' (g5) 245 (wtA cu) ∧ Blk w' (p) 194 #[.pointer (some ⟨r, 0, none⟩), .pointer (some ⟨q1, 0, none⟩), .pointer (some ⟨q2, 0, none⟩), .bool t, .bool s, .bool true] ∧ Blk w' (q1) 287 k1 ∧ Blk w' (q2) 287 k2 ∧ Turns (fun k => (Value.slice a4 dn.length c4).ownBlock = some k) w4 w') (by kernel_rfl) ?_ (fun hHeld => ?_)
    ·exact ⟨HB5.out, HQ4.out.blk, HK1.out, HK2.out, (Turns.refl _ w4).drew⟩
    refine takeH (i := 0) (d := some 39) (v := ?_) rfl rfl (by kernel_rfl) (by kernel_rfl) (by kernel_rfl) (fun _ _ _ h => h) (Or.inl ⟨by rfl, ?_⟩) (by assumption) ?_
    rotate_left
    ·intro w hSw
     try dsimp only at hSw
     go_simp
     try with_reducible rfl
    try simp only [Act.put, List.setIfInBounds_toArray, List.set_cons_zero, List.set_cons_succ]
    refine takeH (i := 1) (d := some 40) (v := ?_) rfl rfl (by kernel_rfl) (by kernel_rfl) (by kernel_rfl) (fun _ _ _ h => h) (Or.inl ⟨by rfl, ?_⟩) (by assumption) ?_
    rotate_left
    ·intro w hSw
     try dsimp only at hSw
     go_simp
     try with_reducible rfl
    try simp only [Act.put, List.setIfInBounds_toArray, List.set_cons_zero, List.set_cons_succ]
    refine takeH (i := 2) (d := some 41) (v := ?_) rfl rfl (by kernel_rfl) (by kernel_rfl) (by kernel_rfl) (fun _ _ _ h => h) (Or.inl ⟨by rfl, ?_⟩) (by assumption) ?_
    rotate_left
    ·intro w hSw
     try dsimp only at hSw
     have q0_0 := hSw.1.cell 0
     have q0_1 := hSw.1.cell 1
     have q0_2 := hSw.1.cell 2
     have q1_0 := hSw.2.1.cell 0
     have q1_1 := hSw.2.1.cell 1
     have q1_2 := hSw.2.1.cell 2
     have q1_3 := hSw.2.1.cell 3
     have q1_4 := hSw.2.1.cell 4
     have q1_5 := hSw.2.1.cell 5
     simp only [List.getElem?_toArray, List.getElem?_cons_zero, List.getElem?_cons_succ] at q0_0 q0_1 q0_2 q1_0 q1_1 q1_2 q1_3 q1_4 q1_5
     go_simp
     try with_reducible rfl
    try simp only [Act.put, List.setIfInBounds_toArray, List.set_cons_zero, List.set_cons_succ]
    refine takeH (i := 3) (d := some 42) (v := ?_) rfl rfl (by kernel_rfl) (by kernel_rfl) (by kernel_rfl) (fun _ _ _ h => h) (Or.inl ⟨by rfl, ?_⟩) (by assumption) ?_
    rotate_left
    ·intro w hSw
     try dsimp only at hSw
     go_simp
     try with_reducible rfl
    try simp only [Act.put, List.setIfInBounds_toArray, List.set_cons_zero, List.set_cons_succ]
    refine takeH (i := 4) (d := some 43) (v := ?_) rfl rfl (by kernel_rfl) (by kernel_rfl) (by kernel_rfl) (fun _ _ _ h => h) (Or.inl ⟨by rfl, ?_⟩) (by assumption) ?_
    rotate_left
    ·intro w hSw
     try dsimp only at hSw
     have q0_0 := hSw.1.cell 0
     have q0_1 := hSw.1.cell 1
     have q0_2 := hSw.1.cell 2
     have q1_0 := hSw.2.1.cell 0
     have q1_1 := hSw.2.1.cell 1
     have q1_2 := hSw.2.1.cell 2
     have q1_3 := hSw.2.1.cell 3
     have q1_4 := hSw.2.1.cell 4
     have q1_5 := hSw.2.1.cell 5
     simp only [List.getElem?_toArray, List.getElem?_cons_zero, List.getElem?_cons_succ] at q0_0 q0_1 q0_2 q1_0 q1_1 q1_2 q1_3 q1_4 q1_5
     go_simp
     try with_reducible rfl
    try simp only [Act.put, List.setIfInBounds_toArray, List.set_cons_zero, List.set_cons_succ]
    refine takeH (i := 5) (d := some 44) (v := ?_) rfl rfl (by kernel_rfl) (by kernel_rfl) (by kernel_rfl) (fun _ _ _ h => h) (Or.inl ⟨by rfl, ?_⟩) (by assumption) ?_
    rotate_left
    ·intro w hSw
     try dsimp only at hSw
     go_simp
     try with_reducible rfl
    try simp only [Act.put, List.setIfInBounds_toArray, List.set_cons_zero, List.set_cons_succ]
    refine takeH (i := 6) (d := some 45) (v := ?_) rfl rfl (by kernel_rfl) (by kernel_rfl) (by kernel_rfl) (fun _ _ _ h => h) (Or.inl ⟨by rfl, ?_⟩) (by assumption) ?_
    rotate_left
    ·intro w hSw
     try dsimp only at hSw
     go_simp
     try with_reducible rfl
    try simp only [Act.put, List.setIfInBounds_toArray, List.set_cons_zero, List.set_cons_succ]
    refine takeH (i := 7) (d := some 46) (v := ?_) rfl rfl (by kernel_rfl) (by kernel_rfl) (by kernel_rfl) (fun _ _ _ h => h) (Or.inl ⟨by rfl, ?_⟩) (by assumption) ?_
    rotate_left
    ·intro w hSw
     try dsimp only at hSw
     go_simp
     try with_reducible rfl
    try simp only [Act.put, List.setIfInBounds_toArray, List.set_cons_zero, List.set_cons_succ]
    refine takeH (i := 8) (d := some 47) (v := ?_) rfl rfl (by kernel_rfl) (by kernel_rfl) (by kernel_rfl) (fun _ _ _ h => h) (Or.inl ⟨by rfl, ?_⟩) (by assumption) ?_
    rotate_left
    ·intro w hSw
     try dsimp only at hSw
     go_simp
     try with_reducible rfl
    try simp only [Act.put, List.setIfInBounds_toArray, List.set_cons_zero, List.set_cons_succ]
    refine takeH (i := 9) (d := some 48) (v := ?_) rfl rfl (by kernel_rfl) (by kernel_rfl) (by kernel_rfl) (fun _ _ _ h => h) (Or.inl ⟨by rfl, ?_⟩) (by assumption) ?_
    rotate_left
    ·intro w hSw
     try dsimp only at hSw
     have q0_0 := hSw.1.cell 0
     have q0_1 := hSw.1.cell 1
     have q0_2 := hSw.1.cell 2
     have q1_0 := hSw.2.1.cell 0
     have q1_1 := hSw.2.1.cell 1
     have q1_2 := hSw.2.1.cell 2
     have q1_3 := hSw.2.1.cell 3
     have q1_4 := hSw.2.1.cell 4
     have q1_5 := hSw.2.1.cell 5
     simp only [List.getElem?_toArray, List.getElem?_cons_zero, List.getElem?_cons_succ] at q0_0 q0_1 q0_2 q1_0 q1_1 q1_2 q1_3 q1_4 q1_5
     go_simp
     try with_reducible rfl
    try simp only [Act.put, List.setIfInBounds_toArray, List.set_cons_zero, List.set_cons_succ]
    refine takeH (i := 10) (d := some 49) (v := ?_) rfl rfl (by kernel_rfl) (by kernel_rfl) (by kernel_rfl) (fun _ _ _ h => h) (Or.inl ⟨by rfl, ?_⟩) (by assumption) ?_
    rotate_left
    ·intro w hSw
     try dsimp only at hSw
     have hqq := run_eql_ptr_other (P := Tryz.prog) w (tp := 192) (a := ⟨q1, 0, none⟩) (b := ⟨q2, 0, none⟩) Tryz.underlying192 hj0 (by rw [hj2]; omega) (fun e => HQQ.out (congrArg Addr.block e)) hSw.2.2.1 hSw.2.2.2.1
     go_simp
     try with_reducible rfl
    try simp only [Act.put, List.setIfInBounds_toArray, List.set_cons_zero, List.set_cons_succ]
    refine takeH (i := 11) (d := some 50) (v := ?_) rfl rfl (by kernel_rfl) (by kernel_rfl) (by kernel_rfl) (fun _ _ _ h => h) (Or.inl ⟨by rfl, ?_⟩) (by assumption) ?_
    rotate_left
    ·intro w hSw
     try dsimp only at hSw
     go_simp
     try with_reducible rfl
    try simp only [Act.put, List.setIfInBounds_toArray, List.set_cons_zero, List.set_cons_succ]
    refine wpAnyH_ready (rs := [12]) (by kernel_rfl) (by simp) ?_
    refine AllReadyH.cons rfl (fun K hK => ?_) AllReadyH.nil
    refine step_single rfl _ (.tmp 50) (by rfl) i0 _ Tryz.underlying112 hi0 hz0 (by rw [hz1]; decide) (by rw [hz1]; decide) #[.int .i64 cu.task, .int .i64 cu.kase, .int .i64 0, .bool false, .bool false] (by rfl) (fillWk hz1 _ _ _ _ _) ?_
    intro bX wX hTX hBX hLX
    refine hK.out _ _ ?_ (fun hHeld => ?_)
    ·exact ⟨hHeld.1.turns hTX (fun h => h), hHeld.2.1.turns hTX (fun h => h), hHeld.2.2.1.turns hTX (fun h => h), hHeld.2.2.2.1.turns hTX (fun h => h), hHeld.2.2.2.2.trans (hTX.mono (fun _ _ h => h.elim))⟩
    clear hK K
    try simp only [Act.put, List.setIfInBounds_toArray, List.set_cons_zero, List.set_cons_succ]
    refine wpAnyH_ready (rs := [13]) (by kernel_rfl) (by simp) ?_
    refine AllReadyH.cons rfl (fun K hK => ?_) AllReadyH.nil
    refine step_push rfl _ _ _ (by rfl) i0 _ 32 Tryz.underlying112 hi0 hz0 hz1 hz2 rfl (by omega) wkC_len wkC_one (by rfl) ((HOW.out.turns (Turns.refl (fun _ => False) w4).drew (fun _ _ h => h)).turns hTX (fun _ _ h => h)) (clW cu) (by rfl) hBX HDM.out (by omega) ?_
    intro v2 w2 hO2 hT2 hV2
    refine hK.out _ _ ?_ (fun hHeld => ?_)
    ·exact ⟨hHeld.1.turns hT2 (fun e => HNG.out _ e rfl), hHeld.2.1.turns hT2 (fun e => HNP.out _ e rfl), hHeld.2.2.1.turns hT2 (fun e => HN1.out _ e rfl), hHeld.2.2.2.1.turns hT2 (fun e => HN2.out _ e rfl), hHeld.2.2.2.2.trans hT2⟩
    clear hK K
    try simp only [Act.put, List.setIfInBounds_toArray, List.set_cons_zero, List.set_cons_succ]
    refine takeH (i := 14) (d := some 2) (v := ?_) rfl rfl (by kernel_rfl) (by kernel_rfl) (by kernel_rfl) (fun _ _ _ h => h) (Or.inl ⟨by rfl, ?_⟩) (by assumption) ?_
    rotate_left
    ·intro w hSw
     try dsimp only at hSw
     go_simp
     try with_reducible rfl
    try simp only [Act.put, List.setIfInBounds_toArray, List.set_cons_zero, List.set_cons_succ]
    refine wpAnyH_done (by kernel_rfl) ?_ _
    have HO5 := Lib.hid (And.intro hO2 (And.intro hT2 hV2))
    have HTX := Lib.hid (((Turns.refl (fun _ => False) w4).drew).trans hTX)
    have HB6 := Lib.hid hHeld.1
    clear hHeld hO2 hT2 hV2 hTX hBX hLX
    obtain ⟨a5, c5, rfl⟩ := owns_slice HO5.out.1
    have HH5 := HO5.out
    simp only [List.length_append, List.length_map, List.length_cons, List.length_nil, Nat.zero_add] at HH5
    have HO6 := Lib.hid HH5
    clear HH5
    have hb6 := HB6.out
    have c0 : w2.cell? ⟨g5, 0, none⟩ = some (.int .i64 cu.task) := hb6.cell 0
    have c1 : w2.cell? ⟨g5, 1, none⟩ = some (.int .i64 cu.kase) := hb6.cell 1
    have c2 : w2.cell? ⟨g5, 2, none⟩ = some (.int .i64 cu.val) := hb6.cell 2
    clear hb6
    go_upto_region 7 with fail
    have htw : Turns (fun k => (Value.slice a4 dn.length c4).ownBlock = some k) w4 w2 := (HTX.out.mono (fun _ _ h => h.elim)).trans HO6.out.2.1
    have hma := (Turns.refl (fun _ => False) w2).alloc (.cells (wtA cu) 245)
    have hnF : ∀ k, lb4 k ≠ 0 → ¬ (Value.slice a4 dn.length c4).ownBlock = some k := fun k hk e => (HO4.out.2 k e).2.1 ((HX4.out.1.on k).2 hk)
    have hq5 := (HQ4.out.turns htw hnF).made hma
    have hl5 := ((HX4.out.1.turns HM4.out).turns htw).turns hma
    have hs5 : Stp w (w2.alloc (.cells (wtA cu) 245)) F F4 := ⟨((HX4.out.2.1.then_made HM4.out).t.then htw (fun k hk e => absurd (HO4.out.2 k e).1 (by omega))).then hma (fun _ _ h => h.elim), HX4.out.2.1.f⟩
    have HNB : Hid (w2.heap.size < (w2.alloc (.cells (wtA cu) 245)).heap.size) := Lib.hid (by simp)
    have HBN : Hid (Blk (w2.alloc (.cells (wtA cu) 245)) w2.heap.size 245 (wtA cu)) := Lib.hid (Blk.new w2 _ _)
    have HPP := Lib.hid (chpop_any hq5 hl5 (by show rest.length ≤ 1000; have := HDL.out; omega))
    have hFl : ∀ k, F4 k → k < wr.heap.size := fun k hk => HX4.out.1.lt k ((HX4.out.1.on k).1 hk)
    have hnN : ¬ F4 w2.heap.size := fun h0 => by have := hFl _ h0; have := HM4.out.size; have := htw.size; omega
    have HS5 := Lib.hid (And.intro hs5 hnN)
    have HOA := Lib.hid (HO6.out.1.made hma)
    have HBQ := Lib.hid (((HX4.out.2.2.2.2.2.1.turns HM4.out (fun h => h)).turns htw (fun e => (HO4.out.2 _ e).2.2.1 rfl)).turns hma (fun h => h))
    have HWL : Hid (wr.heap.size ≤ w2.heap.size) := Lib.hid (by have := HM4.out.size; have := htw.size; omega)
    clear htw hma hnF hq5 hl5 hs5 hFl hnN c0 c1 c2
    generalize w2.alloc (.cells (wtA cu) 245) = W5 at *
    go_wp2_with fail
    refine HPP.out.mono ?_
    rintro e w6 ⟨cur2, ok2, lb6, F6, rfl, hok2, hcur2, hc6, hl6, hs6⟩
    have hb7 := HBN.out.turns hs6.t HS5.out.2
    have HB7 := Lib.hid hb7
    have d0 := hb7.cell 0
    have d1 := hb7.cell 1
    have d2 := hb7.cell 2
    have e0 := hb7.free 0
    have e1 := hb7.free 1
    have e2 := hb7.free 2
    simp only [List.getElem?_toArray, List.getElem?_cons_zero, List.getElem?_cons_succ] at d0 d1 d2
    have HE6 := Lib.hid (And.intro hok2 (And.intro hcur2 (And.intro hc6 (And.intro hl6 hs6))))
    clear hok2 hcur2 hc6 hl6 hs6 hb7
    go_wp2_with fail
    have HF := Lib.hid (show EndR w F p r q1 q2 t s rm v l W.heap.size rest.length (.slice a5 (dn.length + 1) c5) w2.heap.size ok2 (((w6.setCell ⟨w2.heap.size, 0, none⟩ (.int .i64 cur2.task)).setCell ⟨w2.heap.size, 1, none⟩ (.int .i64 cur2.kase)).setCell ⟨w2.heap.size, 2, none⟩ (.int .i64 cur2.val)) from by
     obtain ⟨hok2, hcur2, hc6, hl6, hs6⟩ := HE6.out
     have hnN6 : ¬ F6 w2.heap.size := fun h0 => (hs6.f _ h0).elim HS5.out.2 (fun h => by have := HNB.out; omega)
     have h3 := set3 w6 w2.heap.size (x := .int .i64 cur2.task) (y := .int .i64 cur2.kase) (z := .int .i64 cur2.val)
     have hown : ∀ j, (Value.slice a5 (dn.length + 1) c5).ownBlock = some j → w.heap.size ≤ j ∧ ¬ F4 j ∧ j ≠ W.heap.size ∧ j < w2.heap.size := fun j hj => by
      have hlt := HO6.out.1.lt hj
      rcases HO6.out.2.2 j hj with h1 | h1
      ·obtain ⟨m1, m2, m3, m4⟩ := HO4.out.2 j h1
       exact ⟨m1, m2, m3, hlt⟩
      ·have h2 := HTX.out.size
       have h4 := HM4.out.size
       have h5 : W.heap.size < wr.heap.size := HX4.out.2.2.2.2.2.1.lt
       exact ⟨by have := HX4.out.2.2.2.2.2.2.1; omega, fun h0 => by have := HX4.out.1.lt j ((HX4.out.1.on j).1 h0); omega, by omega, hlt⟩
     refine ⟨dn ++ [cu], rest, cur2, lb6, F6, by rw [HL4.out.1]; simp, rfl, hok2, hcur2, hc6.turns h3 (fun k hk e => hnN6 (by rw [← e]; exact (hl6.on k).2 hk)), hl6.turns h3, ⟨(HS5.out.1.trans hs6).t.then h3 (fun k hk e => by have := HX4.out.2.1.t.size; have := HWL.out; omega), (HS5.out.1.trans hs6).f⟩, ?_, fun j hj => ?_, HB7.out.put3 _ _ _, by have := HX4.out.2.1.t.size; have := HWL.out; omega, hnN6, by have h5 : W.heap.size < wr.heap.size := HX4.out.2.2.2.2.2.1.lt; have := HWL.out; omega, (HBQ.out.turns hs6.t HX4.out.2.2.2.2.2.2.2).turns h3 (fun e => by have h5 : W.heap.size < wr.heap.size := HX4.out.2.2.2.2.2.1.lt; have := HWL.out; omega), HX4.out.2.2.2.2.2.2.1, fun h0 => (hs6.f _ h0).elim HX4.out.2.2.2.2.2.2.2 (fun h => by have h5 : W.heap.size < wr.heap.size := HX4.out.2.2.2.2.2.1.lt; have := HWL.out; have := HNB.out; omega)⟩
     ·rw [List.map_append]
      exact (HOA.out.turns hs6.t (fun k hk => (hown k hk).2.1)).turns h3 (fun k hk e => by have := (hown k hk).2.2.2; omega)
     ·obtain ⟨m1, m2, m3, m4⟩ := hown j hj
      exact ⟨m1, fun h0 => (hs6.f _ h0).elim m2 (fun h => by have := HNB.out; omega), m3, by omega⟩)
    go_roundg rest.length
    case rel => exact ⟨_, ok2, rfl, rfl, HF.out⟩
    case measure => rw [HL4.out.2]; simp
end Go.Proofs.YtjnkphhlkoapbaaGreat
