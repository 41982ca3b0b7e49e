/-
  Walks and laws under LawTopStops, part 8.
-/
import Derived.Test.YtjnkphhlkoapbaaGreatK7
namespace Go.Proofs.YtjnkphhlkoapbaaGreat
open Go.RowKit
set_option linter.unusedVariables false
set_option linter.unusedSimpArgs false
set_option maxRecDepth 100000 in
set_option maxHeartbeats 8000000 in
theorem acreset_0 {CX : World → (Nat → Prop) → Prop} {w : World} {b : Wp} {o : Nat → Nat} {ps : List (List Ins)} {s : Wst} {g a bb cc i cp ci : Nat} {x : Ac} {dt : Int} {sg cl rm : Bool} {l : List Wt} (hx : Ext CX) (h : WW CX w b o ps s) (hb : Blk w g 131 (acA b.pb x)) (hg : ¬ Own o g) (hop : x.i.op = 21) (hxa : x.i.a = a) (hxb : x.i.b = bb) (hxc : x.i.c = cc) (ha : a < 8) (hbb : bb < 8) (hcc : cc < 8) (hi : x.was.get a = i) (htm : s.tms[i]? = some ⟨1, dt, some cp⟩) (hch : s.chs[ci]? = some (cp, ⟨true, sg, cl, rm, none, l⟩)) (htl : s.tms.length ≤ 1000) (hsq : s.sq < 1000000) (hd : 0 ≤ x.was.get bb) (hnow : 0 ≤ s.now ∧ s.now ≤ 4611686018427387904) (hw1 : 0 ≤ addZ s.now (x.was.get bb)) (hw2 : addZ s.now (x.was.get bb) ≤ 4611686018427387904) :
    Calls Tryz.prog 81 #[.pointer (some ⟨g, 0, none⟩)] w fun e w' => e = .returned (.tuple #[]) ∧ ∃ o', WW CX w' b o' ps { s with L := insL ⟨i, addZ s.now (x.was.get bb), s.sq + 1⟩ (delL i (delL i s.L)), sq := s.sq + 1 } ∧ AStp w w' o o' g ∧ Blk w' g 131 (acA b.pb { x with regs := x.regs.set cc (bitZ (findL (i : Int) s.L).isSome) }) := by
  have HB := Lib.hid hb
  have HXX := Lib.hid hx
  have HLT := Lib.hid hcc
  have HX := Lib.hid (And.intro hxa (And.intro hxb (And.intro hxc (And.intro hop hi))))
  have HG := Lib.hid hg
  have HGL := Lib.hid hb.lt
  have HLA := Lib.hid (And.intro ha hbb)
  have HT := Lib.hid (And.intro htm (And.intro hch (And.intro htl (And.intro hsq (And.intro hd (And.intro hnow (And.intro hw1 hw2)))))))
  have HW := Lib.hid h
  have jb1 : (0 : Int) ≤ (cc : Int) := by omega
  have jb2 : (cc : Int) < 8 := by omega
  have q0 : w.cell? ⟨g, 0, none⟩ = some (.pointer (some ⟨b.pb, 0, none⟩)) := hb.cell 0
  have q5 := h.cell5
  have HA1 := Lib.hid (aca_c hb hxa ha)
  obtain ⟨dd, hdd⟩ : ∃ dd, dd = (findL (i : Int) s.L).isSome := ⟨_, rfl⟩
  rw [← hdd]
  have HDD := Lib.hid hdd
  obtain ⟨bz, hbz⟩ : ∃ bz, bz = bitZ dd := ⟨_, rfl⟩
  rw [← hbz]
  have HBT := Lib.hid (fun ww => (show Calls Tryz.prog 117 #[.bool dd] ww (fun e w' => e = .returned (.int .i64 bz) ∧ ww = w') from by rw [hbz]; exact bit_c dd ww))
  clear hbz hdd
  clear h hb hx hxa hxb hxc hg hop htm hch htl hsq hi hd hnow hw1 hw2
  go_enter Tryz.func81, Tryz.ntmps81
  go_wp2_with fail
  refine HA1.out.mono ?_
  rintro e w1 ⟨rfl, hm1⟩
  have HM1 := Lib.hid hm1
  have HB1 := Lib.hid (HB.out.turns hm1 (fun h => h))
  obtain ⟨vp, vc, vl, ve, hw1⟩ := HW.out.made HXX.out hm1
  have HW1 := Lib.hid hw1
  have HKD := Lib.hid (tskind_c hw1.tms HT.out.1 HT.out.2.2.1)
  rw [HX.out.2.2.2.2]
  clear hm1 hw1 q0 q5
  go_wp2_with fail
  refine HKD.out.mono ?_
  rintro e w2 ⟨rfl, rfl⟩
  have q2 : w1.cell? ⟨g, 2, none⟩ = some (.int .i64 x.i.op) := HB1.out.cell 2
  rw [HX.out.2.2.2.1] at q2
  go_upto_region 2 with fail
  clear q2
  have HBD := Lib.hid (HB1.out.turns (Turns.refl (fun _ => False) w1).drew (fun h => h))
  have HA2 := Lib.hid (aca_c HBD.out HX.out.1 HLA.out.1)
  have HWD := Lib.hid (HW1.out.made HXX.out (Turns.refl (fun _ => False) w1).drew)
  refine wp_region_held_drew (S := fun w' => Low w' g b.pb x ∧ (w' = w1.drew ∨ True)) (by kernel_rfl) ?_ (fun hHeld => ?_)
  · exact ⟨low_of HBD.out, .inr trivial⟩
  refine takeH (i := 0) (d := some 20) (v := ?_) rfl rfl (by kernel_rfl) (by kernel_rfl) (by kernel_rfl) (fun _ _ _ h => h) (Or.inl ⟨by rfl, ?_⟩) (by assumption) ?_
  rotate_left
  · intro w hSw
    try dsimp only at hSw
    go_simp
    try with_reducible rfl
  try simp only [Act.put, List.setIfInBounds_toArray, List.set_cons_zero, List.set_cons_succ]
  refine takeH (i := 1) (d := some 21) (v := ?_) rfl rfl (by kernel_rfl) (by kernel_rfl) (by kernel_rfl) (fun _ _ _ h => h) (Or.inl ⟨by rfl, ?_⟩) (by assumption) ?_
  rotate_left
  · intro w hSw
    try dsimp only at hSw
    go_simp
    try with_reducible rfl
  try simp only [Act.put, List.setIfInBounds_toArray, List.set_cons_zero, List.set_cons_succ]
  refine takeH (i := 3) (d := some 23) (v := ?_) rfl rfl (by kernel_rfl) (by kernel_rfl) (by kernel_rfl) (fun _ _ _ h => h) (Or.inl ⟨by rfl, ?_⟩) (by assumption) ?_
  rotate_left
  · intro w hSw
    try dsimp only at hSw
    go_simp
    try with_reducible rfl
  try simp only [Act.put, List.setIfInBounds_toArray, List.set_cons_zero, List.set_cons_succ]
  refine takeH (i := 4) (d := some 24) (v := ?_) rfl rfl (by kernel_rfl) (by kernel_rfl) (by kernel_rfl) (fun _ _ _ h => h) (Or.inl ⟨by rfl, ?_⟩) (by assumption) ?_
  rotate_left
  · intro w hSw
    try dsimp only at hSw
    go_simp
    try with_reducible rfl
  try simp only [Act.put, List.setIfInBounds_toArray, List.set_cons_zero, List.set_cons_succ]
  refine takeH (i := 5) (d := some 25) (v := ?_) rfl rfl (by kernel_rfl) (by kernel_rfl) (by kernel_rfl) (fun _ _ _ h => h) (Or.inl ⟨by rfl, ?_⟩) (by assumption) ?_
  rotate_left
  · intro w hSw
    try dsimp only at hSw
    go_simp
    try with_reducible rfl
  try simp only [Act.put, List.setIfInBounds_toArray, List.set_cons_zero, List.set_cons_succ]
  refine takeH (i := 6) (d := some 26) (v := ?_) rfl rfl (by kernel_rfl) (by kernel_rfl) (by kernel_rfl) (fun _ _ _ h => h) (Or.inl ⟨by rfl, ?_⟩) (by assumption) ?_
  rotate_left
  · intro w hSw
    try dsimp only at hSw
    have q3 : w.cell? ⟨g, 0, none⟩ = some (.pointer (some ⟨b.pb, 0, none⟩)) := hSw.1 0 (by omega)
    go_simp
    try with_reducible rfl
  try simp only [Act.put, List.setIfInBounds_toArray, List.set_cons_zero, List.set_cons_succ]
  refine takeH (i := 8) (d := some 28) (v := ?_) rfl rfl (by kernel_rfl) (by kernel_rfl) (by kernel_rfl) (fun _ _ _ h => h) (Or.inl ⟨by rfl, ?_⟩) (by assumption) ?_
  rotate_left
  · intro w hSw
    try dsimp only at hSw
    go_simp
    try with_reducible rfl
  try simp only [Act.put, List.setIfInBounds_toArray, List.set_cons_zero, List.set_cons_succ]
  refine wpAnyH_ready (rs := [2]) (by kernel_rfl) (by simp) ?_
  refine AllReadyH.cons rfl (fun K hK => ?_) AllReadyH.nil
  rw [HX.out.2.2.2.2] at HA2
  go_simp
  refine HA2.out.mono ?_
  rintro e wA ⟨rfl, hmA⟩
  have hbA := HBD.out.turns hmA (fun h => h)
  have hwA := HWD.out.made HXX.out hmA
  have HNW := wnow_c (show WW CX wA b o ps s from ⟨_, _, _, _, hwA⟩)
  refine hK.out _ _ ?_ (fun hHeld => ?_)
  · exact ⟨low_of hbA, .inr trivial⟩
  clear hK K
  try simp only [Act.put, List.setIfInBounds_toArray, List.set_cons_zero, List.set_cons_succ]
  refine wpAnyH_ready (rs := [7]) (by kernel_rfl) (by simp) ?_
  refine AllReadyH.cons rfl (fun K hK => ?_) AllReadyH.nil
  go_simp
  refine HNW.mono ?_
  rintro e wN ⟨rfl, rfl⟩
  refine hK.out _ _ ?_ (fun hHeld => ?_)
  · exact ⟨low_of hbA, .inr trivial⟩
  clear hK K
  try simp only [Act.put, List.setIfInBounds_toArray, List.set_cons_zero, List.set_cons_succ]
  refine wpAnyH_ready (rs := [9]) (by kernel_rfl) (by simp) ?_
  refine AllReadyH.cons rfl (fun K hK => ?_) AllReadyH.nil
  go_simp
  refine (acb_c hbA HX.out.2.1 HLA.out.2).mono ?_
  rintro e wB ⟨rfl, hmB⟩
  have hbB := hbA.turns hmB (fun h => h)
  have hwB := hwA.made HXX.out hmB
  refine hK.out _ _ ?_ (fun hHeld => ?_)
  · exact ⟨low_of hbB, .inr trivial⟩
  clear hK K
  try simp only [Act.put, List.setIfInBounds_toArray, List.set_cons_zero, List.set_cons_succ]
  refine wpAnyH_ready (rs := [10]) (by kernel_rfl) (by simp) ?_
  refine AllReadyH.cons rfl (fun K hK => ?_) AllReadyH.nil
  have HRS := tsreset_0 hwB.tms HT.out.1 (hwB.chn cp _ (List.mem_of_getElem? HT.out.2.1)) (fun k hk h4 => by have h5 : o k = 16 + cp := hk; have h6 : o k = 4 := h4; omega) HT.out.2.2.1 HT.out.2.2.2.1 HT.out.2.2.2.2.2.1 HT.out.2.2.2.2.1 rfl HT.out.2.2.2.2.2.2.1 HT.out.2.2.2.2.2.2.2
  rw [← HDD.out] at HRS
  have HRSH := Lib.hid HRS
  clear HRS
  go_simp
  refine HRSH.out.mono ?_
  rintro e w4 ⟨rfl, F4, hT, hC, ht, hf, hdj⟩
  obtain ⟨o4, h4, _, _, hs4, _⟩ := hwB.stepTC HXX.out HT.out.2.1 hT hC ht hf (fun k hk => .inl hk) hdj
  refine hK.out _ _ ?_ (fun hHeld => ?_)
  · exact ⟨low_of (hbB.turns hs4.t HG.out), .inr trivial⟩
  clear hK K
  try simp only [Act.put, List.setIfInBounds_toArray, List.set_cons_zero, List.set_cons_succ]
  refine takeH (i := 11) (d := some 19) (v := ?_) rfl rfl (by kernel_rfl) (by kernel_rfl) (by kernel_rfl) (fun _ _ _ h => h) (Or.inl ⟨by rfl, ?_⟩) (by assumption) ?_
  rotate_left
  · intro w hSw
    try dsimp only at hSw
    go_simp
    try with_reducible rfl
  try simp only [Act.put, List.setIfInBounds_toArray, List.set_cons_zero, List.set_cons_succ]
  refine takeH (i := 12) (d := some 31) (v := ?_) rfl rfl (by kernel_rfl) (by kernel_rfl) (by kernel_rfl) (fun _ _ _ h => h) (Or.inl ⟨by rfl, ?_⟩) (by assumption) ?_
  rotate_left
  · intro w hSw
    try dsimp only at hSw
    go_simp
    try with_reducible rfl
  try simp only [Act.put, List.setIfInBounds_toArray, List.set_cons_zero, List.set_cons_succ]
  refine takeH (i := 13) (d := some 32) (v := ?_) rfl rfl (by kernel_rfl) (by kernel_rfl) (by kernel_rfl) (fun _ _ _ h => h) (Or.inl ⟨by rfl, ?_⟩) (by assumption) ?_
  rotate_left
  · intro w hSw
    try dsimp only at hSw
    go_simp
    try with_reducible rfl
  try simp only [Act.put, List.setIfInBounds_toArray, List.set_cons_zero, List.set_cons_succ]
  refine takeH (i := 14) (d := some 6) (v := ?_) rfl rfl (by kernel_rfl) (by kernel_rfl) (by kernel_rfl) (fun _ _ _ h => h) (Or.inl ⟨by rfl, ?_⟩) (by assumption) ?_
  rotate_left
  · intro w hSw
    try dsimp only at hSw
    go_simp
    try with_reducible rfl
  try simp only [Act.put, List.setIfInBounds_toArray, List.set_cons_zero, List.set_cons_succ]
  refine takeH (i := 15) (d := some 7) (v := ?_) rfl rfl (by kernel_rfl) (by kernel_rfl) (by kernel_rfl) (fun _ _ _ h => h) (Or.inl ⟨by rfl, ?_⟩) (by assumption) ?_
  rotate_left
  · intro w hSw
    try dsimp only at hSw
    go_simp
    try with_reducible rfl
  try simp only [Act.put, List.setIfInBounds_toArray, List.set_cons_zero, List.set_cons_succ]
  refine wpAnyH_done (by kernel_rfl) ?_ _
  have HB4 := Lib.hid (hbB.turns hs4.t HG.out)
  have HW4 := Lib.hid h4
  have HS4 := Lib.hid ((Stp.made (F := Own o) (((HM1.out.trans (Turns.refl (fun _ => False) w1).drew).trans hmA).trans hmB)).trans hs4)
  clear hHeld h4 hs4 hT hC ht hf hdj hbA hbB hwA hwB HNW
  go_upto_region 5 with fail
  refine wp_region_held_drew (S := fun w' => Low w' g b.pb (x) ∧ (w' = w4.drew ∨ True)) (by kernel_rfl) ?_ (fun hHeld => ?_)
  · exact ⟨low_of (HB4.out), .inr trivial⟩
  refine takeH (i := 0) (d := some 38) (v := ?_) rfl rfl (by kernel_rfl) (by kernel_rfl) (by kernel_rfl) (fun _ _ _ h => h) (Or.inl ⟨by rfl, ?_⟩) (by assumption) ?_
  rotate_left
  · intro w hSw
    try dsimp only at hSw
    go_simp
    try with_reducible rfl
  try simp only [Act.put, List.setIfInBounds_toArray, List.set_cons_zero, List.set_cons_succ]
  refine takeH (i := 1) (d := some 39) (v := ?_) rfl rfl (by kernel_rfl) (by kernel_rfl) (by kernel_rfl) (fun _ _ _ h => h) (Or.inl ⟨by rfl, ?_⟩) (by assumption) ?_
  rotate_left
  · intro w hSw
    try dsimp only at hSw
    go_simp
    try with_reducible rfl
  try simp only [Act.put, List.setIfInBounds_toArray, List.set_cons_zero, List.set_cons_succ]
  refine takeH (i := 2) (d := some 40) (v := ?_) rfl rfl (by kernel_rfl) (by kernel_rfl) (by kernel_rfl) (fun _ _ _ h => h) (Or.inl ⟨by rfl, ?_⟩) (by assumption) ?_
  rotate_left
  · intro w hSw
    try dsimp only at hSw
    go_simp
    try with_reducible rfl
  try simp only [Act.put, List.setIfInBounds_toArray, List.set_cons_zero, List.set_cons_succ]
  refine takeH (i := 3) (d := some 41) (v := ?_) rfl rfl (by kernel_rfl) (by kernel_rfl) (by kernel_rfl) (fun _ _ _ h => h) (Or.inl ⟨by rfl, ?_⟩) (by assumption) ?_
  rotate_left
  · intro w hSw
    try dsimp only at hSw
    go_simp
    try with_reducible rfl
  try simp only [Act.put, List.setIfInBounds_toArray, List.set_cons_zero, List.set_cons_succ]
  refine takeH (i := 4) (d := some 42) (v := ?_) rfl rfl (by kernel_rfl) (by kernel_rfl) (by kernel_rfl) (fun _ _ _ h => h) (Or.inl ⟨by rfl, ?_⟩) (by assumption) ?_
  rotate_left
  · intro w hSw
    try dsimp only at hSw
    go_simp
    try with_reducible rfl
  try simp only [Act.put, List.setIfInBounds_toArray, List.set_cons_zero, List.set_cons_succ]
  refine takeH (i := 5) (d := some 43) (v := ?_) rfl rfl (by kernel_rfl) (by kernel_rfl) (by kernel_rfl) (fun _ _ _ h => h) (Or.inl ⟨by rfl, ?_⟩) (by assumption) ?_
  rotate_left
  · intro w hSw
    try dsimp only at hSw
    have q3 : w.cell? ⟨g, 5, none⟩ = some (.int .i64 (x.i.c)) := hSw.1 5 (by omega)
    rw [HX.out.2.2.1] at q3
    go_simp
    try with_reducible rfl
  try simp only [Act.put, List.setIfInBounds_toArray, List.set_cons_zero, List.set_cons_succ]
  refine takeH (i := 6) (d := some 44) (v := ?_) rfl rfl (by kernel_rfl) (by kernel_rfl) (by kernel_rfl) (fun _ _ _ h => h) (Or.inl ⟨by rfl, ?_⟩) (by assumption) ?_
  rotate_left
  · intro w hSw
    try dsimp only at hSw
    go_simp
    try with_reducible rfl
  try simp only [Act.put, List.setIfInBounds_toArray, List.set_cons_zero, List.set_cons_succ]
  refine takeH (i := 8) (d := some 46) (v := ?_) rfl rfl (by kernel_rfl) (by kernel_rfl) (by kernel_rfl) (fun _ _ _ h => h) (Or.inl ⟨by rfl, ?_⟩) (by assumption) ?_
  rotate_left
  · intro w hSw
    try dsimp only at hSw
    go_simp
    try with_reducible rfl
  try simp only [Act.put, List.setIfInBounds_toArray, List.set_cons_zero, List.set_cons_succ]
  refine takeH (i := 9) (d := some 47) (v := ?_) rfl rfl (by kernel_rfl) (by kernel_rfl) (by kernel_rfl) (fun _ _ _ h => h) (Or.inl ⟨by rfl, ?_⟩) (by assumption) ?_
  rotate_left
  · intro w hSw
    try dsimp only at hSw
    go_simp
    try with_reducible rfl
  try simp only [Act.put, List.setIfInBounds_toArray, List.set_cons_zero, List.set_cons_succ]
  refine wpAnyH_ready (rs := [7]) (by kernel_rfl) (by simp) ?_
  refine AllReadyH.cons rfl (fun K hK => ?_) AllReadyH.nil
  go_simp
  refine (HBT.out _).mono ?_
  rintro e w9 ⟨rfl, rfl⟩
  refine hK.out _ _ ?_ (fun hHeld => ?_)
  · exact hHeld
  clear hK K
  try simp only [Act.put, List.setIfInBounds_toArray, List.set_cons_zero, List.set_cons_succ]
  refine takeH (i := 10) (d := some 48) (v := ?_) rfl rfl (by kernel_rfl) (by kernel_rfl) (by kernel_rfl) (fun _ _ _ h => h) (Or.inl ⟨by rfl, ?_⟩) (by assumption) ?_
  rotate_left
  · intro w hSw
    try dsimp only at hSw
    go_simp
    try with_reducible rfl
  try simp only [Act.put, List.setIfInBounds_toArray, List.set_cons_zero, List.set_cons_succ]
  refine wpAnyH_ready (rs := [11]) (by kernel_rfl) (by simp) ?_
  refine AllReadyH.cons rfl (fun K hK => ?_) AllReadyH.nil
  have qz0 := (HB4.out).cell (16 + cc)
  rw [ac_reg _ _ HLT.out] at qz0
  have qz1 : w4.drew.cell? ⟨g, 16 + cc, none⟩ = _ := qz0
  have qf := (HB4.out).free (16 + cc)
  have qf1 : w4.drew.frozen? ⟨g, 16 + cc, none⟩ = false := qf
  go_simp
  refine hK.out _ _ ?_ (fun hHeld => ?_)
  · exact ⟨low_regs (r := (x).regs.set cc (bz)) (low_of (by have hb4 := (show Blk w4.drew g 131 _ from HB4.out).put (16 + cc) (.int .i64 (bz)); rw [ac_set _ _ _ HLT.out] at hb4; exact hb4)), .inr trivial⟩
  clear hK K
  try simp only [Act.put, List.setIfInBounds_toArray, List.set_cons_zero, List.set_cons_succ]
  refine wpAnyH_done (by kernel_rfl) ?_ _
  have hb4 := (show Blk w4.drew g 131 _ from HB4.out).put (16 + cc) (.int .i64 (bz))
  have ht4 : Turns (fun k => k = g) w4 (w4.drew.setCell ⟨g, 16 + cc, none⟩ (.int .i64 (bz))) := ((Turns.refl (fun k => k = g) w4).drew).setCell (p := ⟨g, 16 + cc, none⟩) (fun _ => rfl) _
  rw [ac_set _ _ _ HLT.out] at hb4
  have HE := Lib.hid (And.intro hb4 ht4)
  clear hb4 ht4 hHeld
  go_wp2_with fail
  go_end0
  have hch4 : s.chs.set ci (cp, (⟨true, sg, cl, rm, none, l⟩ : Chn)) = s.chs := set_same HT.out.2.1
  have hW4 := HW4.out
  rw [hch4] at hW4
  exact ⟨rfl, o4, (show WW CX w4 b o4 ps _ from ⟨_, _, _, _, hW4⟩).turns HXX.out HE.out.2 (fun k hk e => (AStp.of g HS4.out).no HG.out HGL.out (by rw [← show k = g from e]; exact hk)), (AStp.of g HS4.out).set HE.out.2, HE.out.1⟩
end Go.Proofs.YtjnkphhlkoapbaaGreat
namespace Go.Proofs.YtjnkphhlkoapbaaGreat
open Go.RowKit
set_option linter.unusedVariables false
set_option linter.unusedSimpArgs false
set_option maxRecDepth 100000 in
theorem acdo_go {w : World} {g p : Nat} {x : Ac} {R : World → Prop} (hb : Blk w g 131 (acA p x)) (hop : x.i.op = 8) (H : Calls Tryz.prog 76 #[.pointer (some ⟨g, 0, none⟩)] w fun e w' => e = .returned (.tuple #[]) ∧ R w') :
    Calls Tryz.prog 50 #[.pointer (some ⟨g, 0, none⟩)] w fun e w' => e = .returned (.tuple #[]) ∧ R w' := by
  have q2 : w.cell? ⟨g, 2, none⟩ = some (.int .i64 x.i.op) := hb.cell 2
  rw [hop] at q2
  have HH := Lib.hid H
  clear H hb hop
  go_enter Tryz.func50, Tryz.ntmps50
  go_wp2_with fail
  refine HH.out.mono ?_
  rintro e w1 ⟨rfl, hr⟩
  have HR := Lib.hid hr
  clear hr q2
  go_wp2_with fail
  go_end0
  exact ⟨rfl, HR.out⟩
set_option maxRecDepth 100000 in
theorem acdo_recv {w : World} {g p : Nat} {x : Ac} {R : World → Prop} (hb : Blk w g 131 (acA p x)) (hop : x.i.op = 11) (H : Calls Tryz.prog 78 #[.pointer (some ⟨g, 0, none⟩)] w fun e w' => e = .returned (.tuple #[]) ∧ R w') :
    Calls Tryz.prog 50 #[.pointer (some ⟨g, 0, none⟩)] w fun e w' => e = .returned (.tuple #[]) ∧ R w' := by
  have q2 : w.cell? ⟨g, 2, none⟩ = some (.int .i64 x.i.op) := hb.cell 2
  rw [hop] at q2
  have HH := Lib.hid H
  clear H hb hop
  go_enter Tryz.func50, Tryz.ntmps50
  go_wp2_with fail
  refine HH.out.mono ?_
  rintro e w1 ⟨rfl, hr⟩
  have HR := Lib.hid hr
  clear hr q2
  go_wp2_with fail
  go_end0
  exact ⟨rfl, HR.out⟩
set_option maxRecDepth 100000 in
theorem acdo_timer {w : World} {g p : Nat} {x : Ac} {R : World → Prop} (hb : Blk w g 131 (acA p x)) (hop : x.i.op = 17) (H : Calls Tryz.prog 80 #[.pointer (some ⟨g, 0, none⟩)] w fun e w' => e = .returned (.tuple #[]) ∧ R w') :
    Calls Tryz.prog 50 #[.pointer (some ⟨g, 0, none⟩)] w fun e w' => e = .returned (.tuple #[]) ∧ R w' := by
  have q2 : w.cell? ⟨g, 2, none⟩ = some (.int .i64 x.i.op) := hb.cell 2
  rw [hop] at q2
  have HH := Lib.hid H
  clear H hb hop
  go_enter Tryz.func50, Tryz.ntmps50
  go_wp2_with fail
  refine HH.out.mono ?_
  rintro e w1 ⟨rfl, hr⟩
  have HR := Lib.hid hr
  clear hr q2
  go_wp2_with fail
  go_end0
  exact ⟨rfl, HR.out⟩
set_option maxRecDepth 100000 in
theorem acdo_stop {w : World} {g p : Nat} {x : Ac} {R : World → Prop} (hb : Blk w g 131 (acA p x)) (hop : x.i.op = 20) (H : Calls Tryz.prog 81 #[.pointer (some ⟨g, 0, none⟩)] w fun e w' => e = .returned (.tuple #[]) ∧ R w') :
    Calls Tryz.prog 50 #[.pointer (some ⟨g, 0, none⟩)] w fun e w' => e = .returned (.tuple #[]) ∧ R w' := by
  have q2 : w.cell? ⟨g, 2, none⟩ = some (.int .i64 x.i.op) := hb.cell 2
  rw [hop] at q2
  have HH := Lib.hid H
  clear H hb hop
  go_enter Tryz.func50, Tryz.ntmps50
  go_wp2_with fail
  refine HH.out.mono ?_
  rintro e w1 ⟨rfl, hr⟩
  have HR := Lib.hid hr
  clear hr q2
  go_wp2_with fail
  go_end0
  exact ⟨rfl, HR.out⟩
set_option maxRecDepth 100000 in
theorem acdo_reset {w : World} {g p : Nat} {x : Ac} {R : World → Prop} (hb : Blk w g 131 (acA p x)) (hop : x.i.op = 21) (H : Calls Tryz.prog 81 #[.pointer (some ⟨g, 0, none⟩)] w fun e w' => e = .returned (.tuple #[]) ∧ R w') :
    Calls Tryz.prog 50 #[.pointer (some ⟨g, 0, none⟩)] w fun e w' => e = .returned (.tuple #[]) ∧ R w' := by
  have q2 : w.cell? ⟨g, 2, none⟩ = some (.int .i64 x.i.op) := hb.cell 2
  rw [hop] at q2
  have HH := Lib.hid H
  clear H hb hop
  go_enter Tryz.func50, Tryz.ntmps50
  go_wp2_with fail
  refine HH.out.mono ?_
  rintro e w1 ⟨rfl, hr⟩
  have HR := Lib.hid hr
  clear hr q2
  go_wp2_with fail
  go_end0
  exact ⟨rfl, HR.out⟩
end Go.Proofs.YtjnkphhlkoapbaaGreat
namespace Go.Proofs.YtjnkphhlkoapbaaGreat
open Go.RowKit
set_option linter.unusedVariables false
set_option linter.unusedSimpArgs false
set_option maxRecDepth 100000 in
set_option maxHeartbeats 2000000 in
theorem acchan_recv {CX : World → (Nat → Prop) → Prop} {w : World} {b : Wp} {o : Nat → Nat} {ps : List (List Ins)} {s : Wst} {g a i p : Nat} {x : Ac} {c : Chn} {R : World → Prop} (hx : Ext CX) (h : WW CX w b o ps s) (hb : Blk w g 131 (acA b.pb x)) (hop : x.i.op = 11) (hxa : x.i.a = a) (ha : a < 8) (hi : x.was.get a = i) (hch : s.chs[i]? = some (p, c)) (hcl : s.chs.length ≤ 1000)
    (H : ∀ w1, Made w w1 → Calls Tryz.prog 125 #[.pointer (some ⟨g, 0, none⟩), .pointer (some ⟨p, 0, none⟩)] w1 fun e w' => e = .returned (.tuple #[]) ∧ R w') :
    Calls Tryz.prog 78 #[.pointer (some ⟨g, 0, none⟩)] w fun e w' => e = .returned (.tuple #[]) ∧ R w' := by
  have HB := Lib.hid hb
  have HXX := Lib.hid hx
  have HOP := Lib.hid hop
  have HI := Lib.hid hi
  have HBD := Lib.hid (hb.turns (Turns.refl (fun _ => False) w).drew (fun h => h))
  have HWD := Lib.hid (h.made hx (Turns.refl (fun _ => False) w).drew)
  have HA2 := Lib.hid (aca_c HBD.out hxa ha)
  rw [hi] at HA2
  have HH := Lib.hid H
  have HCH := Lib.hid (And.intro hch hcl)
  clear h hb hx hop hxa hi hch hcl H
  go_enter Tryz.func78, Tryz.ntmps78
  go_wp2_with fail
  refine wp_region_held_drew (S := fun w' => Low w' g b.pb x ∧ (w' = w.drew ∨ True)) (by kernel_rfl) ?_ (fun hHeld => ?_)
  · exact ⟨low_of HBD.out, .inr trivial⟩
  refine takeH (i := 0) (d := some 5) (v := ?_) rfl rfl (by kernel_rfl) (by kernel_rfl) (by kernel_rfl) (fun _ _ _ h => h) (Or.inl ⟨by rfl, ?_⟩) (by assumption) ?_
  rotate_left
  · intro w hSw
    try dsimp only at hSw
    go_simp
    try with_reducible rfl
  try simp only [Act.put, List.setIfInBounds_toArray, List.set_cons_zero, List.set_cons_succ]
  refine takeH (i := 1) (d := some 6) (v := ?_) rfl rfl (by kernel_rfl) (by kernel_rfl) (by kernel_rfl) (fun _ _ _ h => h) (Or.inl ⟨by rfl, ?_⟩) (by assumption) ?_
  rotate_left
  · intro w hSw
    try dsimp only at hSw
    go_simp
    try with_reducible rfl
  try simp only [Act.put, List.setIfInBounds_toArray, List.set_cons_zero, List.set_cons_succ]
  refine takeH (i := 2) (d := some 7) (v := ?_) rfl rfl (by kernel_rfl) (by kernel_rfl) (by kernel_rfl) (fun _ _ _ h => h) (Or.inl ⟨by rfl, ?_⟩) (by assumption) ?_
  rotate_left
  · intro w hSw
    try dsimp only at hSw
    go_simp
    try with_reducible rfl
  try simp only [Act.put, List.setIfInBounds_toArray, List.set_cons_zero, List.set_cons_succ]
  refine takeH (i := 3) (d := some 8) (v := ?_) rfl rfl (by kernel_rfl) (by kernel_rfl) (by kernel_rfl) (fun _ _ _ h => h) (Or.inl ⟨by rfl, ?_⟩) (by assumption) ?_
  rotate_left
  · intro w hSw
    try dsimp only at hSw
    have q3 : w.cell? ⟨g, 0, none⟩ = some (.pointer (some ⟨b.pb, 0, none⟩)) := hSw.1 0 (by omega)
    go_simp
    try with_reducible rfl
  try simp only [Act.put, List.setIfInBounds_toArray, List.set_cons_zero, List.set_cons_succ]
  refine takeH (i := 4) (d := some 9) (v := ?_) rfl rfl (by kernel_rfl) (by kernel_rfl) (by kernel_rfl) (fun _ _ _ h => h) (Or.inl ⟨by rfl, ?_⟩) (by assumption) ?_
  rotate_left
  · intro w hSw
    try dsimp only at hSw
    go_simp
    try with_reducible rfl
  try simp only [Act.put, List.setIfInBounds_toArray, List.set_cons_zero, List.set_cons_succ]
  refine wpAnyH_ready (rs := [5]) (by kernel_rfl) (by simp) ?_
  refine AllReadyH.cons rfl (fun K hK => ?_) AllReadyH.nil
  go_simp
  refine HA2.out.mono ?_
  rintro e wA ⟨rfl, hmA⟩
  have hbA := HBD.out.turns hmA (fun h => h)
  have HWC := Lib.hid (wchannel_c (HWD.out.made HXX.out hmA) HCH.out.1 HCH.out.2)
  refine hK.out _ _ ?_ (fun hHeld => ?_)
  · exact ⟨low_of hbA, .inr trivial⟩
  clear hK K
  try simp only [Act.put, List.setIfInBounds_toArray, List.set_cons_zero, List.set_cons_succ]
  refine wpAnyH_ready (rs := [6]) (by kernel_rfl) (by simp) ?_
  refine AllReadyH.cons rfl (fun K hK => ?_) AllReadyH.nil
  go_simp
  refine HWC.out.mono ?_
  rintro e wN ⟨rfl, rfl⟩
  refine hK.out _ _ ?_ (fun hHeld => ?_)
  · exact ⟨low_of hbA, .inr trivial⟩
  clear hK K
  try simp only [Act.put, List.setIfInBounds_toArray, List.set_cons_zero, List.set_cons_succ]
  refine takeH (i := 7) (d := some 4) (v := ?_) rfl rfl (by kernel_rfl) (by kernel_rfl) (by kernel_rfl) (fun _ _ _ h => h) (Or.inl ⟨by rfl, ?_⟩) (by assumption) ?_
  rotate_left
  · intro w hSw
    try dsimp only at hSw
    go_simp
    try with_reducible rfl
  try simp only [Act.put, List.setIfInBounds_toArray, List.set_cons_zero, List.set_cons_succ]
  refine takeH (i := 8) (d := some 12) (v := ?_) rfl rfl (by kernel_rfl) (by kernel_rfl) (by kernel_rfl) (fun _ _ _ h => h) (Or.inl ⟨by rfl, ?_⟩) (by assumption) ?_
  rotate_left
  · intro w hSw
    try dsimp only at hSw
    go_simp
    try with_reducible rfl
  try simp only [Act.put, List.setIfInBounds_toArray, List.set_cons_zero, List.set_cons_succ]
  refine takeH (i := 9) (d := some 13) (v := ?_) rfl rfl (by kernel_rfl) (by kernel_rfl) (by kernel_rfl) (fun _ _ _ h => h) (Or.inl ⟨by rfl, ?_⟩) (by assumption) ?_
  rotate_left
  · intro w hSw
    try dsimp only at hSw
    go_simp
    try with_reducible rfl
  try simp only [Act.put, List.setIfInBounds_toArray, List.set_cons_zero, List.set_cons_succ]
  refine takeH (i := 10) (d := some 2) (v := ?_) rfl rfl (by kernel_rfl) (by kernel_rfl) (by kernel_rfl) (fun _ _ _ h => h) (Or.inl ⟨by rfl, ?_⟩) (by assumption) ?_
  rotate_left
  · intro w hSw
    try dsimp only at hSw
    go_simp
    try with_reducible rfl
  try simp only [Act.put, List.setIfInBounds_toArray, List.set_cons_zero, List.set_cons_succ]
  refine takeH (i := 11) (d := some 3) (v := ?_) rfl rfl (by kernel_rfl) (by kernel_rfl) (by kernel_rfl) (fun _ _ _ h => h) (Or.inl ⟨by rfl, ?_⟩) (by assumption) ?_
  rotate_left
  · intro w hSw
    try dsimp only at hSw
    go_simp
    try with_reducible rfl
  try simp only [Act.put, List.setIfInBounds_toArray, List.set_cons_zero, List.set_cons_succ]
  refine wpAnyH_done (by kernel_rfl) ?_ _
  have q2 : wA.cell? ⟨g, 2, none⟩ = some (.int .i64 x.i.op) := hbA.cell 2
  rw [HOP.out] at q2
  have HRC := Lib.hid (HH.out wA ((Turns.refl (fun _ => False) w).drew.trans hmA))
  clear hHeld hmA hbA
  go_wp2_with fail
  refine HRC.out.mono ?_
  rintro e w5 ⟨rfl, hr⟩
  have HR := Lib.hid hr
  clear hr q2
  go_wp2_with fail
  go_end0
  exact ⟨rfl, HR.out⟩
end Go.Proofs.YtjnkphhlkoapbaaGreat
namespace Go.Proofs.YtjnkphhlkoapbaaGreat
open Go.RowKit
set_option linter.unusedVariables false
set_option linter.unusedSimpArgs false
set_option maxRecDepth 100000 in
set_option maxHeartbeats 400000 in
theorem walone_0 {CX : World → (Nat → Prop) → Prop} {w : World} {b : Wp} {o : Nat → Nat} {ps : List (List Ins)} {s : Wst} {i j : Nat} {x : Tsk} {pc v : Int} {r : Reg} (hx : Ext CX) (h : WW CX w b o ps s) (hts : s.ts[i]? = some x) (hl : s.ts.length ≤ 64) (hst : x.st = 0) (hev : s.ev.length < 1000) :
    Calls Tryz.prog 49 #[.pointer (some ⟨b.pb, 0, none⟩), .int .i64 i, .agg (outA ⟨pc, r, false, v, false⟩)] w fun e w' => e = .returned (.tuple #[]) ∧ ∃ o', WW CX w' b o' ps { s with ts := s.ts.set i ⟨x.prog, pc, x.st, x.how, r, x.ins⟩ } ∧ Stp w w' (Own o) (Own o') := by
  have HXX := Lib.hid hx
  have HM := Lib.hid ((Turns.refl (fun _ => False) w).alloc (.cells (outA ⟨pc, r, false, v, false⟩) 125))
  have HO := Lib.hid (Blk.new w 125 (outA ⟨pc, r, false, v, false⟩))
  obtain ⟨vp, vc, vl, ve, h⟩ := h
  have HNR := Lib.hid (show ¬ Own o w.heap.size from fun e => absurd (h.lt _ e) (Nat.lt_irrefl _))
  have HW := Lib.hid (h.made hx HM.out)
  have HTS := Lib.hid (And.intro hts hst)
  have HEV := Lib.hid hev
  clear h hx hts hst hev
  go_enter Tryz.func49, Tryz.ntmps49
  go_wp2_with fail
  generalize w.alloc (.cells (outA ⟨pc, r, false, v, false⟩) 125) = W at *
  have HQ := Lib.hid HW.out.blk
  have HNB := Lib.hid (show ¬ o b.pb = 3 from by rw [HW.out.ob]; omega)
  have HNR3 := Lib.hid (show ¬ o w.heap.size = 3 from fun e => HNR.out (by show o w.heap.size ≠ 0; omega))
  have HWD := Lib.hid (HW.out.made HXX.out (Turns.refl (fun _ => False) W).drew)
  have HPT := Lib.hid (tabput_c (pc := pc) (r := r) HWD.out.tab HTS.out.1 hl HTS.out.2)
  refine wp_region_held_drew (S := fun w' => Blk w' (b.pb) 65 #[vp, .pointer (some ⟨b.pk, 0, none⟩), .pointer (some ⟨b.pt, 0, none⟩), vc, .int .i64 s.made, .pointer (some ⟨b.pm, 0, none⟩), .pointer (some ⟨b.px, 0, none⟩), .pointer (some ⟨b.pd, 0, none⟩), vl, .int .i64 s.steps, ve] ∧ Blk w' (w.heap.size) 125 (outA ⟨pc, r, false, v, false⟩) ∧ Turns (fun k => o k = 3) W w') (by kernel_rfl) ?_ (fun hHeld => ?_)
  · exact ⟨HQ.out, HO.out, (Turns.refl _ W).drew⟩
  refine takeH (i := 0) (d := some 6) (v := ?_) rfl rfl (by kernel_rfl) (by kernel_rfl) (by kernel_rfl) (fun _ _ _ h => h) (Or.inl ⟨by rfl, ?_⟩) (by assumption) ?_
  rotate_left
  · intro w hSw
    try dsimp only at hSw
    go_simp
    try with_reducible rfl
  try simp only [Act.put, List.setIfInBounds_toArray, List.set_cons_zero, List.set_cons_succ]
  refine takeH (i := 1) (d := some 7) (v := ?_) rfl rfl (by kernel_rfl) (by kernel_rfl) (by kernel_rfl) (fun _ _ _ h => h) (Or.inl ⟨by rfl, ?_⟩) (by assumption) ?_
  rotate_left
  · intro w hSw
    try dsimp only at hSw
    go_simp
    try with_reducible rfl
  try simp only [Act.put, List.setIfInBounds_toArray, List.set_cons_zero, List.set_cons_succ]
  refine takeH (i := 2) (d := some 8) (v := ?_) rfl rfl (by kernel_rfl) (by kernel_rfl) (by kernel_rfl) (fun _ _ _ h => h) (Or.inl ⟨by rfl, ?_⟩) (by assumption) ?_
  rotate_left
  · intro w hSw
    try dsimp only at hSw
    go_simp
    try with_reducible rfl
  try simp only [Act.put, List.setIfInBounds_toArray, List.set_cons_zero, List.set_cons_succ]
  refine takeH (i := 3) (d := some 9) (v := ?_) rfl rfl (by kernel_rfl) (by kernel_rfl) (by kernel_rfl) (fun _ _ _ h => h) (Or.inl ⟨by rfl, ?_⟩) (by assumption) ?_
  rotate_left
  · intro w hSw
    try dsimp only at hSw
    have q0_0 := hSw.1.cell 0
    have q0_1 := hSw.1.cell 1
    have q0_2 := hSw.1.cell 2
    have q0_3 := hSw.1.cell 3
    have q0_4 := hSw.1.cell 4
    have q0_5 := hSw.1.cell 5
    have q0_6 := hSw.1.cell 6
    have q0_7 := hSw.1.cell 7
    have q0_8 := hSw.1.cell 8
    have q0_9 := hSw.1.cell 9
    have q0_10 := hSw.1.cell 10
    have q1_0 := hSw.2.1.cell 0
    simp only [List.getElem?_toArray, List.getElem?_cons_zero, List.getElem?_cons_succ] at q0_0 q0_1 q0_2 q0_3 q0_4 q0_5 q0_6 q0_7 q0_8 q0_9 q0_10 q1_0
    go_simp
    try with_reducible rfl
  try simp only [Act.put, List.setIfInBounds_toArray, List.set_cons_zero, List.set_cons_succ]
  refine takeH (i := 4) (d := some 10) (v := ?_) rfl rfl (by kernel_rfl) (by kernel_rfl) (by kernel_rfl) (fun _ _ _ h => h) (Or.inl ⟨by rfl, ?_⟩) (by assumption) ?_
  rotate_left
  · intro w hSw
    try dsimp only at hSw
    go_simp
    try with_reducible rfl
  try simp only [Act.put, List.setIfInBounds_toArray, List.set_cons_zero, List.set_cons_succ]
  refine takeH (i := 5) (d := some 11) (v := ?_) rfl rfl (by kernel_rfl) (by kernel_rfl) (by kernel_rfl) (fun _ _ _ h => h) (Or.inl ⟨by rfl, ?_⟩) (by assumption) ?_
  rotate_left
  · intro w hSw
    try dsimp only at hSw
    go_simp
    try with_reducible rfl
  try simp only [Act.put, List.setIfInBounds_toArray, List.set_cons_zero, List.set_cons_succ]
  refine takeH (i := 6) (d := some 12) (v := ?_) rfl rfl (by kernel_rfl) (by kernel_rfl) (by kernel_rfl) (fun _ _ _ h => h) (Or.inl ⟨by rfl, ?_⟩) (by assumption) ?_
  rotate_left
  · intro w hSw
    try dsimp only at hSw
    have q0_0 := hSw.1.cell 0
    have q0_1 := hSw.1.cell 1
    have q0_2 := hSw.1.cell 2
    have q0_3 := hSw.1.cell 3
    have q0_4 := hSw.1.cell 4
    have q0_5 := hSw.1.cell 5
    have q0_6 := hSw.1.cell 6
    have q0_7 := hSw.1.cell 7
    have q0_8 := hSw.1.cell 8
    have q0_9 := hSw.1.cell 9
    have q0_10 := hSw.1.cell 10
    have q1_0 := hSw.2.1.cell 0
    simp only [List.getElem?_toArray, List.getElem?_cons_zero, List.getElem?_cons_succ] at q0_0 q0_1 q0_2 q0_3 q0_4 q0_5 q0_6 q0_7 q0_8 q0_9 q0_10 q1_0
    go_simp
    try with_reducible rfl
  try simp only [Act.put, List.setIfInBounds_toArray, List.set_cons_zero, List.set_cons_succ]
  refine takeH (i := 7) (d := some 13) (v := ?_) rfl rfl (by kernel_rfl) (by kernel_rfl) (by kernel_rfl) (fun _ _ _ h => h) (Or.inl ⟨by rfl, ?_⟩) (by assumption) ?_
  rotate_left
  · intro w hSw
    try dsimp only at hSw
    go_simp
    try with_reducible rfl
  try simp only [Act.put, List.setIfInBounds_toArray, List.set_cons_zero, List.set_cons_succ]
  refine takeH (i := 8) (d := some 14) (v := ?_) rfl rfl (by kernel_rfl) (by kernel_rfl) (by kernel_rfl) (fun _ _ _ h => h) (Or.inl ⟨by rfl, ?_⟩) (by assumption) ?_
  rotate_left
  · intro w hSw
    try dsimp only at hSw
    refine exec_load_at (P := Tryz.prog) (x := .tmp 13) (n := 1) (cs := [.int .i64 r.r0, .int .i64 r.r1, .int .i64 r.r2, .int .i64 r.r3, .int .i64 r.r4, .int .i64 r.r5, .int .i64 r.r6, .int .i64 r.r7]) ?_ ?_ (fun j v hv => by have hj : j < 8 := (List.getElem?_eq_some_iff.1 hv).1; refine (hSw.2.1.cell (1 + j)).trans ?_; rw [← hv]; rcases lt8 hj with rfl | rfl | rfl | rfl | rfl | rfl | rfl | rfl <;> rfl) Tryz.underlying36 ?_ Tryz.sizeReg <;> rfl
  try simp only [Act.put, List.setIfInBounds_toArray, List.set_cons_zero, List.set_cons_succ]
  refine wpAnyH_ready (rs := [9]) (by kernel_rfl) (by simp) ?_
  refine AllReadyH.cons rfl (fun K hK => ?_) AllReadyH.nil
  go_simp
  refine HPT.out.mono ?_
  rintro e w2 ⟨rfl, F2, ha2, hs2⟩
  refine hK.out _ _ ?_ (fun hHeld => ?_)
  · exact ⟨hHeld.1.turns hs2.t HNB.out, hHeld.2.1.turns hs2.t HNR3.out, hHeld.2.2.trans hs2.t⟩
  clear hK K
  try simp only [Act.put, List.setIfInBounds_toArray, List.set_cons_zero, List.set_cons_succ]
  refine wpAnyH_done (by kernel_rfl) ?_ _
  obtain ⟨o2, h3, _, hs3⟩ := HWD.out.stepTab HXX.out ha2 hs2
  have HB2 := Lib.hid hHeld.2.1
  have HE := Lib.hid (And.intro (show WW CX w2 b o2 ps { s with ts := s.ts.set i ⟨x.prog, pc, x.st, x.how, r, x.ins⟩ } from ⟨_, _, _, _, h3⟩) ((Stp.made (F := Own o) (HM.out.trans (Turns.refl (fun _ => False) W).drew)).trans hs3))
  have HN2 := Lib.hid (show ¬ Own o2 w.heap.size from fun h0 => by
    rcases hs3.f _ h0 with h4 | h4
    · exact HNR.out h4
    · exact absurd HO.out.lt (Nat.not_lt.2 h4))
  have q9 := HB2.out.cell 9
  have q10 := HB2.out.cell 10
  have q11 := HB2.out.cell 11
  simp only [List.getElem?_toArray, List.getElem?_cons_zero, List.getElem?_cons_succ] at q9 q10 q11
  clear hHeld ha2 hs2 h3 hs3
  go_wp2_with fail
  go_end0
  exact ⟨rfl, o2, HE.out.1, HE.out.2⟩
set_option maxRecDepth 100000 in
set_option maxHeartbeats 400000 in
theorem walone_told {CX : World → (Nat → Prop) → Prop} {w : World} {b : Wp} {o : Nat → Nat} {ps : List (List Ins)} {s : Wst} {i j : Nat} {x : Tsk} {pc v : Int} {r : Reg} (hx : Ext CX) (h : WW CX w b o ps s) (hts : s.ts[i]? = some x) (hl : s.ts.length ≤ 64) (hst : x.st = 0) (hev : s.ev.length < 1000) :
    Calls Tryz.prog 49 #[.pointer (some ⟨b.pb, 0, none⟩), .int .i64 i, .agg (outA ⟨pc, r, true, v, false⟩)] w fun e w' => e = .returned (.tuple #[]) ∧ ∃ o', WW CX w' b o' ps { { s with ts := s.ts.set i ⟨x.prog, pc, x.st, x.how, r, x.ins⟩ } with ev := s.ev ++ [⟨s.steps, 1, i, v, 0, 0⟩] } ∧ Stp w w' (Own o) (Own o') := by
  have HXX := Lib.hid hx
  have HM := Lib.hid ((Turns.refl (fun _ => False) w).alloc (.cells (outA ⟨pc, r, true, v, false⟩) 125))
  have HO := Lib.hid (Blk.new w 125 (outA ⟨pc, r, true, v, false⟩))
  obtain ⟨vp, vc, vl, ve, h⟩ := h
  have HNR := Lib.hid (show ¬ Own o w.heap.size from fun e => absurd (h.lt _ e) (Nat.lt_irrefl _))
  have HW := Lib.hid (h.made hx HM.out)
  have HTS := Lib.hid (And.intro hts hst)
  have HEV := Lib.hid hev
  clear h hx hts hst hev
  go_enter Tryz.func49, Tryz.ntmps49
  go_wp2_with fail
  generalize w.alloc (.cells (outA ⟨pc, r, true, v, false⟩) 125) = W at *
  have HQ := Lib.hid HW.out.blk
  have HNB := Lib.hid (show ¬ o b.pb = 3 from by rw [HW.out.ob]; omega)
  have HNR3 := Lib.hid (show ¬ o w.heap.size = 3 from fun e => HNR.out (by show o w.heap.size ≠ 0; omega))
  have HWD := Lib.hid (HW.out.made HXX.out (Turns.refl (fun _ => False) W).drew)
  have HPT := Lib.hid (tabput_c (pc := pc) (r := r) HWD.out.tab HTS.out.1 hl HTS.out.2)
  refine wp_region_held_drew (S := fun w' => Blk w' (b.pb) 65 #[vp, .pointer (some ⟨b.pk, 0, none⟩), .pointer (some ⟨b.pt, 0, none⟩), vc, .int .i64 s.made, .pointer (some ⟨b.pm, 0, none⟩), .pointer (some ⟨b.px, 0, none⟩), .pointer (some ⟨b.pd, 0, none⟩), vl, .int .i64 s.steps, ve] ∧ Blk w' (w.heap.size) 125 (outA ⟨pc, r, true, v, false⟩) ∧ Turns (fun k => o k = 3) W w') (by kernel_rfl) ?_ (fun hHeld => ?_)
  · exact ⟨HQ.out, HO.out, (Turns.refl _ W).drew⟩
  refine takeH (i := 0) (d := some 6) (v := ?_) rfl rfl (by kernel_rfl) (by kernel_rfl) (by kernel_rfl) (fun _ _ _ h => h) (Or.inl ⟨by rfl, ?_⟩) (by assumption) ?_
  rotate_left
  · intro w hSw
    try dsimp only at hSw
    go_simp
    try with_reducible rfl
  try simp only [Act.put, List.setIfInBounds_toArray, List.set_cons_zero, List.set_cons_succ]
  refine takeH (i := 1) (d := some 7) (v := ?_) rfl rfl (by kernel_rfl) (by kernel_rfl) (by kernel_rfl) (fun _ _ _ h => h) (Or.inl ⟨by rfl, ?_⟩) (by assumption) ?_
  rotate_left
  · intro w hSw
    try dsimp only at hSw
    go_simp
    try with_reducible rfl
  try simp only [Act.put, List.setIfInBounds_toArray, List.set_cons_zero, List.set_cons_succ]
  refine takeH (i := 2) (d := some 8) (v := ?_) rfl rfl (by kernel_rfl) (by kernel_rfl) (by kernel_rfl) (fun _ _ _ h => h) (Or.inl ⟨by rfl, ?_⟩) (by assumption) ?_
  rotate_left
  · intro w hSw
    try dsimp only at hSw
    go_simp
    try with_reducible rfl
  try simp only [Act.put, List.setIfInBounds_toArray, List.set_cons_zero, List.set_cons_succ]
  refine takeH (i := 3) (d := some 9) (v := ?_) rfl rfl (by kernel_rfl) (by kernel_rfl) (by kernel_rfl) (fun _ _ _ h => h) (Or.inl ⟨by rfl, ?_⟩) (by assumption) ?_
  rotate_left
  · intro w hSw
    try dsimp only at hSw
    have q0_0 := hSw.1.cell 0
    have q0_1 := hSw.1.cell 1
    have q0_2 := hSw.1.cell 2
    have q0_3 := hSw.1.cell 3
    have q0_4 := hSw.1.cell 4
    have q0_5 := hSw.1.cell 5
    have q0_6 := hSw.1.cell 6
    have q0_7 := hSw.1.cell 7
    have q0_8 := hSw.1.cell 8
    have q0_9 := hSw.1.cell 9
    have q0_10 := hSw.1.cell 10
    have q1_0 := hSw.2.1.cell 0
    simp only [List.getElem?_toArray, List.getElem?_cons_zero, List.getElem?_cons_succ] at q0_0 q0_1 q0_2 q0_3 q0_4 q0_5 q0_6 q0_7 q0_8 q0_9 q0_10 q1_0
    go_simp
    try with_reducible rfl
  try simp only [Act.put, List.setIfInBounds_toArray, List.set_cons_zero, List.set_cons_succ]
  refine takeH (i := 4) (d := some 10) (v := ?_) rfl rfl (by kernel_rfl) (by kernel_rfl) (by kernel_rfl) (fun _ _ _ h => h) (Or.inl ⟨by rfl, ?_⟩) (by assumption) ?_
  rotate_left
  · intro w hSw
    try dsimp only at hSw
    go_simp
    try with_reducible rfl
  try simp only [Act.put, List.setIfInBounds_toArray, List.set_cons_zero, List.set_cons_succ]
  refine takeH (i := 5) (d := some 11) (v := ?_) rfl rfl (by kernel_rfl) (by kernel_rfl) (by kernel_rfl) (fun _ _ _ h => h) (Or.inl ⟨by rfl, ?_⟩) (by assumption) ?_
  rotate_left
  · intro w hSw
    try dsimp only at hSw
    go_simp
    try with_reducible rfl
  try simp only [Act.put, List.setIfInBounds_toArray, List.set_cons_zero, List.set_cons_succ]
  refine takeH (i := 6) (d := some 12) (v := ?_) rfl rfl (by kernel_rfl) (by kernel_rfl) (by kernel_rfl) (fun _ _ _ h => h) (Or.inl ⟨by rfl, ?_⟩) (by assumption) ?_
  rotate_left
  · intro w hSw
    try dsimp only at hSw
    have q0_0 := hSw.1.cell 0
    have q0_1 := hSw.1.cell 1
    have q0_2 := hSw.1.cell 2
    have q0_3 := hSw.1.cell 3
    have q0_4 := hSw.1.cell 4
    have q0_5 := hSw.1.cell 5
    have q0_6 := hSw.1.cell 6
    have q0_7 := hSw.1.cell 7
    have q0_8 := hSw.1.cell 8
    have q0_9 := hSw.1.cell 9
    have q0_10 := hSw.1.cell 10
    have q1_0 := hSw.2.1.cell 0
    simp only [List.getElem?_toArray, List.getElem?_cons_zero, List.getElem?_cons_succ] at q0_0 q0_1 q0_2 q0_3 q0_4 q0_5 q0_6 q0_7 q0_8 q0_9 q0_10 q1_0
    go_simp
    try with_reducible rfl
  try simp only [Act.put, List.setIfInBounds_toArray, List.set_cons_zero, List.set_cons_succ]
  refine takeH (i := 7) (d := some 13) (v := ?_) rfl rfl (by kernel_rfl) (by kernel_rfl) (by kernel_rfl) (fun _ _ _ h => h) (Or.inl ⟨by rfl, ?_⟩) (by assumption) ?_
  rotate_left
  · intro w hSw
    try dsimp only at hSw
    go_simp
    try with_reducible rfl
  try simp only [Act.put, List.setIfInBounds_toArray, List.set_cons_zero, List.set_cons_succ]
  refine takeH (i := 8) (d := some 14) (v := ?_) rfl rfl (by kernel_rfl) (by kernel_rfl) (by kernel_rfl) (fun _ _ _ h => h) (Or.inl ⟨by rfl, ?_⟩) (by assumption) ?_
  rotate_left
  · intro w hSw
    try dsimp only at hSw
    refine exec_load_at (P := Tryz.prog) (x := .tmp 13) (n := 1) (cs := [.int .i64 r.r0, .int .i64 r.r1, .int .i64 r.r2, .int .i64 r.r3, .int .i64 r.r4, .int .i64 r.r5, .int .i64 r.r6, .int .i64 r.r7]) ?_ ?_ (fun j v hv => by have hj : j < 8 := (List.getElem?_eq_some_iff.1 hv).1; refine (hSw.2.1.cell (1 + j)).trans ?_; rw [← hv]; rcases lt8 hj with rfl | rfl | rfl | rfl | rfl | rfl | rfl | rfl <;> rfl) Tryz.underlying36 ?_ Tryz.sizeReg <;> rfl
  try simp only [Act.put, List.setIfInBounds_toArray, List.set_cons_zero, List.set_cons_succ]
  refine wpAnyH_ready (rs := [9]) (by kernel_rfl) (by simp) ?_
  refine AllReadyH.cons rfl (fun K hK => ?_) AllReadyH.nil
  go_simp
  refine HPT.out.mono ?_
  rintro e w2 ⟨rfl, F2, ha2, hs2⟩
  refine hK.out _ _ ?_ (fun hHeld => ?_)
  · exact ⟨hHeld.1.turns hs2.t HNB.out, hHeld.2.1.turns hs2.t HNR3.out, hHeld.2.2.trans hs2.t⟩
  clear hK K
  try simp only [Act.put, List.setIfInBounds_toArray, List.set_cons_zero, List.set_cons_succ]
  refine wpAnyH_done (by kernel_rfl) ?_ _
  obtain ⟨o2, h3, _, hs3⟩ := HWD.out.stepTab HXX.out ha2 hs2
  have HB2 := Lib.hid hHeld.2.1
  have HE := Lib.hid (And.intro (show WW CX w2 b o2 ps { s with ts := s.ts.set i ⟨x.prog, pc, x.st, x.how, r, x.ins⟩ } from ⟨_, _, _, _, h3⟩) ((Stp.made (F := Own o) (HM.out.trans (Turns.refl (fun _ => False) W).drew)).trans hs3))
  have HN2 := Lib.hid (show ¬ Own o2 w.heap.size from fun h0 => by
    rcases hs3.f _ h0 with h4 | h4
    · exact HNR.out h4
    · exact absurd HO.out.lt (Nat.not_lt.2 h4))
  have q9 := HB2.out.cell 9
  have q10 := HB2.out.cell 10
  have q11 := HB2.out.cell 11
  simp only [List.getElem?_toArray, List.getElem?_cons_zero, List.getElem?_cons_succ] at q9 q10 q11
  clear hHeld ha2 hs2 h3 hs3
  have HTL := Lib.hid (wtell_c (kind := 1) (who := (i : Int)) (ea := v) (eb := 0) (ec := 0) HXX.out HE.out.1 HEV.out)
  go_wp2_with fail
  refine HTL.out.mono ?_
  rintro e w3 ⟨rfl, o3, h3, hs3⟩
  have q11 := (HB2.out.turns hs3.t HN2.out).cell 11
  simp only [List.getElem?_toArray, List.getElem?_cons_zero, List.getElem?_cons_succ] at q11
  have HE2 := Lib.hid (And.intro h3 (HE.out.2.trans hs3))
  clear h3 hs3 q9 q10
  go_wp2_with fail
  go_end0
  exact ⟨rfl, o3, HE2.out.1, HE2.out.2⟩
set_option maxRecDepth 100000 in
set_option maxHeartbeats 400000 in
theorem walone_end {CX : World → (Nat → Prop) → Prop} {w : World} {b : Wp} {o : Nat → Nat} {ps : List (List Ins)} {s : Wst} {i j : Nat} {x : Tsk} {pc v : Int} {r : Reg} (hx : Ext CX) (h : WW CX w b o ps s) (hts : s.ts[i]? = some x) (hl : s.ts.length ≤ 64) (hst : x.st = 0) (hev : s.ev.length < 1000) (hj : s.rd[j]? = some (i : Int)) (hfj : ∀ k, k < j → s.rd[k]? ≠ some (i : Int)) (hrl : s.rd.length ≤ 1000) :
    Calls Tryz.prog 49 #[.pointer (some ⟨b.pb, 0, none⟩), .int .i64 i, .agg (outA ⟨pc, r, false, v, true⟩)] w fun e w' => e = .returned (.tuple #[]) ∧ ∃ o', WW CX w' b o' ps { { s with ts := s.ts.set i ⟨x.prog, pc, 2, 0, r, ⟨0, 0, 0, 0⟩⟩, rd := s.rd.eraseIdx j } with ev := s.ev ++ [⟨s.steps, 4, i, 0, 0, 0⟩] } ∧ Stp w w' (Own o) (Own o') := by
  have HXX := Lib.hid hx
  have HM := Lib.hid ((Turns.refl (fun _ => False) w).alloc (.cells (outA ⟨pc, r, false, v, true⟩) 125))
  have HO := Lib.hid (Blk.new w 125 (outA ⟨pc, r, false, v, true⟩))
  obtain ⟨vp, vc, vl, ve, h⟩ := h
  have HNR := Lib.hid (show ¬ Own o w.heap.size from fun e => absurd (h.lt _ e) (Nat.lt_irrefl _))
  have HW := Lib.hid (h.made hx HM.out)
  have HTS := Lib.hid (And.intro hts hst)
  have HEV := Lib.hid hev
  have HJ := Lib.hid (And.intro hj (And.intro hfj hrl))
  clear h hx hts hst hev hj hfj hrl
  go_enter Tryz.func49, Tryz.ntmps49
  go_wp2_with fail
  generalize w.alloc (.cells (outA ⟨pc, r, false, v, true⟩) 125) = W at *
  have HQ := Lib.hid HW.out.blk
  have HNB := Lib.hid (show ¬ o b.pb = 3 from by rw [HW.out.ob]; omega)
  have HNR3 := Lib.hid (show ¬ o w.heap.size = 3 from fun e => HNR.out (by show o w.heap.size ≠ 0; omega))
  have HWD := Lib.hid (HW.out.made HXX.out (Turns.refl (fun _ => False) W).drew)
  have HPT := Lib.hid (tabput_c (pc := pc) (r := r) HWD.out.tab HTS.out.1 hl HTS.out.2)
  refine wp_region_held_drew (S := fun w' => Blk w' (b.pb) 65 #[vp, .pointer (some ⟨b.pk, 0, none⟩), .pointer (some ⟨b.pt, 0, none⟩), vc, .int .i64 s.made, .pointer (some ⟨b.pm, 0, none⟩), .pointer (some ⟨b.px, 0, none⟩), .pointer (some ⟨b.pd, 0, none⟩), vl, .int .i64 s.steps, ve] ∧ Blk w' (w.heap.size) 125 (outA ⟨pc, r, false, v, true⟩) ∧ Turns (fun k => o k = 3) W w') (by kernel_rfl) ?_ (fun hHeld => ?_)
  · exact ⟨HQ.out, HO.out, (Turns.refl _ W).drew⟩
  refine takeH (i := 0) (d := some 6) (v := ?_) rfl rfl (by kernel_rfl) (by kernel_rfl) (by kernel_rfl) (fun _ _ _ h => h) (Or.inl ⟨by rfl, ?_⟩) (by assumption) ?_
  rotate_left
  · intro w hSw
    try dsimp only at hSw
    go_simp
    try with_reducible rfl
  try simp only [Act.put, List.setIfInBounds_toArray, List.set_cons_zero, List.set_cons_succ]
  refine takeH (i := 1) (d := some 7) (v := ?_) rfl rfl (by kernel_rfl) (by kernel_rfl) (by kernel_rfl) (fun _ _ _ h => h) (Or.inl ⟨by rfl, ?_⟩) (by assumption) ?_
  rotate_left
  · intro w hSw
    try dsimp only at hSw
    go_simp
    try with_reducible rfl
  try simp only [Act.put, List.setIfInBounds_toArray, List.set_cons_zero, List.set_cons_succ]
  refine takeH (i := 2) (d := some 8) (v := ?_) rfl rfl (by kernel_rfl) (by kernel_rfl) (by kernel_rfl) (fun _ _ _ h => h) (Or.inl ⟨by rfl, ?_⟩) (by assumption) ?_
  rotate_left
  · intro w hSw
    try dsimp only at hSw
    go_simp
    try with_reducible rfl
  try simp only [Act.put, List.setIfInBounds_toArray, List.set_cons_zero, List.set_cons_succ]
  refine takeH (i := 3) (d := some 9) (v := ?_) rfl rfl (by kernel_rfl) (by kernel_rfl) (by kernel_rfl) (fun _ _ _ h => h) (Or.inl ⟨by rfl, ?_⟩) (by assumption) ?_
  rotate_left
  · intro w hSw
    try dsimp only at hSw
    have q0_0 := hSw.1.cell 0
    have q0_1 := hSw.1.cell 1
    have q0_2 := hSw.1.cell 2
    have q0_3 := hSw.1.cell 3
    have q0_4 := hSw.1.cell 4
    have q0_5 := hSw.1.cell 5
    have q0_6 := hSw.1.cell 6
    have q0_7 := hSw.1.cell 7
    have q0_8 := hSw.1.cell 8
    have q0_9 := hSw.1.cell 9
    have q0_10 := hSw.1.cell 10
    have q1_0 := hSw.2.1.cell 0
    simp only [List.getElem?_toArray, List.getElem?_cons_zero, List.getElem?_cons_succ] at q0_0 q0_1 q0_2 q0_3 q0_4 q0_5 q0_6 q0_7 q0_8 q0_9 q0_10 q1_0
    go_simp
    try with_reducible rfl
  try simp only [Act.put, List.setIfInBounds_toArray, List.set_cons_zero, List.set_cons_succ]
  refine takeH (i := 4) (d := some 10) (v := ?_) rfl rfl (by kernel_rfl) (by kernel_rfl) (by kernel_rfl) (fun _ _ _ h => h) (Or.inl ⟨by rfl, ?_⟩) (by assumption) ?_
  rotate_left
  · intro w hSw
    try dsimp only at hSw
    go_simp
    try with_reducible rfl
  try simp only [Act.put, List.setIfInBounds_toArray, List.set_cons_zero, List.set_cons_succ]
  refine takeH (i := 5) (d := some 11) (v := ?_) rfl rfl (by kernel_rfl) (by kernel_rfl) (by kernel_rfl) (fun _ _ _ h => h) (Or.inl ⟨by rfl, ?_⟩) (by assumption) ?_
  rotate_left
  · intro w hSw
    try dsimp only at hSw
    go_simp
    try with_reducible rfl
  try simp only [Act.put, List.setIfInBounds_toArray, List.set_cons_zero, List.set_cons_succ]
  refine takeH (i := 6) (d := some 12) (v := ?_) rfl rfl (by kernel_rfl) (by kernel_rfl) (by kernel_rfl) (fun _ _ _ h => h) (Or.inl ⟨by rfl, ?_⟩) (by assumption) ?_
  rotate_left
  · intro w hSw
    try dsimp only at hSw
    have q0_0 := hSw.1.cell 0
    have q0_1 := hSw.1.cell 1
    have q0_2 := hSw.1.cell 2
    have q0_3 := hSw.1.cell 3
    have q0_4 := hSw.1.cell 4
    have q0_5 := hSw.1.cell 5
    have q0_6 := hSw.1.cell 6
    have q0_7 := hSw.1.cell 7
    have q0_8 := hSw.1.cell 8
    have q0_9 := hSw.1.cell 9
    have q0_10 := hSw.1.cell 10
    have q1_0 := hSw.2.1.cell 0
    simp only [List.getElem?_toArray, List.getElem?_cons_zero, List.getElem?_cons_succ] at q0_0 q0_1 q0_2 q0_3 q0_4 q0_5 q0_6 q0_7 q0_8 q0_9 q0_10 q1_0
    go_simp
    try with_reducible rfl
  try simp only [Act.put, List.setIfInBounds_toArray, List.set_cons_zero, List.set_cons_succ]
  refine takeH (i := 7) (d := some 13) (v := ?_) rfl rfl (by kernel_rfl) (by kernel_rfl) (by kernel_rfl) (fun _ _ _ h => h) (Or.inl ⟨by rfl, ?_⟩) (by assumption) ?_
  rotate_left
  · intro w hSw
    try dsimp only at hSw
    go_simp
    try with_reducible rfl
  try simp only [Act.put, List.setIfInBounds_toArray, List.set_cons_zero, List.set_cons_succ]
  refine takeH (i := 8) (d := some 14) (v := ?_) rfl rfl (by kernel_rfl) (by kernel_rfl) (by kernel_rfl) (fun _ _ _ h => h) (Or.inl ⟨by rfl, ?_⟩) (by assumption) ?_
  rotate_left
  · intro w hSw
    try dsimp only at hSw
    refine exec_load_at (P := Tryz.prog) (x := .tmp 13) (n := 1) (cs := [.int .i64 r.r0, .int .i64 r.r1, .int .i64 r.r2, .int .i64 r.r3, .int .i64 r.r4, .int .i64 r.r5, .int .i64 r.r6, .int .i64 r.r7]) ?_ ?_ (fun j v hv => by have hj : j < 8 := (List.getElem?_eq_some_iff.1 hv).1; refine (hSw.2.1.cell (1 + j)).trans ?_; rw [← hv]; rcases lt8 hj with rfl | rfl | rfl | rfl | rfl | rfl | rfl | rfl <;> rfl) Tryz.underlying36 ?_ Tryz.sizeReg <;> rfl
  try simp only [Act.put, List.setIfInBounds_toArray, List.set_cons_zero, List.set_cons_succ]
  refine wpAnyH_ready (rs := [9]) (by kernel_rfl) (by simp) ?_
  refine AllReadyH.cons rfl (fun K hK => ?_) AllReadyH.nil
  go_simp
  refine HPT.out.mono ?_
  rintro e w2 ⟨rfl, F2, ha2, hs2⟩
  refine hK.out _ _ ?_ (fun hHeld => ?_)
  · exact ⟨hHeld.1.turns hs2.t HNB.out, hHeld.2.1.turns hs2.t HNR3.out, hHeld.2.2.trans hs2.t⟩
  clear hK K
  try simp only [Act.put, List.setIfInBounds_toArray, List.set_cons_zero, List.set_cons_succ]
  refine wpAnyH_done (by kernel_rfl) ?_ _
  obtain ⟨o2, h3, _, hs3⟩ := HWD.out.stepTab HXX.out ha2 hs2
  have HB2 := Lib.hid hHeld.2.1
  have HE := Lib.hid (And.intro (show WW CX w2 b o2 ps { s with ts := s.ts.set i ⟨x.prog, pc, x.st, x.how, r, x.ins⟩ } from ⟨_, _, _, _, h3⟩) ((Stp.made (F := Own o) (HM.out.trans (Turns.refl (fun _ => False) W).drew)).trans hs3))
  have HN2 := Lib.hid (show ¬ Own o2 w.heap.size from fun h0 => by
    rcases hs3.f _ h0 with h4 | h4
    · exact HNR.out h4
    · exact absurd HO.out.lt (Nat.not_lt.2 h4))
  have q9 := HB2.out.cell 9
  have q10 := HB2.out.cell 10
  have q11 := HB2.out.cell 11
  simp only [List.getElem?_toArray, List.getElem?_cons_zero, List.getElem?_cons_succ] at q9 q10 q11
  clear hHeld ha2 hs2 h3 hs3
  have q2 : w2.cell? ⟨b.pb, 2, none⟩ = some (.pointer (some ⟨b.pt, 0, none⟩)) := by obtain ⟨_, _, _, _, h4⟩ := HE.out.1; exact h4.blk.cell 2
  have HEN := Lib.hid (show Calls Tryz.prog 51 #[.pointer (some ⟨b.pt, 0, none⟩), .int .i64 i, .int .i64 0] w2 fun e w' => e = .returned (.int .i64 0) ∧ ∃ o', WW CX w' b o' ps { s with ts := s.ts.set i ⟨x.prog, pc, 2, 0, r, ⟨0, 0, 0, 0⟩⟩, rd := s.rd.eraseIdx j } ∧ Stp w2 w' (Own o2) (Own o') from by
    obtain ⟨vp4, vc4, vl4, ve4, h4⟩ := HE.out.1
    refine (tabend_c (how := 0) (x := ⟨x.prog, pc, x.st, x.how, r, x.ins⟩) h4.tab (by show (s.ts.set i _)[i]? = _; exact List.getElem?_set_self (List.getElem?_eq_some_iff.1 HTS.out.1).1) (by show (s.ts.set i _).length ≤ 64; rw [List.length_set]; exact hl) HTS.out.2 HJ.out.1 HJ.out.2.1 HJ.out.2.2).mono ?_
    rintro e w5 ⟨rfl, F5, hT5, hs5⟩
    obtain ⟨o5, h5, _, hst5⟩ := h4.stepTab HXX.out hT5 hs5
    refine ⟨rfl, o5, ⟨vp4, vc4, vl4, ve4, ?_⟩, hst5⟩
    simpa using h5)
  go_wp2_with fail
  refine HEN.out.mono ?_
  rintro e w3 ⟨rfl, o3, h3, hs3⟩
  have HTL := Lib.hid (wtell_c (kind := 4) (who := (i : Int)) (ea := 0) (eb := 0) (ec := 0) HXX.out h3 HEV.out)
  have HZ3 := Lib.hid hs3
  clear h3 hs3 q9 q10 q11 q2
  go_wp2_with fail
  refine HTL.out.mono ?_
  rintro e w4 ⟨rfl, o4, h4, hs4⟩
  have HE2 := Lib.hid (And.intro h4 ((HE.out.2.trans HZ3.out).trans hs4))
  clear h4 hs4
  go_wp2_with fail
  go_end0
  exact ⟨rfl, o4, HE2.out.1, HE2.out.2⟩
end Go.Proofs.YtjnkphhlkoapbaaGreat
namespace Go.Proofs.YtjnkphhlkoapbaaGreat
open Go.RowKit
set_option linter.unusedVariables false
set_option linter.unusedSimpArgs false
theorem Tryz.infoLk : (Tryz.prog.info? 123).map (fun i => (i.zero, i.size, i.bytes)) = some (some (.agg #[.slice none 0 0, .int .i64 0]), 2, 32) := by kernel_rfl
theorem WW.cell2 {CX : World → (Nat → Prop) → Prop} {w : World} {b : Wp} {o : Nat → Nat} {ps : List (List Ins)} {s : Wst} (h : WW CX w b o ps s) : w.cell? ⟨b.pb, 2, none⟩ = some (.pointer (some ⟨b.pt, 0, none⟩)) := by
  obtain ⟨vp, vc, vl, ve, h⟩ := h
  exact h.blk.cell 2
set_option maxRecDepth 100000 in
set_option maxHeartbeats 1000000 in
theorem wrun_none {CX : World → (Nat → Prop) → Prop} {w : World} {b : Wp} {o : Nat → Nat} {ps : List (List Ins)} {s : Wst} {n d : Int} (hx : Ext CX) (h : WW CX w b o ps s) (hrd : s.rd = []) (hrl : s.rd.length ≤ 1000) (hnl : s.nl < 900000) :
    Calls Tryz.prog 26 #[.pointer (some ⟨b.pb, 0, none⟩), .int .i64 n, .int .i64 d] w fun e w' => e = .returned (.tuple #[]) ∧ ∃ o', WW CX w' b o' ps { s with nl := s.nl + 1 } ∧ Stp w w' (Own o) (Own o') := by
  obtain ⟨i0, hi0, hz0, hz1, hz2⟩ := info_parts Tryz.infoLk
  have HXX := Lib.hid hx
  have HH := Lib.hid h
  have q2 := h.cell2
  have HRL := Lib.hid hrl
  have HNL := Lib.hid hnl
  have HRD := Lib.hid hrd
  have HRY : Hid _ := Lib.hid (show Calls Tryz.prog 46 #[.pointer (some ⟨b.pt, 0, none⟩)] w _ from by obtain ⟨vp, vc, vl, ve, h1⟩ := h; exact tabready_c h1.tab hrl)
  clear h hx hrl hnl hrd
  go_enter Tryz.func26, Tryz.ntmps26
  go_wp2_with fail
  refine HRY.out.mono ?_
  rintro e w1 ⟨v1, rfl, hro1, hm1, hrf1⟩
  have HM1 := Lib.hid hm1
  have HW1 := Lib.hid (HH.out.made HXX.out hm1)
  obtain ⟨a1, c1, rfl⟩ := owns_slice hro1
  have HR1 := Lib.hid (And.intro hro1 hrf1)
  have q2 := HW1.out.cell2
  clear hm1 hro1 hrf1
  have HPK : Hid _ := Lib.hid (show Calls Tryz.prog 47 #[.pointer (some ⟨b.pt, 0, none⟩), .int .i64 n] w1 _ from by obtain ⟨vp, vc, vl, ve, h1⟩ := HW1.out; have ht := h1.tab; rw [HRD.out] at ht; exact tabpick_none n ht)
  go_wp2_with fail
  refine HPK.out.mono ?_
  rintro e w2 ⟨rfl, rfl⟩
  clear HPK
  obtain ⟨w2, hw2⟩ : ∃ w2, w2 = w1 := ⟨_, rfl⟩
  rw [← hw2]
  rw [← hw2] at HM1 HW1 HR1 q2
  clear hw2 w1
  have HW2 := HW1
  obtain ⟨vp, vc, vl, ve, h2⟩ := HW2.out
  obtain ⟨ls, hl1, hl2⟩ := h2.lrow
  have HL1 := Lib.hid hl1
  have q8 : w2.cell? ⟨b.pb, 8, none⟩ = some vl := h2.blk.cell 8
  have HMX := Lib.hid ((Turns.refl (fun _ => False) w2).alloc (.cells (lkC ⟨(a1, s.rd.length, c1), (-1)⟩).toArray 123))
  have HBX := Lib.hid (Blk.new w2 123 (lkC ⟨(a1, s.rd.length, c1), (-1)⟩).toArray)
  have HOX := Lib.hid (hl2.made HMX.out)
  have HA2 := Lib.hid h2
  have HLL := Lib.hid (show ls.length + 1 ≤ 1000000 from by rw [hl1]; have := HNL.out; omega)
  clear h2 hl1 hl2
  go_wp2_with (at_builtin; refine wpList_push rfl (.tmp 35) (.tmp 38) _ rfl i0 _ 32 Tryz.underlying63 hi0 hz0 hz1 hz2 rfl (by omega) lkC_len lkC_one rfl HOX.out ⟨(a1, s.rd.length, c1), (-1)⟩ rfl HBX.out HLL.out (by omega) ?_; intro v3 w3 hO3 hT3 hV3; have hb3 := (HA2.out.blk.turns HMX.out (fun h => h)).turns hT3 (fun e => by have h9 := (HA2.out.lo _).1 e; rw [HA2.out.ob] at h9; omega); have HR := Lib.hid (HA2.out.pushLk HXX.out HL1.out HMX.out hO3 hT3 hV3); obtain ⟨a3, c3, rfl⟩ := owns_slice hO3; have r8 := hb3.cell 8; have f8 := hb3.free 8; simp only [List.getElem?_toArray, List.getElem?_cons_zero, List.getElem?_cons_succ] at r8; clear hO3 hT3 hV3 hb3)
  go_returns
  obtain ⟨o', h1, h2⟩ := HR.out
  exact ⟨rfl, o', ⟨_, _, _, _, by simpa using h1⟩, by simpa using (Stp.made (F := Own o) HM1.out).trans h2⟩
def outC (o : LOut) : List Value := [.int .i64 o.pc, .int .i64 o.regs.r0, .int .i64 o.regs.r1, .int .i64 o.regs.r2, .int .i64 o.regs.r3, .int .i64 o.regs.r4, .int .i64 o.regs.r5, .int .i64 o.regs.r6, .int .i64 o.regs.r7, .bool o.told, .int .i64 o.value, .bool o.ended]
theorem outC_one (x : LOut) : ∀ u ∈ outC x, u.oneCell' = true := by
  intro u hu
  simp only [outC, List.mem_cons, List.not_mem_nil, or_false] at hu
  rcases hu with rfl | rfl | rfl | rfl | rfl | rfl | rfl | rfl | rfl | rfl | rfl | rfl <;> rfl
theorem Tryz.sizeOut : (Tryz.prog.info? 125).map (·.size) = some 12 := by kernel_rfl
structure Sel (ps : List (List Ins)) (s : Wst) (n : Int) (j i : Nat) (x : Tsk) (p : List Ins) (pg pc : Nat) : Prop where
  hj : pickZ n s.rd.length = j
  hi : s.rd[j]? = some (i : Int)
  hx : s.ts[i]? = some x
  hp : x.prog = pg
  hps : ps[pg]? = some p
  hpc : x.pc = pc
  st : x.st = 0
  tl : s.ts.length ≤ 64
  pl : ps.length ≤ 16
  il : p.length ≤ 100
set_option maxRecDepth 100000 in
set_option maxHeartbeats 4000000 in
theorem wrun_local {CX : World → (Nat → Prop) → Prop} {w : World} {b : Wp} {o : Nat → Nat} {ps : List (List Ins)} {s : Wst} {n d : Int} {j i pg pc : Nat} {x : Tsk} {p : List Ins} {O : LOut} {s' : Wst} (hx : Ext CX) (h : WW CX w b o ps s) (hsl : Sel ps s n j i x p pg pc) (hrl : s.rd.length ≤ 1000) (hnl : s.nl < 900000)
    (hl : ∀ (w1 : World) (a : Option Addr) (ci : Nat), RowIn insC 6 w1 a p.length p → Calls Tryz.prog 48 #[.slice a p.length ci, .int .i64 pc, regV x.regs, .int .i64 s.now] w1 fun e w' => e = .returned (.tuple #[.agg (outA O), .int .i64 0]) ∧ Made w1 w')
    (ha : ∀ (w1 : World) (o1 : Nat → Nat), WW CX w1 b o1 ps { s with nl := s.nl + 1 } → Calls Tryz.prog 49 #[.pointer (some ⟨b.pb, 0, none⟩), .int .i64 i, .agg (outA O)] w1 fun e w' => e = .returned (.tuple #[]) ∧ ∃ o', WW CX w' b o' ps s' ∧ Stp w1 w' (Own o1) (Own o')) :
    Calls Tryz.prog 26 #[.pointer (some ⟨b.pb, 0, none⟩), .int .i64 n, .int .i64 d] w fun e w' => e = .returned (.tuple #[]) ∧ ∃ o', WW CX w' b o' ps s' ∧ Stp w w' (Own o) (Own o') := by
  obtain ⟨i0, hi0, hz0, hz1, hz2⟩ := info_parts Tryz.infoLk
  have HLD := Lib.hid hl
  have HAL := Lib.hid ha
  clear hl ha
  have HXX := Lib.hid hx
  have HH := Lib.hid h
  have q2 := h.cell2
  have HRL := Lib.hid hrl
  have HNL := Lib.hid hnl
  have HSL := Lib.hid hsl
  have HRY : Hid _ := Lib.hid (show Calls Tryz.prog 46 #[.pointer (some ⟨b.pt, 0, none⟩)] w _ from by obtain ⟨vp, vc, vl, ve, h1⟩ := h; exact tabready_c h1.tab hrl)
  clear h hx hrl hnl hsl
  go_enter Tryz.func26, Tryz.ntmps26
  go_wp2_with fail
  refine HRY.out.mono ?_
  rintro e w1 ⟨v1, rfl, hro1, hm1, hrf1⟩
  have HM1 := Lib.hid hm1
  have HW1 := Lib.hid (HH.out.made HXX.out hm1)
  obtain ⟨a1, c1, rfl⟩ := owns_slice hro1
  have HR1 := Lib.hid (And.intro hro1 hrf1)
  have q2 := HW1.out.cell2
  clear hm1 hro1 hrf1
  have HPK : Hid _ := Lib.hid (show Calls Tryz.prog 47 #[.pointer (some ⟨b.pt, 0, none⟩), .int .i64 n] w1 _ from by obtain ⟨vp, vc, vl, ve, h1⟩ := HW1.out; exact tabpick_c n h1.tab HSL.out.hj HSL.out.hi HRL.out)
  go_wp2_with fail
  refine HPK.out.mono ?_
  rintro e w2 ⟨rfl, hm2⟩
  have HW2 := Lib.hid (HW1.out.made HXX.out hm2)
  have HM2 := Lib.hid (HM1.out.trans hm2)
  have q2 := HW2.out.cell2
  clear hm2
  obtain ⟨vp, vc, vl, ve, h2⟩ := HW2.out
  obtain ⟨ls, hl1, hl2⟩ := h2.lrow
  have HL1 := Lib.hid hl1
  have q8 : w2.cell? ⟨b.pb, 8, none⟩ = some vl := h2.blk.cell 8
  have HMX := Lib.hid ((Turns.refl (fun _ => False) w2).alloc (.cells (lkC ⟨(a1, s.rd.length, c1), (i : Int)⟩).toArray 123))
  have HBX := Lib.hid (Blk.new w2 123 (lkC ⟨(a1, s.rd.length, c1), (i : Int)⟩).toArray)
  have HOX := Lib.hid (hl2.made HMX.out)
  have HA2 := Lib.hid h2
  have HLL := Lib.hid (show ls.length + 1 ≤ 1000000 from by rw [hl1]; have := HNL.out; omega)
  clear h2 hl1 hl2
  go_wp2_with (at_builtin; refine wpList_push rfl (.tmp 46) (.tmp 50) _ rfl i0 _ 32 Tryz.underlying63 hi0 hz0 hz1 hz2 rfl (by omega) lkC_len lkC_one rfl HOX.out ⟨(a1, s.rd.length, c1), (i : Int)⟩ rfl HBX.out HLL.out (by omega) ?_; intro v3 w3 hO3 hT3 hV3; have hb3 := (HA2.out.blk.turns HMX.out (fun h => h)).turns hT3 (fun e => by have h9 := (HA2.out.lo _).1 e; rw [HA2.out.ob] at h9; omega); have HR := Lib.hid (HA2.out.pushLk HXX.out HL1.out HMX.out hO3 hT3 hV3); obtain ⟨a3, c3, rfl⟩ := owns_slice hO3; have r8 := hb3.cell 8; have f8 := hb3.free 8; have r2 := hb3.cell 2; simp only [List.getElem?_toArray, List.getElem?_cons_zero, List.getElem?_cons_succ] at r8 r2; clear hO3 hT3 hV3 hb3)
  obtain ⟨o3, hw3, hs3⟩ := HR.out
  simp only [List.length_append, List.length_cons, List.length_nil, Nat.zero_add] at hw3 hs3
  have HW3 := Lib.hid (show WW CX _ b o3 ps { s with nl := s.nl + 1 } from ⟨_, _, _, _, hw3⟩)
  have HS3 := Lib.hid ((Stp.made (F := Own o) HM2.out).trans hs3)
  have HGT := Lib.hid (tabget_c hw3.tab HSL.out.hx HSL.out.tl)
  clear hw3 hs3 HR r2 r8 f8 q8 q2
  generalize w3.setCell ⟨b.pb, 8, none⟩ (.slice a3 (ls.length + 1) c3) = W3 at *
  refine HGT.out.mono ?_
  rintro e w4 ⟨rfl, hm4⟩
  have HW4 := Lib.hid (HW3.out.made HXX.out hm4)
  have HS4 := Lib.hid (HS3.out.then_made hm4)
  have HN4 := Lib.hid (show ¬ Own o3 w4.heap.size from fun h0 => absurd (HW4.out.lt _ h0) (Nat.lt_irrefl _))
  clear hm4
  go_upto_region 6 with (first
    | (refine wpList_store_blk (o := ⟨none, .store 38 (.tmp 9) (.tmp 61), _, _, _, _⟩) rfl _ _ _ rfl rfl _ rfl (tskC x) ([.int .i64 0, .int .i64 0, .int .i64 0, .int .i64 0, .int .i64 0, .int .i64 0, .int .i64 0, .int .i64 0, .int .i64 0, .int .i64 0, .int .i64 0, .int .i64 0, .int .i64 0, .int .i64 0, .int .i64 0, .int .i64 0, .slice none 0 0, .bool false]) 38 rfl (Blk.new _ _ _) rfl (tskC_one x) Tryz.sizeTsk ?_; intro w5 hb5 ht5; have HB5 := Lib.hid hb5; have HT5 := Lib.hid ht5; clear hb5 ht5)
    | fail)
  have HM5 := Lib.hid (show Made w4 w5 from ((Turns.refl (fun _ => False) w4).alloc _).then HT5.out (fun b hb e => by omega))
  obtain ⟨vp, vc5, vl5, ve5, hw5⟩ := HW4.out.made HXX.out HM5.out
  obtain ⟨gp, cp, rfl, hog, hgl, hget⟩ := hw5.prs.ex
  obtain ⟨ap, ci, hcp, hrow, hown⟩ := hget pg p HSL.out.hps
  have HW5 := Lib.hid (show WW CX w5 b o3 ps { s with nl := s.nl + 1 } from ⟨_, _, _, _, hw5⟩)
  have HRW := Lib.hid hrow
  have qz0 : w5.cell? ⟨b.pb, 0, none⟩ = some (.slice (some ⟨gp, 0, none⟩) ps.length cp) := hw5.blk.cell 0
  have y0 : w5.cell? ⟨w4.heap.size, 0, none⟩ = some (.int .i64 x.prog) := HB5.out.cell 0
  rw [HSL.out.hp] at y0
  have hpg : pg < ps.length := (List.getElem?_eq_some_iff.1 HSL.out.hps).1
  have j1 : (0 : Int) ≤ (pg : Int) := by omega
  have j2 : (pg : Int) < (ps.length : Int) := by omega
  have HS5 := Lib.hid (HS4.out.then_made HM5.out)
  clear hw5 hog hgl hget hrow hown
  go_quiet (fail)
  go_upto_region 7 with fail
  have HWQ := Lib.hid (HW5.out.made HXX.out ((Turns.refl _ w5).drewN nq))
  have HBQ := Lib.hid (HB5.out.turns ((Turns.refl (fun _ => False) w5).drewN nq) (fun h => h))
  have HRQ := Lib.hid (HRW.out.turns ((Turns.refl (fun _ => False) w5).drewN nq) (fun _ _ _ h => h))
  have HSQ := Lib.hid (HS5.out.then_made ((Turns.refl (fun _ => False) w5).drewN nq))
  have HPQ : Hid (w4.heap.size < (w5.drewN nq).heap.size) := Lib.hid HB5.out.lt
  clear y0 qz0 hcp HB5 HW5 HRW HS5 HM5
  generalize w5.drewN nq = W at *
  go_cut [12, 13] (fun v12 v13 wx => ∃ gO : Nat, v12 = .pointer (some ⟨gO, 0, none⟩) ∧ v13 = .int .i64 0 ∧ Made W wx ∧ Blk wx gO 125 (outA O) ∧ W.heap.size ≤ gO)
  case first =>
    refine wp_region_held_drew (S := fun w' => Blk w' w4.heap.size 38 (tskC x).toArray ∧ Made W w') (by kernel_rfl) ?_ (fun hHeld => ?_)
    · exact ⟨HBQ.out, (Turns.refl (fun _ => False) W).drew⟩
    refine takeH (i := 0) (d := some 72) (v := ?_) rfl rfl (by kernel_rfl) (by kernel_rfl) (by kernel_rfl) (fun _ _ _ h => h) (Or.inl ⟨by rfl, ?_⟩) (by assumption) ?_
    rotate_left
    · intro w hSw
      try dsimp only at hSw
      go_simp
      try with_reducible rfl
    try simp only [Act.put, List.setIfInBounds_toArray, List.set_cons_zero, List.set_cons_succ]
    refine takeH (i := 1) (d := some 73) (v := ?_) rfl rfl (by kernel_rfl) (by kernel_rfl) (by kernel_rfl) (fun _ _ _ h => h) (Or.inl ⟨by rfl, ?_⟩) (by assumption) ?_
    rotate_left
    · intro w hSw
      try dsimp only at hSw
      go_simp
      try with_reducible rfl
    try simp only [Act.put, List.setIfInBounds_toArray, List.set_cons_zero, List.set_cons_succ]
    refine takeH (i := 2) (d := some 74) (v := ?_) rfl rfl (by kernel_rfl) (by kernel_rfl) (by kernel_rfl) (fun _ _ _ h => h) (Or.inl ⟨by rfl, ?_⟩) (by assumption) ?_
    rotate_left
    · intro w hSw
      try dsimp only at hSw
      have q0 := hSw.1.cell 1
      simp only [tskC, List.getElem?_toArray, List.getElem?_cons_zero, List.getElem?_cons_succ] at q0
      rw [HSL.out.hpc] at q0
      go_simp
      try with_reducible rfl
    try simp only [Act.put, List.setIfInBounds_toArray, List.set_cons_zero, List.set_cons_succ]
    refine takeH (i := 3) (d := some 75) (v := ?_) rfl rfl (by kernel_rfl) (by kernel_rfl) (by kernel_rfl) (fun _ _ _ h => h) (Or.inl ⟨by rfl, ?_⟩) (by assumption) ?_
    rotate_left
    · intro w hSw
      try dsimp only at hSw
      go_simp
      try with_reducible rfl
    try simp only [Act.put, List.setIfInBounds_toArray, List.set_cons_zero, List.set_cons_succ]
    refine takeH (i := 4) (d := some 76) (v := ?_) rfl rfl (by kernel_rfl) (by kernel_rfl) (by kernel_rfl) (fun _ _ _ h => h) (Or.inl ⟨by rfl, ?_⟩) (by assumption) ?_
    rotate_left
    · intro w hSw
      try dsimp only at hSw
      refine exec_load_at (P := Tryz.prog) (x := .tmp 75) (n := 4) (cs := [.int .i64 x.regs.r0, .int .i64 x.regs.r1, .int .i64 x.regs.r2, .int .i64 x.regs.r3, .int .i64 x.regs.r4, .int .i64 x.regs.r5, .int .i64 x.regs.r6, .int .i64 x.regs.r7]) ?_ ?_ (fun j v hv => by have hj : j < 8 := (List.getElem?_eq_some_iff.1 hv).1; refine (hSw.1.cell (4 + j)).trans ?_; rw [← hv]; rcases lt8 hj with rfl | rfl | rfl | rfl | rfl | rfl | rfl | rfl <;> rfl) Tryz.underlying36 ?_ Tryz.sizeReg <;> rfl
    try simp only [Act.put, List.setIfInBounds_toArray, List.set_cons_zero, List.set_cons_succ]
    refine takeH (i := 5) (d := some 77) (v := ?_) rfl rfl (by kernel_rfl) (by kernel_rfl) (by kernel_rfl) (fun _ _ _ h => h) (Or.inl ⟨by rfl, ?_⟩) (by assumption) ?_
    rotate_left
    · intro w hSw
      try dsimp only at hSw
      go_simp
      try with_reducible rfl
    try simp only [Act.put, List.setIfInBounds_toArray, List.set_cons_zero, List.set_cons_succ]
    refine wpAnyH_ready (rs := [6, 11]) (by kernel_rfl) (by simp) ?_
    refine AllReadyH.cons rfl (fun K hK => ?_) ?_
    · as_aux_lemma =>
        go_simp
        refine (wnow_c (HWQ.out.made HXX.out hHeld.2)).mono ?_
        rintro e wN ⟨rfl, rfl⟩
        refine hK.out _ _ ?_ (fun hHeld => ?_)
        · exact hHeld
        clear hK K
        try simp only [Act.put, List.setIfInBounds_toArray, List.set_cons_zero, List.set_cons_succ]
        refine wpAnyH_ready (rs := [7, 11]) (by kernel_rfl) (by simp) ?_
        refine AllReadyH.cons rfl (fun K hK => ?_) ?_
        · as_aux_lemma =>
            go_simp
            refine (HLD.out _ _ _ (HRQ.out.turns hHeld.2 (fun _ _ _ h => h))).mono ?_
            rintro e wG ⟨rfl, hmG⟩
            refine hK.out _ _ ?_ (fun hHeld => ?_)
            · exact ⟨hHeld.1.turns hmG (fun h => h), hHeld.2.trans hmG⟩
            clear hK K
            try simp only [Act.put, List.setIfInBounds_toArray, List.set_cons_zero, List.set_cons_succ]
            refine takeH (i := 8) (d := some 71) (v := ?_) rfl rfl (by kernel_rfl) (by kernel_rfl) (by kernel_rfl) (fun _ _ _ h => h) (Or.inl ⟨by rfl, ?_⟩) (by assumption) ?_
            rotate_left
            · intro w hSw
              try dsimp only at hSw
              go_simp
              try with_reducible rfl
            try simp only [Act.put, List.setIfInBounds_toArray, List.set_cons_zero, List.set_cons_succ]
            refine takeH (i := 9) (d := some 80) (v := ?_) rfl rfl (by kernel_rfl) (by kernel_rfl) (by kernel_rfl) (fun _ _ _ h => h) (Or.inl ⟨by rfl, ?_⟩) (by assumption) ?_
            rotate_left
            · intro w hSw
              try dsimp only at hSw
              go_simp
              try with_reducible rfl
            try simp only [Act.put, List.setIfInBounds_toArray, List.set_cons_zero, List.set_cons_succ]
            refine takeH (i := 10) (d := some 81) (v := ?_) rfl rfl (by kernel_rfl) (by kernel_rfl) (by kernel_rfl) (fun _ _ _ h => h) (Or.inl ⟨by rfl, ?_⟩) (by assumption) ?_
            rotate_left
            · intro w hSw
              try dsimp only at hSw
              go_simp
              try with_reducible rfl
            try simp only [Act.put, List.setIfInBounds_toArray, List.set_cons_zero, List.set_cons_succ]
            refine wpAnyH_ready (rs := [11]) (by kernel_rfl) (by simp) ?_
            refine AllReadyH.cons rfl (fun K hK => ?_) AllReadyH.nil
            go_simp
            refine hK.out _ _ ?_ (fun hHeld => ?_)
            · exact ⟨hHeld.1.alloc _, hHeld.2.alloc _⟩
            clear hK K
            try simp only [Act.put, List.setIfInBounds_toArray, List.set_cons_zero, List.set_cons_succ]
            have HZ := Blk.new wG 125 [.int .i64 0, .int .i64 0, .int .i64 0, .int .i64 0, .int .i64 0, .int .i64 0, .int .i64 0, .int .i64 0, .int .i64 0, .bool false, .int .i64 0, .bool false].toArray
            have HG6 : W.heap.size ≤ wG.heap.size := hmG.size
            refine wpAnyH_ready (rs := [12]) (by kernel_rfl) (by simp) ?_
            refine AllReadyH.cons rfl (fun K hK => ?_) AllReadyH.nil
            refine step_store_mid rfl rfl _ _ _ (by rfl) (by rfl) (outC O) [] [.int .i64 0, .int .i64 0, .int .i64 0, .int .i64 0, .int .i64 0, .int .i64 0, .int .i64 0, .int .i64 0, .int .i64 0, .bool false, .int .i64 0, .bool false] [] (by rfl) (t := 125) (show Blk _ _ _ _ from by simpa using HZ) (by rfl) (by rfl) (outC_one _) Tryz.sizeOut ?_
            intro wS hbS htS
            refine hK.out _ _ ?_ (fun hHeld => ?_)
            · exact ⟨hHeld.1.turns htS (fun e => by have := HPQ.out; omega), hHeld.2.then htS (fun k hk e => by omega)⟩
            clear hK K
            try simp only [Act.put, List.setIfInBounds_toArray, List.set_cons_zero, List.set_cons_succ]
            refine takeH (i := 13) (d := some 13) (v := ?_) rfl rfl (by kernel_rfl) (by kernel_rfl) (by kernel_rfl) (fun _ _ _ h => h) (Or.inl ⟨by rfl, ?_⟩) (by assumption) ?_
            rotate_left
            · intro w hSw
              try dsimp only at hSw
              go_simp
              try with_reducible rfl
            try simp only [Act.put, List.setIfInBounds_toArray, List.set_cons_zero, List.set_cons_succ]
            refine wpAnyH_done (by kernel_rfl) ?_ _
            have HS := Lib.hid hHeld.2
            have HB6 : Hid (Blk wS _ 125 (outA O)) := Lib.hid (by simpa [outC] using hbS)
            have HG7 := Lib.hid HG6
            clear hHeld hbS htS HZ HG6
            go_wp2_with fail
            go_meet
            exact ⟨_, rfl, rfl, HS.out, HB6.out, HG7.out⟩
        refine AllReadyH.cons rfl (fun K hK => ?_) ?_
        · as_aux_lemma =>
            go_simp
            refine hK.out _ _ ?_ (fun hHeld => ?_)
            · exact ⟨hHeld.1.alloc _, hHeld.2.alloc _⟩
            clear hK K
            try simp only [Act.put, List.setIfInBounds_toArray, List.set_cons_zero, List.set_cons_succ]
            have HZ : Blk (W.drew.alloc (.cells [.int .i64 0, .int .i64 0, .int .i64 0, .int .i64 0, .int .i64 0, .int .i64 0, .int .i64 0, .int .i64 0, .int .i64 0, .bool false, .int .i64 0, .bool false].toArray 125)) W.drew.heap.size 125 [.int .i64 0, .int .i64 0, .int .i64 0, .int .i64 0, .int .i64 0, .int .i64 0, .int .i64 0, .int .i64 0, .int .i64 0, .bool false, .int .i64 0, .bool false].toArray := Blk.new W.drew 125 [.int .i64 0, .int .i64 0, .int .i64 0, .int .i64 0, .int .i64 0, .int .i64 0, .int .i64 0, .int .i64 0, .int .i64 0, .bool false, .int .i64 0, .bool false].toArray
            have HG6 : W.heap.size ≤ W.drew.heap.size := Nat.le_refl _
            refine wpAnyH_ready (rs := [7]) (by kernel_rfl) (by simp) ?_
            refine AllReadyH.cons rfl (fun K hK => ?_) AllReadyH.nil
            go_simp
            refine (HLD.out _ _ _ (HRQ.out.turns hHeld.2 (fun _ _ _ h => h))).mono ?_
            rintro e wG ⟨rfl, hmG⟩
            refine hK.out _ _ ?_ (fun hHeld => ?_)
            · exact ⟨hHeld.1.turns hmG (fun h => h), hHeld.2.trans hmG⟩
            clear hK K
            try simp only [Act.put, List.setIfInBounds_toArray, List.set_cons_zero, List.set_cons_succ]
            replace HZ := HZ.turns hmG (fun h => h)
            refine takeH (i := 8) (d := some 71) (v := ?_) rfl rfl (by kernel_rfl) (by kernel_rfl) (by kernel_rfl) (fun _ _ _ h => h) (Or.inl ⟨by rfl, ?_⟩) (by assumption) ?_
            rotate_left
            · intro w hSw
              try dsimp only at hSw
              go_simp
              try with_reducible rfl
            try simp only [Act.put, List.setIfInBounds_toArray, List.set_cons_zero, List.set_cons_succ]
            refine takeH (i := 9) (d := some 80) (v := ?_) rfl rfl (by kernel_rfl) (by kernel_rfl) (by kernel_rfl) (fun _ _ _ h => h) (Or.inl ⟨by rfl, ?_⟩) (by assumption) ?_
            rotate_left
            · intro w hSw
              try dsimp only at hSw
              go_simp
              try with_reducible rfl
            try simp only [Act.put, List.setIfInBounds_toArray, List.set_cons_zero, List.set_cons_succ]
            refine takeH (i := 10) (d := some 81) (v := ?_) rfl rfl (by kernel_rfl) (by kernel_rfl) (by kernel_rfl) (fun _ _ _ h => h) (Or.inl ⟨by rfl, ?_⟩) (by assumption) ?_
            rotate_left
            · intro w hSw
              try dsimp only at hSw
              go_simp
              try with_reducible rfl
            try simp only [Act.put, List.setIfInBounds_toArray, List.set_cons_zero, List.set_cons_succ]
            refine wpAnyH_ready (rs := [12]) (by kernel_rfl) (by simp) ?_
            refine AllReadyH.cons rfl (fun K hK => ?_) AllReadyH.nil
            refine step_store_mid rfl rfl _ _ _ (by rfl) (by rfl) (outC O) [] [.int .i64 0, .int .i64 0, .int .i64 0, .int .i64 0, .int .i64 0, .int .i64 0, .int .i64 0, .int .i64 0, .int .i64 0, .bool false, .int .i64 0, .bool false] [] (by rfl) (t := 125) (show Blk _ _ _ _ from by simpa using HZ) (by rfl) (by rfl) (outC_one _) Tryz.sizeOut ?_
            intro wS hbS htS
            refine hK.out _ _ ?_ (fun hHeld => ?_)
            · exact ⟨hHeld.1.turns htS (fun e => by have := HPQ.out; omega), hHeld.2.then htS (fun k hk e => by omega)⟩
            clear hK K
            try simp only [Act.put, List.setIfInBounds_toArray, List.set_cons_zero, List.set_cons_succ]
            refine takeH (i := 13) (d := some 13) (v := ?_) rfl rfl (by kernel_rfl) (by kernel_rfl) (by kernel_rfl) (fun _ _ _ h => h) (Or.inl ⟨by rfl, ?_⟩) (by assumption) ?_
            rotate_left
            · intro w hSw
              try dsimp only at hSw
              go_simp
              try with_reducible rfl
            try simp only [Act.put, List.setIfInBounds_toArray, List.set_cons_zero, List.set_cons_succ]
            refine wpAnyH_done (by kernel_rfl) ?_ _
            have HS := Lib.hid hHeld.2
            have HB6 : Hid (Blk wS _ 125 (outA O)) := Lib.hid (by simpa [outC] using hbS)
            have HG7 := Lib.hid HG6
            clear hHeld hbS htS HZ HG6
            go_wp2_with fail
            go_meet
            exact ⟨_, rfl, rfl, HS.out, HB6.out, HG7.out⟩
        exact AllReadyH.nil
    refine AllReadyH.cons rfl (fun K hK => ?_) ?_
    · as_aux_lemma =>
        go_simp
        refine hK.out _ _ ?_ (fun hHeld => ?_)
        · exact ⟨hHeld.1.alloc _, hHeld.2.alloc _⟩
        clear hK K
        try simp only [Act.put, List.setIfInBounds_toArray, List.set_cons_zero, List.set_cons_succ]
        have HZ : Blk (W.drew.alloc (.cells [.int .i64 0, .int .i64 0, .int .i64 0, .int .i64 0, .int .i64 0, .int .i64 0, .int .i64 0, .int .i64 0, .int .i64 0, .bool false, .int .i64 0, .bool false].toArray 125)) W.drew.heap.size 125 [.int .i64 0, .int .i64 0, .int .i64 0, .int .i64 0, .int .i64 0, .int .i64 0, .int .i64 0, .int .i64 0, .int .i64 0, .bool false, .int .i64 0, .bool false].toArray := Blk.new W.drew 125 [.int .i64 0, .int .i64 0, .int .i64 0, .int .i64 0, .int .i64 0, .int .i64 0, .int .i64 0, .int .i64 0, .int .i64 0, .bool false, .int .i64 0, .bool false].toArray
        have HG6 : W.heap.size ≤ W.drew.heap.size := Nat.le_refl _
        refine wpAnyH_ready (rs := [6]) (by kernel_rfl) (by simp) ?_
        refine AllReadyH.cons rfl (fun K hK => ?_) AllReadyH.nil
        go_simp
        refine (wnow_c (HWQ.out.made HXX.out hHeld.2)).mono ?_
        rintro e wN ⟨rfl, rfl⟩
        refine hK.out _ _ ?_ (fun hHeld => ?_)
        · exact hHeld
        clear hK K
        try simp only [Act.put, List.setIfInBounds_toArray, List.set_cons_zero, List.set_cons_succ]
        refine wpAnyH_ready (rs := [7]) (by kernel_rfl) (by simp) ?_
        refine AllReadyH.cons rfl (fun K hK => ?_) AllReadyH.nil
        go_simp
        refine (HLD.out _ _ _ (HRQ.out.turns hHeld.2 (fun _ _ _ h => h))).mono ?_
        rintro e wG ⟨rfl, hmG⟩
        refine hK.out _ _ ?_ (fun hHeld => ?_)
        · exact ⟨hHeld.1.turns hmG (fun h => h), hHeld.2.trans hmG⟩
        clear hK K
        try simp only [Act.put, List.setIfInBounds_toArray, List.set_cons_zero, List.set_cons_succ]
        replace HZ := HZ.turns hmG (fun h => h)
        refine takeH (i := 8) (d := some 71) (v := ?_) rfl rfl (by kernel_rfl) (by kernel_rfl) (by kernel_rfl) (fun _ _ _ h => h) (Or.inl ⟨by rfl, ?_⟩) (by assumption) ?_
        rotate_left
        · intro w hSw
          try dsimp only at hSw
          go_simp
          try with_reducible rfl
        try simp only [Act.put, List.setIfInBounds_toArray, List.set_cons_zero, List.set_cons_succ]
        refine takeH (i := 9) (d := some 80) (v := ?_) rfl rfl (by kernel_rfl) (by kernel_rfl) (by kernel_rfl) (fun _ _ _ h => h) (Or.inl ⟨by rfl, ?_⟩) (by assumption) ?_
        rotate_left
        · intro w hSw
          try dsimp only at hSw
          go_simp
          try with_reducible rfl
        try simp only [Act.put, List.setIfInBounds_toArray, List.set_cons_zero, List.set_cons_succ]
        refine takeH (i := 10) (d := some 81) (v := ?_) rfl rfl (by kernel_rfl) (by kernel_rfl) (by kernel_rfl) (fun _ _ _ h => h) (Or.inl ⟨by rfl, ?_⟩) (by assumption) ?_
        rotate_left
        · intro w hSw
          try dsimp only at hSw
          go_simp
          try with_reducible rfl
        try simp only [Act.put, List.setIfInBounds_toArray, List.set_cons_zero, List.set_cons_succ]
        refine wpAnyH_ready (rs := [12]) (by kernel_rfl) (by simp) ?_
        refine AllReadyH.cons rfl (fun K hK => ?_) AllReadyH.nil
        refine step_store_mid rfl rfl _ _ _ (by rfl) (by rfl) (outC O) [] [.int .i64 0, .int .i64 0, .int .i64 0, .int .i64 0, .int .i64 0, .int .i64 0, .int .i64 0, .int .i64 0, .int .i64 0, .bool false, .int .i64 0, .bool false] [] (by rfl) (t := 125) (show Blk _ _ _ _ from by simpa using HZ) (by rfl) (by rfl) (outC_one _) Tryz.sizeOut ?_
        intro wS hbS htS
        refine hK.out _ _ ?_ (fun hHeld => ?_)
        · exact ⟨hHeld.1.turns htS (fun e => by have := HPQ.out; omega), hHeld.2.then htS (fun k hk e => by omega)⟩
        clear hK K
        try simp only [Act.put, List.setIfInBounds_toArray, List.set_cons_zero, List.set_cons_succ]
        refine takeH (i := 13) (d := some 13) (v := ?_) rfl rfl (by kernel_rfl) (by kernel_rfl) (by kernel_rfl) (fun _ _ _ h => h) (Or.inl ⟨by rfl, ?_⟩) (by assumption) ?_
        rotate_left
        · intro w hSw
          try dsimp only at hSw
          go_simp
          try with_reducible rfl
        try simp only [Act.put, List.setIfInBounds_toArray, List.set_cons_zero, List.set_cons_succ]
        refine wpAnyH_done (by kernel_rfl) ?_ _
        have HS := Lib.hid hHeld.2
        have HB6 : Hid (Blk wS _ 125 (outA O)) := Lib.hid (by simpa [outC] using hbS)
        have HG7 := Lib.hid HG6
        clear hHeld hbS htS HZ HG6
        go_wp2_with fail
        go_meet
        exact ⟨_, rfl, rfl, HS.out, HB6.out, HG7.out⟩
    exact AllReadyH.nil
  case rest =>
    obtain ⟨gO, rfl, rfl, hmC, hbO, hgO⟩ := hcut
    have HWC := Lib.hid (HWQ.out.made HXX.out hmC)
    have HSC := Lib.hid (HSQ.out.then_made hmC)
    have HCO := Lib.hid (blk_cells (cs := outC O) (show Blk _ _ _ (outC O).toArray from hbO))
    clear hmC hbO hgO
    go_wp2_with (first
      | (refine wpList_load_at (o := ⟨some 86, .load 125 (.tmp 12), _, _, _, _⟩) rfl _ _ rfl _ 0 rfl (outC O) _ HCO.out Tryz.underlying125 rfl Tryz.sizeOut ?_)
      | fail)
    refine (HAL.out _ _ HWC.out).mono ?_
    rintro e w6 ⟨rfl, o6, hw6, hs6⟩
    have HE := Lib.hid (And.intro hw6 (HSC.out.trans hs6))
    clear hw6 hs6
    go_wp2_with fail
    go_returns
    exact ⟨rfl, o6, HE.out.1, HE.out.2⟩
end Go.Proofs.YtjnkphhlkoapbaaGreat
namespace Go.Proofs.YtjnkphhlkoapbaaGreat
open Go.RowKit
set_option linter.unusedVariables false
set_option linter.unusedSimpArgs false
def offS (s : Wst) (i : Nat) : List Int := s.rd.eraseIdx (s.rd.idxOf (i : Int))
def parkS (s : Wst) (i : Nat) (x : Tsk) (ins : Ins) : Wst := { s with ts := s.ts.set i ⟨x.prog, x.pc, 1, x.how, x.regs, ins⟩, rd := offS s i, ev := s.ev ++ [⟨s.steps, 2, i, 0, 0, 0⟩] }
def putS (s : Wst) (i : Nat) (x : Tsk) (r : Reg) : Wst := { s with ts := s.ts.set i ⟨x.prog, x.pc + 1, x.st, x.how, r, x.ins⟩ }
def finS (s : Wst) (i : Nat) (x : Tsk) (x2 : Ac) : Wst := match x2.parks with
  | true => parkS s i x x2.i
  | false => putS s i x x2.regs
theorem lt6 {i : Nat} (h : i < 6) : i = 0 ∨ i = 1 ∨ i = 2 ∨ i = 3 ∨ i = 4 ∨ i = 5 := by omega
structure FinOK (s : Wst) (i : Nat) (x : Tsk) (x2 : Ac) : Prop where
  how : x2.how = 0
  ts : s.ts[i]? = some x
  tl : s.ts.length ≤ 64
  ev : s.ev.length < 1000
  rl : s.rd.length ≤ 1000
  rd : s.rd[s.rd.idxOf (i : Int)]? = some (i : Int) ∧ ∀ k, k < s.rd.idxOf (i : Int) → s.rd[k]? ≠ some (i : Int)
  pk : x2.parks = true → x2.i.op = 11 ∧ GoodC x2.i 1
set_option maxRecDepth 100000 in
set_option maxHeartbeats 4000000 in
theorem wrun_act {CX : World → (Nat → Prop) → Prop} {w : World} {b : Wp} {o : Nat → Nat} {ps : List (List Ins)} {s : Wst} {n d : Int} {j i pg pc : Nat} {x : Tsk} {p : List Ins} {ins : Ins} {Q : Wst → Ac → Prop} (hx : Ext CX) (h : WW CX w b o ps s) (hsl : Sel ps s n j i x p pg pc) (hins : p[pc]? = some ins) (hrl : s.rd.length ≤ 1000) (hnl : s.nl < 900000)
    (hl : ∀ (w1 : World) (a : Option Addr) (ci : Nat), RowIn insC 6 w1 a p.length p → Calls Tryz.prog 48 #[.slice a p.length ci, .int .i64 pc, regV x.regs, .int .i64 s.now] w1 fun e w' => e = .returned (.tuple #[.agg (outA ⟨0, ⟨0, 0, 0, 0, 0, 0, 0, 0⟩, false, 0, false⟩), .int .i64 7]) ∧ Made w1 w')
    (ha : ∀ (w1 : World) (o1 : Nat → Nat) (g : Nat), WW CX w1 b o1 ps { s with nl := s.nl + 1 } → Blk w1 g 131 (acA b.pb ⟨i, ins, x.regs, x.regs, d, 0, false⟩) → ¬ Own o1 g → Calls Tryz.prog 50 #[.pointer (some ⟨g, 0, none⟩)] w1 fun e w' => e = .returned (.tuple #[]) ∧ ∃ o' s2 x2, Q s2 x2 ∧ WW CX w' b o' ps s2 ∧ AStp w1 w' o1 o' g ∧ Blk w' g 131 (acA b.pb x2))
    (hq : ∀ s2 x2, Q s2 x2 → FinOK s2 i x x2) :
    Calls Tryz.prog 26 #[.pointer (some ⟨b.pb, 0, none⟩), .int .i64 n, .int .i64 d] w fun e w' => e = .returned (.tuple #[]) ∧ ∃ o' s2 x2, Q s2 x2 ∧ WW CX w' b o' ps (finS s2 i x x2) ∧ Stp w w' (Own o) (Own o') := by
  obtain ⟨i0, hi0, hz0, hz1, hz2⟩ := info_parts Tryz.infoLk
  have HLD := Lib.hid hl
  have HAC := Lib.hid ha
  have HQQ := Lib.hid hq
  have HIN := Lib.hid hins
  clear hl ha hq hins
  have HXX := Lib.hid hx
  have HH := Lib.hid h
  have q2 := h.cell2
  have HRL := Lib.hid hrl
  have HNL := Lib.hid hnl
  have HSL := Lib.hid hsl
  have HRY : Hid _ := Lib.hid (show Calls Tryz.prog 46 #[.pointer (some ⟨b.pt, 0, none⟩)] w _ from by obtain ⟨vp, vc, vl, ve, h1⟩ := h; exact tabready_c h1.tab hrl)
  clear h hx hrl hnl hsl
  go_enter Tryz.func26, Tryz.ntmps26
  go_wp2_with fail
  refine HRY.out.mono ?_
  rintro e w1 ⟨v1, rfl, hro1, hm1, hrf1⟩
  have HM1 := Lib.hid hm1
  have HW1 := Lib.hid (HH.out.made HXX.out hm1)
  obtain ⟨a1, c1, rfl⟩ := owns_slice hro1
  have HR1 := Lib.hid (And.intro hro1 hrf1)
  have q2 := HW1.out.cell2
  clear hm1 hro1 hrf1
  have HPK : Hid _ := Lib.hid (show Calls Tryz.prog 47 #[.pointer (some ⟨b.pt, 0, none⟩), .int .i64 n] w1 _ from by obtain ⟨vp, vc, vl, ve, h1⟩ := HW1.out; exact tabpick_c n h1.tab HSL.out.hj HSL.out.hi HRL.out)
  go_wp2_with fail
  refine HPK.out.mono ?_
  rintro e w2 ⟨rfl, hm2⟩
  have HW2 := Lib.hid (HW1.out.made HXX.out hm2)
  have HM2 := Lib.hid (HM1.out.trans hm2)
  have q2 := HW2.out.cell2
  clear hm2
  obtain ⟨vp, vc, vl, ve, h2⟩ := HW2.out
  obtain ⟨ls, hl1, hl2⟩ := h2.lrow
  have HL1 := Lib.hid hl1
  have q8 : w2.cell? ⟨b.pb, 8, none⟩ = some vl := h2.blk.cell 8
  have HMX := Lib.hid ((Turns.refl (fun _ => False) w2).alloc (.cells (lkC ⟨(a1, s.rd.length, c1), (i : Int)⟩).toArray 123))
  have HBX := Lib.hid (Blk.new w2 123 (lkC ⟨(a1, s.rd.length, c1), (i : Int)⟩).toArray)
  have HOX := Lib.hid (hl2.made HMX.out)
  have HA2 := Lib.hid h2
  have HLL := Lib.hid (show ls.length + 1 ≤ 1000000 from by rw [hl1]; have := HNL.out; omega)
  clear h2 hl1 hl2
  go_wp2_with (at_builtin; refine wpList_push rfl (.tmp 46) (.tmp 50) _ rfl i0 _ 32 Tryz.underlying63 hi0 hz0 hz1 hz2 rfl (by omega) lkC_len lkC_one rfl HOX.out ⟨(a1, s.rd.length, c1), (i : Int)⟩ rfl HBX.out HLL.out (by omega) ?_; intro v3 w3 hO3 hT3 hV3; have hb3 := (HA2.out.blk.turns HMX.out (fun h => h)).turns hT3 (fun e => by have h9 := (HA2.out.lo _).1 e; rw [HA2.out.ob] at h9; omega); have HR := Lib.hid (HA2.out.pushLk HXX.out HL1.out HMX.out hO3 hT3 hV3); obtain ⟨a3, c3, rfl⟩ := owns_slice hO3; have r8 := hb3.cell 8; have f8 := hb3.free 8; have r2 := hb3.cell 2; simp only [List.getElem?_toArray, List.getElem?_cons_zero, List.getElem?_cons_succ] at r8 r2; clear hO3 hT3 hV3 hb3)
  obtain ⟨o3, hw3, hs3⟩ := HR.out
  simp only [List.length_append, List.length_cons, List.length_nil, Nat.zero_add] at hw3 hs3
  have HW3 := Lib.hid (show WW CX _ b o3 ps { s with nl := s.nl + 1 } from ⟨_, _, _, _, hw3⟩)
  have HS3 := Lib.hid ((Stp.made (F := Own o) HM2.out).trans hs3)
  have HGT := Lib.hid (tabget_c hw3.tab HSL.out.hx HSL.out.tl)
  clear hw3 hs3 HR r2 r8 f8 q8 q2
  generalize w3.setCell ⟨b.pb, 8, none⟩ (.slice a3 (ls.length + 1) c3) = W3 at *
  refine HGT.out.mono ?_
  rintro e w4 ⟨rfl, hm4⟩
  have HW4 := Lib.hid (HW3.out.made HXX.out hm4)
  have HS4 := Lib.hid (HS3.out.then_made hm4)
  have HN4 := Lib.hid (show ¬ Own o3 w4.heap.size from fun h0 => absurd (HW4.out.lt _ h0) (Nat.lt_irrefl _))
  clear hm4
  go_upto_region 6 with (first
    | (refine wpList_store_blk (o := ⟨none, .store 38 (.tmp 9) (.tmp 61), _, _, _, _⟩) rfl _ _ _ rfl rfl _ rfl (tskC x) ([.int .i64 0, .int .i64 0, .int .i64 0, .int .i64 0, .int .i64 0, .int .i64 0, .int .i64 0, .int .i64 0, .int .i64 0, .int .i64 0, .int .i64 0, .int .i64 0, .int .i64 0, .int .i64 0, .int .i64 0, .int .i64 0, .slice none 0 0, .bool false]) 38 rfl (Blk.new _ _ _) rfl (tskC_one x) Tryz.sizeTsk ?_; intro w5 hb5 ht5; have HB5 := Lib.hid hb5; have HT5 := Lib.hid ht5; clear hb5 ht5)
    | fail)
  have HM5 := Lib.hid (show Made w4 w5 from ((Turns.refl (fun _ => False) w4).alloc _).then HT5.out (fun b hb e => by omega))
  obtain ⟨vp, vc5, vl5, ve5, hw5⟩ := HW4.out.made HXX.out HM5.out
  obtain ⟨gp, cp, rfl, hog, hgl, hget⟩ := hw5.prs.ex
  obtain ⟨ap, ci, hcp, hrow, hown⟩ := hget pg p HSL.out.hps
  have HW5 := Lib.hid (show WW CX w5 b o3 ps { s with nl := s.nl + 1 } from ⟨_, _, _, _, hw5⟩)
  have HRW := Lib.hid hrow
  have qz0 : w5.cell? ⟨b.pb, 0, none⟩ = some (.slice (some ⟨gp, 0, none⟩) ps.length cp) := hw5.blk.cell 0
  have y0 : w5.cell? ⟨w4.heap.size, 0, none⟩ = some (.int .i64 x.prog) := HB5.out.cell 0
  rw [HSL.out.hp] at y0
  have hpg : pg < ps.length := (List.getElem?_eq_some_iff.1 HSL.out.hps).1
  have j1 : (0 : Int) ≤ (pg : Int) := by omega
  have j2 : (pg : Int) < (ps.length : Int) := by omega
  have HS5 := Lib.hid (HS4.out.then_made HM5.out)
  clear hw5 hog hgl hget hrow hown
  go_quiet (fail)
  go_upto_region 7 with fail
  have HWQ := Lib.hid (HW5.out.made HXX.out ((Turns.refl _ w5).drewN nq))
  have HBQ := Lib.hid (HB5.out.turns ((Turns.refl (fun _ => False) w5).drewN nq) (fun h => h))
  have HRQ := Lib.hid (HRW.out.turns ((Turns.refl (fun _ => False) w5).drewN nq) (fun _ _ _ h => h))
  have HSQ := Lib.hid (HS5.out.then_made ((Turns.refl (fun _ => False) w5).drewN nq))
  have HPQ : Hid (w4.heap.size < (w5.drewN nq).heap.size) := Lib.hid HB5.out.lt
  clear y0 qz0 hcp HB5 HW5 HRW HS5 HM5
  generalize w5.drewN nq = W at *
  go_cut [12, 13] (fun v12 v13 wx => ∃ gO : Nat, v12 = .pointer (some ⟨gO, 0, none⟩) ∧ v13 = .int .i64 7 ∧ Made W wx ∧ Blk wx gO 125 (outA ⟨0, ⟨0, 0, 0, 0, 0, 0, 0, 0⟩, false, 0, false⟩) ∧ W.heap.size ≤ gO)
  case first =>
    refine wp_region_held_drew (S := fun w' => Blk w' w4.heap.size 38 (tskC x).toArray ∧ Made W w') (by kernel_rfl) ?_ (fun hHeld => ?_)
    · exact ⟨HBQ.out, (Turns.refl (fun _ => False) W).drew⟩
    refine takeH (i := 0) (d := some 72) (v := ?_) rfl rfl (by kernel_rfl) (by kernel_rfl) (by kernel_rfl) (fun _ _ _ h => h) (Or.inl ⟨by rfl, ?_⟩) (by assumption) ?_
    rotate_left
    · intro w hSw
      try dsimp only at hSw
      go_simp
      try with_reducible rfl
    try simp only [Act.put, List.setIfInBounds_toArray, List.set_cons_zero, List.set_cons_succ]
    refine takeH (i := 1) (d := some 73) (v := ?_) rfl rfl (by kernel_rfl) (by kernel_rfl) (by kernel_rfl) (fun _ _ _ h => h) (Or.inl ⟨by rfl, ?_⟩) (by assumption) ?_
    rotate_left
    · intro w hSw
      try dsimp only at hSw
      go_simp
      try with_reducible rfl
    try simp only [Act.put, List.setIfInBounds_toArray, List.set_cons_zero, List.set_cons_succ]
    refine takeH (i := 2) (d := some 74) (v := ?_) rfl rfl (by kernel_rfl) (by kernel_rfl) (by kernel_rfl) (fun _ _ _ h => h) (Or.inl ⟨by rfl, ?_⟩) (by assumption) ?_
    rotate_left
    · intro w hSw
      try dsimp only at hSw
      have q0 := hSw.1.cell 1
      simp only [tskC, List.getElem?_toArray, List.getElem?_cons_zero, List.getElem?_cons_succ] at q0
      rw [HSL.out.hpc] at q0
      go_simp
      try with_reducible rfl
    try simp only [Act.put, List.setIfInBounds_toArray, List.set_cons_zero, List.set_cons_succ]
    refine takeH (i := 3) (d := some 75) (v := ?_) rfl rfl (by kernel_rfl) (by kernel_rfl) (by kernel_rfl) (fun _ _ _ h => h) (Or.inl ⟨by rfl, ?_⟩) (by assumption) ?_
    rotate_left
    · intro w hSw
      try dsimp only at hSw
      go_simp
      try with_reducible rfl
    try simp only [Act.put, List.setIfInBounds_toArray, List.set_cons_zero, List.set_cons_succ]
    refine takeH (i := 4) (d := some 76) (v := ?_) rfl rfl (by kernel_rfl) (by kernel_rfl) (by kernel_rfl) (fun _ _ _ h => h) (Or.inl ⟨by rfl, ?_⟩) (by assumption) ?_
    rotate_left
    · intro w hSw
      try dsimp only at hSw
      refine exec_load_at (P := Tryz.prog) (x := .tmp 75) (n := 4) (cs := [.int .i64 x.regs.r0, .int .i64 x.regs.r1, .int .i64 x.regs.r2, .int .i64 x.regs.r3, .int .i64 x.regs.r4, .int .i64 x.regs.r5, .int .i64 x.regs.r6, .int .i64 x.regs.r7]) ?_ ?_ (fun j v hv => by have hj : j < 8 := (List.getElem?_eq_some_iff.1 hv).1; refine (hSw.1.cell (4 + j)).trans ?_; rw [← hv]; rcases lt8 hj with rfl | rfl | rfl | rfl | rfl | rfl | rfl | rfl <;> rfl) Tryz.underlying36 ?_ Tryz.sizeReg <;> rfl
    try simp only [Act.put, List.setIfInBounds_toArray, List.set_cons_zero, List.set_cons_succ]
    refine takeH (i := 5) (d := some 77) (v := ?_) rfl rfl (by kernel_rfl) (by kernel_rfl) (by kernel_rfl) (fun _ _ _ h => h) (Or.inl ⟨by rfl, ?_⟩) (by assumption) ?_
    rotate_left
    · intro w hSw
      try dsimp only at hSw
      go_simp
      try with_reducible rfl
    try simp only [Act.put, List.setIfInBounds_toArray, List.set_cons_zero, List.set_cons_succ]
    refine wpAnyH_ready (rs := [6, 11]) (by kernel_rfl) (by simp) ?_
    refine AllReadyH.cons rfl (fun K hK => ?_) ?_
    · as_aux_lemma =>
        go_simp
        refine (wnow_c (HWQ.out.made HXX.out hHeld.2)).mono ?_
        rintro e wN ⟨rfl, rfl⟩
        refine hK.out _ _ ?_ (fun hHeld => ?_)
        · exact hHeld
        clear hK K
        try simp only [Act.put, List.setIfInBounds_toArray, List.set_cons_zero, List.set_cons_succ]
        refine wpAnyH_ready (rs := [7, 11]) (by kernel_rfl) (by simp) ?_
        refine AllReadyH.cons rfl (fun K hK => ?_) ?_
        · as_aux_lemma =>
            go_simp
            refine (HLD.out _ _ _ (HRQ.out.turns hHeld.2 (fun _ _ _ h => h))).mono ?_
            rintro e wG ⟨rfl, hmG⟩
            refine hK.out _ _ ?_ (fun hHeld => ?_)
            · exact ⟨hHeld.1.turns hmG (fun h => h), hHeld.2.trans hmG⟩
            clear hK K
            try simp only [Act.put, List.setIfInBounds_toArray, List.set_cons_zero, List.set_cons_succ]
            refine takeH (i := 8) (d := some 71) (v := ?_) rfl rfl (by kernel_rfl) (by kernel_rfl) (by kernel_rfl) (fun _ _ _ h => h) (Or.inl ⟨by rfl, ?_⟩) (by assumption) ?_
            rotate_left
            · intro w hSw
              try dsimp only at hSw
              go_simp
              try with_reducible rfl
            try simp only [Act.put, List.setIfInBounds_toArray, List.set_cons_zero, List.set_cons_succ]
            refine takeH (i := 9) (d := some 80) (v := ?_) rfl rfl (by kernel_rfl) (by kernel_rfl) (by kernel_rfl) (fun _ _ _ h => h) (Or.inl ⟨by rfl, ?_⟩) (by assumption) ?_
            rotate_left
            · intro w hSw
              try dsimp only at hSw
              go_simp
              try with_reducible rfl
            try simp only [Act.put, List.setIfInBounds_toArray, List.set_cons_zero, List.set_cons_succ]
            refine takeH (i := 10) (d := some 81) (v := ?_) rfl rfl (by kernel_rfl) (by kernel_rfl) (by kernel_rfl) (fun _ _ _ h => h) (Or.inl ⟨by rfl, ?_⟩) (by assumption) ?_
            rotate_left
            · intro w hSw
              try dsimp only at hSw
              go_simp
              try with_reducible rfl
            try simp only [Act.put, List.setIfInBounds_toArray, List.set_cons_zero, List.set_cons_succ]
            refine wpAnyH_ready (rs := [11]) (by kernel_rfl) (by simp) ?_
            refine AllReadyH.cons rfl (fun K hK => ?_) AllReadyH.nil
            go_simp
            refine hK.out _ _ ?_ (fun hHeld => ?_)
            · exact ⟨hHeld.1.alloc _, hHeld.2.alloc _⟩
            clear hK K
            try simp only [Act.put, List.setIfInBounds_toArray, List.set_cons_zero, List.set_cons_succ]
            have HZ := Blk.new wG 125 [.int .i64 0, .int .i64 0, .int .i64 0, .int .i64 0, .int .i64 0, .int .i64 0, .int .i64 0, .int .i64 0, .int .i64 0, .bool false, .int .i64 0, .bool false].toArray
            have HG6 : W.heap.size ≤ wG.heap.size := hmG.size
            refine wpAnyH_ready (rs := [12]) (by kernel_rfl) (by simp) ?_
            refine AllReadyH.cons rfl (fun K hK => ?_) AllReadyH.nil
            refine step_store_mid rfl rfl _ _ _ (by rfl) (by rfl) (outC ⟨0, ⟨0, 0, 0, 0, 0, 0, 0, 0⟩, false, 0, false⟩) [] [.int .i64 0, .int .i64 0, .int .i64 0, .int .i64 0, .int .i64 0, .int .i64 0, .int .i64 0, .int .i64 0, .int .i64 0, .bool false, .int .i64 0, .bool false] [] (by rfl) (t := 125) (show Blk _ _ _ _ from by simpa using HZ) (by rfl) (by rfl) (outC_one _) Tryz.sizeOut ?_
            intro wS hbS htS
            refine hK.out _ _ ?_ (fun hHeld => ?_)
            · exact ⟨hHeld.1.turns htS (fun e => by have := HPQ.out; omega), hHeld.2.then htS (fun k hk e => by omega)⟩
            clear hK K
            try simp only [Act.put, List.setIfInBounds_toArray, List.set_cons_zero, List.set_cons_succ]
            refine takeH (i := 13) (d := some 13) (v := ?_) rfl rfl (by kernel_rfl) (by kernel_rfl) (by kernel_rfl) (fun _ _ _ h => h) (Or.inl ⟨by rfl, ?_⟩) (by assumption) ?_
            rotate_left
            · intro w hSw
              try dsimp only at hSw
              go_simp
              try with_reducible rfl
            try simp only [Act.put, List.setIfInBounds_toArray, List.set_cons_zero, List.set_cons_succ]
            refine wpAnyH_done (by kernel_rfl) ?_ _
            have HS := Lib.hid hHeld.2
            have HB6 : Hid (Blk wS _ 125 (outA ⟨0, ⟨0, 0, 0, 0, 0, 0, 0, 0⟩, false, 0, false⟩)) := Lib.hid (by simpa [outC] using hbS)
            have HG7 := Lib.hid HG6
            clear hHeld hbS htS HZ HG6
            go_wp2_with fail
            go_meet
            exact ⟨_, rfl, rfl, HS.out, HB6.out, HG7.out⟩
        refine AllReadyH.cons rfl (fun K hK => ?_) ?_
        · as_aux_lemma =>
            go_simp
            refine hK.out _ _ ?_ (fun hHeld => ?_)
            · exact ⟨hHeld.1.alloc _, hHeld.2.alloc _⟩
            clear hK K
            try simp only [Act.put, List.setIfInBounds_toArray, List.set_cons_zero, List.set_cons_succ]
            have HZ : Blk (W.drew.alloc (.cells [.int .i64 0, .int .i64 0, .int .i64 0, .int .i64 0, .int .i64 0, .int .i64 0, .int .i64 0, .int .i64 0, .int .i64 0, .bool false, .int .i64 0, .bool false].toArray 125)) W.drew.heap.size 125 [.int .i64 0, .int .i64 0, .int .i64 0, .int .i64 0, .int .i64 0, .int .i64 0, .int .i64 0, .int .i64 0, .int .i64 0, .bool false, .int .i64 0, .bool false].toArray := Blk.new W.drew 125 [.int .i64 0, .int .i64 0, .int .i64 0, .int .i64 0, .int .i64 0, .int .i64 0, .int .i64 0, .int .i64 0, .int .i64 0, .bool false, .int .i64 0, .bool false].toArray
            have HG6 : W.heap.size ≤ W.drew.heap.size := Nat.le_refl _
            refine wpAnyH_ready (rs := [7]) (by kernel_rfl) (by simp) ?_
            refine AllReadyH.cons rfl (fun K hK => ?_) AllReadyH.nil
            go_simp
            refine (HLD.out _ _ _ (HRQ.out.turns hHeld.2 (fun _ _ _ h => h))).mono ?_
            rintro e wG ⟨rfl, hmG⟩
            refine hK.out _ _ ?_ (fun hHeld => ?_)
            · exact ⟨hHeld.1.turns hmG (fun h => h), hHeld.2.trans hmG⟩
            clear hK K
            try simp only [Act.put, List.setIfInBounds_toArray, List.set_cons_zero, List.set_cons_succ]
            replace HZ := HZ.turns hmG (fun h => h)
            refine takeH (i := 8) (d := some 71) (v := ?_) rfl rfl (by kernel_rfl) (by kernel_rfl) (by kernel_rfl) (fun _ _ _ h => h) (Or.inl ⟨by rfl, ?_⟩) (by assumption) ?_
            rotate_left
            · intro w hSw
              try dsimp only at hSw
              go_simp
              try with_reducible rfl
            try simp only [Act.put, List.setIfInBounds_toArray, List.set_cons_zero, List.set_cons_succ]
            refine takeH (i := 9) (d := some 80) (v := ?_) rfl rfl (by kernel_rfl) (by kernel_rfl) (by kernel_rfl) (fun _ _ _ h => h) (Or.inl ⟨by rfl, ?_⟩) (by assumption) ?_
            rotate_left
            · intro w hSw
              try dsimp only at hSw
              go_simp
              try with_reducible rfl
            try simp only [Act.put, List.setIfInBounds_toArray, List.set_cons_zero, List.set_cons_succ]
            refine takeH (i := 10) (d := some 81) (v := ?_) rfl rfl (by kernel_rfl) (by kernel_rfl) (by kernel_rfl) (fun _ _ _ h => h) (Or.inl ⟨by rfl, ?_⟩) (by assumption) ?_
            rotate_left
            · intro w hSw
              try dsimp only at hSw
              go_simp
              try with_reducible rfl
            try simp only [Act.put, List.setIfInBounds_toArray, List.set_cons_zero, List.set_cons_succ]
            refine wpAnyH_ready (rs := [12]) (by kernel_rfl) (by simp) ?_
            refine AllReadyH.cons rfl (fun K hK => ?_) AllReadyH.nil
            refine step_store_mid rfl rfl _ _ _ (by rfl) (by rfl) (outC ⟨0, ⟨0, 0, 0, 0, 0, 0, 0, 0⟩, false, 0, false⟩) [] [.int .i64 0, .int .i64 0, .int .i64 0, .int .i64 0, .int .i64 0, .int .i64 0, .int .i64 0, .int .i64 0, .int .i64 0, .bool false, .int .i64 0, .bool false] [] (by rfl) (t := 125) (show Blk _ _ _ _ from by simpa using HZ) (by rfl) (by rfl) (outC_one _) Tryz.sizeOut ?_
            intro wS hbS htS
            refine hK.out _ _ ?_ (fun hHeld => ?_)
            · exact ⟨hHeld.1.turns htS (fun e => by have := HPQ.out; omega), hHeld.2.then htS (fun k hk e => by omega)⟩
            clear hK K
            try simp only [Act.put, List.setIfInBounds_toArray, List.set_cons_zero, List.set_cons_succ]
            refine takeH (i := 13) (d := some 13) (v := ?_) rfl rfl (by kernel_rfl) (by kernel_rfl) (by kernel_rfl) (fun _ _ _ h => h) (Or.inl ⟨by rfl, ?_⟩) (by assumption) ?_
            rotate_left
            · intro w hSw
              try dsimp only at hSw
              go_simp
              try with_reducible rfl
            try simp only [Act.put, List.setIfInBounds_toArray, List.set_cons_zero, List.set_cons_succ]
            refine wpAnyH_done (by kernel_rfl) ?_ _
            have HS := Lib.hid hHeld.2
            have HB6 : Hid (Blk wS _ 125 (outA ⟨0, ⟨0, 0, 0, 0, 0, 0, 0, 0⟩, false, 0, false⟩)) := Lib.hid (by simpa [outC] using hbS)
            have HG7 := Lib.hid HG6
            clear hHeld hbS htS HZ HG6
            go_wp2_with fail
            go_meet
            exact ⟨_, rfl, rfl, HS.out, HB6.out, HG7.out⟩
        exact AllReadyH.nil
    refine AllReadyH.cons rfl (fun K hK => ?_) ?_
    · as_aux_lemma =>
        go_simp
        refine hK.out _ _ ?_ (fun hHeld => ?_)
        · exact ⟨hHeld.1.alloc _, hHeld.2.alloc _⟩
        clear hK K
        try simp only [Act.put, List.setIfInBounds_toArray, List.set_cons_zero, List.set_cons_succ]
        have HZ : Blk (W.drew.alloc (.cells [.int .i64 0, .int .i64 0, .int .i64 0, .int .i64 0, .int .i64 0, .int .i64 0, .int .i64 0, .int .i64 0, .int .i64 0, .bool false, .int .i64 0, .bool false].toArray 125)) W.drew.heap.size 125 [.int .i64 0, .int .i64 0, .int .i64 0, .int .i64 0, .int .i64 0, .int .i64 0, .int .i64 0, .int .i64 0, .int .i64 0, .bool false, .int .i64 0, .bool false].toArray := Blk.new W.drew 125 [.int .i64 0, .int .i64 0, .int .i64 0, .int .i64 0, .int .i64 0, .int .i64 0, .int .i64 0, .int .i64 0, .int .i64 0, .bool false, .int .i64 0, .bool false].toArray
        have HG6 : W.heap.size ≤ W.drew.heap.size := Nat.le_refl _
        refine wpAnyH_ready (rs := [6]) (by kernel_rfl) (by simp) ?_
        refine AllReadyH.cons rfl (fun K hK => ?_) AllReadyH.nil
        go_simp
        refine (wnow_c (HWQ.out.made HXX.out hHeld.2)).mono ?_
        rintro e wN ⟨rfl, rfl⟩
        refine hK.out _ _ ?_ (fun hHeld => ?_)
        · exact hHeld
        clear hK K
        try simp only [Act.put, List.setIfInBounds_toArray, List.set_cons_zero, List.set_cons_succ]
        refine wpAnyH_ready (rs := [7]) (by kernel_rfl) (by simp) ?_
        refine AllReadyH.cons rfl (fun K hK => ?_) AllReadyH.nil
        go_simp
        refine (HLD.out _ _ _ (HRQ.out.turns hHeld.2 (fun _ _ _ h => h))).mono ?_
        rintro e wG ⟨rfl, hmG⟩
        refine hK.out _ _ ?_ (fun hHeld => ?_)
        · exact ⟨hHeld.1.turns hmG (fun h => h), hHeld.2.trans hmG⟩
        clear hK K
        try simp only [Act.put, List.setIfInBounds_toArray, List.set_cons_zero, List.set_cons_succ]
        replace HZ := HZ.turns hmG (fun h => h)
        refine takeH (i := 8) (d := some 71) (v := ?_) rfl rfl (by kernel_rfl) (by kernel_rfl) (by kernel_rfl) (fun _ _ _ h => h) (Or.inl ⟨by rfl, ?_⟩) (by assumption) ?_
        rotate_left
        · intro w hSw
          try dsimp only at hSw
          go_simp
          try with_reducible rfl
        try simp only [Act.put, List.setIfInBounds_toArray, List.set_cons_zero, List.set_cons_succ]
        refine takeH (i := 9) (d := some 80) (v := ?_) rfl rfl (by kernel_rfl) (by kernel_rfl) (by kernel_rfl) (fun _ _ _ h => h) (Or.inl ⟨by rfl, ?_⟩) (by assumption) ?_
        rotate_left
        · intro w hSw
          try dsimp only at hSw
          go_simp
          try with_reducible rfl
        try simp only [Act.put, List.setIfInBounds_toArray, List.set_cons_zero, List.set_cons_succ]
        refine takeH (i := 10) (d := some 81) (v := ?_) rfl rfl (by kernel_rfl) (by kernel_rfl) (by kernel_rfl) (fun _ _ _ h => h) (Or.inl ⟨by rfl, ?_⟩) (by assumption) ?_
        rotate_left
        · intro w hSw
          try dsimp only at hSw
          go_simp
          try with_reducible rfl
        try simp only [Act.put, List.setIfInBounds_toArray, List.set_cons_zero, List.set_cons_succ]
        refine wpAnyH_ready (rs := [12]) (by kernel_rfl) (by simp) ?_
        refine AllReadyH.cons rfl (fun K hK => ?_) AllReadyH.nil
        refine step_store_mid rfl rfl _ _ _ (by rfl) (by rfl) (outC ⟨0, ⟨0, 0, 0, 0, 0, 0, 0, 0⟩, false, 0, false⟩) [] [.int .i64 0, .int .i64 0, .int .i64 0, .int .i64 0, .int .i64 0, .int .i64 0, .int .i64 0, .int .i64 0, .int .i64 0, .bool false, .int .i64 0, .bool false] [] (by rfl) (t := 125) (show Blk _ _ _ _ from by simpa using HZ) (by rfl) (by rfl) (outC_one _) Tryz.sizeOut ?_
        intro wS hbS htS
        refine hK.out _ _ ?_ (fun hHeld => ?_)
        · exact ⟨hHeld.1.turns htS (fun e => by have := HPQ.out; omega), hHeld.2.then htS (fun k hk e => by omega)⟩
        clear hK K
        try simp only [Act.put, List.setIfInBounds_toArray, List.set_cons_zero, List.set_cons_succ]
        refine takeH (i := 13) (d := some 13) (v := ?_) rfl rfl (by kernel_rfl) (by kernel_rfl) (by kernel_rfl) (fun _ _ _ h => h) (Or.inl ⟨by rfl, ?_⟩) (by assumption) ?_
        rotate_left
        · intro w hSw
          try dsimp only at hSw
          go_simp
          try with_reducible rfl
        try simp only [Act.put, List.setIfInBounds_toArray, List.set_cons_zero, List.set_cons_succ]
        refine wpAnyH_done (by kernel_rfl) ?_ _
        have HS := Lib.hid hHeld.2
        have HB6 : Hid (Blk wS _ 125 (outA ⟨0, ⟨0, 0, 0, 0, 0, 0, 0, 0⟩, false, 0, false⟩)) := Lib.hid (by simpa [outC] using hbS)
        have HG7 := Lib.hid HG6
        clear hHeld hbS htS HZ HG6
        go_wp2_with fail
        go_meet
        exact ⟨_, rfl, rfl, HS.out, HB6.out, HG7.out⟩
    exact AllReadyH.nil
  case rest =>
    obtain ⟨gO, rfl, rfl, hmC, hbO, hgO⟩ := hcut
    have HWC := Lib.hid (HWQ.out.made HXX.out hmC)
    have HSC := Lib.hid (HSQ.out.then_made hmC)
    have HBC := Lib.hid (HBQ.out.turns hmC (fun h => h))
    obtain ⟨bp, off, rfl, hbp, hpl, -⟩ := ins_at (HRQ.out.turns hmC (fun _ _ _ h => h)) HIN.out
    have HLI : Hid (∀ w', Made wc w' → ∀ j v, (insC ins)[j]? = some v → w'.cell? ⟨bp, off + pc * 6 + j, none⟩ = some v) := Lib.hid (fun w' hm j v hv => by
      rcases (HRQ.out.turns hmC (fun _ _ _ h => h)).2 with h0 | ⟨b2, off2, e2, hb2, hli⟩
      · have := (List.getElem?_eq_some_iff.1 HIN.out).1; omega
      · cases e2
        exact (hm.cell (p := ⟨bp, off + pc * 6 + j, none⟩) hb2 (fun h => h)).trans (hli pc ins HIN.out j v hv))
    have j3 : (0 : Int) ≤ (pc : Int) := by omega
    have j4 : (pc : Int) < (p.length : Int) := by omega
    clear hmC hbO hgO hbp hpl
    go_wp2_with fail
    have HPB := Lib.hid HBC.out.lt
    have j3 : (0 : Int) ≤ (pc : Int) := by omega
    refine wp_region_held_drew (S := fun w' => Blk w' w4.heap.size 38 (tskC x).toArray ∧ Made wc w') (by kernel_rfl) ?_ (fun hHeld => ?_)
    · exact ⟨HBC.out, (Turns.refl (fun _ => False) wc).drew⟩
    refine takeH (i := 0) (d := some 88) (v := ?_) rfl rfl (by kernel_rfl) (by kernel_rfl) (by kernel_rfl) (fun _ _ _ h => h) (Or.inl ⟨by rfl, ?_⟩) (by assumption) ?_
    rotate_left
    · intro w hSw
      try dsimp only at hSw
      go_simp
      try with_reducible rfl
    try simp only [Act.put, List.setIfInBounds_toArray, List.set_cons_zero, List.set_cons_succ]
    refine takeH (i := 1) (d := some 89) (v := ?_) rfl rfl (by kernel_rfl) (by kernel_rfl) (by kernel_rfl) (fun _ _ _ h => h) (Or.inl ⟨by rfl, ?_⟩) (by assumption) ?_
    rotate_left
    · intro w hSw
      try dsimp only at hSw
      go_simp
      try with_reducible rfl
    try simp only [Act.put, List.setIfInBounds_toArray, List.set_cons_zero, List.set_cons_succ]
    refine takeH (i := 2) (d := some 90) (v := ?_) rfl rfl (by kernel_rfl) (by kernel_rfl) (by kernel_rfl) (fun _ _ _ h => h) (Or.inl ⟨by rfl, ?_⟩) (by assumption) ?_
    rotate_left
    · intro w hSw
      try dsimp only at hSw
      go_simp
      try with_reducible rfl
    try simp only [Act.put, List.setIfInBounds_toArray, List.set_cons_zero, List.set_cons_succ]
    refine takeH (i := 3) (d := some 91) (v := ?_) rfl rfl (by kernel_rfl) (by kernel_rfl) (by kernel_rfl) (fun _ _ _ h => h) (Or.inl ⟨by rfl, ?_⟩) (by assumption) ?_
    rotate_left
    · intro w hSw
      try dsimp only at hSw
      go_simp
      try with_reducible rfl
    try simp only [Act.put, List.setIfInBounds_toArray, List.set_cons_zero, List.set_cons_succ]
    refine takeH (i := 4) (d := some 92) (v := ?_) rfl rfl (by kernel_rfl) (by kernel_rfl) (by kernel_rfl) (fun _ _ _ h => h) (Or.inl ⟨by rfl, ?_⟩) (by assumption) ?_
    rotate_left
    · intro w hSw
      try dsimp only at hSw
      have q0 := hSw.1.cell 1
      simp only [tskC, List.getElem?_toArray, List.getElem?_cons_zero, List.getElem?_cons_succ] at q0
      rw [HSL.out.hpc] at q0
      go_simp
      try with_reducible rfl
    try simp only [Act.put, List.setIfInBounds_toArray, List.set_cons_zero, List.set_cons_succ]
    refine takeH (i := 5) (d := some 93) (v := ?_) rfl rfl (by kernel_rfl) (by kernel_rfl) (by kernel_rfl) (fun _ _ _ h => h) (Or.inl ⟨by rfl, ?_⟩) (by assumption) ?_
    rotate_left
    · intro w hSw
      try dsimp only at hSw
      go_simp
      try with_reducible rfl
    try simp only [Act.put, List.setIfInBounds_toArray, List.set_cons_zero, List.set_cons_succ]
    refine takeH (i := 6) (d := some 94) (v := ?_) rfl rfl (by kernel_rfl) (by kernel_rfl) (by kernel_rfl) (fun _ _ _ h => h) (Or.inl ⟨by rfl, ?_⟩) (by assumption) ?_
    rotate_left
    · intro w hSw
      try dsimp only at hSw
      refine exec_load_at (P := Tryz.prog) (x := .tmp 93) (n := off + pc * 6) (cs := [.int .i64 ins.op, .int .i64 ins.a, .int .i64 ins.b, .int .i64 ins.c, .slice none 0 0, .bool false]) ?_ ?_ (fun j v hv => HLI.out _ hSw.2 j v hv) Tryz.underlying25 ?_ Tryz.sizeIns <;> rfl
    try simp only [Act.put, List.setIfInBounds_toArray, List.set_cons_zero, List.set_cons_succ]
    refine takeH (i := 7) (d := some 95) (v := ?_) rfl rfl (by kernel_rfl) (by kernel_rfl) (by kernel_rfl) (fun _ _ _ h => h) (Or.inl ⟨by rfl, ?_⟩) (by assumption) ?_
    rotate_left
    · intro w hSw
      try dsimp only at hSw
      go_simp
      try with_reducible rfl
    try simp only [Act.put, List.setIfInBounds_toArray, List.set_cons_zero, List.set_cons_succ]
    refine takeH (i := 8) (d := some 96) (v := ?_) rfl rfl (by kernel_rfl) (by kernel_rfl) (by kernel_rfl) (fun _ _ _ h => h) (Or.inl ⟨by rfl, ?_⟩) (by assumption) ?_
    rotate_left
    · intro w hSw
      try dsimp only at hSw
      refine exec_load_at (P := Tryz.prog) (x := .tmp 95) (n := 4) (cs := [.int .i64 x.regs.r0, .int .i64 x.regs.r1, .int .i64 x.regs.r2, .int .i64 x.regs.r3, .int .i64 x.regs.r4, .int .i64 x.regs.r5, .int .i64 x.regs.r6, .int .i64 x.regs.r7]) ?_ ?_ (fun j v hv => by have hj : j < 8 := (List.getElem?_eq_some_iff.1 hv).1; refine (hSw.1.cell (4 + j)).trans ?_; rw [← hv]; rcases lt8 hj with rfl | rfl | rfl | rfl | rfl | rfl | rfl | rfl <;> rfl) Tryz.underlying36 ?_ Tryz.sizeReg <;> rfl
    try simp only [Act.put, List.setIfInBounds_toArray, List.set_cons_zero, List.set_cons_succ]
    refine takeH (i := 9) (d := some 97) (v := ?_) rfl rfl (by kernel_rfl) (by kernel_rfl) (by kernel_rfl) (fun _ _ _ h => h) (Or.inl ⟨by rfl, ?_⟩) (by assumption) ?_
    rotate_left
    · intro w hSw
      try dsimp only at hSw
      go_simp
      try with_reducible rfl
    try simp only [Act.put, List.setIfInBounds_toArray, List.set_cons_zero, List.set_cons_succ]
    refine takeH (i := 10) (d := some 98) (v := ?_) rfl rfl (by kernel_rfl) (by kernel_rfl) (by kernel_rfl) (fun _ _ _ h => h) (Or.inl ⟨by rfl, ?_⟩) (by assumption) ?_
    rotate_left
    · intro w hSw
      try dsimp only at hSw
      refine exec_load_at (P := Tryz.prog) (x := .tmp 97) (n := 4) (cs := [.int .i64 x.regs.r0, .int .i64 x.regs.r1, .int .i64 x.regs.r2, .int .i64 x.regs.r3, .int .i64 x.regs.r4, .int .i64 x.regs.r5, .int .i64 x.regs.r6, .int .i64 x.regs.r7]) ?_ ?_ (fun j v hv => by have hj : j < 8 := (List.getElem?_eq_some_iff.1 hv).1; refine (hSw.1.cell (4 + j)).trans ?_; rw [← hv]; rcases lt8 hj with rfl | rfl | rfl | rfl | rfl | rfl | rfl | rfl <;> rfl) Tryz.underlying36 ?_ Tryz.sizeReg <;> rfl
    try simp only [Act.put, List.setIfInBounds_toArray, List.set_cons_zero, List.set_cons_succ]
    refine takeH (i := 11) (d := some 99) (v := ?_) rfl rfl (by kernel_rfl) (by kernel_rfl) (by kernel_rfl) (fun _ _ _ h => h) (Or.inl ⟨by rfl, ?_⟩) (by assumption) ?_
    rotate_left
    · intro w hSw
      try dsimp only at hSw
      go_simp
      try with_reducible rfl
    try simp only [Act.put, List.setIfInBounds_toArray, List.set_cons_zero, List.set_cons_succ]
    refine takeH (i := 12) (d := some 100) (v := ?_) rfl rfl (by kernel_rfl) (by kernel_rfl) (by kernel_rfl) (fun _ _ _ h => h) (Or.inl ⟨by rfl, ?_⟩) (by assumption) ?_
    rotate_left
    · intro w hSw
      try dsimp only at hSw
      go_simp
      try with_reducible rfl
    try simp only [Act.put, List.setIfInBounds_toArray, List.set_cons_zero, List.set_cons_succ]
    refine wpAnyH_ready (rs := [13]) (by kernel_rfl) (by simp) ?_
    refine AllReadyH.cons rfl (fun K hK => ?_) AllReadyH.nil
    go_simp
    refine hK.out _ _ ?_ (fun hHeld => ?_)
    · exact ⟨hHeld.1.alloc _, hHeld.2.alloc _⟩
    clear hK K
    try simp only [Act.put, List.setIfInBounds_toArray, List.set_cons_zero, List.set_cons_succ]
    refine takeH (i := 14) (d := some 14) (v := ?_) rfl rfl (by kernel_rfl) (by kernel_rfl) (by kernel_rfl) (fun _ _ _ h => h) (Or.inl ⟨by rfl, ?_⟩) (by assumption) ?_
    rotate_left
    · intro w hSw
      try dsimp only at hSw
      go_simp
      try with_reducible rfl
    try simp only [Act.put, List.setIfInBounds_toArray, List.set_cons_zero, List.set_cons_succ]
    refine wpAnyH_done (by kernel_rfl) ?_ _
    go_upto_region 11 with fail
    have HMA := Lib.hid ((((Turns.refl (fun _ => False) wc).alloc (.cells #[.pointer (some ⟨b.pb, 0, none⟩), .int .i64 i, .int .i64 ins.op, .int .i64 ins.a, .int .i64 ins.b, .int .i64 ins.c, .slice none 0 0, .bool false, .int .i64 x.regs.r0, .int .i64 x.regs.r1, .int .i64 x.regs.r2, .int .i64 x.regs.r3, .int .i64 x.regs.r4, .int .i64 x.regs.r5, .int .i64 x.regs.r6, .int .i64 x.regs.r7, .int .i64 x.regs.r0, .int .i64 x.regs.r1, .int .i64 x.regs.r2, .int .i64 x.regs.r3, .int .i64 x.regs.r4, .int .i64 x.regs.r5, .int .i64 x.regs.r6, .int .i64 x.regs.r7, .int .i64 d, .int .i64 0, .bool false] 131))).drew)
    have HBA : Hid (Blk (wc.alloc (.cells #[.pointer (some ⟨b.pb, 0, none⟩), .int .i64 i, .int .i64 ins.op, .int .i64 ins.a, .int .i64 ins.b, .int .i64 ins.c, .slice none 0 0, .bool false, .int .i64 x.regs.r0, .int .i64 x.regs.r1, .int .i64 x.regs.r2, .int .i64 x.regs.r3, .int .i64 x.regs.r4, .int .i64 x.regs.r5, .int .i64 x.regs.r6, .int .i64 x.regs.r7, .int .i64 x.regs.r0, .int .i64 x.regs.r1, .int .i64 x.regs.r2, .int .i64 x.regs.r3, .int .i64 x.regs.r4, .int .i64 x.regs.r5, .int .i64 x.regs.r6, .int .i64 x.regs.r7, .int .i64 d, .int .i64 0, .bool false] 131)).drew wc.heap.size 131 (acA b.pb ⟨i, ins, x.regs, x.regs, d, 0, false⟩)) := Lib.hid (Blk.new wc 131 #[.pointer (some ⟨b.pb, 0, none⟩), .int .i64 i, .int .i64 ins.op, .int .i64 ins.a, .int .i64 ins.b, .int .i64 ins.c, .slice none 0 0, .bool false, .int .i64 x.regs.r0, .int .i64 x.regs.r1, .int .i64 x.regs.r2, .int .i64 x.regs.r3, .int .i64 x.regs.r4, .int .i64 x.regs.r5, .int .i64 x.regs.r6, .int .i64 x.regs.r7, .int .i64 x.regs.r0, .int .i64 x.regs.r1, .int .i64 x.regs.r2, .int .i64 x.regs.r3, .int .i64 x.regs.r4, .int .i64 x.regs.r5, .int .i64 x.regs.r6, .int .i64 x.regs.r7, .int .i64 d, .int .i64 0, .bool false])
    have HNA : Hid (¬ Own o3 wc.heap.size) := Lib.hid (fun h0 => absurd (HWC.out.lt _ h0) (Nat.lt_irrefl _))
    have HLA : Hid (wc.heap.size < (wc.alloc (.cells #[.pointer (some ⟨b.pb, 0, none⟩), .int .i64 i, .int .i64 ins.op, .int .i64 ins.a, .int .i64 ins.b, .int .i64 ins.c, .slice none 0 0, .bool false, .int .i64 x.regs.r0, .int .i64 x.regs.r1, .int .i64 x.regs.r2, .int .i64 x.regs.r3, .int .i64 x.regs.r4, .int .i64 x.regs.r5, .int .i64 x.regs.r6, .int .i64 x.regs.r7, .int .i64 x.regs.r0, .int .i64 x.regs.r1, .int .i64 x.regs.r2, .int .i64 x.regs.r3, .int .i64 x.regs.r4, .int .i64 x.regs.r5, .int .i64 x.regs.r6, .int .i64 x.regs.r7, .int .i64 d, .int .i64 0, .bool false] 131)).drew.heap.size) := Lib.hid HBA.out.lt
    have HWA := Lib.hid (HWC.out.made HXX.out HMA.out)
    have HTA := Lib.hid (HBC.out.turns HMA.out (fun h => h))
    have HSA := Lib.hid (HSC.out.then_made HMA.out)
    clear hHeld
    generalize (wc.alloc (.cells #[.pointer (some ⟨b.pb, 0, none⟩), .int .i64 i, .int .i64 ins.op, .int .i64 ins.a, .int .i64 ins.b, .int .i64 ins.c, .slice none 0 0, .bool false, .int .i64 x.regs.r0, .int .i64 x.regs.r1, .int .i64 x.regs.r2, .int .i64 x.regs.r3, .int .i64 x.regs.r4, .int .i64 x.regs.r5, .int .i64 x.regs.r6, .int .i64 x.regs.r7, .int .i64 x.regs.r0, .int .i64 x.regs.r1, .int .i64 x.regs.r2, .int .i64 x.regs.r3, .int .i64 x.regs.r4, .int .i64 x.regs.r5, .int .i64 x.regs.r6, .int .i64 x.regs.r7, .int .i64 d, .int .i64 0, .bool false] 131)).drew = WA at *
    go_wp2_with fail
    refine (HAC.out _ _ _ HWA.out HBA.out HNA.out).mono ?_
    rintro e w6 ⟨rfl, o6, s6, x6, hq6, hw6, hst6, hb6⟩
    have HF := Lib.hid (HQQ.out _ _ hq6)
    have HQ6 := Lib.hid hq6
    have hn6 : ¬ Own o6 wc.heap.size := hst6.no HNA.out HLA.out
    have hn64 : ¬ Own o6 w4.heap.size := fun h0 => (hst6.f _ h0).elim HN4.out (fun h => absurd (Nat.lt_trans HPB.out HLA.out) (Nat.not_lt.2 h))
    have HN6 := Lib.hid (And.intro hn6 hn64)
    have HT6 := Lib.hid (HTA.out.turns hst6.t (fun e => e.elim HN4.out (fun e => by have := HPB.out; omega)))
    have HS6 := Lib.hid (show Stp w w6 (Own o) (Own o6) from ⟨HSA.out.t.then hst6.t (fun k hk e => e.elim (fun e => (HSA.out.f k e).elim id (fun h => absurd hk (Nat.not_lt.2 h))) (fun e => by have h1 := HSC.out.t.size; omega)), fun k hk => (hst6.f k hk).elim (HSA.out.f k) (fun h => .inr (Nat.le_trans HSA.out.t.size h))⟩)
    obtain ⟨xid, ⟨xo, xa, xb, xc⟩, xw, xr, xd, xh, xp⟩ := x6
    have hh : xh = 0 := HF.out.how
    subst hh
    obtain ⟨vp6, vc6, vl6, ve6, hw6⟩ := hw6
    have HW6 := Lib.hid hw6
    have HQB := Lib.hid hw6.blk
    have y25 : w6.cell? ⟨wc.heap.size, 25, none⟩ = some (.int .i64 0) := hb6.cell 25
    have y26 : w6.cell? ⟨wc.heap.size, 26, none⟩ = some (.bool xp) := hb6.cell 26
    have HNB := Lib.hid (show ¬ o6 b.pb = 3 from by rw [hw6.ob]; omega)
    have HNK := Lib.hid (show ¬ o6 wc.heap.size = 3 from fun e => hn6 (by show o6 wc.heap.size ≠ 0; omega))
    have HNT := Lib.hid (show ¬ o6 w4.heap.size = 3 from fun e => hn64 (by show o6 w4.heap.size ≠ 0; omega))
    have HB6 := Lib.hid hb6
    clear hq6 hst6 hb6 hn6 hn64 hw6
    cases xp
    case true =>
      obtain ⟨hop, hgd⟩ := HF.out.pk rfl
      have hop : xo = 11 := hop
      subst hop
      have HGD := Lib.hid hgd
      clear hgd
      go_wp2_with fail
      have HPK := Lib.hid (tabpark_c (w := w6.drew) (HW6.out.tab.made (Turns.refl (fun _ => False) w6).drew) HF.out.ts HF.out.tl HSL.out.st HGD.out HF.out.rd.1 HF.out.rd.2 HF.out.rl)
      refine wp_region_held_drew (S := fun w' => Blk w' (b.pb) 65 #[vp6, .pointer (some ⟨b.pk, 0, none⟩), .pointer (some ⟨b.pt, 0, none⟩), vc6, .int .i64 s6.made, .pointer (some ⟨b.pm, 0, none⟩), .pointer (some ⟨b.px, 0, none⟩), .pointer (some ⟨b.pd, 0, none⟩), vl6, .int .i64 s6.steps, ve6] ∧ Blk w' (wc.heap.size) 131 (acA b.pb ⟨xid, ⟨11, xa, xb, xc⟩, xw, xr, xd, 0, true⟩) ∧ Turns (fun k => o6 k = 3) w6 w') (by kernel_rfl) ?_ (fun hHeld => ?_)
      · exact ⟨HQB.out, HB6.out, (Turns.refl _ w6).drew⟩
      refine takeH (i := 0) (d := some 145) (v := ?_) rfl rfl (by kernel_rfl) (by kernel_rfl) (by kernel_rfl) (fun _ _ _ h => h) (Or.inl ⟨by rfl, ?_⟩) (by assumption) ?_
      rotate_left
      · intro w hSw
        try dsimp only at hSw
        go_simp
        try with_reducible rfl
      try simp only [Act.put, List.setIfInBounds_toArray, List.set_cons_zero, List.set_cons_succ]
      refine takeH (i := 1) (d := some 146) (v := ?_) rfl rfl (by kernel_rfl) (by kernel_rfl) (by kernel_rfl) (fun _ _ _ h => h) (Or.inl ⟨by rfl, ?_⟩) (by assumption) ?_
      rotate_left
      · intro w hSw
        try dsimp only at hSw
        go_simp
        try with_reducible rfl
      try simp only [Act.put, List.setIfInBounds_toArray, List.set_cons_zero, List.set_cons_succ]
      refine takeH (i := 2) (d := some 147) (v := ?_) rfl rfl (by kernel_rfl) (by kernel_rfl) (by kernel_rfl) (fun _ _ _ h => h) (Or.inl ⟨by rfl, ?_⟩) (by assumption) ?_
      rotate_left
      · intro w hSw
        try dsimp only at hSw
        go_simp
        try with_reducible rfl
      try simp only [Act.put, List.setIfInBounds_toArray, List.set_cons_zero, List.set_cons_succ]
      refine takeH (i := 3) (d := some 148) (v := ?_) rfl rfl (by kernel_rfl) (by kernel_rfl) (by kernel_rfl) (fun _ _ _ h => h) (Or.inl ⟨by rfl, ?_⟩) (by assumption) ?_
      rotate_left
      · intro w hSw
        try dsimp only at hSw
        have q0_0 := hSw.1.cell 0
        have q0_1 := hSw.1.cell 1
        have q0_2 := hSw.1.cell 2
        have q0_3 := hSw.1.cell 3
        have q0_4 := hSw.1.cell 4
        have q0_5 := hSw.1.cell 5
        have q0_6 := hSw.1.cell 6
        have q0_7 := hSw.1.cell 7
        have q0_8 := hSw.1.cell 8
        have q0_9 := hSw.1.cell 9
        have q0_10 := hSw.1.cell 10
        simp only [List.getElem?_toArray, List.getElem?_cons_zero, List.getElem?_cons_succ] at q0_0 q0_1 q0_2 q0_3 q0_4 q0_5 q0_6 q0_7 q0_8 q0_9 q0_10
        go_simp
        try with_reducible rfl
      try simp only [Act.put, List.setIfInBounds_toArray, List.set_cons_zero, List.set_cons_succ]
      refine takeH (i := 4) (d := some 149) (v := ?_) rfl rfl (by kernel_rfl) (by kernel_rfl) (by kernel_rfl) (fun _ _ _ h => h) (Or.inl ⟨by rfl, ?_⟩) (by assumption) ?_
      rotate_left
      · intro w hSw
        try dsimp only at hSw
        go_simp
        try with_reducible rfl
      try simp only [Act.put, List.setIfInBounds_toArray, List.set_cons_zero, List.set_cons_succ]
      refine takeH (i := 5) (d := some 150) (v := ?_) rfl rfl (by kernel_rfl) (by kernel_rfl) (by kernel_rfl) (fun _ _ _ h => h) (Or.inl ⟨by rfl, ?_⟩) (by assumption) ?_
      rotate_left
      · intro w hSw
        try dsimp only at hSw
        go_simp
        try with_reducible rfl
      try simp only [Act.put, List.setIfInBounds_toArray, List.set_cons_zero, List.set_cons_succ]
      refine takeH (i := 6) (d := some 151) (v := ?_) rfl rfl (by kernel_rfl) (by kernel_rfl) (by kernel_rfl) (fun _ _ _ h => h) (Or.inl ⟨by rfl, ?_⟩) (by assumption) ?_
      rotate_left
      · intro w hSw
        try dsimp only at hSw
        go_simp
        try with_reducible rfl
      try simp only [Act.put, List.setIfInBounds_toArray, List.set_cons_zero, List.set_cons_succ]
      refine takeH (i := 7) (d := some 152) (v := ?_) rfl rfl (by kernel_rfl) (by kernel_rfl) (by kernel_rfl) (fun _ _ _ h => h) (Or.inl ⟨by rfl, ?_⟩) (by assumption) ?_
      rotate_left
      · intro w hSw
        try dsimp only at hSw
        go_simp
        try with_reducible rfl
      try simp only [Act.put, List.setIfInBounds_toArray, List.set_cons_zero, List.set_cons_succ]
      refine takeH (i := 8) (d := some 153) (v := ?_) rfl rfl (by kernel_rfl) (by kernel_rfl) (by kernel_rfl) (fun _ _ _ h => h) (Or.inl ⟨by rfl, ?_⟩) (by assumption) ?_
      rotate_left
      · intro w hSw
        try dsimp only at hSw
        refine exec_load_at (P := Tryz.prog) (x := .tmp 152) (n := 2) (cs := [.int .i64 11, .int .i64 xa, .int .i64 xb, .int .i64 xc, .slice none 0 0, .bool false]) ?_ ?_ (fun j v hv => by have hj : j < 6 := (List.getElem?_eq_some_iff.1 hv).1; refine (hSw.2.1.cell (2 + j)).trans ?_; rw [← hv]; rcases lt6 hj with rfl | rfl | rfl | rfl | rfl | rfl <;> rfl) Tryz.underlying25 ?_ Tryz.sizeIns <;> rfl
      try simp only [Act.put, List.setIfInBounds_toArray, List.set_cons_zero, List.set_cons_succ]
      refine wpAnyH_ready (rs := [9]) (by kernel_rfl) (by simp) ?_
      refine AllReadyH.cons rfl (fun K hK => ?_) AllReadyH.nil
      go_simp
      refine HPK.out.mono ?_
      rintro e w7 ⟨rfl, F7, hT7, hs7⟩
      refine hK.out _ _ ?_ (fun hHeld => ?_)
      · exact ⟨hHeld.1.turns hs7.t HNB.out, hHeld.2.1.turns hs7.t HNK.out, hHeld.2.2.trans hs7.t⟩
      clear hK K
      try simp only [Act.put, List.setIfInBounds_toArray, List.set_cons_zero, List.set_cons_succ]
      refine wpAnyH_done (by kernel_rfl) ?_ _
      obtain ⟨o7, h7, _, hs7⟩ := (HW6.out.made HXX.out (Turns.refl (fun _ => False) w6).drew).stepTab HXX.out hT7 hs7
      have HE7 := Lib.hid (And.intro (show WW CX w7 b o7 ps { s6 with ts := _, rd := _ } from ⟨_, _, _, _, h7⟩) (HS6.out.trans ((Stp.made (F := Own o6) (Turns.refl (fun _ => False) w6).drew).trans hs7)))
      have HTL := Lib.hid (wtell_c (kind := 2) (who := (i : Int)) (ea := 0) (eb := 0) (ec := 0) HXX.out HE7.out.1 HF.out.ev)
      clear hHeld hT7 hs7 h7 y25 y26
      go_wp2_with fail
      refine HTL.out.mono ?_
      rintro e w8 ⟨rfl, o8, hw8, hs8⟩
      have HE8 := Lib.hid (And.intro hw8 (HE7.out.2.trans hs8))
      clear hw8 hs8
      go_wp2_with fail
      go_end0
      exact ⟨rfl, o8, s6, _, HQ6.out, HE8.out.1, HE8.out.2⟩
    case false =>
      have HPT := Lib.hid (tabput_c (w := w6.drew) (pc := (pc : Int) + 1) (r := xr) (HW6.out.tab.made (Turns.refl (fun _ => False) w6).drew) HF.out.ts HF.out.tl HSL.out.st)
      have HIL := Lib.hid (show (pc : Int) + 1 ≤ 1000 from by have := HSL.out.il; omega)
      go_wp2_with fail
      refine wp_region_held_drew (S := fun w' => Blk w' (b.pb) 65 #[vp6, .pointer (some ⟨b.pk, 0, none⟩), .pointer (some ⟨b.pt, 0, none⟩), vc6, .int .i64 s6.made, .pointer (some ⟨b.pm, 0, none⟩), .pointer (some ⟨b.px, 0, none⟩), .pointer (some ⟨b.pd, 0, none⟩), vl6, .int .i64 s6.steps, ve6] ∧ Blk w' (wc.heap.size) 131 (acA b.pb ⟨xid, ⟨xo, xa, xb, xc⟩, xw, xr, xd, 0, false⟩) ∧ Blk w' (w4.heap.size) 38 (tskC x).toArray ∧ Turns (fun k => o6 k = 3) w6 w') (by kernel_rfl) ?_ (fun hHeld => ?_)
      · exact ⟨HQB.out, HB6.out, HT6.out, (Turns.refl _ w6).drew⟩
      refine takeH (i := 0) (d := some 104) (v := ?_) rfl rfl (by kernel_rfl) (by kernel_rfl) (by kernel_rfl) (fun _ _ _ h => h) (Or.inl ⟨by rfl, ?_⟩) (by assumption) ?_
      rotate_left
      · intro w hSw
        try dsimp only at hSw
        go_simp
        try with_reducible rfl
      try simp only [Act.put, List.setIfInBounds_toArray, List.set_cons_zero, List.set_cons_succ]
      refine takeH (i := 1) (d := some 105) (v := ?_) rfl rfl (by kernel_rfl) (by kernel_rfl) (by kernel_rfl) (fun _ _ _ h => h) (Or.inl ⟨by rfl, ?_⟩) (by assumption) ?_
      rotate_left
      · intro w hSw
        try dsimp only at hSw
        go_simp
        try with_reducible rfl
      try simp only [Act.put, List.setIfInBounds_toArray, List.set_cons_zero, List.set_cons_succ]
      refine takeH (i := 2) (d := some 106) (v := ?_) rfl rfl (by kernel_rfl) (by kernel_rfl) (by kernel_rfl) (fun _ _ _ h => h) (Or.inl ⟨by rfl, ?_⟩) (by assumption) ?_
      rotate_left
      · intro w hSw
        try dsimp only at hSw
        go_simp
        try with_reducible rfl
      try simp only [Act.put, List.setIfInBounds_toArray, List.set_cons_zero, List.set_cons_succ]
      refine takeH (i := 3) (d := some 107) (v := ?_) rfl rfl (by kernel_rfl) (by kernel_rfl) (by kernel_rfl) (fun _ _ _ h => h) (Or.inl ⟨by rfl, ?_⟩) (by assumption) ?_
      rotate_left
      · intro w hSw
        try dsimp only at hSw
        have q0_0 := hSw.1.cell 0
        have q0_1 := hSw.1.cell 1
        have q0_2 := hSw.1.cell 2
        have q0_3 := hSw.1.cell 3
        have q0_4 := hSw.1.cell 4
        have q0_5 := hSw.1.cell 5
        have q0_6 := hSw.1.cell 6
        have q0_7 := hSw.1.cell 7
        have q0_8 := hSw.1.cell 8
        have q0_9 := hSw.1.cell 9
        have q0_10 := hSw.1.cell 10
        simp only [List.getElem?_toArray, List.getElem?_cons_zero, List.getElem?_cons_succ] at q0_0 q0_1 q0_2 q0_3 q0_4 q0_5 q0_6 q0_7 q0_8 q0_9 q0_10
        go_simp
        try with_reducible rfl
      try simp only [Act.put, List.setIfInBounds_toArray, List.set_cons_zero, List.set_cons_succ]
      refine takeH (i := 4) (d := some 108) (v := ?_) rfl rfl (by kernel_rfl) (by kernel_rfl) (by kernel_rfl) (fun _ _ _ h => h) (Or.inl ⟨by rfl, ?_⟩) (by assumption) ?_
      rotate_left
      · intro w hSw
        try dsimp only at hSw
        go_simp
        try with_reducible rfl
      try simp only [Act.put, List.setIfInBounds_toArray, List.set_cons_zero, List.set_cons_succ]
      refine takeH (i := 5) (d := some 109) (v := ?_) rfl rfl (by kernel_rfl) (by kernel_rfl) (by kernel_rfl) (fun _ _ _ h => h) (Or.inl ⟨by rfl, ?_⟩) (by assumption) ?_
      rotate_left
      · intro w hSw
        try dsimp only at hSw
        go_simp
        try with_reducible rfl
      try simp only [Act.put, List.setIfInBounds_toArray, List.set_cons_zero, List.set_cons_succ]
      refine takeH (i := 6) (d := some 110) (v := ?_) rfl rfl (by kernel_rfl) (by kernel_rfl) (by kernel_rfl) (fun _ _ _ h => h) (Or.inl ⟨by rfl, ?_⟩) (by assumption) ?_
      rotate_left
      · intro w hSw
        try dsimp only at hSw
        have q0 := hSw.2.2.1.cell 1
        simp only [tskC, List.getElem?_toArray, List.getElem?_cons_zero, List.getElem?_cons_succ] at q0
        rw [HSL.out.hpc] at q0
        go_simp
        try with_reducible rfl
      try simp only [Act.put, List.setIfInBounds_toArray, List.set_cons_zero, List.set_cons_succ]
      refine takeH (i := 7) (d := some 111) (v := ?_) rfl rfl (by kernel_rfl) (by kernel_rfl) (by kernel_rfl) (fun _ _ _ h => h) (Or.inl ⟨by rfl, ?_⟩) (by assumption) ?_
      rotate_left
      · intro w hSw
        try dsimp only at hSw
        have hw := IntWalk.i64_in ((pc : Int) + 1) (by have := HIL.out; omega)
        go_simp
        try with_reducible rfl
      try simp only [Act.put, List.setIfInBounds_toArray, List.set_cons_zero, List.set_cons_succ]
      refine takeH (i := 8) (d := some 112) (v := ?_) rfl rfl (by kernel_rfl) (by kernel_rfl) (by kernel_rfl) (fun _ _ _ h => h) (Or.inl ⟨by rfl, ?_⟩) (by assumption) ?_
      rotate_left
      · intro w hSw
        try dsimp only at hSw
        go_simp
        try with_reducible rfl
      try simp only [Act.put, List.setIfInBounds_toArray, List.set_cons_zero, List.set_cons_succ]
      refine takeH (i := 9) (d := some 113) (v := ?_) rfl rfl (by kernel_rfl) (by kernel_rfl) (by kernel_rfl) (fun _ _ _ h => h) (Or.inl ⟨by rfl, ?_⟩) (by assumption) ?_
      rotate_left
      · intro w hSw
        try dsimp only at hSw
        go_simp
        try with_reducible rfl
      try simp only [Act.put, List.setIfInBounds_toArray, List.set_cons_zero, List.set_cons_succ]
      refine takeH (i := 10) (d := some 114) (v := ?_) rfl rfl (by kernel_rfl) (by kernel_rfl) (by kernel_rfl) (fun _ _ _ h => h) (Or.inl ⟨by rfl, ?_⟩) (by assumption) ?_
      rotate_left
      · intro w hSw
        try dsimp only at hSw
        go_simp
        try with_reducible rfl
      try simp only [Act.put, List.setIfInBounds_toArray, List.set_cons_zero, List.set_cons_succ]
      refine takeH (i := 11) (d := some 115) (v := ?_) rfl rfl (by kernel_rfl) (by kernel_rfl) (by kernel_rfl) (fun _ _ _ h => h) (Or.inl ⟨by rfl, ?_⟩) (by assumption) ?_
      rotate_left
      · intro w hSw
        try dsimp only at hSw
        refine exec_load_at (P := Tryz.prog) (x := .tmp 114) (n := 16) (cs := [.int .i64 xr.r0, .int .i64 xr.r1, .int .i64 xr.r2, .int .i64 xr.r3, .int .i64 xr.r4, .int .i64 xr.r5, .int .i64 xr.r6, .int .i64 xr.r7]) ?_ ?_ (fun j v hv => by have hj : j < 8 := (List.getElem?_eq_some_iff.1 hv).1; refine (hSw.2.1.cell (16 + j)).trans ?_; rw [← hv]; rcases lt8 hj with rfl | rfl | rfl | rfl | rfl | rfl | rfl | rfl <;> rfl) Tryz.underlying36 ?_ Tryz.sizeReg <;> rfl
      try simp only [Act.put, List.setIfInBounds_toArray, List.set_cons_zero, List.set_cons_succ]
      refine wpAnyH_ready (rs := [12]) (by kernel_rfl) (by simp) ?_
      refine AllReadyH.cons rfl (fun K hK => ?_) AllReadyH.nil
      go_simp
      refine HPT.out.mono ?_
      rintro e w7 ⟨rfl, F7, hT7, hs7⟩
      refine hK.out _ _ ?_ (fun hHeld => ?_)
      · exact ⟨hHeld.1.turns hs7.t HNB.out, hHeld.2.1.turns hs7.t HNK.out, hHeld.2.2.1.turns hs7.t HNT.out, hHeld.2.2.2.trans hs7.t⟩
      clear hK K
      try simp only [Act.put, List.setIfInBounds_toArray, List.set_cons_zero, List.set_cons_succ]
      refine wpAnyH_done (by kernel_rfl) ?_ _
      obtain ⟨o7, h7, _, hs7⟩ := (HW6.out.made HXX.out (Turns.refl (fun _ => False) w6).drew).stepTab HXX.out hT7 hs7
      have HE7 := Lib.hid (And.intro (show WW CX w7 b o7 ps { s6 with ts := s6.ts.set i ⟨x.prog, (pc : Int) + 1, x.st, x.how, xr, x.ins⟩ } from ⟨_, _, _, _, h7⟩) (HS6.out.trans ((Stp.made (F := Own o6) (Turns.refl (fun _ => False) w6).drew).trans hs7)))
      clear hHeld hT7 hs7 h7 y25 y26
      go_wp2_with fail
      go_end0
      refine ⟨rfl, o7, s6, _, HQ6.out, ?_, HE7.out.2⟩
      have h9 := HE7.out.1
      rw [← HSL.out.hpc] at h9
      exact h9
end Go.Proofs.YtjnkphhlkoapbaaGreat
namespace Go.Proofs.YtjnkphhlkoapbaaGreat
open Go.RowKit
set_option linter.unusedVariables false
set_option linter.unusedSimpArgs false
set_option maxRecDepth 100000 in
set_option maxHeartbeats 8000000 in
theorem acstop_1 {CX : World → (Nat → Prop) → Prop} {w : World} {b : Wp} {o : Nat → Nat} {ps : List (List Ins)} {s : Wst} {g a bb cc i cp ci : Nat} {x : Ac} {c : Chn} {kd dt : Int} {sg cl rm : Bool} {l : List Wt} {v : Int} (hx : Ext CX) (h : WW CX w b o ps s) (hb : Blk w g 131 (acA b.pb x)) (hg : ¬ Own o g) (hop : x.i.op = 20) (hxa : x.i.a = a) (hxb : x.i.b = bb) (ha : a < 8) (hbb : bb < 8) (hi : x.was.get a = i) (htm : s.tms[i]? = some ⟨1, dt, some cp⟩) (hch : s.chs[ci]? = some (cp, ⟨true, sg, cl, rm, some v, l⟩)) (htl : s.tms.length ≤ 1000) (hsq : s.sq ≤ 1000000) :
    Calls Tryz.prog 81 #[.pointer (some ⟨g, 0, none⟩)] w fun e w' => e = .returned (.tuple #[]) ∧ ∃ o', WW CX w' b o' ps { s with L := delL i s.L, chs := s.chs.set ci (cp, ⟨true, sg, cl, rm, none, l⟩) } ∧ AStp w w' o o' g ∧ Blk w' g 131 (acA b.pb { x with regs := x.regs.set bb 1 }) := by
  have HB := Lib.hid hb
  have HXX := Lib.hid hx
  have HLT := Lib.hid hbb
  have HX := Lib.hid (And.intro hxa (And.intro hxb (And.intro hop hi)))
  have HG := Lib.hid hg
  have HGL := Lib.hid hb.lt
  have HLA := Lib.hid ha
  have HT := Lib.hid (And.intro htm (And.intro hch (And.intro htl hsq)))
  have HW := Lib.hid h
  have jb1 : (0 : Int) ≤ (bb : Int) := by omega
  have jb2 : (bb : Int) < 8 := by omega
  have q0 : w.cell? ⟨g, 0, none⟩ = some (.pointer (some ⟨b.pb, 0, none⟩)) := hb.cell 0
  have q5 := h.cell5
  have HA1 := Lib.hid (aca_c hb hxa ha)
  have HBT := Lib.hid (fun ww => (show Calls Tryz.prog 117 #[.bool true] ww (fun e w' => e = .returned (.int .i64 1) ∧ ww = w') from bit_c true ww))
  clear h hb hx hxa hxb hg hop htm hch htl hsq hi
  go_enter Tryz.func81, Tryz.ntmps81
  go_wp2_with fail
  refine HA1.out.mono ?_
  rintro e w1 ⟨rfl, hm1⟩
  have HM1 := Lib.hid hm1
  have HB1 := Lib.hid (HB.out.turns hm1 (fun h => h))
  obtain ⟨vp, vc, vl, ve, hw1⟩ := HW.out.made HXX.out hm1
  have HW1 := Lib.hid hw1
  have HKD := Lib.hid (tskind_c hw1.tms HT.out.1 HT.out.2.2.1)
  rw [HX.out.2.2.2]
  clear hm1 hw1 q0 q5
  go_wp2_with fail
  refine HKD.out.mono ?_
  rintro e w2 ⟨rfl, rfl⟩
  have q2 : w1.cell? ⟨g, 2, none⟩ = some (.int .i64 x.i.op) := HB1.out.cell 2
  rw [HX.out.2.2.1] at q2
  have HA2 := Lib.hid (aca_c HB1.out HX.out.1 HLA.out)
  go_wp2_with fail
  refine HA2.out.mono ?_
  rintro e w3 ⟨rfl, hm3⟩
  have HM3 := Lib.hid (HM1.out.trans hm3)
  have HB3 := Lib.hid (HB1.out.turns hm3 (fun h => h))
  have hw3 := HW1.out.made HXX.out hm3
  have HW3 := Lib.hid hw3
  have HST := Lib.hid (tsstop_1 hw3.tms HT.out.1 (hw3.chn cp _ (List.mem_of_getElem? HT.out.2.1)) (fun k hk h4 => by have h5 : o k = 16 + cp := hk; have h6 : o k = 4 := h4; omega) HT.out.2.2.1 HT.out.2.2.2)
  rw [HX.out.2.2.2]
  clear hm3 hw3 q2
  go_wp2_with fail
  refine HST.out.mono ?_
  rintro e w4 ⟨rfl, hT, hC, ht⟩
  obtain ⟨o4, h4, _, _, hs4, _⟩ := HW3.out.stepTC HXX.out HT.out.2.1 hT hC ht (fun k hk => .inl hk) (fun k hk => .inl hk) (fun k hk h4 => by have h5 : o k = 16 + cp := hk; have h6 : o k = 4 := h4; omega)
  have HW4 := Lib.hid h4
  have HS4 := Lib.hid ((Stp.made (F := Own o) HM3.out).trans hs4)
  have HB4 := Lib.hid (HB3.out.turns hs4.t HG.out)
  clear hT hC ht h4 hs4
  go_upto_region 10 with fail
  refine wp_region_held_drew (S := fun w' => Low w' g b.pb (x) ∧ (w' = w4.drew ∨ True)) (by kernel_rfl) ?_ (fun hHeld => ?_)
  · exact ⟨low_of (HB4.out), .inr trivial⟩
  refine takeH (i := 0) (d := some 73) (v := ?_) rfl rfl (by kernel_rfl) (by kernel_rfl) (by kernel_rfl) (fun _ _ _ h => h) (Or.inl ⟨by rfl, ?_⟩) (by assumption) ?_
  rotate_left
  · intro w hSw
    try dsimp only at hSw
    go_simp
    try with_reducible rfl
  try simp only [Act.put, List.setIfInBounds_toArray, List.set_cons_zero, List.set_cons_succ]
  refine takeH (i := 1) (d := some 74) (v := ?_) rfl rfl (by kernel_rfl) (by kernel_rfl) (by kernel_rfl) (fun _ _ _ h => h) (Or.inl ⟨by rfl, ?_⟩) (by assumption) ?_
  rotate_left
  · intro w hSw
    try dsimp only at hSw
    go_simp
    try with_reducible rfl
  try simp only [Act.put, List.setIfInBounds_toArray, List.set_cons_zero, List.set_cons_succ]
  refine takeH (i := 2) (d := some 75) (v := ?_) rfl rfl (by kernel_rfl) (by kernel_rfl) (by kernel_rfl) (fun _ _ _ h => h) (Or.inl ⟨by rfl, ?_⟩) (by assumption) ?_
  rotate_left
  · intro w hSw
    try dsimp only at hSw
    go_simp
    try with_reducible rfl
  try simp only [Act.put, List.setIfInBounds_toArray, List.set_cons_zero, List.set_cons_succ]
  refine takeH (i := 3) (d := some 76) (v := ?_) rfl rfl (by kernel_rfl) (by kernel_rfl) (by kernel_rfl) (fun _ _ _ h => h) (Or.inl ⟨by rfl, ?_⟩) (by assumption) ?_
  rotate_left
  · intro w hSw
    try dsimp only at hSw
    go_simp
    try with_reducible rfl
  try simp only [Act.put, List.setIfInBounds_toArray, List.set_cons_zero, List.set_cons_succ]
  refine takeH (i := 4) (d := some 77) (v := ?_) rfl rfl (by kernel_rfl) (by kernel_rfl) (by kernel_rfl) (fun _ _ _ h => h) (Or.inl ⟨by rfl, ?_⟩) (by assumption) ?_
  rotate_left
  · intro w hSw
    try dsimp only at hSw
    go_simp
    try with_reducible rfl
  try simp only [Act.put, List.setIfInBounds_toArray, List.set_cons_zero, List.set_cons_succ]
  refine takeH (i := 5) (d := some 78) (v := ?_) rfl rfl (by kernel_rfl) (by kernel_rfl) (by kernel_rfl) (fun _ _ _ h => h) (Or.inl ⟨by rfl, ?_⟩) (by assumption) ?_
  rotate_left
  · intro w hSw
    try dsimp only at hSw
    have q3 : w.cell? ⟨g, 4, none⟩ = some (.int .i64 (x.i.b)) := hSw.1 4 (by omega)
    rw [HX.out.2.1] at q3
    go_simp
    try with_reducible rfl
  try simp only [Act.put, List.setIfInBounds_toArray, List.set_cons_zero, List.set_cons_succ]
  refine takeH (i := 6) (d := some 79) (v := ?_) rfl rfl (by kernel_rfl) (by kernel_rfl) (by kernel_rfl) (fun _ _ _ h => h) (Or.inl ⟨by rfl, ?_⟩) (by assumption) ?_
  rotate_left
  · intro w hSw
    try dsimp only at hSw
    go_simp
    try with_reducible rfl
  try simp only [Act.put, List.setIfInBounds_toArray, List.set_cons_zero, List.set_cons_succ]
  refine takeH (i := 8) (d := some 81) (v := ?_) rfl rfl (by kernel_rfl) (by kernel_rfl) (by kernel_rfl) (fun _ _ _ h => h) (Or.inl ⟨by rfl, ?_⟩) (by assumption) ?_
  rotate_left
  · intro w hSw
    try dsimp only at hSw
    go_simp
    try with_reducible rfl
  try simp only [Act.put, List.setIfInBounds_toArray, List.set_cons_zero, List.set_cons_succ]
  refine takeH (i := 9) (d := some 82) (v := ?_) rfl rfl (by kernel_rfl) (by kernel_rfl) (by kernel_rfl) (fun _ _ _ h => h) (Or.inl ⟨by rfl, ?_⟩) (by assumption) ?_
  rotate_left
  · intro w hSw
    try dsimp only at hSw
    go_simp
    try with_reducible rfl
  try simp only [Act.put, List.setIfInBounds_toArray, List.set_cons_zero, List.set_cons_succ]
  refine wpAnyH_ready (rs := [7]) (by kernel_rfl) (by simp) ?_
  refine AllReadyH.cons rfl (fun K hK => ?_) AllReadyH.nil
  go_simp
  refine (HBT.out _).mono ?_
  rintro e w9 ⟨rfl, rfl⟩
  refine hK.out _ _ ?_ (fun hHeld => ?_)
  · exact hHeld
  clear hK K
  try simp only [Act.put, List.setIfInBounds_toArray, List.set_cons_zero, List.set_cons_succ]
  refine takeH (i := 10) (d := some 83) (v := ?_) rfl rfl (by kernel_rfl) (by kernel_rfl) (by kernel_rfl) (fun _ _ _ h => h) (Or.inl ⟨by rfl, ?_⟩) (by assumption) ?_
  rotate_left
  · intro w hSw
    try dsimp only at hSw
    go_simp
    try with_reducible rfl
  try simp only [Act.put, List.setIfInBounds_toArray, List.set_cons_zero, List.set_cons_succ]
  refine wpAnyH_ready (rs := [11]) (by kernel_rfl) (by simp) ?_
  refine AllReadyH.cons rfl (fun K hK => ?_) AllReadyH.nil
  have qz0 := (HB4.out).cell (16 + bb)
  rw [ac_reg _ _ HLT.out] at qz0
  have qz1 : w4.drew.cell? ⟨g, 16 + bb, none⟩ = _ := qz0
  have qf := (HB4.out).free (16 + bb)
  have qf1 : w4.drew.frozen? ⟨g, 16 + bb, none⟩ = false := qf
  go_simp
  refine hK.out _ _ ?_ (fun hHeld => ?_)
  · exact ⟨low_regs (r := (x).regs.set bb (1)) (low_of (by have hb4 := (show Blk w4.drew g 131 _ from HB4.out).put (16 + bb) (.int .i64 (1)); rw [ac_set _ _ _ HLT.out] at hb4; exact hb4)), .inr trivial⟩
  clear hK K
  try simp only [Act.put, List.setIfInBounds_toArray, List.set_cons_zero, List.set_cons_succ]
  refine wpAnyH_done (by kernel_rfl) ?_ _
  have hb4 := (show Blk w4.drew g 131 _ from HB4.out).put (16 + bb) (.int .i64 (1))
  have ht4 : Turns (fun k => k = g) w4 (w4.drew.setCell ⟨g, 16 + bb, none⟩ (.int .i64 (1))) := ((Turns.refl (fun k => k = g) w4).drew).setCell (p := ⟨g, 16 + bb, none⟩) (fun _ => rfl) _
  rw [ac_set _ _ _ HLT.out] at hb4
  have HE := Lib.hid (And.intro hb4 ht4)
  clear hb4 ht4 hHeld
  go_wp2_with fail
  go_end0
  exact ⟨rfl, o4, (show WW CX w4 b o4 ps _ from ⟨_, _, _, _, HW4.out⟩).turns HXX.out HE.out.2 (fun k hk e => (AStp.of g HS4.out).no HG.out HGL.out (by rw [← show k = g from e]; exact hk)), (AStp.of g HS4.out).set HE.out.2, HE.out.1⟩
end Go.Proofs.YtjnkphhlkoapbaaGreat
namespace Go.Proofs.YtjnkphhlkoapbaaGreat
open Go.RowKit
set_option linter.unusedVariables false
set_option linter.unusedSimpArgs false
abbrev wtA (x : Wt) : Array Value := #[.int .i64 x.task, .int .i64 x.kase, .int .i64 x.val]
theorem endf_c {w : World} {g : Nat} {x : Wk} {t : Wt} (hg : Blk w g 245 (wtA t)) (hne : x.task ≠ t.task) :
    Calls Tryz.prog 207 #[.agg #[.int .i64 x.task, .int .i64 x.kase, .int .i64 x.val, .bool x.ok, .bool x.panic], .pointer (some ⟨g, 0, none⟩)] w fun e w' => e = .returned (.bool false) ∧ Made w w' := by
  have hm := (Turns.refl (fun _ => False) w).alloc (.cells #[.int .i64 x.task, .int .i64 x.kase, .int .i64 x.val, .bool x.ok, .bool x.panic] 207)
  have q0 : (w.alloc (.cells #[.int .i64 x.task, .int .i64 x.kase, .int .i64 x.val, .bool x.ok, .bool x.panic] 207)).cell? ⟨g, 0, none⟩ = some (.int .i64 t.task) := (hg.turns hm (fun h => h)).cell 0
  have b0 : (x.task == t.task) = false := by simpa using hne
  have HM := Lib.hid hm
  clear hg hne hm
  go_enter Tryz.func207, Tryz.ntmps207
  go_wp2_with fail
  go_ret
  exact ⟨by first | rfl | simp [b0], HM.out⟩
theorem idx_end {a : Option Addr} {xs : List Wk} {len cap g : Nat} {t : Wt} (w : World) (hg : Blk w g 245 (wtA t)) (hgood : ∀ x ∈ xs, x.task ≠ t.task) (h : RowIn wkC 5 w a len xs) (hl : len ≤ 1000) :
    Calls Tryz.prog 214 #[.slice a len cap, .func (.func 207) #[] #[.pointer (some ⟨g, 0, none⟩)]] w fun e w' => e = .returned (.int .i64 (-1)) ∧ Made w w' := by
  obtain ⟨hlen, hrow⟩ := h
  subst hlen
  have HGD := Lib.hid hgood
  have HG := Lib.hid hg
  have HR := Lib.hid hrow
  clear hgood hg hrow
  go_enter Tryz.func214, Tryz.ntmps214
  go_wp2_with fail
  go_loopw [8] (fun v8 wr => ∃ k : Nat, k ≤ xs.length ∧ v8 = .int .i64 k ∧ Made w wr) (fun v8 _ => xs.length - (intOf v8).toNat)
  case atStart => exact ⟨0, Nat.zero_le _, rfl, Turns.refl _ _⟩
  case round =>
    obtain ⟨k, hk, rfl, hmade⟩ := hrel
    by_cases hlt : k < xs.length
    · rcases HR.out with h0 | ⟨b, off, rfl, hb, hlies⟩
      · omega
      obtain ⟨x, hx⟩ := get_of_lt (xs := xs) (k := k) hlt
      have hl1 : Lies wkC 5 wr b off xs := hlies.keep fun o => hmade.cell (p := ⟨b, o, none⟩) hb (fun h => h)
      have c0 : wr.cell? ⟨b, off + k * 5, none⟩ = some (.int .i64 x.task) := hl1 k x hx 0 _ rfl
      have c1 : wr.cell? ⟨b, off + k * 5 + 1, none⟩ = some (.int .i64 x.kase) := hl1 k x hx 1 _ rfl
      have c2 : wr.cell? ⟨b, off + k * 5 + 2, none⟩ = some (.int .i64 x.val) := hl1 k x hx 2 _ rfl
      have c3 : wr.cell? ⟨b, off + k * 5 + 3, none⟩ = some (.bool x.ok) := hl1 k x hx 3 _ rfl
      have c4 : wr.cell? ⟨b, off + k * 5 + 4, none⟩ = some (.bool x.panic) := hl1 k x hx 4 _ rfl
      have HC := Lib.hid (endf_c (x := x) (HG.out.turns hmade (fun h => h)) (HGD.out x (List.mem_of_getElem? hx)))
      have HM := Lib.hid hmade
      clear hl1 hlies hx hmade
      go_wp2_with fail
      refine HC.out.mono ?_
      rintro e w2 ⟨rfl, hm⟩
      have HM2 := Lib.hid (HM.out.trans hm)
      clear hm c0 c1 c2 c3 c4
      go_wp2_with fail
      go_roundw
      case rel => exact ⟨k + 1, by omega, by go_num, HM2.out⟩
      case measure => simp [intOf]; omega
    · have HM := Lib.hid hmade
      clear hmade
      go_wp2_with fail
      go_ret
      exact ⟨rfl, HM.out⟩
theorem any_end {a : Option Addr} {xs : List Wk} {len cap g : Nat} {t : Wt} (w : World) (hg : Blk w g 245 (wtA t)) (hgood : ∀ x ∈ xs, x.task ≠ t.task) (h : RowIn wkC 5 w a len xs) (hl : len ≤ 1000) :
    Calls Tryz.prog 206 #[.slice a len cap, .func (.func 207) #[] #[.pointer (some ⟨g, 0, none⟩)]] w fun e w' => e = .returned (.bool false) ∧ Made w w' := by
  have H := Lib.hid (idx_end (cap := cap) w hg hgood h hl)
  clear hg hgood h
  go_enter Tryz.func206, Tryz.ntmps206
  go_wp2_with fail
  refine H.out.mono ?_
  rintro e w1 ⟨rfl, hm⟩
  have HM := Lib.hid hm
  clear hm
  go_wp2_with fail
  go_ret
  exact ⟨rfl, HM.out⟩
end Go.Proofs.YtjnkphhlkoapbaaGreat
