/-
  Walks and laws under LawTopBarrier, part 7.
-/
import Derived.Deep.LoopGhost
import Derived.Deep.DeepCutAuto
import Derived.Test.YtjnkphhlkoapbaaGreatPb6
namespace Go.Proofs.YtjnkphhlkoapbaaGreat
open Go.RowKit
set_option linter.unusedVariables false
set_option linter.unusedSimpArgs false
def fireB (s : Wst) (i : Nat) (wh : Int) : Wst := { s with ev := s.ev ++ [⟨s.steps, 6, -1, i, wh, 0⟩], nd := s.nd + 1 }
set_option maxRecDepth 100000 in
set_option maxHeartbeats 4000000 in
theorem wfire_c {CX : World → (Nat → Prop) → Prop} {w : World} {b : Wp} {o : Nat → Nat} {ps : List (List Ins)} {s : Wst} {i ci cp : Nat} {c : Chn} {wh now dt : Int} {a : Option Addr} {l : List Wk} (hx : Ext CX) (h : WW CX w b o ps s) (hts : s.tms[i]? = some ⟨1, dt, some cp⟩) (hch : s.chs[ci]? = some (cp, c)) (hrow : RowIn wkC 5 w a l.length l) (hun : ∀ b' off, a = some ⟨b', off, none⟩ → ¬ Own o b' ∧ b' < w.heap.size) (hn : l.length ≤ 1000) (htl : s.tms.length ≤ 1000) (hcl : s.chs.length ≤ 1000) (hev : s.ev.length < 1000) (hnd : s.nd < 1000000) (hok : WakesOK (fireB s i wh) l) :
  Calls Tryz.prog 45 #[.pointer (some ⟨b.pb, 0, none⟩), .agg #[.int .i64 i, .int .i64 1, .int .i64 wh, .int .i64 now, .int .i64 dt, .slice a l.length l.length, .bool true]] w fun e w' => e = .returned (.tuple #[]) ∧ ∃ o', WW CX w' b o' ps (wakesS (fireB s i wh) l) ∧ Stp w w' (Own o) (Own o') := by
 have HXX := Lib.hid hx
 have HM := Lib.hid ((Turns.refl (fun _ => False) w).alloc (.cells #[.int .i64 i, .int .i64 1, .int .i64 wh, .int .i64 now, .int .i64 dt, .slice a l.length l.length, .bool true] 114))
 have HF := Lib.hid (Blk.new w 114 #[.int .i64 i, .int .i64 1, .int .i64 wh, .int .i64 now, .int .i64 dt, .slice a l.length l.length, .bool true])
 have HNO := Lib.hid (show ∀ q, w.heap.size ≤ q → ¬ Own o q from fun q hq h0 => by obtain ⟨_, _, _, _, h1⟩ := h; have := h1.lt q h0; omega)
 have HTL := Lib.hid (wtell_c (kind := 6) (who := -1) (ea := (i : Int)) (eb := wh) (ec := 0) hx (h.made hx HM.out) hev)
 have HROW := Lib.hid (And.intro hrow hun)
 have HK := Lib.hid (And.intro hts (And.intro hch hok))
 clear h hrow hun hts hch hok hx
 go_enter Tryz.func45, Tryz.ntmps45
 go_wp2_with fail
 refine HTL.out.mono ?_
 rintro e w1 ⟨rfl, o1, h1, hs1⟩
 have hb1 := HF.out.turns hs1.t (HNO.out _ (Nat.le_refl _))
 have HW1 := Lib.hid h1
 have HF1 := Lib.hid hb1
 have HS1 := Lib.hid ((Stp.made (F := Own o) HM.out).trans hs1)
 have y1 := hb1.cell 1
 have y6 := hb1.cell 6
 simp only [List.getElem?_toArray, List.getElem?_cons_zero, List.getElem?_cons_succ] at y1 y6
 have HN1 := Lib.hid (show ¬ Own o1 w.heap.size from fun h0 => by
  rcases hs1.f _ h0 with h4 | h4
  ·exact HNO.out _ (Nat.le_refl _) h4
  ·simp at h4; omega)
 clear h1 hs1 hb1
 go_upto_region 8 with fail
 clear y1 y6
 have HC5 := Lib.hid (show w1.cell? ⟨b.pb, 5, none⟩ = some (.pointer (some ⟨b.pm, 0, none⟩)) from by obtain ⟨_, _, _, _, h3⟩ := HW1.out; exact h3.blk.cell 5)
 have HWD := Lib.hid (HW1.out.made HXX.out (Turns.refl (fun _ => False) w1).drew)
 have HCH := Lib.hid (show Calls Tryz.prog 71 #[.pointer (some ⟨b.pm, 0, none⟩), .int .i64 i] w1.drew fun e w' => e = .returned (.pointer (some ⟨cp, 0, none⟩)) ∧ w1.drew = w' from by obtain ⟨_, _, _, _, h3⟩ := HWD.out; exact tschan_c h3.tms HK.out.1 htl)
 have HHD := Lib.hid (whandle_c HWD.out HK.out.2.1 hcl)
 have HWT := Lib.hid (wwent_c (ch := (ci : Int)) (who := -1) (v := now) (got := false) HXX.out HWD.out (by omega) (by omega) hnd)
 refine wp_region_held_drew (S := fun w' => Blk w' (w.heap.size) 114 #[.int .i64 i, .int .i64 1, .int .i64 wh, .int .i64 now, .int .i64 dt, .slice a l.length l.length, .bool true] ∧ w'.cell? ⟨b.pb, 5, none⟩ = some (.pointer (some ⟨b.pm, 0, none⟩)) ∧ (w' = w1.drew ∨ True)) (by kernel_rfl) ?_ (fun hHeld => ?_)
 ·exact ⟨HF1.out, HC5.out, .inr trivial⟩
 refine takeH (i := 0) (d := some 41) (v := ?_) rfl rfl (by kernel_rfl) (by kernel_rfl) (by kernel_rfl) (fun _ _ _ h => h) (Or.inl ⟨by rfl, ?_⟩) (by assumption) ?_
 rotate_left
 ·intro w hSw
  try dsimp only at hSw
  go_simp
  try with_reducible rfl
 try simp only [Act.put, List.setIfInBounds_toArray, List.set_cons_zero, List.set_cons_succ]
 refine takeH (i := 1) (d := some 42) (v := ?_) rfl rfl (by kernel_rfl) (by kernel_rfl) (by kernel_rfl) (fun _ _ _ h => h) (Or.inl ⟨by rfl, ?_⟩) (by assumption) ?_
 rotate_left
 ·intro w hSw
  try dsimp only at hSw
  go_simp
  try with_reducible rfl
 try simp only [Act.put, List.setIfInBounds_toArray, List.set_cons_zero, List.set_cons_succ]
 refine takeH (i := 2) (d := some 43) (v := ?_) rfl rfl (by kernel_rfl) (by kernel_rfl) (by kernel_rfl) (fun _ _ _ h => h) (Or.inl ⟨by rfl, ?_⟩) (by assumption) ?_
 rotate_left
 ·intro w hSw
  try dsimp only at hSw
  go_simp
  try with_reducible rfl
 try simp only [Act.put, List.setIfInBounds_toArray, List.set_cons_zero, List.set_cons_succ]
 refine takeH (i := 3) (d := some 44) (v := ?_) rfl rfl (by kernel_rfl) (by kernel_rfl) (by kernel_rfl) (fun _ _ _ h => h) (Or.inl ⟨by rfl, ?_⟩) (by assumption) ?_
 rotate_left
 ·intro w hSw
  try dsimp only at hSw
  go_simp
  try with_reducible rfl
 try simp only [Act.put, List.setIfInBounds_toArray, List.set_cons_zero, List.set_cons_succ]
 refine takeH (i := 4) (d := some 45) (v := ?_) rfl rfl (by kernel_rfl) (by kernel_rfl) (by kernel_rfl) (fun _ _ _ h => h) (Or.inl ⟨by rfl, ?_⟩) (by assumption) ?_
 rotate_left
 ·intro w hSw
  try dsimp only at hSw
  go_simp
  try with_reducible rfl
 try simp only [Act.put, List.setIfInBounds_toArray, List.set_cons_zero, List.set_cons_succ]
 refine takeH (i := 5) (d := some 46) (v := ?_) rfl rfl (by kernel_rfl) (by kernel_rfl) (by kernel_rfl) (fun _ _ _ h => h) (Or.inl ⟨by rfl, ?_⟩) (by assumption) ?_
 rotate_left
 ·intro w hSw
  try dsimp only at hSw
  have q0_0 := hSw.1.cell 0
  have q0_1 := hSw.1.cell 1
  have q0_2 := hSw.1.cell 2
  have q0_3 := hSw.1.cell 3
  have q0_4 := hSw.1.cell 4
  have q0_5 := hSw.1.cell 5
  have q0_6 := hSw.1.cell 6
  simp only [List.getElem?_toArray, List.getElem?_cons_zero, List.getElem?_cons_succ] at q0_0 q0_1 q0_2 q0_3 q0_4 q0_5 q0_6
  have qw := hSw.2.1
  go_simp
  try with_reducible rfl
 try simp only [Act.put, List.setIfInBounds_toArray, List.set_cons_zero, List.set_cons_succ]
 refine takeH (i := 6) (d := some 47) (v := ?_) rfl rfl (by kernel_rfl) (by kernel_rfl) (by kernel_rfl) (fun _ _ _ h => h) (Or.inl ⟨by rfl, ?_⟩) (by assumption) ?_
 rotate_left
 ·intro w hSw
  try dsimp only at hSw
  go_simp
  try with_reducible rfl
 try simp only [Act.put, List.setIfInBounds_toArray, List.set_cons_zero, List.set_cons_succ]
 refine takeH (i := 7) (d := some 48) (v := ?_) rfl rfl (by kernel_rfl) (by kernel_rfl) (by kernel_rfl) (fun _ _ _ h => h) (Or.inl ⟨by rfl, ?_⟩) (by assumption) ?_
 rotate_left
 ·intro w hSw
  try dsimp only at hSw
  have q0_0 := hSw.1.cell 0
  have q0_1 := hSw.1.cell 1
  have q0_2 := hSw.1.cell 2
  have q0_3 := hSw.1.cell 3
  have q0_4 := hSw.1.cell 4
  have q0_5 := hSw.1.cell 5
  have q0_6 := hSw.1.cell 6
  simp only [List.getElem?_toArray, List.getElem?_cons_zero, List.getElem?_cons_succ] at q0_0 q0_1 q0_2 q0_3 q0_4 q0_5 q0_6
  have qw := hSw.2.1
  go_simp
  try with_reducible rfl
 try simp only [Act.put, List.setIfInBounds_toArray, List.set_cons_zero, List.set_cons_succ]
 refine takeH (i := 10) (d := some 51) (v := ?_) rfl rfl (by kernel_rfl) (by kernel_rfl) (by kernel_rfl) (fun _ _ _ h => h) (Or.inl ⟨by rfl, ?_⟩) (by assumption) ?_
 rotate_left
 ·intro w hSw
  try dsimp only at hSw
  go_simp
  try with_reducible rfl
 try simp only [Act.put, List.setIfInBounds_toArray, List.set_cons_zero, List.set_cons_succ]
 refine takeH (i := 11) (d := some 52) (v := ?_) rfl rfl (by kernel_rfl) (by kernel_rfl) (by kernel_rfl) (fun _ _ _ h => h) (Or.inl ⟨by rfl, ?_⟩) (by assumption) ?_
 rotate_left
 ·intro w hSw
  try dsimp only at hSw
  have q0_0 := hSw.1.cell 0
  have q0_1 := hSw.1.cell 1
  have q0_2 := hSw.1.cell 2
  have q0_3 := hSw.1.cell 3
  have q0_4 := hSw.1.cell 4
  have q0_5 := hSw.1.cell 5
  have q0_6 := hSw.1.cell 6
  simp only [List.getElem?_toArray, List.getElem?_cons_zero, List.getElem?_cons_succ] at q0_0 q0_1 q0_2 q0_3 q0_4 q0_5 q0_6
  have qw := hSw.2.1
  go_simp
  try with_reducible rfl
 try simp only [Act.put, List.setIfInBounds_toArray, List.set_cons_zero, List.set_cons_succ]
 refine wpAnyH_ready (rs := [8]) (by kernel_rfl) (by simp) ?_
 refine AllReadyH.cons rfl (fun K hK => ?_) AllReadyH.nil
 go_simp
 refine HCH.out.mono ?_
 rintro e w2 ⟨rfl, rfl⟩
 refine hK.out _ _ ?_ (fun hHeld => ?_)
 ·exact hHeld
 clear hK K
 try simp only [Act.put, List.setIfInBounds_toArray, List.set_cons_zero, List.set_cons_succ]
 refine wpAnyH_ready (rs := [9]) (by kernel_rfl) (by simp) ?_
 refine AllReadyH.cons rfl (fun K hK => ?_) AllReadyH.nil
 go_simp
 refine HHD.out.mono ?_
 rintro e w2 ⟨rfl, rfl⟩
 refine hK.out _ _ ?_ (fun hHeld => ?_)
 ·exact hHeld
 clear hK K
 try simp only [Act.put, List.setIfInBounds_toArray, List.set_cons_zero, List.set_cons_succ]
 refine wpAnyH_ready (rs := [12]) (by kernel_rfl) (by simp) ?_
 refine AllReadyH.cons rfl (fun K hK => ?_) AllReadyH.nil
 go_simp
 refine HWT.out.mono ?_
 rintro e w2 ⟨rfl, o2, h2, hs2⟩
 refine hK.out _ _ ?_ (fun hHeld => ?_)
 ·exact ⟨hHeld.1.turns hs2.t HN1.out, (by obtain ⟨_, _, _, _, h3⟩ := h2; exact h3.blk.cell 5), .inr trivial⟩
 clear hK K
 try simp only [Act.put, List.setIfInBounds_toArray, List.set_cons_zero, List.set_cons_succ]
 refine wpAnyH_done (by kernel_rfl) ?_ _
 have hbk2 := hHeld.1
 have HH2 := Lib.hid (And.intro (show WW CX _ b o2 ps (fireB s i wh) from h2) (HS1.out.trans ((Stp.made (F := Own o1) (Turns.refl (fun _ => False) w1).drew).trans hs2)))
 have z5 := hbk2.cell 5
 simp only [List.getElem?_toArray, List.getElem?_cons_zero, List.getElem?_cons_succ] at z5
 clear hHeld hbk2 h2 hs2
 have HWK := Lib.hid (wwake_c (a := a) (cap := l.length) (l := l) HXX.out HH2.out.1 (HROW.out.1.turns HH2.out.2.t (fun b' off e => (HROW.out.2 b' off e).1)) (fun b' off e h0 => by
  have h6 := HROW.out.2 b' off e
  rcases HH2.out.2.f _ h0 with h4 | h4
  ·exact h6.1 h4
  ·omega) hn HK.out.2.2)
 go_wp2_with fail
 refine HWK.out.mono ?_
 rintro e w3 ⟨rfl, o3, h3, hs3⟩
 have HE := Lib.hid (And.intro h3 hs3)
 clear h3 hs3
 go_wp2_with fail
 go_end0
 exact ⟨rfl, o3, HE.out.1, HH2.out.2.trans HE.out.2⟩
def startS (s : Wst) (pg : Int) (r : Reg) : Wst := { s with ts := s.ts ++ [⟨pg, 0, 0, 0, r, ⟨0, 0, 0, 0⟩⟩], rd := s.rd ++ [(s.ts.length : Int)], ev := s.ev ++ [⟨s.steps, 5, s.ts.length, pg, 0, 0⟩] }
set_option maxRecDepth 100000 in
set_option maxHeartbeats 4000000 in
theorem wstart_c {CX : World → (Nat → Prop) → Prop} {w : World} {b : Wp} {o : Nat → Nat} {ps : List (List Ins)} {s : Wst} {pg : Int} {r : Reg} (hx : Ext CX) (h : WW CX w b o ps s) (hl : s.ts.length < 64) (hpg : 0 ≤ pg) (hni : (s.ts.length : Int) ∉ s.rd) (hrl : s.rd.length ≤ 1000) (hev : s.ev.length < 1000) :
  Calls Tryz.prog 68 #[.pointer (some ⟨b.pb, 0, none⟩), .int .i64 pg, regV r] w fun e w' => e = .returned (.tuple #[.int .i64 s.ts.length, .int .i64 0]) ∧ ∃ o', WW CX w' b o' ps (startS s pg r) ∧ Stp w w' (Own o) (Own o') := by
 have HM := Lib.hid ((Turns.refl (fun _ => False) w).alloc (.cells #[.int .i64 r.r0, .int .i64 r.r1, .int .i64 r.r2, .int .i64 r.r3, .int .i64 r.r4, .int .i64 r.r5, .int .i64 r.r6, .int .i64 r.r7] 36))
 have HR := Lib.hid (Blk.new w 36 #[.int .i64 r.r0, .int .i64 r.r1, .int .i64 r.r2, .int .i64 r.r3, .int .i64 r.r4, .int .i64 r.r5, .int .i64 r.r6, .int .i64 r.r7])
 have HXX := Lib.hid hx
 obtain ⟨vp, vc, vl, ve, h⟩ := h
 have HNR := Lib.hid (show ¬ o w.heap.size = 3 from fun e => by have := h.lt w.heap.size (by omega); omega)
 have HW := Lib.hid (h.made hx HM.out)
 clear h hx
 go_enter Tryz.func68, Tryz.ntmps68
 go_wp2_with fail
 generalize w.alloc (.cells #[.int .i64 r.r0, .int .i64 r.r1, .int .i64 r.r2, .int .i64 r.r3, .int .i64 r.r4, .int .i64 r.r5, .int .i64 r.r6, .int .i64 r.r7] 36) = W at *
 have HQ := Lib.hid HW.out.blk
 have HNB := Lib.hid (show ¬ o b.pb = 3 from by rw [HW.out.ob]; omega)
 have HWD := Lib.hid (HW.out.made HXX.out (Turns.refl (fun _ => False) W).drew)
 have HAD := Lib.hid (tabstart_c (r := r) HWD.out.tab hl hpg hni hrl)
 refine wp_region_held_drew (S := fun w' => Blk w' (b.pb) 65 #[vp, .pointer (some ⟨b.pk, 0, none⟩), .pointer (some ⟨b.pt, 0, none⟩), vc, .int .i64 s.made, .pointer (some ⟨b.pm, 0, none⟩), .pointer (some ⟨b.px, 0, none⟩), .pointer (some ⟨b.pd, 0, none⟩), vl, .int .i64 s.steps, ve] ∧ Blk w' (w.heap.size) 36 #[.int .i64 r.r0, .int .i64 r.r1, .int .i64 r.r2, .int .i64 r.r3, .int .i64 r.r4, .int .i64 r.r5, .int .i64 r.r6, .int .i64 r.r7] ∧ Turns (fun k => o k = 3) W w') (by kernel_rfl) ?_ (fun hHeld => ?_)
 ·exact ⟨HQ.out, HR.out, (Turns.refl _ W).drew⟩
 refine takeH (i := 0) (d := some 11) (v := ?_) rfl rfl (by kernel_rfl) (by kernel_rfl) (by kernel_rfl) (fun _ _ _ h => h) (Or.inl ⟨by rfl, ?_⟩) (by assumption) ?_
 rotate_left
 ·intro w hSw
  try dsimp only at hSw
  go_simp
  try with_reducible rfl
 try simp only [Act.put, List.setIfInBounds_toArray, List.set_cons_zero, List.set_cons_succ]
 refine takeH (i := 1) (d := some 12) (v := ?_) rfl rfl (by kernel_rfl) (by kernel_rfl) (by kernel_rfl) (fun _ _ _ h => h) (Or.inl ⟨by rfl, ?_⟩) (by assumption) ?_
 rotate_left
 ·intro w hSw
  try dsimp only at hSw
  go_simp
  try with_reducible rfl
 try simp only [Act.put, List.setIfInBounds_toArray, List.set_cons_zero, List.set_cons_succ]
 refine takeH (i := 2) (d := some 13) (v := ?_) rfl rfl (by kernel_rfl) (by kernel_rfl) (by kernel_rfl) (fun _ _ _ h => h) (Or.inl ⟨by rfl, ?_⟩) (by assumption) ?_
 rotate_left
 ·intro w hSw
  try dsimp only at hSw
  go_simp
  try with_reducible rfl
 try simp only [Act.put, List.setIfInBounds_toArray, List.set_cons_zero, List.set_cons_succ]
 refine takeH (i := 3) (d := some 14) (v := ?_) rfl rfl (by kernel_rfl) (by kernel_rfl) (by kernel_rfl) (fun _ _ _ h => h) (Or.inl ⟨by rfl, ?_⟩) (by assumption) ?_
 rotate_left
 ·intro w hSw
  try dsimp only at hSw
  have q0_0 := hSw.1.cell 0
  have q0_1 := hSw.1.cell 1
  have q0_2 := hSw.1.cell 2
  have q0_3 := hSw.1.cell 3
  have q0_4 := hSw.1.cell 4
  have q0_5 := hSw.1.cell 5
  have q0_6 := hSw.1.cell 6
  have q0_7 := hSw.1.cell 7
  have q0_8 := hSw.1.cell 8
  have q0_9 := hSw.1.cell 9
  have q0_10 := hSw.1.cell 10
  simp only [List.getElem?_toArray, List.getElem?_cons_zero, List.getElem?_cons_succ] at q0_0 q0_1 q0_2 q0_3 q0_4 q0_5 q0_6 q0_7 q0_8 q0_9 q0_10
  go_simp
  try with_reducible rfl
 try simp only [Act.put, List.setIfInBounds_toArray, List.set_cons_zero, List.set_cons_succ]
 refine takeH (i := 4) (d := some 15) (v := ?_) rfl rfl (by kernel_rfl) (by kernel_rfl) (by kernel_rfl) (fun _ _ _ h => h) (Or.inl ⟨by rfl, ?_⟩) (by assumption) ?_
 rotate_left
 ·intro w hSw
  try dsimp only at hSw
  go_simp
  try with_reducible rfl
 try simp only [Act.put, List.setIfInBounds_toArray, List.set_cons_zero, List.set_cons_succ]
 refine takeH (i := 5) (d := some 16) (v := ?_) rfl rfl (by kernel_rfl) (by kernel_rfl) (by kernel_rfl) (fun _ _ _ h => h) (Or.inl ⟨by rfl, ?_⟩) (by assumption) ?_
 rotate_left
 ·intro w hSw
  try dsimp only at hSw
  refine exec_load_row (P := Tryz.prog) (x := .tmp 5) ?_ ?_ hSw.2.1 Tryz.underlying36 ?_ Tryz.sizeReg <;> rfl
 try simp only [Act.put, List.setIfInBounds_toArray, List.set_cons_zero, List.set_cons_succ]
 refine wpAnyH_ready (rs := [6]) (by kernel_rfl) (by simp) ?_
 refine AllReadyH.cons rfl (fun K hK => ?_) AllReadyH.nil
 go_simp
 refine HAD.out.mono ?_
 rintro e w2 ⟨rfl, F2, ha2, hs2⟩
 refine hK.out _ _ ?_ (fun hHeld => ?_)
 ·exact ⟨hHeld.1.turns hs2.t HNB.out, hHeld.2.1.turns hs2.t HNR.out, hHeld.2.2.trans hs2.t⟩
 clear hK K
 try simp only [Act.put, List.setIfInBounds_toArray, List.set_cons_zero, List.set_cons_succ]
 refine takeH (i := 7) (d := some 10) (v := ?_) rfl rfl (by kernel_rfl) (by kernel_rfl) (by kernel_rfl) (fun _ _ _ h => h) (Or.inl ⟨by rfl, ?_⟩) (by assumption) ?_
 rotate_left
 ·intro w hSw
  try dsimp only at hSw
  go_simp
  try with_reducible rfl
 try simp only [Act.put, List.setIfInBounds_toArray, List.set_cons_zero, List.set_cons_succ]
 refine takeH (i := 8) (d := some 18) (v := ?_) rfl rfl (by kernel_rfl) (by kernel_rfl) (by kernel_rfl) (fun _ _ _ h => h) (Or.inl ⟨by rfl, ?_⟩) (by assumption) ?_
 rotate_left
 ·intro w hSw
  try dsimp only at hSw
  go_simp
  try with_reducible rfl
 try simp only [Act.put, List.setIfInBounds_toArray, List.set_cons_zero, List.set_cons_succ]
 refine takeH (i := 9) (d := some 19) (v := ?_) rfl rfl (by kernel_rfl) (by kernel_rfl) (by kernel_rfl) (fun _ _ _ h => h) (Or.inl ⟨by rfl, ?_⟩) (by assumption) ?_
 rotate_left
 ·intro w hSw
  try dsimp only at hSw
  go_simp
  try with_reducible rfl
 try simp only [Act.put, List.setIfInBounds_toArray, List.set_cons_zero, List.set_cons_succ]
 refine takeH (i := 10) (d := some 8) (v := ?_) rfl rfl (by kernel_rfl) (by kernel_rfl) (by kernel_rfl) (fun _ _ _ h => h) (Or.inl ⟨by rfl, ?_⟩) (by assumption) ?_
 rotate_left
 ·intro w hSw
  try dsimp only at hSw
  go_simp
  try with_reducible rfl
 try simp only [Act.put, List.setIfInBounds_toArray, List.set_cons_zero, List.set_cons_succ]
 refine takeH (i := 11) (d := some 9) (v := ?_) rfl rfl (by kernel_rfl) (by kernel_rfl) (by kernel_rfl) (fun _ _ _ h => h) (Or.inl ⟨by rfl, ?_⟩) (by assumption) ?_
 rotate_left
 ·intro w hSw
  try dsimp only at hSw
  go_simp
  try with_reducible rfl
 try simp only [Act.put, List.setIfInBounds_toArray, List.set_cons_zero, List.set_cons_succ]
 refine wpAnyH_done (by kernel_rfl) ?_ _
 obtain ⟨o2, h3, _, hs3⟩ := HWD.out.stepTab HXX.out ha2 hs2
 have HE := Lib.hid (And.intro (show WW CX w2 b o2 ps { s with ts := s.ts ++ [⟨pg, 0, 0, 0, r, ⟨0, 0, 0, 0⟩⟩], rd := s.rd ++ [(s.ts.length : Int)] } from ⟨_, _, _, _, h3⟩) ((Stp.made (F := Own o) (HM.out.trans (Turns.refl (fun _ => False) W).drew)).trans hs3))
 have HTL := Lib.hid (wtell_c (kind := 5) (who := (s.ts.length : Int)) (ea := pg) (eb := 0) (ec := 0) HXX.out HE.out.1 hev)
 clear hHeld ha2 hs2 h3 hs3
 go_wp2_with fail
 refine HTL.out.mono ?_
 rintro e w3 ⟨rfl, o3, h4, hs4⟩
 have HE2 := Lib.hid (And.intro (show WW CX w3 b o3 ps (startS s pg r) from h4) (HE.out.2.trans hs4))
 clear h4 hs4
 go_wp2_with fail
 go_ret2
 exact ⟨rfl, o3, HE2.out.1, HE2.out.2⟩
end Go.Proofs.YtjnkphhlkoapbaaGreat
namespace Go.Proofs.YtjnkphhlkoapbaaGreat
open Go.RowKit
set_option linter.unusedVariables false
set_option linter.unusedSimpArgs false
structure FirePre (s : Wst) (i : Nat) (wh dt : Int) (ci cp : Nat) (c c' : Chn) (l : List Wk) (ll : List It) : Prop where
 due : ∃ se, s.L = ⟨i, wh, se⟩ :: ll
 wh : wh ≤ s.now
 now : 0 ≤ s.now
 tm : s.tms[i]? = some ⟨1, dt, some cp⟩
 ch : s.chs[ci]? = some (cp, c)
 tl : s.tms.length ≤ 1000
 sq : s.sq < 1000000
 wq : (∃ sg cl, c = ⟨true, sg, cl, true, none, []⟩ ∧ c' = ⟨true, sg, cl, true, some s.now, []⟩ ∧ l = []) ∨ ∃ sg cl v0 x lw, c = ⟨true, sg, cl, true, v0, x :: lw⟩ ∧ c' = ⟨true, sg, cl, true, v0, lw⟩ ∧ lw.length ≤ 1000 ∧ l = [⟨x.task, x.kase, s.now, true, false⟩]
set_option maxHeartbeats 1000000 in
theorem wFire_c {CX : World → (Nat → Prop) → Prop} {w : World} {b : Wp} {o : Nat → Nat} {ps : List (List Ins)} {s : Wst} {i ci cp : Nat} {c c' : Chn} {wh dt : Int} {l : List Wk} {ll : List It} (hx : Ext CX) (h : WW CX w b o ps s) (hp : FirePre s i wh dt ci cp c c' l ll) :
  Calls Tryz.prog 43 #[.pointer (some ⟨b.pm, 0, none⟩), .int .i64 s.now] w fun e w' => ∃ a, e = .returned (.tuple #[.agg #[.int .i64 i, .int .i64 1, .int .i64 wh, .int .i64 s.now, .int .i64 dt, .slice a l.length l.length, .bool true], .bool true]) ∧ ∃ o', WW CX w' b o' ps { s with L := ll, chs := s.chs.set ci (cp, c') } ∧ Stp w w' (Own o) (Own o') ∧ RowIn wkC 5 w' a l.length l ∧ ∀ b' off, a = some ⟨b', off, none⟩ → ¬ Own o' b' ∧ b' < w'.heap.size ∧ w.heap.size ≤ b' := by
 obtain ⟨vp, vc, vl, ve, h⟩ := h
 obtain ⟨se, hL⟩ := hp.due
 have hT := h.tms
 rw [hL] at hT
 have hC := h.chn cp c (List.mem_of_getElem? hp.ch)
 have hdis : ∀ k, o k = 16 + cp → ¬ o k = 4 := fun k hk => by omega
 rcases hp.wq with ⟨sg, cl, rfl, rfl, rfl⟩ | ⟨sg, cl, v0, x, lw, rfl, rfl, hlw, rfl⟩
 ·refine (tsfire_0 (L := ll) hT hp.tm hC hdis hp.tl hp.sq hp.now hp.wh).mono ?_
  rintro e w1 ⟨rfl, F', hT', hC', ht, hf, hd⟩
  obtain ⟨o', h1, _, _, hs, _⟩ := h.stepTC hx hp.ch hT' hC' ht hf (fun k hk => .inl hk) hd
  exact ⟨none, rfl, o', ⟨_, _, _, _, h1⟩, hs, ⟨rfl, .inl (Nat.le_refl _)⟩, fun b' off e => by cases e⟩
 ·refine (tsfire_w (L := ll) hT hp.tm hC hdis hlw hp.tl hp.sq hp.now hp.wh).mono ?_
  rintro e w1 ⟨a, F', Fc', rfl, hrow, hT', hC', ht, hf, hf2, hd⟩
  obtain ⟨o', h1, _, _, hs, hn⟩ := h.stepTC hx hp.ch hT' hC' ht hf hf2 hd
  refine ⟨a, rfl, o', ⟨_, _, _, _, h1⟩, hs, hrow.1, fun b' off e => ⟨fun h0 => ?_, ?_, (hrow.2 b' off e).1⟩⟩
  ·obtain ⟨hb, hnb⟩ := hrow.2 b' off e
   rcases hn b' h0 with h2 | h2 | h2
   ·exact hnb (.inl h2)
   ·exact hnb (.inr h2)
   ·have := h.lt b' h2; omega
  ·rcases hrow.1.2 with h5 | ⟨rb, off2, e2, hrb, _⟩
   ·simp at h5
   ·rw [e2] at e
    cases e
    exact hrb
theorem wFire_none {CX : World → (Nat → Prop) → Prop} {w : World} {b : Wp} {o : Nat → Nat} {ps : List (List Ins)} {s : Wst} (h : WW CX w b o ps s) (hn : ∀ x, s.L[0]? = some x → s.now < 0 ∨ s.now < x.when) :
  Calls Tryz.prog 43 #[.pointer (some ⟨b.pm, 0, none⟩), .int .i64 s.now] w fun e w' => e = .returned (.tuple #[.agg #[.int .i64 0, .int .i64 0, .int .i64 0, .int .i64 0, .int .i64 0, .slice none 0 0, .bool false], .bool false]) ∧ Made w w' := by
 obtain ⟨vp, vc, vl, ve, h⟩ := h
 exact tsfire_none h.tms hn
inductive Fires : Nat → Wst → Wst → Prop
 | done (s : Wst) (h : ∀ x, s.L[0]? = some x → s.now < 0 ∨ s.now < x.when) : Fires 0 s s
 | next {n : Nat} {s s2 : Wst} (i : Nat) (wh dt : Int) (ci cp : Nat) (c c' : Chn) (l : List Wk) (ll : List It) (h : FirePre s i wh dt ci cp c c' l ll) (hl : l.length ≤ 1000) (hc : s.chs.length ≤ 1000) (hev : s.ev.length < 1000) (hnd : s.nd < 1000000) (hok : WakesOK (fireB { s with L := ll, chs := s.chs.set ci (cp, c') } i wh) l) (k : Fires n (wakesS (fireB { s with L := ll, chs := s.chs.set ci (cp, c') } i wh) l) s2) : Fires (n + 1) s s2
def FSt (CX : World → (Nat → Prop) → Prop) (b : Wp) (ps : List (List Ins)) (s2 : Wst) (n lo : Nat) (w' : World) (o' : Nat → Nat) (fc : List Value) (ok : Bool) : Prop :=
 (ok = false ∧ n = 0 ∧ WW CX w' b o' ps s2) ∨
 (ok = true ∧ ∃ (m : Nat) (sm : Wst) (i : Nat) (wh dt : Int) (ci cp : Nat) (c c' : Chn) (l : List Wk) (ll : List It) (a : Option Addr), n = m + 1 ∧ FirePre sm i wh dt ci cp c c' l ll ∧ l.length ≤ 1000 ∧ sm.chs.length ≤ 1000 ∧ sm.ev.length < 1000 ∧ sm.nd < 1000000 ∧ WakesOK (fireB { sm with L := ll, chs := sm.chs.set ci (cp, c') } i wh) l ∧ Fires m (wakesS (fireB { sm with L := ll, chs := sm.chs.set ci (cp, c') } i wh) l) s2 ∧ fc = [.int .i64 i, .int .i64 1, .int .i64 wh, .int .i64 sm.now, .int .i64 dt, .slice a l.length l.length, .bool true] ∧ WW CX w' b o' ps { sm with L := ll, chs := sm.chs.set ci (cp, c') } ∧ RowIn wkC 5 w' a l.length l ∧ ∀ b' off, a = some ⟨b', off, none⟩ → ¬ Own o' b' ∧ b' < w'.heap.size ∧ lo ≤ b')
theorem WW.turns {CX : World → (Nat → Prop) → Prop} {w w' : World} {b : Wp} {o : Nat → Nat} {ps : List (List Ins)} {s : Wst} {S : Nat → Prop} (hx : Ext CX) (h : WW CX w b o ps s) (ht : Turns S w w') (hn : ∀ k, o k ≠ 0 → ¬ S k) : WW CX w' b o ps s := by
 obtain ⟨vp, vc, vl, ve, h⟩ := h
 exact ⟨vp, vc, vl, ve, h.turns hx ht hn⟩
theorem FSt.turns {CX : World → (Nat → Prop) → Prop} {w w' : World} {b : Wp} {o : Nat → Nat} {ps : List (List Ins)} {s2 : Wst} {n lo : Nat} {fc : List Value} {ok : Bool} {S : Nat → Prop} (hx : Ext CX) (h : FSt CX b ps s2 n lo w o fc ok) (ht : Turns S w w') (hn : ∀ k, o k ≠ 0 → ¬ S k) (hr : ∀ k, lo ≤ k → k < w.heap.size → ¬ S k) : FSt CX b ps s2 n lo w' o fc ok := by
 rcases h with ⟨h1, h2, h3⟩ | ⟨h1, m, sm, i, wh, dt, ci, cp, c, c', l, ll, a, e1, e2, e3, e4, e5, e6, e7, e8, e9, e10, e11, e12⟩
 ·exact .inl ⟨h1, h2, h3.turns hx ht hn⟩
 ·exact .inr ⟨h1, m, sm, i, wh, dt, ci, cp, c, c', l, ll, a, e1, e2, e3, e4, e5, e6, e7, e8, e9, e10.turns hx ht hn, e11.turns ht (fun b' off e => hr b' (e12 b' off e).2.2 (e12 b' off e).2.1), fun b' off e => ⟨(e12 b' off e).1, Nat.lt_of_lt_of_le (e12 b' off e).2.1 ht.size, (e12 b' off e).2.2⟩⟩
theorem wFire_any {CX : World → (Nat → Prop) → Prop} {w : World} {b : Wp} {o : Nat → Nat} {ps : List (List Ins)} {s : Wst} {n : Nat} {s2 : Wst} (hx : Ext CX) (h : WW CX w b o ps s) (hf : Fires n s s2) :
  Calls Tryz.prog 43 #[.pointer (some ⟨b.pm, 0, none⟩), .int .i64 s.now] w fun e w' => ∃ fc ok, e = .returned (.tuple #[.agg fc.toArray, .bool ok]) ∧ fc.length = 7 ∧ (∀ u ∈ fc, u.oneCell' = true) ∧ ∃ o', FSt CX b ps s2 n w.heap.size w' o' fc ok ∧ Stp w w' (Own o) (Own o') := by
 cases hf with
 | done _ hn =>
  refine (wFire_none h hn).mono ?_
  rintro e w1 ⟨rfl, hm⟩
  refine ⟨[.int .i64 0, .int .i64 0, .int .i64 0, .int .i64 0, .int .i64 0, .slice none 0 0, .bool false], false, rfl, rfl, ?_, o, .inl ⟨rfl, rfl, h.made hx hm⟩, Stp.made hm⟩
  intro u hu
  simp only [List.mem_cons, List.not_mem_nil, or_false] at hu
  rcases hu with rfl | rfl | rfl | rfl | rfl | rfl | rfl <;> rfl
 | next i wh dt ci cp c c' l ll hp hl hc hev hnd hok k =>
  refine (wFire_c hx h hp).mono ?_
  rintro e w1 ⟨a, rfl, o', h1, hs, hr, hu⟩
  refine ⟨[.int .i64 i, .int .i64 1, .int .i64 wh, .int .i64 s.now, .int .i64 dt, .slice a l.length l.length, .bool true], true, rfl, rfl, ?_, o', .inr ⟨rfl, _, s, i, wh, dt, ci, cp, c, c', l, ll, a, rfl, hp, hl, hc, hev, hnd, hok, k, rfl, h1, hr, hu⟩, hs⟩
  intro u hu
  simp only [List.mem_cons, List.not_mem_nil, or_false] at hu
  rcases hu with rfl | rfl | rfl | rfl | rfl | rfl | rfl <;> rfl
end Go.Proofs.YtjnkphhlkoapbaaGreat
namespace Go.Proofs.YtjnkphhlkoapbaaGreat
open Go.RowKit
set_option linter.unusedVariables false
set_option linter.unusedSimpArgs false
theorem FSt.low {CX : World → (Nat → Prop) → Prop} {w : World} {b : Wp} {o : Nat → Nat} {ps : List (List Ins)} {s2 : Wst} {n lo : Nat} {fc : List Value} {ok : Bool} (h : FSt CX b ps s2 n lo w o fc ok) : FSt CX b ps s2 n 0 w o fc ok := by
 rcases h with h | ⟨h1, m, sm, i, wh, dt, ci, cp, c, c', l, ll, a, e1, e2, e3, e4, e5, e6, e7, e8, e9, e10, e11, e12⟩
 ·exact .inl h
 ·exact .inr ⟨h1, m, sm, i, wh, dt, ci, cp, c, c', l, ll, a, e1, e2, e3, e4, e5, e6, e7, e8, e9, e10, e11, fun b' off e => ⟨(e12 b' off e).1, (e12 b' off e).2.1, Nat.zero_le _⟩⟩
theorem FSt.ww {CX : World → (Nat → Prop) → Prop} {w : World} {b : Wp} {o : Nat → Nat} {ps : List (List Ins)} {s2 : Wst} {n lo : Nat} {fc : List Value} {ok : Bool} (h : FSt CX b ps s2 n lo w o fc ok) : ∃ s, WW CX w b o ps s := by
 rcases h with ⟨_, _, h⟩ | ⟨h1, m, sm, i, wh, dt, ci, cp, c, c', l, ll, a, e1, e2, e3, e4, e5, e6, e7, e8, e9, e10, e11, e12⟩
 ·exact ⟨_, h⟩
 ·exact ⟨_, e10⟩
theorem WW.cell5 {CX : World → (Nat → Prop) → Prop} {w : World} {b : Wp} {o : Nat → Nat} {ps : List (List Ins)} {s : Wst} (h : WW CX w b o ps s) : w.cell? ⟨b.pb, 5, none⟩ = some (.pointer (some ⟨b.pm, 0, none⟩)) := by
 obtain ⟨_, _, _, _, h⟩ := h
 exact h.blk.cell 5
theorem WW.lt {CX : World → (Nat → Prop) → Prop} {w : World} {b : Wp} {o : Nat → Nat} {ps : List (List Ins)} {s : Wst} (h : WW CX w b o ps s) : ∀ k, Own o k → k < w.heap.size := by
 obtain ⟨_, _, _, _, h⟩ := h
 exact h.lt
theorem FSt.cell5 {CX : World → (Nat → Prop) → Prop} {w : World} {b : Wp} {o : Nat → Nat} {ps : List (List Ins)} {s2 : Wst} {n lo : Nat} {fc : List Value} {ok : Bool} (h : FSt CX b ps s2 n lo w o fc ok) : w.cell? ⟨b.pb, 5, none⟩ = some (.pointer (some ⟨b.pm, 0, none⟩)) := by
 obtain ⟨s, h⟩ := h.ww
 exact h.cell5
theorem FSt.lt {CX : World → (Nat → Prop) → Prop} {w : World} {b : Wp} {o : Nat → Nat} {ps : List (List Ins)} {s2 : Wst} {n lo : Nat} {fc : List Value} {ok : Bool} (h : FSt CX b ps s2 n lo w o fc ok) : ∀ k, Own o k → k < w.heap.size := by
 obtain ⟨s, h⟩ := h.ww
 exact h.lt
def ARel (CX : World → (Nat → Prop) → Prop) (b : Wp) (ps : List (List Ins)) (w0 : World) (o0 : Nat → Nat) (s2 : Wst) (n g : Nat) (ok : Bool) (wr : World) : Prop := ∃ o' fc, FSt CX b ps s2 n 0 wr o' fc ok ∧ Stp w0 wr (Own o0) (Own o') ∧ Blk wr g 114 fc.toArray ∧ fc.length = 7 ∧ (∀ u ∈ fc, u.oneCell' = true) ∧ ¬ Own o' g ∧ w0.heap.size ≤ g
set_option maxRecDepth 100000 in
set_option maxHeartbeats 4000000 in
theorem wadvance_c {CX : World → (Nat → Prop) → Prop} {w : World} {b : Wp} {o : Nat → Nat} {ps : List (List Ins)} {s : Wst} {n : Nat} {d : Int} {s2 : Wst} (hx : Ext CX) (h : WW CX w b o ps s) (hd : 0 ≤ d) (hf : Fires n { s with now := addZ s.now d } s2) (htl : s.tms.length ≤ 1000) :
  Calls Tryz.prog 25 #[.pointer (some ⟨b.pb, 0, none⟩), .int .i64 d] w fun e w' => e = .returned (.tuple #[]) ∧ ∃ o', WW CX w' b o' ps s2 ∧ Stp w w' (Own o) (Own o') := by
 have HXX := Lib.hid hx
 have HFS := Lib.hid hf
 obtain ⟨vp, vc, vl, ve, h⟩ := h
 have q1 := h.blk.cell 1
 simp only [List.getElem?_toArray, List.getElem?_cons_zero, List.getElem?_cons_succ] at q1
 have HH := Lib.hid h
 have HKA := Lib.hid (kadvance_c h.clk hd)
 clear h hx hf
 go_enter Tryz.func25, Tryz.ntmps25
 go_wp2_with fail
 refine HKA.out.mono ?_
 rintro e W0 ⟨rfl, hk, ht⟩
 obtain ⟨oA, hA, hsA⟩ := HH.out.stepClk HXX.out hk (ht.mono (fun k _ e => by show o k = 2; rw [e]; exact HH.out.ok))
 have HWD := Lib.hid ((show WW CX W0 b oA ps { s with now := addZ s.now d } from ⟨_, _, _, _, hA⟩).made HXX.out (Turns.refl (fun _ => False) W0).drew)
 have HW0S := Lib.hid hsA
 have HNO := Lib.hid (show ¬ Own oA W0.drew.heap.size from fun h0 => absurd (HWD.out.lt _ h0) (Nat.lt_irrefl _))
 have HNW := Lib.hid (fun W2 (h2 : WW CX W2 b oA ps { s with now := addZ s.now d }) => wnow_c h2)
 have HFI := Lib.hid (fun W2 (h2 : WW CX W2 b oA ps { s with now := addZ s.now d }) => wFire_any HXX.out h2 HFS.out)
 clear hk ht hA hsA q1
 go_upto_region 1 with fail
 go_cut [4, 5] (fun v4 v5 wx => ∃ (g : Nat) (ok : Bool), v4 = .pointer (some ⟨g, 0, none⟩) ∧ v5 = .bool ok ∧ ARel CX b ps w o s2 n g ok wx)
 case first =>
  refine wp_region_held_drew (S := fun w' => w'.cell? ⟨b.pb, 5, none⟩ = some (.pointer (some ⟨b.pm, 0, none⟩)) ∧ (w' = W0.drew ∨ True)) (by kernel_rfl) ?_ (fun hHeld => ?_)
  ·exact ⟨HWD.out.cell5, .inr trivial⟩
  refine takeH (i := 0) (d := some 13) (v := ?_) rfl rfl (by kernel_rfl) (by kernel_rfl) (by kernel_rfl) (fun _ _ _ h => h) (Or.inl ⟨by rfl, ?_⟩) (by assumption) ?_
  rotate_left
  ·intro w hSw
   try dsimp only at hSw
   go_simp
   try with_reducible rfl
  try simp only [Act.put, List.setIfInBounds_toArray, List.set_cons_zero, List.set_cons_succ]
  refine takeH (i := 1) (d := some 14) (v := ?_) rfl rfl (by kernel_rfl) (by kernel_rfl) (by kernel_rfl) (fun _ _ _ h => h) (Or.inl ⟨by rfl, ?_⟩) (by assumption) ?_
  rotate_left
  ·intro w hSw
   try dsimp only at hSw
   go_simp
   try with_reducible rfl
  try simp only [Act.put, List.setIfInBounds_toArray, List.set_cons_zero, List.set_cons_succ]
  refine takeH (i := 2) (d := some 15) (v := ?_) rfl rfl (by kernel_rfl) (by kernel_rfl) (by kernel_rfl) (fun _ _ _ h => h) (Or.inl ⟨by rfl, ?_⟩) (by assumption) ?_
  rotate_left
  ·intro w hSw
   try dsimp only at hSw
   go_simp
   try with_reducible rfl
  try simp only [Act.put, List.setIfInBounds_toArray, List.set_cons_zero, List.set_cons_succ]
  refine takeH (i := 3) (d := some 16) (v := ?_) rfl rfl (by kernel_rfl) (by kernel_rfl) (by kernel_rfl) (fun _ _ _ h => h) (Or.inl ⟨by rfl, ?_⟩) (by assumption) ?_
  rotate_left
  ·intro w hSw
   try dsimp only at hSw
   have qw := hSw.1
   go_simp
   try with_reducible rfl
  try simp only [Act.put, List.setIfInBounds_toArray, List.set_cons_zero, List.set_cons_succ]
  refine takeH (i := 4) (d := some 17) (v := ?_) rfl rfl (by kernel_rfl) (by kernel_rfl) (by kernel_rfl) (fun _ _ _ h => h) (Or.inl ⟨by rfl, ?_⟩) (by assumption) ?_
  rotate_left
  ·intro w hSw
   try dsimp only at hSw
   go_simp
   try with_reducible rfl
  try simp only [Act.put, List.setIfInBounds_toArray, List.set_cons_zero, List.set_cons_succ]
  refine wpAnyH_ready (rs := [5, 10]) (by kernel_rfl) (by simp) ?_
  refine AllReadyH.cons rfl (fun K hK => ?_) ?_
  ·as_aux_lemma =>
    go_simp
    refine (HNW.out _ (HWD.out)).mono ?_
    rintro e wN ⟨rfl, rfl⟩
    refine hK.out _ _ ?_ (fun hHeld => ?_)
    ·exact ⟨hHeld.1, .inr trivial⟩
    clear hK K
    try simp only [Act.put, List.setIfInBounds_toArray, List.set_cons_zero, List.set_cons_succ]
    refine wpAnyH_ready (rs := [6, 10]) (by kernel_rfl) (by simp) ?_
    refine AllReadyH.cons rfl (fun K hK => ?_) ?_
    ·as_aux_lemma =>
      go_simp
      refine (HFI.out _ (HWD.out)).mono ?_
      rintro e wF ⟨fc, ok, rfl, h7, h1c, o2, hfs, hsw⟩
      refine hK.out _ _ ?_ (fun hHeld => ?_)
      ·exact ⟨hfs.cell5, .inr trivial⟩
      clear hK K
      try simp only [Act.put, List.setIfInBounds_toArray, List.set_cons_zero, List.set_cons_succ]
      have hlt2 := hfs.lt
      refine takeH (i := 7) (d := some 12) (v := ?_) rfl rfl (by kernel_rfl) (by kernel_rfl) (by kernel_rfl) (fun _ _ _ h => h) (Or.inl ⟨by rfl, ?_⟩) (by assumption) ?_
      rotate_left
      ·intro w hSw
       try dsimp only at hSw
       go_simp
       try with_reducible rfl
      try simp only [Act.put, List.setIfInBounds_toArray, List.set_cons_zero, List.set_cons_succ]
      refine takeH (i := 8) (d := some 20) (v := ?_) rfl rfl (by kernel_rfl) (by kernel_rfl) (by kernel_rfl) (fun _ _ _ h => h) (Or.inl ⟨by rfl, ?_⟩) (by assumption) ?_
      rotate_left
      ·intro w hSw
       try dsimp only at hSw
       go_simp
       try with_reducible rfl
      try simp only [Act.put, List.setIfInBounds_toArray, List.set_cons_zero, List.set_cons_succ]
      refine takeH (i := 9) (d := some 21) (v := ?_) rfl rfl (by kernel_rfl) (by kernel_rfl) (by kernel_rfl) (fun _ _ _ h => h) (Or.inl ⟨by rfl, ?_⟩) (by assumption) ?_
      rotate_left
      ·intro w hSw
       try dsimp only at hSw
       go_simp
       try with_reducible rfl
      try simp only [Act.put, List.setIfInBounds_toArray, List.set_cons_zero, List.set_cons_succ]
      refine wpAnyH_ready (rs := [10]) (by kernel_rfl) (by simp) ?_
      refine AllReadyH.cons rfl (fun K hK => ?_) AllReadyH.nil
      go_simp
      refine hK.out _ _ ?_ (fun hHeld => ?_)
      ·exact ⟨(hfs.turns (S := fun _ => False) HXX.out ((Turns.refl _ wF).alloc _) (fun _ _ h => h) (fun _ _ _ h => h)).cell5, .inr trivial⟩
      clear hK K
      try simp only [Act.put, List.setIfInBounds_toArray, List.set_cons_zero, List.set_cons_succ]
      have HZ := Blk.new wF 114 #[.int .i64 0, .int .i64 0, .int .i64 0, .int .i64 0, .int .i64 0, .slice none 0 0, .bool false]
      have hgo : ¬ Own o2 wF.heap.size := fun h0 => absurd (hlt2 _ h0) (Nat.lt_irrefl _)
      have hst : Stp w (wF.alloc (.cells #[.int .i64 0, .int .i64 0, .int .i64 0, .int .i64 0, .int .i64 0, .slice none 0 0, .bool false] 114)) (Own o) (Own o2) := (HW0S.out.trans ((Stp.made (F := Own oA) (Turns.refl (fun _ => False) W0).drew).trans hsw)).trans (Stp.made ((Turns.refl (fun _ => False) wF).alloc _))
      have hgl : ∀ k, W0.drew.heap.size ≤ k → k < wF.heap.size → k ≠ wF.heap.size := fun k _ h e => by omega
      have hgw : w.heap.size ≤ wF.heap.size := Nat.le_trans HW0S.out.t.size hsw.t.size
      refine wpAnyH_ready (rs := [11]) (by kernel_rfl) (by simp) ?_
      refine AllReadyH.cons rfl (fun K hK => ?_) AllReadyH.nil
      refine step_store_mid rfl rfl _ _ _ (by rfl) (by rfl) fc [] [.int .i64 0, .int .i64 0, .int .i64 0, .int .i64 0, .int .i64 0, .slice none 0 0, .bool false] [] (by rfl) (t := 114) (show Blk _ _ _ _ from by simpa using HZ) (by rfl) (by rw [h7]; rfl) h1c (by rw [h7]; exact Tryz.sizeFired) ?_
      intro wS hbS htS
      have hfsS := hfs.turns HXX.out (((Turns.refl (fun k => k = wF.heap.size) wF).alloc (.cells #[.int .i64 0, .int .i64 0, .int .i64 0, .int .i64 0, .int .i64 0, .slice none 0 0, .bool false] 114)).then htS (fun _ _ h => h)) (fun k hk e => hgo (by subst e; exact hk)) (fun k h1 h2 => hgl k h1 h2)
      have hstS : Stp w wS (Own o) (Own o2) := ⟨hst.t.then htS (fun k hk e => by have e2 : k = _ := e; exact absurd hk (by rw [e2]; exact Nat.not_lt.2 hgw)), hst.f⟩
      refine hK.out _ _ ?_ (fun hHeld => ?_)
      ·exact ⟨hfsS.cell5, .inr trivial⟩
      clear hK K
      try simp only [Act.put, List.setIfInBounds_toArray, List.set_cons_zero, List.set_cons_succ]
      refine takeH (i := 12) (d := some 5) (v := ?_) rfl rfl (by kernel_rfl) (by kernel_rfl) (by kernel_rfl) (fun _ _ _ h => h) (Or.inl ⟨by rfl, ?_⟩) (by assumption) ?_
      rotate_left
      ·intro w hSw
       try dsimp only at hSw
       go_simp
       try with_reducible rfl
      try simp only [Act.put, List.setIfInBounds_toArray, List.set_cons_zero, List.set_cons_succ]
      refine wpAnyH_done (by kernel_rfl) ?_ _
      have HR := Lib.hid (show ARel CX b ps w o s2 n _ ok wS from ⟨o2, fc, hfsS.low, hstS, by simpa using hbS, h7, h1c, hgo, hgw⟩)
      clear hHeld hbS htS hfsS hstS hgo hgw hgl hst HZ hfs hsw hlt2
      go_wp2_with fail
      go_meet
      exact ⟨_, _, rfl, rfl, HR.out⟩
    refine AllReadyH.cons rfl (fun K hK => ?_) ?_
    ·as_aux_lemma =>
      go_simp
      refine hK.out _ _ ?_ (fun hHeld => ?_)
      ·exact ⟨(HWD.out.made HXX.out ((Turns.refl _ _).alloc _)).cell5, .inr trivial⟩
      clear hK K
      try simp only [Act.put, List.setIfInBounds_toArray, List.set_cons_zero, List.set_cons_succ]
      have hz0 := Blk.new W0.drew 114 #[.int .i64 0, .int .i64 0, .int .i64 0, .int .i64 0, .int .i64 0, .slice none 0 0, .bool false]
      refine wpAnyH_ready (rs := [6]) (by kernel_rfl) (by simp) ?_
      refine AllReadyH.cons rfl (fun K hK => ?_) AllReadyH.nil
      go_simp
      refine (HFI.out _ (HWD.out.made HXX.out ((Turns.refl _ _).alloc _))).mono ?_
      rintro e wF ⟨fc, ok, rfl, h7, h1c, o2, hfs, hsw⟩
      refine hK.out _ _ ?_ (fun hHeld => ?_)
      ·exact ⟨hfs.cell5, .inr trivial⟩
      clear hK K
      try simp only [Act.put, List.setIfInBounds_toArray, List.set_cons_zero, List.set_cons_succ]
      have hlt2 := hfs.lt
      have HZ := hz0.turns hsw.t HNO.out
      have hgo : ¬ Own o2 W0.drew.heap.size := fun h0 => by rcases hsw.f _ h0 with h4 | h4; exact HNO.out h4; exact absurd h4 (by simp)
      have hst : Stp w wF (Own o) (Own o2) := HW0S.out.trans ((Stp.made (F := Own oA) ((Turns.refl (fun _ => False) W0).drew.alloc (.cells #[.int .i64 0, .int .i64 0, .int .i64 0, .int .i64 0, .int .i64 0, .slice none 0 0, .bool false] 114))).trans hsw)
      have hgl : ∀ k, (W0.drew.alloc (.cells #[.int .i64 0, .int .i64 0, .int .i64 0, .int .i64 0, .int .i64 0, .slice none 0 0, .bool false] 114)).heap.size ≤ k → k < wF.heap.size → k ≠ W0.drew.heap.size := fun k h _ e => by have h9 : W0.drew.heap.size < (W0.drew.alloc (.cells #[.int .i64 0, .int .i64 0, .int .i64 0, .int .i64 0, .int .i64 0, .slice none 0 0, .bool false] 114)).heap.size := (by simp); rw [e] at h; exact absurd h (Nat.not_le.2 h9)
      have hgw : w.heap.size ≤ W0.drew.heap.size := HW0S.out.t.size
      refine takeH (i := 7) (d := some 12) (v := ?_) rfl rfl (by kernel_rfl) (by kernel_rfl) (by kernel_rfl) (fun _ _ _ h => h) (Or.inl ⟨by rfl, ?_⟩) (by assumption) ?_
      rotate_left
      ·intro w hSw
       try dsimp only at hSw
       go_simp
       try with_reducible rfl
      try simp only [Act.put, List.setIfInBounds_toArray, List.set_cons_zero, List.set_cons_succ]
      refine takeH (i := 8) (d := some 20) (v := ?_) rfl rfl (by kernel_rfl) (by kernel_rfl) (by kernel_rfl) (fun _ _ _ h => h) (Or.inl ⟨by rfl, ?_⟩) (by assumption) ?_
      rotate_left
      ·intro w hSw
       try dsimp only at hSw
       go_simp
       try with_reducible rfl
      try simp only [Act.put, List.setIfInBounds_toArray, List.set_cons_zero, List.set_cons_succ]
      refine takeH (i := 9) (d := some 21) (v := ?_) rfl rfl (by kernel_rfl) (by kernel_rfl) (by kernel_rfl) (fun _ _ _ h => h) (Or.inl ⟨by rfl, ?_⟩) (by assumption) ?_
      rotate_left
      ·intro w hSw
       try dsimp only at hSw
       go_simp
       try with_reducible rfl
      try simp only [Act.put, List.setIfInBounds_toArray, List.set_cons_zero, List.set_cons_succ]
      refine wpAnyH_ready (rs := [11]) (by kernel_rfl) (by simp) ?_
      refine AllReadyH.cons rfl (fun K hK => ?_) AllReadyH.nil
      refine step_store_mid rfl rfl _ _ _ (by rfl) (by rfl) fc [] [.int .i64 0, .int .i64 0, .int .i64 0, .int .i64 0, .int .i64 0, .slice none 0 0, .bool false] [] (by rfl) (t := 114) (show Blk _ _ _ _ from by simpa using HZ) (by rfl) (by rw [h7]; rfl) h1c (by rw [h7]; exact Tryz.sizeFired) ?_
      intro wS hbS htS
      have hfsS := hfs.turns HXX.out htS (fun k hk e => hgo (by subst e; exact hk)) (fun k h1 h2 => hgl k h1 h2)
      have hstS : Stp w wS (Own o) (Own o2) := ⟨hst.t.then htS (fun k hk e => by have e2 : k = _ := e; exact absurd hk (by rw [e2]; exact Nat.not_lt.2 hgw)), hst.f⟩
      refine hK.out _ _ ?_ (fun hHeld => ?_)
      ·exact ⟨hfsS.cell5, .inr trivial⟩
      clear hK K
      try simp only [Act.put, List.setIfInBounds_toArray, List.set_cons_zero, List.set_cons_succ]
      refine takeH (i := 12) (d := some 5) (v := ?_) rfl rfl (by kernel_rfl) (by kernel_rfl) (by kernel_rfl) (fun _ _ _ h => h) (Or.inl ⟨by rfl, ?_⟩) (by assumption) ?_
      rotate_left
      ·intro w hSw
       try dsimp only at hSw
       go_simp
       try with_reducible rfl
      try simp only [Act.put, List.setIfInBounds_toArray, List.set_cons_zero, List.set_cons_succ]
      refine wpAnyH_done (by kernel_rfl) ?_ _
      have HR := Lib.hid (show ARel CX b ps w o s2 n _ ok wS from ⟨o2, fc, hfsS.low, hstS, by simpa using hbS, h7, h1c, hgo, hgw⟩)
      clear hHeld hbS htS hfsS hstS hgo hgw hgl hst HZ hfs hsw hlt2
      go_wp2_with fail
      go_meet
      exact ⟨_, _, rfl, rfl, HR.out⟩
    exact AllReadyH.nil
  refine AllReadyH.cons rfl (fun K hK => ?_) ?_
  ·as_aux_lemma =>
    go_simp
    refine hK.out _ _ ?_ (fun hHeld => ?_)
    ·exact ⟨(HWD.out.made HXX.out ((Turns.refl _ _).alloc _)).cell5, .inr trivial⟩
    clear hK K
    try simp only [Act.put, List.setIfInBounds_toArray, List.set_cons_zero, List.set_cons_succ]
    have hz0 := Blk.new W0.drew 114 #[.int .i64 0, .int .i64 0, .int .i64 0, .int .i64 0, .int .i64 0, .slice none 0 0, .bool false]
    refine wpAnyH_ready (rs := [5]) (by kernel_rfl) (by simp) ?_
    refine AllReadyH.cons rfl (fun K hK => ?_) AllReadyH.nil
    go_simp
    refine (HNW.out _ (HWD.out.made HXX.out ((Turns.refl _ _).alloc _))).mono ?_
    rintro e wN ⟨rfl, rfl⟩
    refine hK.out _ _ ?_ (fun hHeld => ?_)
    ·exact ⟨hHeld.1, .inr trivial⟩
    clear hK K
    try simp only [Act.put, List.setIfInBounds_toArray, List.set_cons_zero, List.set_cons_succ]
    refine wpAnyH_ready (rs := [6]) (by kernel_rfl) (by simp) ?_
    refine AllReadyH.cons rfl (fun K hK => ?_) AllReadyH.nil
    go_simp
    refine (HFI.out _ (HWD.out.made HXX.out ((Turns.refl _ _).alloc _))).mono ?_
    rintro e wF ⟨fc, ok, rfl, h7, h1c, o2, hfs, hsw⟩
    refine hK.out _ _ ?_ (fun hHeld => ?_)
    ·exact ⟨hfs.cell5, .inr trivial⟩
    clear hK K
    try simp only [Act.put, List.setIfInBounds_toArray, List.set_cons_zero, List.set_cons_succ]
    have hlt2 := hfs.lt
    have HZ := hz0.turns hsw.t HNO.out
    have hgo : ¬ Own o2 W0.drew.heap.size := fun h0 => by rcases hsw.f _ h0 with h4 | h4; exact HNO.out h4; exact absurd h4 (by simp)
    have hst : Stp w wF (Own o) (Own o2) := HW0S.out.trans ((Stp.made (F := Own oA) ((Turns.refl (fun _ => False) W0).drew.alloc (.cells #[.int .i64 0, .int .i64 0, .int .i64 0, .int .i64 0, .int .i64 0, .slice none 0 0, .bool false] 114))).trans hsw)
    have hgl : ∀ k, (W0.drew.alloc (.cells #[.int .i64 0, .int .i64 0, .int .i64 0, .int .i64 0, .int .i64 0, .slice none 0 0, .bool false] 114)).heap.size ≤ k → k < wF.heap.size → k ≠ W0.drew.heap.size := fun k h _ e => by have h9 : W0.drew.heap.size < (W0.drew.alloc (.cells #[.int .i64 0, .int .i64 0, .int .i64 0, .int .i64 0, .int .i64 0, .slice none 0 0, .bool false] 114)).heap.size := (by simp); rw [e] at h; exact absurd h (Nat.not_le.2 h9)
    have hgw : w.heap.size ≤ W0.drew.heap.size := HW0S.out.t.size
    refine takeH (i := 7) (d := some 12) (v := ?_) rfl rfl (by kernel_rfl) (by kernel_rfl) (by kernel_rfl) (fun _ _ _ h => h) (Or.inl ⟨by rfl, ?_⟩) (by assumption) ?_
    rotate_left
    ·intro w hSw
     try dsimp only at hSw
     go_simp
     try with_reducible rfl
    try simp only [Act.put, List.setIfInBounds_toArray, List.set_cons_zero, List.set_cons_succ]
    refine takeH (i := 8) (d := some 20) (v := ?_) rfl rfl (by kernel_rfl) (by kernel_rfl) (by kernel_rfl) (fun _ _ _ h => h) (Or.inl ⟨by rfl, ?_⟩) (by assumption) ?_
    rotate_left
    ·intro w hSw
     try dsimp only at hSw
     go_simp
     try with_reducible rfl
    try simp only [Act.put, List.setIfInBounds_toArray, List.set_cons_zero, List.set_cons_succ]
    refine takeH (i := 9) (d := some 21) (v := ?_) rfl rfl (by kernel_rfl) (by kernel_rfl) (by kernel_rfl) (fun _ _ _ h => h) (Or.inl ⟨by rfl, ?_⟩) (by assumption) ?_
    rotate_left
    ·intro w hSw
     try dsimp only at hSw
     go_simp
     try with_reducible rfl
    try simp only [Act.put, List.setIfInBounds_toArray, List.set_cons_zero, List.set_cons_succ]
    refine wpAnyH_ready (rs := [11]) (by kernel_rfl) (by simp) ?_
    refine AllReadyH.cons rfl (fun K hK => ?_) AllReadyH.nil
    refine step_store_mid rfl rfl _ _ _ (by rfl) (by rfl) fc [] [.int .i64 0, .int .i64 0, .int .i64 0, .int .i64 0, .int .i64 0, .slice none 0 0, .bool false] [] (by rfl) (t := 114) (show Blk _ _ _ _ from by simpa using HZ) (by rfl) (by rw [h7]; rfl) h1c (by rw [h7]; exact Tryz.sizeFired) ?_
    intro wS hbS htS
    have hfsS := hfs.turns HXX.out htS (fun k hk e => hgo (by subst e; exact hk)) (fun k h1 h2 => hgl k h1 h2)
    have hstS : Stp w wS (Own o) (Own o2) := ⟨hst.t.then htS (fun k hk e => by have e2 : k = _ := e; exact absurd hk (by rw [e2]; exact Nat.not_lt.2 hgw)), hst.f⟩
    refine hK.out _ _ ?_ (fun hHeld => ?_)
    ·exact ⟨hfsS.cell5, .inr trivial⟩
    clear hK K
    try simp only [Act.put, List.setIfInBounds_toArray, List.set_cons_zero, List.set_cons_succ]
    refine takeH (i := 12) (d := some 5) (v := ?_) rfl rfl (by kernel_rfl) (by kernel_rfl) (by kernel_rfl) (fun _ _ _ h => h) (Or.inl ⟨by rfl, ?_⟩) (by assumption) ?_
    rotate_left
    ·intro w hSw
     try dsimp only at hSw
     go_simp
     try with_reducible rfl
    try simp only [Act.put, List.setIfInBounds_toArray, List.set_cons_zero, List.set_cons_succ]
    refine wpAnyH_done (by kernel_rfl) ?_ _
    have HR := Lib.hid (show ARel CX b ps w o s2 n _ ok wS from ⟨o2, fc, hfsS.low, hstS, by simpa using hbS, h7, h1c, hgo, hgw⟩)
    clear hHeld hbS htS hfsS hstS hgo hgw hgl hst HZ hfs hsw hlt2
    go_wp2_with fail
    go_meet
    exact ⟨_, _, rfl, rfl, HR.out⟩
  exact AllReadyH.nil
 case rest =>
  obtain ⟨g0, ok0, rfl, rfl, hr⟩ := hcut
  have HR0 := Lib.hid hr
  clear hr HWD HW0S HNO HNW HFI HFS
  go_wp2_with fail
  go_loopg [4, 5] n (fun kn v4 v5 wr => ∃ (g : Nat) (ok : Bool), v4 = .pointer (some ⟨g, 0, none⟩) ∧ v5 = .bool ok ∧ ARel CX b ps w o s2 kn g ok wr)
  case atStart => exact ⟨g0, ok0, rfl, rfl, HR0.out⟩
  case round =>
   obtain ⟨g1, ok1, rfl, rfl, hr⟩ := hrel
   obtain ⟨oB, fcB, hfsB, hstB, hbkB, h7B, h1B, hgoB, hgwB⟩ := hr
   cases ok1 with
   | false =>
    rcases hfsB with ⟨_, _, hww⟩ | ⟨h0, _⟩
    ·have HE := Lib.hid (And.intro hww hstB)
     clear hww hstB hbkB h7B h1B hgoB hgwB
     go_wp2_with fail
     go_end0
     exact ⟨rfl, oB, HE.out.1, HE.out.2⟩
    ·cases h0
   | true =>
    rcases hfsB with ⟨h0, _⟩ | ⟨_, m, sm, i, wh, dt, ci, cp, c, c', l, ll, a, e1, hpre, hl, hc, hev, hnd, hok, hfi, hfc, hww, hrow, hun⟩
    ·cases h0
    ·subst hfc
     subst e1
     have HWF := Lib.hid (wfire_c (i := i) (wh := wh) (now := sm.now) (dt := dt) (c := c') HXX.out hww hpre.tm (by
      show (sm.chs.set ci (cp, c'))[ci]? = some (cp, c')
      exact List.getElem?_set_self (List.getElem?_eq_some_iff.1 hpre.ch).1) hrow (fun b' off e => ⟨(hun b' off e).1, (hun b' off e).2.1⟩) hl hpre.tl (by show (sm.chs.set ci (cp, c')).length ≤ 1000; rw [List.length_set]; exact hc) hev hnd hok)
     have HC1 := Lib.hid (blk_cells (cs := [.int .i64 i, .int .i64 1, .int .i64 wh, .int .i64 sm.now, .int .i64 dt, .slice a l.length l.length, .bool true]) hbkB)
     have HB1 := Lib.hid hbkB
     have HO1 := Lib.hid h1B
     have HS1 := Lib.hid (And.intro hstB (And.intro hgoB hfi))
     have HGW1 := Lib.hid hgwB
     clear hpre hl hc hev hnd hok hfi hww hrow hun hstB hbkB h7B h1B hgoB hgwB
     go_wp2_with (first
      | (refine wpList_load_at (o := ⟨some 34, .load 114 (.tmp 4), _, _, _, _⟩) rfl _ _ rfl _ 0 rfl ([.int .i64 i, .int .i64 1, .int .i64 wh, .int .i64 sm.now, .int .i64 dt, .slice a l.length l.length, .bool true]) _ HC1.out Tryz.underlying114 rfl Tryz.sizeFired ?_)
      | fail)
     refine HWF.out.mono ?_
     rintro e w3 ⟨rfl, oA, h3, hs3⟩
     have HC3 := Lib.hid (blk_cells (cs := [.int .i64 i, .int .i64 1, .int .i64 wh, .int .i64 sm.now, .int .i64 dt, .slice a l.length l.length, .bool true]) (HB1.out.turns hs3.t HS1.out.2.1))
     have HH3 := Lib.hid (And.intro h3 (HS1.out.1.trans hs3))
     clear h3 hs3
     go_upto_region 3 with (first
      | (refine wpList_load_at (o := ⟨some 36, .load 114 (.tmp 4), _, _, _, _⟩) rfl _ _ rfl _ 0 rfl ([.int .i64 i, .int .i64 1, .int .i64 wh, .int .i64 sm.now, .int .i64 dt, .slice a l.length l.length, .bool true]) _ HC3.out Tryz.underlying114 rfl Tryz.sizeFired ?_)
      | (refine wpList_store_mid rfl rfl _ _ _ (by rfl) (by rfl) [.int .i64 i, .int .i64 1, .int .i64 wh, .int .i64 sm.now, .int .i64 dt, .slice a l.length l.length, .bool true] [] [.int .i64 0, .int .i64 0, .int .i64 0, .int .i64 0, .int .i64 0, .slice none 0 0, .bool false] [] (by rfl) (t := 114) (show Blk _ _ _ _ from by simpa using Blk.new w3 114 #[.int .i64 0, .int .i64 0, .int .i64 0, .int .i64 0, .int .i64 0, .slice none 0 0, .bool false]) (by rfl) (by rfl) HO1.out Tryz.sizeFired ?_; intro W0 hb4 ht4)
      | fail)
     have HWD := Lib.hid ((HH3.out.1.turns HXX.out (((Turns.refl (fun k => k = w3.heap.size) w3).alloc (.cells #[.int .i64 0, .int .i64 0, .int .i64 0, .int .i64 0, .int .i64 0, .slice none 0 0, .bool false] 114)).then ht4 (fun _ _ h => h)) (fun k hk e => absurd (HH3.out.1.lt k hk) (by rw [show k = _ from e]; exact Nat.lt_irrefl _))).made HXX.out (Turns.refl (fun _ => False) W0).drew)
     have HW0S := Lib.hid (show Stp w W0 (Own o) (Own oA) from ⟨HH3.out.2.t.then (((Turns.refl (fun k => k = w3.heap.size) w3).alloc (.cells #[.int .i64 0, .int .i64 0, .int .i64 0, .int .i64 0, .int .i64 0, .slice none 0 0, .bool false] 114)).then ht4 (fun _ _ h => h)) (fun k hk e => absurd (Nat.lt_of_lt_of_le hk HH3.out.2.t.size) (by rw [show k = _ from e]; exact Nat.lt_irrefl _)), HH3.out.2.f⟩)
     have HGB := Lib.hid (show Blk W0.drew w3.heap.size 114 ([.int .i64 i, .int .i64 1, .int .i64 wh, .int .i64 sm.now, .int .i64 dt, .slice a l.length l.length, .bool true]).toArray from (show Blk W0 w3.heap.size 114 ([.int .i64 i, .int .i64 1, .int .i64 wh, .int .i64 sm.now, .int .i64 dt, .slice a l.length l.length, .bool true]).toArray from by simpa using hb4).turns (Turns.refl (fun _ => False) W0).drew (fun h => h))
     have HGN := Lib.hid (show ¬ Own oA w3.heap.size from fun h0 => absurd (HH3.out.1.lt _ h0) (Nat.lt_irrefl _))
     have HGL := Lib.hid (show w3.heap.size < W0.drew.heap.size from HGB.out.lt)
     have HGW := Lib.hid (show w.heap.size ≤ w3.heap.size from HH3.out.2.t.size)
     have HNW := Lib.hid (fun W2 h2 => wnow_c (CX := CX) (w := W2) (b := b) (o := oA) (ps := ps) (s := wakesS (fireB { sm with L := ll, chs := sm.chs.set ci (cp, c') } i wh) l) h2)
     have HFI := Lib.hid (fun (W2 : World) (h2 : WW CX W2 b oA ps (wakesS (fireB { sm with L := ll, chs := sm.chs.set ci (cp, c') } i wh) l)) => wFire_any HXX.out h2 HS1.out.2.2)
     clear hb4 ht4
     refine wp_region_held_drew (S := fun w' => w'.cell? ⟨b.pb, 5, none⟩ = some (.pointer (some ⟨b.pm, 0, none⟩)) ∧ (w' = W0.drew ∨ True)) (by kernel_rfl) ?_ (fun hHeld => ?_)
     ·exact ⟨HWD.out.cell5, .inr trivial⟩
     refine takeH (i := 0) (d := some 24) (v := ?_) rfl rfl (by kernel_rfl) (by kernel_rfl) (by kernel_rfl) (fun _ _ _ h => h) (Or.inl ⟨by rfl, ?_⟩) (by assumption) ?_
     rotate_left
     ·intro w hSw
      try dsimp only at hSw
      go_simp
      try with_reducible rfl
     try simp only [Act.put, List.setIfInBounds_toArray, List.set_cons_zero, List.set_cons_succ]
     refine takeH (i := 1) (d := some 25) (v := ?_) rfl rfl (by kernel_rfl) (by kernel_rfl) (by kernel_rfl) (fun _ _ _ h => h) (Or.inl ⟨by rfl, ?_⟩) (by assumption) ?_
     rotate_left
     ·intro w hSw
      try dsimp only at hSw
      go_simp
      try with_reducible rfl
     try simp only [Act.put, List.setIfInBounds_toArray, List.set_cons_zero, List.set_cons_succ]
     refine takeH (i := 2) (d := some 26) (v := ?_) rfl rfl (by kernel_rfl) (by kernel_rfl) (by kernel_rfl) (fun _ _ _ h => h) (Or.inl ⟨by rfl, ?_⟩) (by assumption) ?_
     rotate_left
     ·intro w hSw
      try dsimp only at hSw
      go_simp
      try with_reducible rfl
     try simp only [Act.put, List.setIfInBounds_toArray, List.set_cons_zero, List.set_cons_succ]
     refine takeH (i := 3) (d := some 27) (v := ?_) rfl rfl (by kernel_rfl) (by kernel_rfl) (by kernel_rfl) (fun _ _ _ h => h) (Or.inl ⟨by rfl, ?_⟩) (by assumption) ?_
     rotate_left
     ·intro w hSw
      try dsimp only at hSw
      have qw := hSw.1
      go_simp
      try with_reducible rfl
     try simp only [Act.put, List.setIfInBounds_toArray, List.set_cons_zero, List.set_cons_succ]
     refine takeH (i := 4) (d := some 28) (v := ?_) rfl rfl (by kernel_rfl) (by kernel_rfl) (by kernel_rfl) (fun _ _ _ h => h) (Or.inl ⟨by rfl, ?_⟩) (by assumption) ?_
     rotate_left
     ·intro w hSw
      try dsimp only at hSw
      go_simp
      try with_reducible rfl
     try simp only [Act.put, List.setIfInBounds_toArray, List.set_cons_zero, List.set_cons_succ]
     refine wpAnyH_ready (rs := [5]) (by kernel_rfl) (by simp) ?_
     refine AllReadyH.cons rfl (fun K hK => ?_) AllReadyH.nil
     go_simp
     refine (HNW.out _ (HWD.out)).mono ?_
     rintro e wN ⟨rfl, rfl⟩
     refine hK.out _ _ ?_ (fun hHeld => ?_)
     ·exact ⟨hHeld.1, .inr trivial⟩
     clear hK K
     try simp only [Act.put, List.setIfInBounds_toArray, List.set_cons_zero, List.set_cons_succ]
     refine wpAnyH_ready (rs := [6]) (by kernel_rfl) (by simp) ?_
     refine AllReadyH.cons rfl (fun K hK => ?_) AllReadyH.nil
     go_simp
     refine (HFI.out _ (HWD.out)).mono ?_
     rintro e wF ⟨fc, ok, rfl, h7, h1c, o2, hfs, hsw⟩
     refine hK.out _ _ ?_ (fun hHeld => ?_)
     ·exact ⟨hfs.cell5, .inr trivial⟩
     clear hK K
     try simp only [Act.put, List.setIfInBounds_toArray, List.set_cons_zero, List.set_cons_succ]
     have hlt2 := hfs.lt
     have HZ := HGB.out.turns hsw.t HGN.out
     have hgo : ¬ Own o2 w3.heap.size := fun h0 => by rcases hsw.f _ h0 with h4 | h4; exact HGN.out h4; exact absurd h4 (Nat.not_le.2 HGL.out)
     have hst : Stp w wF (Own o) (Own o2) := HW0S.out.trans ((Stp.made (F := Own oA) (Turns.refl (fun _ => False) W0).drew).trans hsw)
     have hgl : ∀ k, W0.drew.heap.size ≤ k → k < wF.heap.size → k ≠ w3.heap.size := fun k h _ e => absurd HGL.out (Nat.not_lt.2 (by rw [← e]; exact h))
     have hgw := HGW.out
     refine takeH (i := 7) (d := some 23) (v := ?_) rfl rfl (by kernel_rfl) (by kernel_rfl) (by kernel_rfl) (fun _ _ _ h => h) (Or.inl ⟨by rfl, ?_⟩) (by assumption) ?_
     rotate_left
     ·intro w hSw
      try dsimp only at hSw
      go_simp
      try with_reducible rfl
     try simp only [Act.put, List.setIfInBounds_toArray, List.set_cons_zero, List.set_cons_succ]
     refine takeH (i := 8) (d := some 31) (v := ?_) rfl rfl (by kernel_rfl) (by kernel_rfl) (by kernel_rfl) (fun _ _ _ h => h) (Or.inl ⟨by rfl, ?_⟩) (by assumption) ?_
     rotate_left
     ·intro w hSw
      try dsimp only at hSw
      go_simp
      try with_reducible rfl
     try simp only [Act.put, List.setIfInBounds_toArray, List.set_cons_zero, List.set_cons_succ]
     refine takeH (i := 9) (d := some 32) (v := ?_) rfl rfl (by kernel_rfl) (by kernel_rfl) (by kernel_rfl) (fun _ _ _ h => h) (Or.inl ⟨by rfl, ?_⟩) (by assumption) ?_
     rotate_left
     ·intro w hSw
      try dsimp only at hSw
      go_simp
      try with_reducible rfl
     try simp only [Act.put, List.setIfInBounds_toArray, List.set_cons_zero, List.set_cons_succ]
     refine wpAnyH_ready (rs := [10]) (by kernel_rfl) (by simp) ?_
     refine AllReadyH.cons rfl (fun K hK => ?_) AllReadyH.nil
     refine step_store_mid rfl rfl _ _ _ (by rfl) (by rfl) fc [] [.int .i64 i, .int .i64 1, .int .i64 wh, .int .i64 sm.now, .int .i64 dt, .slice a l.length l.length, .bool true] [] (by rfl) (t := 114) (show Blk _ _ _ _ from by simpa using HZ) (by rfl) (by rw [h7]; rfl) h1c (by rw [h7]; exact Tryz.sizeFired) ?_
     intro wS hbS htS
     have hfsS := hfs.turns HXX.out htS (fun k hk e => hgo (by subst e; exact hk)) (fun k h1 h2 => hgl k h1 h2)
     have hstS : Stp w wS (Own o) (Own o2) := ⟨hst.t.then htS (fun k hk e => by have e2 : k = _ := e; exact absurd hk (by rw [e2]; exact Nat.not_lt.2 hgw)), hst.f⟩
     refine hK.out _ _ ?_ (fun hHeld => ?_)
     ·exact ⟨hfsS.cell5, .inr trivial⟩
     clear hK K
     try simp only [Act.put, List.setIfInBounds_toArray, List.set_cons_zero, List.set_cons_succ]
     refine takeH (i := 11) (d := some 5) (v := ?_) rfl rfl (by kernel_rfl) (by kernel_rfl) (by kernel_rfl) (fun _ _ _ h => h) (Or.inl ⟨by rfl, ?_⟩) (by assumption) ?_
     rotate_left
     ·intro w hSw
      try dsimp only at hSw
      go_simp
      try with_reducible rfl
     try simp only [Act.put, List.setIfInBounds_toArray, List.set_cons_zero, List.set_cons_succ]
     refine wpAnyH_done (by kernel_rfl) ?_ _
     have HR := Lib.hid (show ARel CX b ps w o s2 m _ ok wS from ⟨o2, fc, hfsS.low, hstS, by simpa using hbS, h7, h1c, hgo, hgw⟩)
     clear hHeld hbS htS hfsS hstS hgo hgw hgl hst HZ hfs hsw hlt2
     go_wp2_with fail
     go_roundg m
     case measure => omega
     case rel => exact ⟨_, _, rfl, rfl, HR.out⟩
end Go.Proofs.YtjnkphhlkoapbaaGreat
namespace Go.Proofs.YtjnkphhlkoapbaaGreat
open Go.RowKit
set_option linter.unusedVariables false
set_option linter.unusedSimpArgs false
structure Ac where
 id : Int
 i : Ins
 was : Reg
 regs : Reg
 draw : Int
 how : Int
 parks : Bool
def acA (p : Nat) (x : Ac) : Array Value := #[.pointer (some ⟨p, 0, none⟩), .int .i64 x.id, .int .i64 x.i.op, .int .i64 x.i.a, .int .i64 x.i.b, .int .i64 x.i.c, .slice none 0 0, .bool false, .int .i64 x.was.r0, .int .i64 x.was.r1, .int .i64 x.was.r2, .int .i64 x.was.r3, .int .i64 x.was.r4, .int .i64 x.was.r5, .int .i64 x.was.r6, .int .i64 x.was.r7, .int .i64 x.regs.r0, .int .i64 x.regs.r1, .int .i64 x.regs.r2, .int .i64 x.regs.r3, .int .i64 x.regs.r4, .int .i64 x.regs.r5, .int .i64 x.regs.r6, .int .i64 x.regs.r7, .int .i64 x.draw, .int .i64 x.how, .bool x.parks]
theorem ac_was (p : Nat) (x : Ac) {j : Nat} (hj : j < 8) : (acA p x)[8 + j]? = some (.int .i64 (x.was.get j)) := by
 rcases lt8 hj with rfl | rfl | rfl | rfl | rfl | rfl | rfl | rfl <;> rfl
theorem ac_set (p : Nat) (x : Ac) {j : Nat} (v : Int) (hj : j < 8) : (acA p x).setIfInBounds (16 + j) (.int .i64 v) = acA p { x with regs := x.regs.set j v } := by
 rcases lt8 hj with rfl | rfl | rfl | rfl | rfl | rfl | rfl | rfl <;> rfl
set_option maxRecDepth 100000 in
theorem aca_c {w : World} {g p a : Nat} {x : Ac} (hb : Blk w g 131 (acA p x)) (hx : x.i.a = a) (ha : a < 8) :
  Calls Tryz.prog 84 #[.pointer (some ⟨g, 0, none⟩)] w fun e w' => e = .returned (.int .i64 (x.was.get a)) ∧ Made w w' := by
 have HB := Lib.hid hb
 have HX := Lib.hid hx
 have jb1 : (0 : Int) ≤ (a : Int) := by omega
 have jb2 : (a : Int) < 8 := by omega
 clear hb hx
 go_enter Tryz.func84, Tryz.ntmps84
 go_wp2_with fail
 refine wp_region_held_drew (S := fun w' => Blk w' (g) 131 (acA p x) ∧ Made w w') (by kernel_rfl) ?_ (fun hHeld => ?_)
 ·exact ⟨HB.out, (Turns.refl (fun _ => False) w).drew⟩
 refine takeH (i := 0) (d := some 3) (v := ?_) rfl rfl (by kernel_rfl) (by kernel_rfl) (by kernel_rfl) (fun _ _ _ h => h) (Or.inl ⟨by rfl, ?_⟩) (by assumption) ?_
 rotate_left
 ·intro w hSw
  try dsimp only at hSw
  go_simp
  try with_reducible rfl
 try simp only [Act.put, List.setIfInBounds_toArray, List.set_cons_zero, List.set_cons_succ]
 refine takeH (i := 1) (d := some 4) (v := ?_) rfl rfl (by kernel_rfl) (by kernel_rfl) (by kernel_rfl) (fun _ _ _ h => h) (Or.inl ⟨by rfl, ?_⟩) (by assumption) ?_
 rotate_left
 ·intro w hSw
  try dsimp only at hSw
  go_simp
  try with_reducible rfl
 try simp only [Act.put, List.setIfInBounds_toArray, List.set_cons_zero, List.set_cons_succ]
 refine takeH (i := 2) (d := some 5) (v := ?_) rfl rfl (by kernel_rfl) (by kernel_rfl) (by kernel_rfl) (fun _ _ _ h => h) (Or.inl ⟨by rfl, ?_⟩) (by assumption) ?_
 rotate_left
 ·intro w hSw
  try dsimp only at hSw
  go_simp
  try with_reducible rfl
 try simp only [Act.put, List.setIfInBounds_toArray, List.set_cons_zero, List.set_cons_succ]
 refine takeH (i := 3) (d := some 6) (v := ?_) rfl rfl (by kernel_rfl) (by kernel_rfl) (by kernel_rfl) (fun _ _ _ h => h) (Or.inl ⟨by rfl, ?_⟩) (by assumption) ?_
 rotate_left
 ·intro w hSw
  try dsimp only at hSw
  go_simp
  try with_reducible rfl
 try simp only [Act.put, List.setIfInBounds_toArray, List.set_cons_zero, List.set_cons_succ]
 refine takeH (i := 4) (d := some 7) (v := ?_) rfl rfl (by kernel_rfl) (by kernel_rfl) (by kernel_rfl) (fun _ _ _ h => h) (Or.inl ⟨by rfl, ?_⟩) (by assumption) ?_
 rotate_left
 ·intro w hSw
  try dsimp only at hSw
  go_simp
  try with_reducible rfl
 try simp only [Act.put, List.setIfInBounds_toArray, List.set_cons_zero, List.set_cons_succ]
 refine takeH (i := 5) (d := some 8) (v := ?_) rfl rfl (by kernel_rfl) (by kernel_rfl) (by kernel_rfl) (fun _ _ _ h => h) (Or.inl ⟨by rfl, ?_⟩) (by assumption) ?_
 rotate_left
 ·intro w hSw
  try dsimp only at hSw
  have q3 : w.cell? ⟨g, 3, none⟩ = some (.int .i64 (x.i.a)) := hSw.1.cell 3
  rw [HX.out] at q3
  go_simp
  try with_reducible rfl
 try simp only [Act.put, List.setIfInBounds_toArray, List.set_cons_zero, List.set_cons_succ]
 refine takeH (i := 6) (d := some 9) (v := ?_) rfl rfl (by kernel_rfl) (by kernel_rfl) (by kernel_rfl) (fun _ _ _ h => h) (Or.inl ⟨by rfl, ?_⟩) (by assumption) ?_
 rotate_left
 ·intro w hSw
  try dsimp only at hSw
  go_simp
  try with_reducible rfl
 try simp only [Act.put, List.setIfInBounds_toArray, List.set_cons_zero, List.set_cons_succ]
 refine takeH (i := 7) (d := some 10) (v := ?_) rfl rfl (by kernel_rfl) (by kernel_rfl) (by kernel_rfl) (fun _ _ _ h => h) (Or.inl ⟨by rfl, ?_⟩) (by assumption) ?_
 rotate_left
 ·intro w hSw
  try dsimp only at hSw
  go_simp
  try with_reducible rfl
 try simp only [Act.put, List.setIfInBounds_toArray, List.set_cons_zero, List.set_cons_succ]
 refine takeH (i := 8) (d := some 11) (v := ?_) rfl rfl (by kernel_rfl) (by kernel_rfl) (by kernel_rfl) (fun _ _ _ h => h) (Or.inl ⟨by rfl, ?_⟩) (by assumption) ?_
 rotate_left
 ·intro w hSw
  try dsimp only at hSw
  go_simp
  try with_reducible rfl
 try simp only [Act.put, List.setIfInBounds_toArray, List.set_cons_zero, List.set_cons_succ]
 refine takeH (i := 9) (d := some 12) (v := ?_) rfl rfl (by kernel_rfl) (by kernel_rfl) (by kernel_rfl) (fun _ _ _ h => h) (Or.inl ⟨by rfl, ?_⟩) (by assumption) ?_
 rotate_left
 ·intro w hSw
  try dsimp only at hSw
  have qq := hSw.1.cell (8 + a)
  rw [ac_was _ _ ha] at qq
  go_simp
  try with_reducible rfl
 try simp only [Act.put, List.setIfInBounds_toArray, List.set_cons_zero, List.set_cons_succ]
 refine takeH (i := 10) (d := some 2) (v := ?_) rfl rfl (by kernel_rfl) (by kernel_rfl) (by kernel_rfl) (fun _ _ _ h => h) (Or.inl ⟨by rfl, ?_⟩) (by assumption) ?_
 rotate_left
 ·intro w hSw
  try dsimp only at hSw
  go_simp
  try with_reducible rfl
 try simp only [Act.put, List.setIfInBounds_toArray, List.set_cons_zero, List.set_cons_succ]
 refine wpAnyH_done (by kernel_rfl) ?_ _
 have HE := Lib.hid hHeld.2
 clear hHeld
 go_wp2_with fail
 go_ret
 exact ⟨rfl, HE.out⟩
set_option maxRecDepth 100000 in
theorem acb_c {w : World} {g p a : Nat} {x : Ac} (hb : Blk w g 131 (acA p x)) (hx : x.i.b = a) (ha : a < 8) :
  Calls Tryz.prog 85 #[.pointer (some ⟨g, 0, none⟩)] w fun e w' => e = .returned (.int .i64 (x.was.get a)) ∧ Made w w' := by
 have HB := Lib.hid hb
 have HX := Lib.hid hx
 have jb1 : (0 : Int) ≤ (a : Int) := by omega
 have jb2 : (a : Int) < 8 := by omega
 clear hb hx
 go_enter Tryz.func85, Tryz.ntmps85
 go_wp2_with fail
 refine wp_region_held_drew (S := fun w' => Blk w' (g) 131 (acA p x) ∧ Made w w') (by kernel_rfl) ?_ (fun hHeld => ?_)
 ·exact ⟨HB.out, (Turns.refl (fun _ => False) w).drew⟩
 refine takeH (i := 0) (d := some 3) (v := ?_) rfl rfl (by kernel_rfl) (by kernel_rfl) (by kernel_rfl) (fun _ _ _ h => h) (Or.inl ⟨by rfl, ?_⟩) (by assumption) ?_
 rotate_left
 ·intro w hSw
  try dsimp only at hSw
  go_simp
  try with_reducible rfl
 try simp only [Act.put, List.setIfInBounds_toArray, List.set_cons_zero, List.set_cons_succ]
 refine takeH (i := 1) (d := some 4) (v := ?_) rfl rfl (by kernel_rfl) (by kernel_rfl) (by kernel_rfl) (fun _ _ _ h => h) (Or.inl ⟨by rfl, ?_⟩) (by assumption) ?_
 rotate_left
 ·intro w hSw
  try dsimp only at hSw
  go_simp
  try with_reducible rfl
 try simp only [Act.put, List.setIfInBounds_toArray, List.set_cons_zero, List.set_cons_succ]
 refine takeH (i := 2) (d := some 5) (v := ?_) rfl rfl (by kernel_rfl) (by kernel_rfl) (by kernel_rfl) (fun _ _ _ h => h) (Or.inl ⟨by rfl, ?_⟩) (by assumption) ?_
 rotate_left
 ·intro w hSw
  try dsimp only at hSw
  go_simp
  try with_reducible rfl
 try simp only [Act.put, List.setIfInBounds_toArray, List.set_cons_zero, List.set_cons_succ]
 refine takeH (i := 3) (d := some 6) (v := ?_) rfl rfl (by kernel_rfl) (by kernel_rfl) (by kernel_rfl) (fun _ _ _ h => h) (Or.inl ⟨by rfl, ?_⟩) (by assumption) ?_
 rotate_left
 ·intro w hSw
  try dsimp only at hSw
  go_simp
  try with_reducible rfl
 try simp only [Act.put, List.setIfInBounds_toArray, List.set_cons_zero, List.set_cons_succ]
 refine takeH (i := 4) (d := some 7) (v := ?_) rfl rfl (by kernel_rfl) (by kernel_rfl) (by kernel_rfl) (fun _ _ _ h => h) (Or.inl ⟨by rfl, ?_⟩) (by assumption) ?_
 rotate_left
 ·intro w hSw
  try dsimp only at hSw
  go_simp
  try with_reducible rfl
 try simp only [Act.put, List.setIfInBounds_toArray, List.set_cons_zero, List.set_cons_succ]
 refine takeH (i := 5) (d := some 8) (v := ?_) rfl rfl (by kernel_rfl) (by kernel_rfl) (by kernel_rfl) (fun _ _ _ h => h) (Or.inl ⟨by rfl, ?_⟩) (by assumption) ?_
 rotate_left
 ·intro w hSw
  try dsimp only at hSw
  have q3 : w.cell? ⟨g, 4, none⟩ = some (.int .i64 (x.i.b)) := hSw.1.cell 4
  rw [HX.out] at q3
  go_simp
  try with_reducible rfl
 try simp only [Act.put, List.setIfInBounds_toArray, List.set_cons_zero, List.set_cons_succ]
 refine takeH (i := 6) (d := some 9) (v := ?_) rfl rfl (by kernel_rfl) (by kernel_rfl) (by kernel_rfl) (fun _ _ _ h => h) (Or.inl ⟨by rfl, ?_⟩) (by assumption) ?_
 rotate_left
 ·intro w hSw
  try dsimp only at hSw
  go_simp
  try with_reducible rfl
 try simp only [Act.put, List.setIfInBounds_toArray, List.set_cons_zero, List.set_cons_succ]
 refine takeH (i := 7) (d := some 10) (v := ?_) rfl rfl (by kernel_rfl) (by kernel_rfl) (by kernel_rfl) (fun _ _ _ h => h) (Or.inl ⟨by rfl, ?_⟩) (by assumption) ?_
 rotate_left
 ·intro w hSw
  try dsimp only at hSw
  go_simp
  try with_reducible rfl
 try simp only [Act.put, List.setIfInBounds_toArray, List.set_cons_zero, List.set_cons_succ]
 refine takeH (i := 8) (d := some 11) (v := ?_) rfl rfl (by kernel_rfl) (by kernel_rfl) (by kernel_rfl) (fun _ _ _ h => h) (Or.inl ⟨by rfl, ?_⟩) (by assumption) ?_
 rotate_left
 ·intro w hSw
  try dsimp only at hSw
  go_simp
  try with_reducible rfl
 try simp only [Act.put, List.setIfInBounds_toArray, List.set_cons_zero, List.set_cons_succ]
 refine takeH (i := 9) (d := some 12) (v := ?_) rfl rfl (by kernel_rfl) (by kernel_rfl) (by kernel_rfl) (fun _ _ _ h => h) (Or.inl ⟨by rfl, ?_⟩) (by assumption) ?_
 rotate_left
 ·intro w hSw
  try dsimp only at hSw
  have qq := hSw.1.cell (8 + a)
  rw [ac_was _ _ ha] at qq
  go_simp
  try with_reducible rfl
 try simp only [Act.put, List.setIfInBounds_toArray, List.set_cons_zero, List.set_cons_succ]
 refine takeH (i := 10) (d := some 2) (v := ?_) rfl rfl (by kernel_rfl) (by kernel_rfl) (by kernel_rfl) (fun _ _ _ h => h) (Or.inl ⟨by rfl, ?_⟩) (by assumption) ?_
 rotate_left
 ·intro w hSw
  try dsimp only at hSw
  go_simp
  try with_reducible rfl
 try simp only [Act.put, List.setIfInBounds_toArray, List.set_cons_zero, List.set_cons_succ]
 refine wpAnyH_done (by kernel_rfl) ?_ _
 have HE := Lib.hid hHeld.2
 clear hHeld
 go_wp2_with fail
 go_ret
 exact ⟨rfl, HE.out⟩
theorem acbad_0 {w : World} {g : Nat} : Calls Tryz.prog 86 #[.pointer (some ⟨g, 0, none⟩), .int .i64 0] w fun e w' => e = .returned (.bool false) ∧ w = w' := by
 go_enter Tryz.func86, Tryz.ntmps86
 go_wp2_with fail
 go_ret
 exact ⟨rfl, rfl⟩
end Go.Proofs.YtjnkphhlkoapbaaGreat
namespace Go.Proofs.YtjnkphhlkoapbaaGreat
open Go.RowKit
set_option linter.unusedVariables false
set_option linter.unusedSimpArgs false
theorem ac_wasrow {w : World} {g p : Nat} {x : Ac} (hb : Blk w g 131 (acA p x)) : ∀ j v, ([.int .i64 x.was.r0, .int .i64 x.was.r1, .int .i64 x.was.r2, .int .i64 x.was.r3, .int .i64 x.was.r4, .int .i64 x.was.r5, .int .i64 x.was.r6, .int .i64 x.was.r7] : List Value)[j]? = some v → w.cell? ⟨g, 8 + j, none⟩ = some v := fun j v hv => by
 have hj : j < 8 := (List.getElem?_eq_some_iff.1 hv).1
 refine (hb.cell (8 + j)).trans ?_
 rw [← hv]
 rcases lt8 hj with rfl | rfl | rfl | rfl | rfl | rfl | rfl | rfl <;> rfl
theorem ac_reg (p : Nat) (x : Ac) {j : Nat} (hj : j < 8) : (acA p x)[16 + j]? = some (.int .i64 (x.regs.get j)) := by
 rcases lt8 hj with rfl | rfl | rfl | rfl | rfl | rfl | rfl | rfl <;> rfl
def Low (w : World) (g p : Nat) (x : Ac) : Prop := ∀ j, j < 8 → w.cell? ⟨g, j, none⟩ = (acA p x)[j]?
theorem low_of {w : World} {g p : Nat} {x : Ac} (hb : Blk w g 131 (acA p x)) : Low w g p x := fun j _ => hb.cell j
theorem low_regs {w : World} {g p : Nat} {x : Ac} {r : Reg} (h : Low w g p { x with regs := r }) : Low w g p x := fun j hj => by
 refine (h j hj).trans ?_
 rcases lt8 hj with rfl | rfl | rfl | rfl | rfl | rfl | rfl | rfl <;> rfl
structure AStp (w w' : World) (o o' : Nat → Nat) (g : Nat) : Prop where
 t : Turns (fun k => Own o k ∨ k = g) w w'
 f : ∀ k, Own o' k → Own o k ∨ w.heap.size ≤ k
theorem AStp.of {w w' : World} {o o' : Nat → Nat} (g : Nat) (h : Stp w w' (Own o) (Own o')) : AStp w w' o o' g := ⟨h.t.mono (fun _ _ h => .inl h), h.f⟩
theorem AStp.set {w w' w'' : World} {o o' : Nat → Nat} {g : Nat} (h : AStp w w' o o' g) (k : Turns (fun k => k = g) w' w'') : AStp w w'' o o' g := ⟨h.t.then k (fun _ _ e => .inr e), h.f⟩
theorem AStp.then {w w' w'' : World} {o o' o'' : Nat → Nat} {g : Nat} (h : AStp w w' o o' g) (k : Stp w' w'' (Own o') (Own o'')) : AStp w w'' o o'' g :=
 ⟨h.t.then k.t (fun b hb hs => (h.f b hs).elim .inl (fun h => by omega)), fun b hb => (k.f b hb).elim (fun h2 => h.f b h2) (fun h2 => .inr (Nat.le_trans h.t.size h2))⟩
theorem AStp.made {w w' : World} {o : Nat → Nat} {g : Nat} (h : Made w w') : AStp w w' o o g := ⟨h.mono (fun _ _ h => h.elim), fun _ h => .inl h⟩
theorem AStp.no {w w' : World} {o o' : Nat → Nat} {g : Nat} (h : AStp w w' o o' g) (hg : ¬ Own o g) (hl : g < w.heap.size) : ¬ Own o' g := fun h0 => (h.f g h0).elim hg (fun h => absurd hl (Nat.not_lt.2 h))
set_option maxRecDepth 100000 in
set_option maxHeartbeats 4000000 in
theorem acspawn_c {CX : World → (Nat → Prop) → Prop} {w : World} {b : Wp} {o : Nat → Nat} {ps : List (List Ins)} {s : Wst} {g a : Nat} {x : Ac} {pg : Int} (hx : Ext CX) (h : WW CX w b o ps s) (hb : Blk w g 131 (acA b.pb x)) (hg : ¬ Own o g) (hxa : x.i.a = a) (hxb : x.i.b = pg) (ha : a < 8) (hl : s.ts.length < 64) (hpg : 0 ≤ pg) (hni : (s.ts.length : Int) ∉ s.rd) (hrl : s.rd.length ≤ 1000) (hev : s.ev.length < 1000) :
  Calls Tryz.prog 76 #[.pointer (some ⟨g, 0, none⟩)] w fun e w' => e = .returned (.tuple #[]) ∧ ∃ o', WW CX w' b o' ps (startS s pg x.was) ∧ AStp w w' o o' g ∧ Blk w' g 131 (acA b.pb { x with regs := x.regs.set a s.ts.length }) := by
 have HB := Lib.hid hb
 have HXX := Lib.hid hx
 have HLT := Lib.hid ha
 have HXA := Lib.hid hxa
 have HXB := Lib.hid hxb
 have HG := Lib.hid hg
 have HGL := Lib.hid hb.lt
 have jb1 : (0 : Int) ≤ (a : Int) := by omega
 have jb2 : (a : Int) < 8 := by omega
 have HST := Lib.hid (wstart_c (pg := pg) (r := x.was) hx (h.made hx (Turns.refl (fun _ => False) w).drew) hl hpg hni hrl hev)
 clear h hb hx hxa hxb hg hl hpg hni hrl hev
 go_enter Tryz.func76, Tryz.ntmps76
 go_wp2_with fail
 refine wp_region_held_drew (S := fun w' => Blk w' (g) 131 (acA b.pb x) ∧ Turns (Own o) w w') (by kernel_rfl) ?_ (fun hHeld => ?_)
 ·exact ⟨HB.out, (Turns.refl _ w).drew⟩
 refine takeH (i := 0) (d := some 5) (v := ?_) rfl rfl (by kernel_rfl) (by kernel_rfl) (by kernel_rfl) (fun _ _ _ h => h) (Or.inl ⟨by rfl, ?_⟩) (by assumption) ?_
 rotate_left
 ·intro w hSw
  try dsimp only at hSw
  go_simp
  try with_reducible rfl
 try simp only [Act.put, List.setIfInBounds_toArray, List.set_cons_zero, List.set_cons_succ]
 refine takeH (i := 1) (d := some 6) (v := ?_) rfl rfl (by kernel_rfl) (by kernel_rfl) (by kernel_rfl) (fun _ _ _ h => h) (Or.inl ⟨by rfl, ?_⟩) (by assumption) ?_
 rotate_left
 ·intro w hSw
  try dsimp only at hSw
  go_simp
  try with_reducible rfl
 try simp only [Act.put, List.setIfInBounds_toArray, List.set_cons_zero, List.set_cons_succ]
 refine takeH (i := 2) (d := some 7) (v := ?_) rfl rfl (by kernel_rfl) (by kernel_rfl) (by kernel_rfl) (fun _ _ _ h => h) (Or.inl ⟨by rfl, ?_⟩) (by assumption) ?_
 rotate_left
 ·intro w hSw
  try dsimp only at hSw
  go_simp
  try with_reducible rfl
 try simp only [Act.put, List.setIfInBounds_toArray, List.set_cons_zero, List.set_cons_succ]
 refine takeH (i := 3) (d := some 8) (v := ?_) rfl rfl (by kernel_rfl) (by kernel_rfl) (by kernel_rfl) (fun _ _ _ h => h) (Or.inl ⟨by rfl, ?_⟩) (by assumption) ?_
 rotate_left
 ·intro w hSw
  try dsimp only at hSw
  have q3 : w.cell? ⟨g, 0, none⟩ = some (.pointer (some ⟨b.pb, 0, none⟩)) := hSw.1.cell 0
  go_simp
  try with_reducible rfl
 try simp only [Act.put, List.setIfInBounds_toArray, List.set_cons_zero, List.set_cons_succ]
 refine takeH (i := 4) (d := some 9) (v := ?_) rfl rfl (by kernel_rfl) (by kernel_rfl) (by kernel_rfl) (fun _ _ _ h => h) (Or.inl ⟨by rfl, ?_⟩) (by assumption) ?_
 rotate_left
 ·intro w hSw
  try dsimp only at hSw
  go_simp
  try with_reducible rfl
 try simp only [Act.put, List.setIfInBounds_toArray, List.set_cons_zero, List.set_cons_succ]
 refine takeH (i := 5) (d := some 10) (v := ?_) rfl rfl (by kernel_rfl) (by kernel_rfl) (by kernel_rfl) (fun _ _ _ h => h) (Or.inl ⟨by rfl, ?_⟩) (by assumption) ?_
 rotate_left
 ·intro w hSw
  try dsimp only at hSw
  go_simp
  try with_reducible rfl
 try simp only [Act.put, List.setIfInBounds_toArray, List.set_cons_zero, List.set_cons_succ]
 refine takeH (i := 6) (d := some 11) (v := ?_) rfl rfl (by kernel_rfl) (by kernel_rfl) (by kernel_rfl) (fun _ _ _ h => h) (Or.inl ⟨by rfl, ?_⟩) (by assumption) ?_
 rotate_left
 ·intro w hSw
  try dsimp only at hSw
  go_simp
  try with_reducible rfl
 try simp only [Act.put, List.setIfInBounds_toArray, List.set_cons_zero, List.set_cons_succ]
 refine takeH (i := 7) (d := some 12) (v := ?_) rfl rfl (by kernel_rfl) (by kernel_rfl) (by kernel_rfl) (fun _ _ _ h => h) (Or.inl ⟨by rfl, ?_⟩) (by assumption) ?_
 rotate_left
 ·intro w hSw
  try dsimp only at hSw
  go_simp
  try with_reducible rfl
 try simp only [Act.put, List.setIfInBounds_toArray, List.set_cons_zero, List.set_cons_succ]
 refine takeH (i := 8) (d := some 13) (v := ?_) rfl rfl (by kernel_rfl) (by kernel_rfl) (by kernel_rfl) (fun _ _ _ h => h) (Or.inl ⟨by rfl, ?_⟩) (by assumption) ?_
 rotate_left
 ·intro w hSw
  try dsimp only at hSw
  have q3 : w.cell? ⟨g, 4, none⟩ = some (.int .i64 (x.i.b)) := hSw.1.cell 4
  rw [HXB.out] at q3
  go_simp
  try with_reducible rfl
 try simp only [Act.put, List.setIfInBounds_toArray, List.set_cons_zero, List.set_cons_succ]
 refine takeH (i := 9) (d := some 14) (v := ?_) rfl rfl (by kernel_rfl) (by kernel_rfl) (by kernel_rfl) (fun _ _ _ h => h) (Or.inl ⟨by rfl, ?_⟩) (by assumption) ?_
 rotate_left
 ·intro w hSw
  try dsimp only at hSw
  go_simp
  try with_reducible rfl
 try simp only [Act.put, List.setIfInBounds_toArray, List.set_cons_zero, List.set_cons_succ]
 refine takeH (i := 10) (d := some 15) (v := ?_) rfl rfl (by kernel_rfl) (by kernel_rfl) (by kernel_rfl) (fun _ _ _ h => h) (Or.inl ⟨by rfl, ?_⟩) (by assumption) ?_
 rotate_left
 ·intro w hSw
  try dsimp only at hSw
  go_simp
  try with_reducible rfl
 try simp only [Act.put, List.setIfInBounds_toArray, List.set_cons_zero, List.set_cons_succ]
 refine takeH (i := 11) (d := some 16) (v := ?_) rfl rfl (by kernel_rfl) (by kernel_rfl) (by kernel_rfl) (fun _ _ _ h => h) (Or.inl ⟨by rfl, ?_⟩) (by assumption) ?_
 rotate_left
 ·intro w hSw
  try dsimp only at hSw
  go_simp
  try with_reducible rfl
 try simp only [Act.put, List.setIfInBounds_toArray, List.set_cons_zero, List.set_cons_succ]
 refine takeH (i := 12) (d := some 17) (v := ?_) rfl rfl (by kernel_rfl) (by kernel_rfl) (by kernel_rfl) (fun _ _ _ h => h) (Or.inl ⟨by rfl, ?_⟩) (by assumption) ?_
 rotate_left
 ·intro w hSw
  try dsimp only at hSw
  refine exec_load_at (P := Tryz.prog) (x := .tmp 16) (n := 8) (cs := [.int .i64 x.was.r0, .int .i64 x.was.r1, .int .i64 x.was.r2, .int .i64 x.was.r3, .int .i64 x.was.r4, .int .i64 x.was.r5, .int .i64 x.was.r6, .int .i64 x.was.r7]) ?_ ?_ (ac_wasrow hSw.1) Tryz.underlying36 ?_ Tryz.sizeReg <;> rfl
 try simp only [Act.put, List.setIfInBounds_toArray, List.set_cons_zero, List.set_cons_succ]
 refine wpAnyH_ready (rs := [13]) (by kernel_rfl) (by simp) ?_
 refine AllReadyH.cons rfl (fun K hK => ?_) AllReadyH.nil
 go_simp
 refine HST.out.mono ?_
 rintro e w2 ⟨rfl, o2, h2, hs2⟩
 refine hK.out _ _ ?_ (fun hHeld => ?_)
 ·exact ⟨hHeld.1.turns hs2.t HG.out, hHeld.2.trans hs2.t⟩
 clear hK K
 try simp only [Act.put, List.setIfInBounds_toArray, List.set_cons_zero, List.set_cons_succ]
 refine takeH (i := 14) (d := some 4) (v := ?_) rfl rfl (by kernel_rfl) (by kernel_rfl) (by kernel_rfl) (fun _ _ _ h => h) (Or.inl ⟨by rfl, ?_⟩) (by assumption) ?_
 rotate_left
 ·intro w hSw
  try dsimp only at hSw
  go_simp
  try with_reducible rfl
 try simp only [Act.put, List.setIfInBounds_toArray, List.set_cons_zero, List.set_cons_succ]
 refine takeH (i := 15) (d := some 19) (v := ?_) rfl rfl (by kernel_rfl) (by kernel_rfl) (by kernel_rfl) (fun _ _ _ h => h) (Or.inl ⟨by rfl, ?_⟩) (by assumption) ?_
 rotate_left
 ·intro w hSw
  try dsimp only at hSw
  go_simp
  try with_reducible rfl
 try simp only [Act.put, List.setIfInBounds_toArray, List.set_cons_zero, List.set_cons_succ]
 refine takeH (i := 16) (d := some 20) (v := ?_) rfl rfl (by kernel_rfl) (by kernel_rfl) (by kernel_rfl) (fun _ _ _ h => h) (Or.inl ⟨by rfl, ?_⟩) (by assumption) ?_
 rotate_left
 ·intro w hSw
  try dsimp only at hSw
  go_simp
  try with_reducible rfl
 try simp only [Act.put, List.setIfInBounds_toArray, List.set_cons_zero, List.set_cons_succ]
 refine takeH (i := 17) (d := some 2) (v := ?_) rfl rfl (by kernel_rfl) (by kernel_rfl) (by kernel_rfl) (fun _ _ _ h => h) (Or.inl ⟨by rfl, ?_⟩) (by assumption) ?_
 rotate_left
 ·intro w hSw
  try dsimp only at hSw
  go_simp
  try with_reducible rfl
 try simp only [Act.put, List.setIfInBounds_toArray, List.set_cons_zero, List.set_cons_succ]
 refine takeH (i := 18) (d := some 3) (v := ?_) rfl rfl (by kernel_rfl) (by kernel_rfl) (by kernel_rfl) (fun _ _ _ h => h) (Or.inl ⟨by rfl, ?_⟩) (by assumption) ?_
 rotate_left
 ·intro w hSw
  try dsimp only at hSw
  go_simp
  try with_reducible rfl
 try simp only [Act.put, List.setIfInBounds_toArray, List.set_cons_zero, List.set_cons_succ]
 refine wpAnyH_done (by kernel_rfl) ?_ _
 have HB2 := Lib.hid hHeld.1
 have HH2 := Lib.hid (And.intro h2 ((Stp.made (F := Own o) (Turns.refl (fun _ => False) w).drew).trans hs2))
 clear hHeld h2 hs2
 go_wp2_with fail
 refine acbad_0.mono ?_
 rintro e w3 ⟨rfl, rfl⟩
 go_upto_region 2 with fail
 have HF2 := Lib.hid (HB2.out.free (16 + a))
 refine wp_region_held_drew (S := fun w' => Low w' g b.pb (x) ∧ (w' = w2.drew ∨ True)) (by kernel_rfl) ?_ (fun hHeld => ?_)
 ·exact ⟨low_of (HB2.out), .inr trivial⟩
 refine takeH (i := 0) (d := some 25) (v := ?_) rfl rfl (by kernel_rfl) (by kernel_rfl) (by kernel_rfl) (fun _ _ _ h => h) (Or.inl ⟨by rfl, ?_⟩) (by assumption) ?_
 rotate_left
 ·intro w hSw
  try dsimp only at hSw
  go_simp
  try with_reducible rfl
 try simp only [Act.put, List.setIfInBounds_toArray, List.set_cons_zero, List.set_cons_succ]
 refine takeH (i := 1) (d := some 26) (v := ?_) rfl rfl (by kernel_rfl) (by kernel_rfl) (by kernel_rfl) (fun _ _ _ h => h) (Or.inl ⟨by rfl, ?_⟩) (by assumption) ?_
 rotate_left
 ·intro w hSw
  try dsimp only at hSw
  go_simp
  try with_reducible rfl
 try simp only [Act.put, List.setIfInBounds_toArray, List.set_cons_zero, List.set_cons_succ]
 refine takeH (i := 2) (d := some 27) (v := ?_) rfl rfl (by kernel_rfl) (by kernel_rfl) (by kernel_rfl) (fun _ _ _ h => h) (Or.inl ⟨by rfl, ?_⟩) (by assumption) ?_
 rotate_left
 ·intro w hSw
  try dsimp only at hSw
  go_simp
  try with_reducible rfl
 try simp only [Act.put, List.setIfInBounds_toArray, List.set_cons_zero, List.set_cons_succ]
 refine takeH (i := 3) (d := some 28) (v := ?_) rfl rfl (by kernel_rfl) (by kernel_rfl) (by kernel_rfl) (fun _ _ _ h => h) (Or.inl ⟨by rfl, ?_⟩) (by assumption) ?_
 rotate_left
 ·intro w hSw
  try dsimp only at hSw
  go_simp
  try with_reducible rfl
 try simp only [Act.put, List.setIfInBounds_toArray, List.set_cons_zero, List.set_cons_succ]
 refine takeH (i := 4) (d := some 29) (v := ?_) rfl rfl (by kernel_rfl) (by kernel_rfl) (by kernel_rfl) (fun _ _ _ h => h) (Or.inl ⟨by rfl, ?_⟩) (by assumption) ?_
 rotate_left
 ·intro w hSw
  try dsimp only at hSw
  go_simp
  try with_reducible rfl
 try simp only [Act.put, List.setIfInBounds_toArray, List.set_cons_zero, List.set_cons_succ]
 refine takeH (i := 5) (d := some 30) (v := ?_) rfl rfl (by kernel_rfl) (by kernel_rfl) (by kernel_rfl) (fun _ _ _ h => h) (Or.inl ⟨by rfl, ?_⟩) (by assumption) ?_
 rotate_left
 ·intro w hSw
  try dsimp only at hSw
  have q3 : w.cell? ⟨g, 3, none⟩ = some (.int .i64 (x.i.a)) := hSw.1 3 (by omega)
  rw [HXA.out] at q3
  go_simp
  try with_reducible rfl
 try simp only [Act.put, List.setIfInBounds_toArray, List.set_cons_zero, List.set_cons_succ]
 refine takeH (i := 6) (d := some 31) (v := ?_) rfl rfl (by kernel_rfl) (by kernel_rfl) (by kernel_rfl) (fun _ _ _ h => h) (Or.inl ⟨by rfl, ?_⟩) (by assumption) ?_
 rotate_left
 ·intro w hSw
  try dsimp only at hSw
  go_simp
  try with_reducible rfl
 try simp only [Act.put, List.setIfInBounds_toArray, List.set_cons_zero, List.set_cons_succ]
 refine takeH (i := 7) (d := some 32) (v := ?_) rfl rfl (by kernel_rfl) (by kernel_rfl) (by kernel_rfl) (fun _ _ _ h => h) (Or.inl ⟨by rfl, ?_⟩) (by assumption) ?_
 rotate_left
 ·intro w hSw
  try dsimp only at hSw
  go_simp
  try with_reducible rfl
 try simp only [Act.put, List.setIfInBounds_toArray, List.set_cons_zero, List.set_cons_succ]
 refine takeH (i := 8) (d := some 33) (v := ?_) rfl rfl (by kernel_rfl) (by kernel_rfl) (by kernel_rfl) (fun _ _ _ h => h) (Or.inl ⟨by rfl, ?_⟩) (by assumption) ?_
 rotate_left
 ·intro w hSw
  try dsimp only at hSw
  go_simp
  try with_reducible rfl
 try simp only [Act.put, List.setIfInBounds_toArray, List.set_cons_zero, List.set_cons_succ]
 refine takeH (i := 9) (d := some 34) (v := ?_) rfl rfl (by kernel_rfl) (by kernel_rfl) (by kernel_rfl) (fun _ _ _ h => h) (Or.inl ⟨by rfl, ?_⟩) (by assumption) ?_
 rotate_left
 ·intro w hSw
  try dsimp only at hSw
  go_simp
  try with_reducible rfl
 try simp only [Act.put, List.setIfInBounds_toArray, List.set_cons_zero, List.set_cons_succ]
 refine wpAnyH_ready (rs := [10]) (by kernel_rfl) (by simp) ?_
 refine AllReadyH.cons rfl (fun K hK => ?_) AllReadyH.nil
 have qz0 := (HB2.out).cell (16 + a)
 rw [ac_reg _ _ HLT.out] at qz0
 have qz1 : w2.drew.cell? ⟨g, 16 + a, none⟩ = _ := qz0
 have qf := (HB2.out).free (16 + a)
 have qf1 : w2.drew.frozen? ⟨g, 16 + a, none⟩ = false := qf
 go_simp
 refine hK.out _ _ ?_ (fun hHeld => ?_)
 ·exact ⟨low_regs (r := (x).regs.set a ((s.ts.length : Int))) (low_of (by have hb4 := (show Blk w2.drew g 131 _ from HB2.out).put (16 + a) (.int .i64 ((s.ts.length : Int))); rw [ac_set _ _ _ HLT.out] at hb4; exact hb4)), .inr trivial⟩
 clear hK K
 try simp only [Act.put, List.setIfInBounds_toArray, List.set_cons_zero, List.set_cons_succ]
 refine wpAnyH_done (by kernel_rfl) ?_ _
 have hb4 := (show Blk w2.drew g 131 _ from HB2.out).put (16 + a) (.int .i64 ((s.ts.length : Int)))
 have ht4 : Turns (fun k => k = g) w2 (w2.drew.setCell ⟨g, 16 + a, none⟩ (.int .i64 ((s.ts.length : Int)))) := ((Turns.refl (fun k => k = g) w2).drew).setCell (p := ⟨g, 16 + a, none⟩) (fun _ => rfl) _
 rw [ac_set _ _ _ HLT.out] at hb4
 have HE := Lib.hid (And.intro hb4 ht4)
 clear hb4 ht4 hHeld
 go_wp2_with fail
 go_end0
 exact ⟨rfl, o2, HH2.out.1.turns HXX.out HE.out.2 (fun k hk e => (AStp.of g HH2.out.2).no HG.out HGL.out (by rw [← show k = g from e]; exact hk)), (AStp.of g HH2.out.2).set HE.out.2, HE.out.1⟩
end Go.Proofs.YtjnkphhlkoapbaaGreat
namespace Go.Proofs.YtjnkphhlkoapbaaGreat
open Go.RowKit
set_option linter.unusedVariables false
set_option linter.unusedSimpArgs false
set_option maxRecDepth 100000 in
set_option maxHeartbeats 4000000 in
theorem acrecv_park {CX : World → (Nat → Prop) → Prop} {w : World} {b : Wp} {o : Nat → Nat} {ps : List (List Ins)} {s : Wst} {g i p : Nat} {x : Ac} {t sg rm : Bool} {l : List Wt} (hx : Ext CX) (h : WW CX w b o ps s) (hb : Blk w g 131 (acA b.pb x)) (hg : ¬ Own o g) (hi : s.chs[i]? = some (p, ⟨t, sg, false, rm, none, l⟩)) (hl : l.length ≤ 1000) :
  Calls Tryz.prog 125 #[.pointer (some ⟨g, 0, none⟩), .pointer (some ⟨p, 0, none⟩)] w fun e w' => e = .returned (.tuple #[]) ∧ ∃ o', WW CX w' b o' ps { s with chs := s.chs.set i (p, ⟨t, sg, false, rm, none, l ++ [⟨x.id, 0, 0⟩]⟩) } ∧ AStp w w' o o' g ∧ Blk w' g 131 (acA b.pb { x with parks := true }) := by
 obtain ⟨vp, vc, vl, ve, h⟩ := h
 have HXX := Lib.hid hx
 have HG := Lib.hid hg
 have HI := Lib.hid hi
 have HRC := Lib.hid (chrecv_0 (h.chn p _ (List.mem_of_getElem? hi)))
 have HH := Lib.hid h
 have HB := Lib.hid hb
 clear h hb hx hg hi
 go_enter Tryz.func125, Tryz.ntmps125
 go_wp2_with fail
 refine HRC.out.mono ?_
 rintro e w1 ⟨rfl, hm⟩
 have hb1 := HB.out.turns hm (fun h => h)
 have HH1 := Lib.hid (And.intro (HH.out.made HXX.out hm) hm)
 have HB1 := Lib.hid hb1
 have q26 : w1.cell? ⟨g, 26, none⟩ = some (.bool x.parks) := hb1.cell 26
 have f26 := hb1.free 26
 clear hb1 hm
 go_upto_region 4 with fail
 have HB2 := Lib.hid (show Blk _ g 131 (acA b.pb { x with parks := true }) from HB1.out.put 26 (.bool true))
 have HT2 := Lib.hid ((Turns.refl (fun k => k = g) w1).setCell (p := ⟨g, 26, none⟩) (fun _ => rfl) (.bool true))
 clear q26 f26
 generalize w1.setCell ⟨g, 26, none⟩ (.bool true) = W2 at *
 have HW2 := Lib.hid (HH1.out.1.turns HXX.out HT2.out (fun k hk e => HG.out (by rw [← show k = g from e]; exact hk)))
 have HWT := Lib.hid (chwait_c ⟨x.id, 0, 0⟩ (HW2.out.chn p _ (List.mem_of_getElem? HI.out)) hl)
 have q1 : W2.cell? ⟨g, 1, none⟩ = some (.int .i64 x.id) := HB2.out.cell 1
 go_wp2_with fail
 refine HWT.out.mono ?_
 rintro e w3 ⟨rfl, F3, hc3, hs3⟩
 obtain ⟨o3, h3, _, hst⟩ := HW2.out.stepCh HXX.out HI.out hc3 hs3
 have HE := Lib.hid (And.intro h3 hst)
 clear hc3 hs3 h3 hst q1
 go_wp2_with fail
 go_end0
 exact ⟨rfl, o3, ⟨_, _, _, _, HE.out.1⟩, ((AStp.made (o := o) (g := g) HH1.out.2).set HT2.out).then HE.out.2, HB2.out.turns HE.out.2.t HG.out⟩
end Go.Proofs.YtjnkphhlkoapbaaGreat
namespace Go.Proofs.YtjnkphhlkoapbaaGreat
open Go.RowKit
set_option linter.unusedVariables false
set_option linter.unusedSimpArgs false
section
variable {CX : World → (Nat → Prop) → Prop} {w w' : World} {b : Wp} {o o' : Nat → Nat} {ps : List (List Ins)} {s : Wst} {vp vc vl ve : Value}
theorem WAt.newTm (hx : Ext CX) (h : WAt CX w b o ps s vp vc vl ve) {p : Nat} {Fc : Nat → Prop} {c : Chn} {FT : Nat → Prop} {tms' : List Tk} {named' : Int} {L' : List It} {sq' : Int} (hT : TsAt w' b.pm FT tms' named' L' sq') (hsT : Stp w w' (fun k => o k = 4) FT) (hc : ChAt w' p Fc c) (hf : ∀ k, Fc k → w.heap.size ≤ k) (hd : ∀ k, Fc k → ¬ FT k) : ∃ o', WAt CX w' b o' ps { s with tms := tms', named := named', L := L', sq := sq' } vp vc vl ve ∧ (fun k => o' k = 16 + p) = Fc ∧ Stp w w' (Own o) (Own o') ∧ p ∉ s.chs.map Prod.fst := by
 have ht : Turns (fun k => o k = 4 ∨ o k = 16 + p) w w' := hsT.t.mono (fun _ _ h => .inl h)
 obtain ⟨o', hlt, e4, e, hne, hst⟩ := relabel2 h.lt (by omega) (by omega) (by omega) ht hsT.f (fun k hk => .inr (hf k hk)) hd hT.fb hc.fb
 obtain ⟨ds, hd1, hd2⟩ := h.dls
 obtain ⟨ls, hl1, hl2⟩ := h.lrow
 have hnp : p ∉ s.chs.map Prod.fst := fun hp => by
  obtain ⟨⟨p2, c2⟩, h2, rfl⟩ := List.mem_map.1 hp
  have h3 := h.lt p2 (by have h9 : o p2 = 16 + p2 := (h.chn p2 c2 h2).self; omega)
  have h4 := hf p2 hc.self
  omega
 refine ⟨o', { lt := hlt, cnd := h.cnd, chn := fun p2 c2 hp2 => ?_, blk := h.blk.turns ht (by rw [h.ob]; omega), ob := lab_is (hne 1 (by omega) (by omega) (by omega)) h.ob, clk := h.clk.turns ht (by rw [h.ok]; omega), ok := lab_is (hne 2 (by omega) (by omega) (by omega)) h.ok, tab := by rw [hne 3 (by omega) (by omega) (by omega)]; exact h.tab.turns ht (fun k hk => by rw [hk]; omega), tms := by rw [e4]; exact hT, dls := ⟨ds, hd1, by rw [hne 5 (by omega) (by omega) (by omega)]; exact hd2.turns ht (fun k hk => by rw [hk]; omega)⟩, ctx := by rw [hne 6 (by omega) (by omega) (by omega)]; exact hx.turns _ w w' _ h.ctx ht (fun k hk => by rw [hk]; omega), prs := h.prs.turns ht (fun k hk => by rw [hk]; omega) (fun k hk => lab_is (hne 7 (by omega) (by omega) (by omega)) hk), crow := h.crow.turns ht (fun k hk => by rw [(h.co k).1 hk]; omega), co := fun k => (h.co k).trans (iff_of_eq (congrFun (hne 8 (by omega) (by omega) (by omega)) k)).symm, lrow := ⟨ls, hl1, hl2.turns ht (fun k hk => by rw [(h.lo k).1 hk]; omega)⟩, lo := fun k => (h.lo k).trans (iff_of_eq (congrFun (hne 9 (by omega) (by omega) (by omega)) k)).symm, erow := h.erow.turns ht (fun k hk => by rw [(h.eo k).1 hk]; omega), eo := fun k => (h.eo k).trans (iff_of_eq (congrFun (hne 10 (by omega) (by omega) (by omega)) k)).symm }, e, hst, hnp⟩
 have hpp : p2 ≠ p := fun e => hnp (by rw [← e]; exact List.mem_map.2 ⟨_, hp2, rfl⟩)
 rw [hne (16 + p2) (by omega) (by omega) (by omega)]
 exact (h.chn p2 c2 hp2).turns ht (fun k hk => by rw [hk]; omega)
end
def timerS (s : Wst) (d : Int) (cp : Nat) : Wst := { s with tms := s.tms ++ [⟨1, 0, some cp⟩], named := s.named + 1, L := insL ⟨s.tms.length, addZ s.now d, s.sq + 1⟩ (delL s.tms.length s.L), sq := s.sq + 1, chs := s.chs ++ [(cp, ⟨true, false, false, true, none, []⟩)] }
set_option maxRecDepth 100000 in
set_option maxHeartbeats 8000000 in
theorem actimer_c {CX : World → (Nat → Prop) → Prop} {w : World} {b : Wp} {o : Nat → Nat} {ps : List (List Ins)} {s : Wst} {g a bb cc : Nat} {x : Ac} (hx : Ext CX) (h : WW CX w b o ps s) (hb : Blk w g 131 (acA b.pb x)) (hg : ¬ Own o g) (hop : x.i.op = 17) (hxa : x.i.a = a) (hxb : x.i.b = bb) (hxc : x.i.c = cc) (ha : a < 8) (hbb : bb < 8) (hcc : cc < 8) (hd : 0 ≤ x.was.get bb) (hnow : 0 ≤ s.now ∧ s.now ≤ 4611686018427387904) (hw1 : 0 ≤ addZ s.now (x.was.get bb)) (hw2 : addZ s.now (x.was.get bb) ≤ 4611686018427387904) (htl : s.tms.length < 1000) (hnm : 0 ≤ s.named ∧ s.named < 64) (hsq : s.sq < 1000000) (hcl : s.chs.length ≤ 1000) :
  Calls Tryz.prog 80 #[.pointer (some ⟨g, 0, none⟩)] w fun e w' => e = .returned (.tuple #[]) ∧ ∃ o' cp, WW CX w' b o' ps (timerS s (x.was.get bb) cp) ∧ AStp w w' o o' g ∧ Blk w' g 131 (acA b.pb { x with regs := (x.regs.set a s.tms.length).set cc s.chs.length }) := by
 have HB := Lib.hid hb
 have HXX := Lib.hid hx
 have HLT := Lib.hid ha
 have HX := Lib.hid (And.intro hxa (And.intro hxb hxc))
 have HG := Lib.hid hg
 have HGL := Lib.hid hb.lt
 have HOP := Lib.hid hop
 have jb1 : (0 : Int) ≤ (a : Int) := by omega
 have jb2 : (a : Int) < 8 := by omega
 have kb1 : (0 : Int) ≤ (cc : Int) := by omega
 have kb2 : (cc : Int) < 8 := by omega
 have HWD := Lib.hid (h.made hx (Turns.refl (fun _ => False) w).drew)
 have HNW := Lib.hid (wnow_c HWD.out)
 have HLC := Lib.hid (And.intro hbb (And.intro hcc (And.intro hd (And.intro hnow (And.intro hw1 (And.intro hw2 (And.intro htl (And.intro hnm (And.intro hsq hcl)))))))))
 clear h hb hx hxa hxb hxc hg hop hd hnow hw1 hw2 htl hnm hsq hcl
 go_enter Tryz.func80, Tryz.ntmps80
 go_upto_region 3 with fail
 refine wp_region_held_drew (S := fun w' => Low w' g b.pb x ∧ w'.cell? ⟨b.pb, 5, none⟩ = some (.pointer (some ⟨b.pm, 0, none⟩)) ∧ (w' = w.drew ∨ True)) (by kernel_rfl) ?_ (fun hHeld => ?_)
 ·exact ⟨low_of HB.out, HWD.out.cell5, .inr trivial⟩
 refine takeH (i := 0) (d := some 7) (v := ?_) rfl rfl (by kernel_rfl) (by kernel_rfl) (by kernel_rfl) (fun _ _ _ h => h) (Or.inl ⟨by rfl, ?_⟩) (by assumption) ?_
 rotate_left
 ·intro w hSw
  try dsimp only at hSw
  go_simp
  try with_reducible rfl
 try simp only [Act.put, List.setIfInBounds_toArray, List.set_cons_zero, List.set_cons_succ]
 refine takeH (i := 1) (d := some 8) (v := ?_) rfl rfl (by kernel_rfl) (by kernel_rfl) (by kernel_rfl) (fun _ _ _ h => h) (Or.inl ⟨by rfl, ?_⟩) (by assumption) ?_
 rotate_left
 ·intro w hSw
  try dsimp only at hSw
  go_simp
  try with_reducible rfl
 try simp only [Act.put, List.setIfInBounds_toArray, List.set_cons_zero, List.set_cons_succ]
 refine takeH (i := 2) (d := some 9) (v := ?_) rfl rfl (by kernel_rfl) (by kernel_rfl) (by kernel_rfl) (fun _ _ _ h => h) (Or.inl ⟨by rfl, ?_⟩) (by assumption) ?_
 rotate_left
 ·intro w hSw
  try dsimp only at hSw
  go_simp
  try with_reducible rfl
 try simp only [Act.put, List.setIfInBounds_toArray, List.set_cons_zero, List.set_cons_succ]
 refine takeH (i := 3) (d := some 10) (v := ?_) rfl rfl (by kernel_rfl) (by kernel_rfl) (by kernel_rfl) (fun _ _ _ h => h) (Or.inl ⟨by rfl, ?_⟩) (by assumption) ?_
 rotate_left
 ·intro w hSw
  try dsimp only at hSw
  have q3 : w.cell? ⟨g, 0, none⟩ = some (.pointer (some ⟨b.pb, 0, none⟩)) := hSw.1 0 (by omega)
  go_simp
  try with_reducible rfl
 try simp only [Act.put, List.setIfInBounds_toArray, List.set_cons_zero, List.set_cons_succ]
 refine takeH (i := 4) (d := some 11) (v := ?_) rfl rfl (by kernel_rfl) (by kernel_rfl) (by kernel_rfl) (fun _ _ _ h => h) (Or.inl ⟨by rfl, ?_⟩) (by assumption) ?_
 rotate_left
 ·intro w hSw
  try dsimp only at hSw
  go_simp
  try with_reducible rfl
 try simp only [Act.put, List.setIfInBounds_toArray, List.set_cons_zero, List.set_cons_succ]
 refine takeH (i := 5) (d := some 12) (v := ?_) rfl rfl (by kernel_rfl) (by kernel_rfl) (by kernel_rfl) (fun _ _ _ h => h) (Or.inl ⟨by rfl, ?_⟩) (by assumption) ?_
 rotate_left
 ·intro w hSw
  try dsimp only at hSw
  go_simp
  try with_reducible rfl
 try simp only [Act.put, List.setIfInBounds_toArray, List.set_cons_zero, List.set_cons_succ]
 refine takeH (i := 6) (d := some 13) (v := ?_) rfl rfl (by kernel_rfl) (by kernel_rfl) (by kernel_rfl) (fun _ _ _ h => h) (Or.inl ⟨by rfl, ?_⟩) (by assumption) ?_
 rotate_left
 ·intro w hSw
  try dsimp only at hSw
  have qw := hSw.2.1
  go_simp
  try with_reducible rfl
 try simp only [Act.put, List.setIfInBounds_toArray, List.set_cons_zero, List.set_cons_succ]
 refine takeH (i := 7) (d := some 14) (v := ?_) rfl rfl (by kernel_rfl) (by kernel_rfl) (by kernel_rfl) (fun _ _ _ h => h) (Or.inl ⟨by rfl, ?_⟩) (by assumption) ?_
 rotate_left
 ·intro w hSw
  try dsimp only at hSw
  go_simp
  try with_reducible rfl
 try simp only [Act.put, List.setIfInBounds_toArray, List.set_cons_zero, List.set_cons_succ]
 refine takeH (i := 8) (d := some 15) (v := ?_) rfl rfl (by kernel_rfl) (by kernel_rfl) (by kernel_rfl) (fun _ _ _ h => h) (Or.inl ⟨by rfl, ?_⟩) (by assumption) ?_
 rotate_left
 ·intro w hSw
  try dsimp only at hSw
  go_simp
  try with_reducible rfl
 try simp only [Act.put, List.setIfInBounds_toArray, List.set_cons_zero, List.set_cons_succ]
 refine takeH (i := 9) (d := some 16) (v := ?_) rfl rfl (by kernel_rfl) (by kernel_rfl) (by kernel_rfl) (fun _ _ _ h => h) (Or.inl ⟨by rfl, ?_⟩) (by assumption) ?_
 rotate_left
 ·intro w hSw
  try dsimp only at hSw
  go_simp
  try with_reducible rfl
 try simp only [Act.put, List.setIfInBounds_toArray, List.set_cons_zero, List.set_cons_succ]
 refine takeH (i := 10) (d := some 17) (v := ?_) rfl rfl (by kernel_rfl) (by kernel_rfl) (by kernel_rfl) (fun _ _ _ h => h) (Or.inl ⟨by rfl, ?_⟩) (by assumption) ?_
 rotate_left
 ·intro w hSw
  try dsimp only at hSw
  have q3 : w.cell? ⟨g, 0, none⟩ = some (.pointer (some ⟨b.pb, 0, none⟩)) := hSw.1 0 (by omega)
  go_simp
  try with_reducible rfl
 try simp only [Act.put, List.setIfInBounds_toArray, List.set_cons_zero, List.set_cons_succ]
 refine wpAnyH_ready (rs := [11]) (by kernel_rfl) (by simp) ?_
 refine AllReadyH.cons rfl (fun K hK => ?_) AllReadyH.nil
 go_simp
 refine HNW.out.mono ?_
 rintro e w1 ⟨rfl, rfl⟩
 refine hK.out _ _ ?_ (fun hHeld => ?_)
 ·exact hHeld
 clear hK K
 try simp only [Act.put, List.setIfInBounds_toArray, List.set_cons_zero, List.set_cons_succ]
 refine takeH (i := 12) (d := some 5) (v := ?_) rfl rfl (by kernel_rfl) (by kernel_rfl) (by kernel_rfl) (fun _ _ _ h => h) (Or.inl ⟨by rfl, ?_⟩) (by assumption) ?_
 rotate_left
 ·intro w hSw
  try dsimp only at hSw
  go_simp
  try with_reducible rfl
 try simp only [Act.put, List.setIfInBounds_toArray, List.set_cons_zero, List.set_cons_succ]
 refine takeH (i := 13) (d := some 6) (v := ?_) rfl rfl (by kernel_rfl) (by kernel_rfl) (by kernel_rfl) (fun _ _ _ h => h) (Or.inl ⟨by rfl, ?_⟩) (by assumption) ?_
 rotate_left
 ·intro w hSw
  try dsimp only at hSw
  go_simp
  try with_reducible rfl
 try simp only [Act.put, List.setIfInBounds_toArray, List.set_cons_zero, List.set_cons_succ]
 refine wpAnyH_done (by kernel_rfl) ?_ _
 clear hHeld
 have q2 : w.drew.cell? ⟨g, 2, none⟩ = some (.int .i64 x.i.op) := HB.out.cell 2
 rw [HOP.out] at q2
 have HBM := Lib.hid (acb_c (w := w.drew) (HB.out.turns (Turns.refl (fun _ => False) w).drew (fun h => h)) HX.out.2.1 HLC.out.1)
 go_wp2_with fail
 refine HBM.out.mono ?_
 rintro e w1 ⟨rfl, hm1⟩
 have HM1 := Lib.hid ((Turns.refl (fun _ => False) w).drew.trans hm1)
 obtain ⟨vp, vc, vl, ve, hw1⟩ := HWD.out.made HXX.out hm1
 have HW1 := Lib.hid hw1
 have HTI := Lib.hid (tstimer_c hw1.tms HLC.out.2.2.2.2.2.2.1 HLC.out.2.2.2.2.2.2.2.1 HLC.out.2.2.2.2.2.2.2.2.1 HLC.out.2.2.2.1 HLC.out.2.2.1 rfl HLC.out.2.2.2.2.1 HLC.out.2.2.2.2.2.1)
 clear hm1 hw1 q2
 go_wp2_with fail
 refine HTI.out.mono ?_
 rintro e w2 ⟨cp, Fc, F2, rfl, hT, hC, hsT, hfc, hdj⟩
 obtain ⟨o2, h2, e2, hs2, hnp⟩ := HW1.out.newTm HXX.out hT hsT hC hfc hdj
 have HS2 := Lib.hid ((Stp.made (F := Own o) HM1.out).trans hs2)
 have HB2 := Lib.hid (HB.out.turns HS2.out.t HG.out)
 have HC2 := Lib.hid (show ChAt w2 cp (fun k => o2 k = 16 + cp) _ from by rw [e2]; exact hC)
 have HW2 := Lib.hid (And.intro h2 hnp)
 clear hT hC hsT hfc hdj h2 e2 hs2 hnp
 go_upto_region 11 with fail
 refine wp_region_held_drew (S := fun w' => Low w' g b.pb (x) ∧ (w' = w2.drew ∨ True)) (by kernel_rfl) ?_ (fun hHeld => ?_)
 ·exact ⟨low_of (HB2.out), .inr trivial⟩
 refine takeH (i := 0) (d := some 60) (v := ?_) rfl rfl (by kernel_rfl) (by kernel_rfl) (by kernel_rfl) (fun _ _ _ h => h) (Or.inl ⟨by rfl, ?_⟩) (by assumption) ?_
 rotate_left
 ·intro w hSw
  try dsimp only at hSw
  go_simp
  try with_reducible rfl
 try simp only [Act.put, List.setIfInBounds_toArray, List.set_cons_zero, List.set_cons_succ]
 refine takeH (i := 1) (d := some 61) (v := ?_) rfl rfl (by kernel_rfl) (by kernel_rfl) (by kernel_rfl) (fun _ _ _ h => h) (Or.inl ⟨by rfl, ?_⟩) (by assumption) ?_
 rotate_left
 ·intro w hSw
  try dsimp only at hSw
  go_simp
  try with_reducible rfl
 try simp only [Act.put, List.setIfInBounds_toArray, List.set_cons_zero, List.set_cons_succ]
 refine takeH (i := 2) (d := some 62) (v := ?_) rfl rfl (by kernel_rfl) (by kernel_rfl) (by kernel_rfl) (fun _ _ _ h => h) (Or.inl ⟨by rfl, ?_⟩) (by assumption) ?_
 rotate_left
 ·intro w hSw
  try dsimp only at hSw
  go_simp
  try with_reducible rfl
 try simp only [Act.put, List.setIfInBounds_toArray, List.set_cons_zero, List.set_cons_succ]
 refine takeH (i := 3) (d := some 63) (v := ?_) rfl rfl (by kernel_rfl) (by kernel_rfl) (by kernel_rfl) (fun _ _ _ h => h) (Or.inl ⟨by rfl, ?_⟩) (by assumption) ?_
 rotate_left
 ·intro w hSw
  try dsimp only at hSw
  go_simp
  try with_reducible rfl
 try simp only [Act.put, List.setIfInBounds_toArray, List.set_cons_zero, List.set_cons_succ]
 refine takeH (i := 4) (d := some 64) (v := ?_) rfl rfl (by kernel_rfl) (by kernel_rfl) (by kernel_rfl) (fun _ _ _ h => h) (Or.inl ⟨by rfl, ?_⟩) (by assumption) ?_
 rotate_left
 ·intro w hSw
  try dsimp only at hSw
  go_simp
  try with_reducible rfl
 try simp only [Act.put, List.setIfInBounds_toArray, List.set_cons_zero, List.set_cons_succ]
 refine takeH (i := 5) (d := some 65) (v := ?_) rfl rfl (by kernel_rfl) (by kernel_rfl) (by kernel_rfl) (fun _ _ _ h => h) (Or.inl ⟨by rfl, ?_⟩) (by assumption) ?_
 rotate_left
 ·intro w hSw
  try dsimp only at hSw
  have q3 : w.cell? ⟨g, 3, none⟩ = some (.int .i64 (x.i.a)) := hSw.1 3 (by omega)
  rw [HX.out.1] at q3
  go_simp
  try with_reducible rfl
 try simp only [Act.put, List.setIfInBounds_toArray, List.set_cons_zero, List.set_cons_succ]
 refine takeH (i := 6) (d := some 66) (v := ?_) rfl rfl (by kernel_rfl) (by kernel_rfl) (by kernel_rfl) (fun _ _ _ h => h) (Or.inl ⟨by rfl, ?_⟩) (by assumption) ?_
 rotate_left
 ·intro w hSw
  try dsimp only at hSw
  go_simp
  try with_reducible rfl
 try simp only [Act.put, List.setIfInBounds_toArray, List.set_cons_zero, List.set_cons_succ]
 refine takeH (i := 7) (d := some 67) (v := ?_) rfl rfl (by kernel_rfl) (by kernel_rfl) (by kernel_rfl) (fun _ _ _ h => h) (Or.inl ⟨by rfl, ?_⟩) (by assumption) ?_
 rotate_left
 ·intro w hSw
  try dsimp only at hSw
  go_simp
  try with_reducible rfl
 try simp only [Act.put, List.setIfInBounds_toArray, List.set_cons_zero, List.set_cons_succ]
 refine takeH (i := 8) (d := some 68) (v := ?_) rfl rfl (by kernel_rfl) (by kernel_rfl) (by kernel_rfl) (fun _ _ _ h => h) (Or.inl ⟨by rfl, ?_⟩) (by assumption) ?_
 rotate_left
 ·intro w hSw
  try dsimp only at hSw
  go_simp
  try with_reducible rfl
 try simp only [Act.put, List.setIfInBounds_toArray, List.set_cons_zero, List.set_cons_succ]
 refine takeH (i := 9) (d := some 69) (v := ?_) rfl rfl (by kernel_rfl) (by kernel_rfl) (by kernel_rfl) (fun _ _ _ h => h) (Or.inl ⟨by rfl, ?_⟩) (by assumption) ?_
 rotate_left
 ·intro w hSw
  try dsimp only at hSw
  go_simp
  try with_reducible rfl
 try simp only [Act.put, List.setIfInBounds_toArray, List.set_cons_zero, List.set_cons_succ]
 refine wpAnyH_ready (rs := [10]) (by kernel_rfl) (by simp) ?_
 refine AllReadyH.cons rfl (fun K hK => ?_) AllReadyH.nil
 have qz0 := (HB2.out).cell (16 + a)
 rw [ac_reg _ _ HLT.out] at qz0
 have qz1 : w2.drew.cell? ⟨g, 16 + a, none⟩ = _ := qz0
 have qf := (HB2.out).free (16 + a)
 have qf1 : w2.drew.frozen? ⟨g, 16 + a, none⟩ = false := qf
 go_simp
 refine hK.out _ _ ?_ (fun hHeld => ?_)
 ·exact ⟨low_regs (r := (x).regs.set a ((s.tms.length : Int))) (low_of (by have hb4 := (show Blk w2.drew g 131 _ from HB2.out).put (16 + a) (.int .i64 ((s.tms.length : Int))); rw [ac_set _ _ _ HLT.out] at hb4; exact hb4)), .inr trivial⟩
 clear hK K
 try simp only [Act.put, List.setIfInBounds_toArray, List.set_cons_zero, List.set_cons_succ]
 refine wpAnyH_done (by kernel_rfl) ?_ _
 have hb4 := (show Blk w2.drew g 131 _ from HB2.out).put (16 + a) (.int .i64 ((s.tms.length : Int)))
 have ht4 : Turns (fun k => k = g) w2 (w2.drew.setCell ⟨g, 16 + a, none⟩ (.int .i64 ((s.tms.length : Int)))) := ((Turns.refl (fun k => k = g) w2).drew).setCell (p := ⟨g, 16 + a, none⟩) (fun _ => rfl) _
 rw [ac_set _ _ _ HLT.out] at hb4
 have HE := Lib.hid (show Blk (w2.setCell ⟨g, 16 + a, none⟩ (.int .i64 (s.tms.length : Int))).drew g 131 (acA b.pb { x with regs := x.regs.set a (s.tms.length : Int) }) ∧ Turns (fun k => k = g) w2 (w2.setCell ⟨g, 16 + a, none⟩ (.int .i64 (s.tms.length : Int))).drew from And.intro hb4 ht4)
 clear hb4 ht4 hHeld
 go_upto_region 13 with fail
 generalize (w2.setCell ⟨g, 16 + a, none⟩ (.int .i64 (s.tms.length : Int))).drew = W3 at *
 have HG2 := Lib.hid (show ¬ Own o2 g from (AStp.of g HS2.out).no HG.out HGL.out)
 have HGK := Lib.hid (show ∀ k, o2 k ≠ 0 → ¬ k = g from fun k hk e => HG2.out (by rw [← e]; exact hk))
 have HB3 := Lib.hid (show Blk W3 g 131 (acA b.pb { x with regs := x.regs.set a (s.tms.length : Int) }) from HE.out.1)
 have HW3 := Lib.hid (HW2.out.1.turns HXX.out HE.out.2 HGK.out)
 have HC3 := Lib.hid (HC2.out.turns HE.out.2 (fun k hk => HGK.out k (by rw [hk]; omega)))
 have HOP2 := Lib.hid (wopen_c HXX.out (show WW CX W3.drew b o2 ps _ from ⟨_, _, _, _, HW3.out.made HXX.out (Turns.refl (fun _ => False) W3).drew⟩) (HC3.out.made (Turns.refl (fun _ => False) W3).drew) HW2.out.2 HLC.out.2.2.2.2.2.2.2.2.2)
 have HLT2 := Lib.hid HLC.out.2.1
 refine wp_region_held_drew (S := fun w' => Low w' g b.pb ({ x with regs := x.regs.set a (s.tms.length : Int) }) ∧ (w' = W3.drew ∨ True)) (by kernel_rfl) ?_ (fun hHeld => ?_)
 ·exact ⟨low_of HB3.out, .inr trivial⟩
 refine takeH (i := 0) (d := some 72) (v := ?_) rfl rfl (by kernel_rfl) (by kernel_rfl) (by kernel_rfl) (fun _ _ _ h => h) (Or.inl ⟨by rfl, ?_⟩) (by assumption) ?_
 rotate_left
 ·intro w hSw
  try dsimp only at hSw
  go_simp
  try with_reducible rfl
 try simp only [Act.put, List.setIfInBounds_toArray, List.set_cons_zero, List.set_cons_succ]
 refine takeH (i := 1) (d := some 73) (v := ?_) rfl rfl (by kernel_rfl) (by kernel_rfl) (by kernel_rfl) (fun _ _ _ h => h) (Or.inl ⟨by rfl, ?_⟩) (by assumption) ?_
 rotate_left
 ·intro w hSw
  try dsimp only at hSw
  go_simp
  try with_reducible rfl
 try simp only [Act.put, List.setIfInBounds_toArray, List.set_cons_zero, List.set_cons_succ]
 refine takeH (i := 2) (d := some 74) (v := ?_) rfl rfl (by kernel_rfl) (by kernel_rfl) (by kernel_rfl) (fun _ _ _ h => h) (Or.inl ⟨by rfl, ?_⟩) (by assumption) ?_
 rotate_left
 ·intro w hSw
  try dsimp only at hSw
  go_simp
  try with_reducible rfl
 try simp only [Act.put, List.setIfInBounds_toArray, List.set_cons_zero, List.set_cons_succ]
 refine takeH (i := 3) (d := some 75) (v := ?_) rfl rfl (by kernel_rfl) (by kernel_rfl) (by kernel_rfl) (fun _ _ _ h => h) (Or.inl ⟨by rfl, ?_⟩) (by assumption) ?_
 rotate_left
 ·intro w hSw
  try dsimp only at hSw
  go_simp
  try with_reducible rfl
 try simp only [Act.put, List.setIfInBounds_toArray, List.set_cons_zero, List.set_cons_succ]
 refine takeH (i := 4) (d := some 76) (v := ?_) rfl rfl (by kernel_rfl) (by kernel_rfl) (by kernel_rfl) (fun _ _ _ h => h) (Or.inl ⟨by rfl, ?_⟩) (by assumption) ?_
 rotate_left
 ·intro w hSw
  try dsimp only at hSw
  go_simp
  try with_reducible rfl
 try simp only [Act.put, List.setIfInBounds_toArray, List.set_cons_zero, List.set_cons_succ]
 refine takeH (i := 5) (d := some 77) (v := ?_) rfl rfl (by kernel_rfl) (by kernel_rfl) (by kernel_rfl) (fun _ _ _ h => h) (Or.inl ⟨by rfl, ?_⟩) (by assumption) ?_
 rotate_left
 ·intro w hSw
  try dsimp only at hSw
  have q3 : w.cell? ⟨g, 5, none⟩ = some (.int .i64 x.i.c) := hSw.1 5 (by omega)
  rw [HX.out.2.2] at q3
  go_simp
  try with_reducible rfl
 try simp only [Act.put, List.setIfInBounds_toArray, List.set_cons_zero, List.set_cons_succ]
 refine takeH (i := 6) (d := some 78) (v := ?_) rfl rfl (by kernel_rfl) (by kernel_rfl) (by kernel_rfl) (fun _ _ _ h => h) (Or.inl ⟨by rfl, ?_⟩) (by assumption) ?_
 rotate_left
 ·intro w hSw
  try dsimp only at hSw
  go_simp
  try with_reducible rfl
 try simp only [Act.put, List.setIfInBounds_toArray, List.set_cons_zero, List.set_cons_succ]
 refine takeH (i := 7) (d := some 79) (v := ?_) rfl rfl (by kernel_rfl) (by kernel_rfl) (by kernel_rfl) (fun _ _ _ h => h) (Or.inl ⟨by rfl, ?_⟩) (by assumption) ?_
 rotate_left
 ·intro w hSw
  try dsimp only at hSw
  go_simp
  try with_reducible rfl
 try simp only [Act.put, List.setIfInBounds_toArray, List.set_cons_zero, List.set_cons_succ]
 refine takeH (i := 8) (d := some 80) (v := ?_) rfl rfl (by kernel_rfl) (by kernel_rfl) (by kernel_rfl) (fun _ _ _ h => h) (Or.inl ⟨by rfl, ?_⟩) (by assumption) ?_
 rotate_left
 ·intro w hSw
  try dsimp only at hSw
  go_simp
  try with_reducible rfl
 try simp only [Act.put, List.setIfInBounds_toArray, List.set_cons_zero, List.set_cons_succ]
 refine takeH (i := 9) (d := some 81) (v := ?_) rfl rfl (by kernel_rfl) (by kernel_rfl) (by kernel_rfl) (fun _ _ _ h => h) (Or.inl ⟨by rfl, ?_⟩) (by assumption) ?_
 rotate_left
 ·intro w hSw
  try dsimp only at hSw
  have q3 : w.cell? ⟨g, 0, none⟩ = some (.pointer (some ⟨b.pb, 0, none⟩)) := hSw.1 0 (by omega)
  go_simp
  try with_reducible rfl
 try simp only [Act.put, List.setIfInBounds_toArray, List.set_cons_zero, List.set_cons_succ]
 refine takeH (i := 10) (d := some 82) (v := ?_) rfl rfl (by kernel_rfl) (by kernel_rfl) (by kernel_rfl) (fun _ _ _ h => h) (Or.inl ⟨by rfl, ?_⟩) (by assumption) ?_
 rotate_left
 ·intro w hSw
  try dsimp only at hSw
  go_simp
  try with_reducible rfl
 try simp only [Act.put, List.setIfInBounds_toArray, List.set_cons_zero, List.set_cons_succ]
 refine takeH (i := 12) (d := some 84) (v := ?_) rfl rfl (by kernel_rfl) (by kernel_rfl) (by kernel_rfl) (fun _ _ _ h => h) (Or.inl ⟨by rfl, ?_⟩) (by assumption) ?_
 rotate_left
 ·intro w hSw
  try dsimp only at hSw
  go_simp
  try with_reducible rfl
 try simp only [Act.put, List.setIfInBounds_toArray, List.set_cons_zero, List.set_cons_succ]
 refine takeH (i := 13) (d := some 85) (v := ?_) rfl rfl (by kernel_rfl) (by kernel_rfl) (by kernel_rfl) (fun _ _ _ h => h) (Or.inl ⟨by rfl, ?_⟩) (by assumption) ?_
 rotate_left
 ·intro w hSw
  try dsimp only at hSw
  go_simp
  try with_reducible rfl
 try simp only [Act.put, List.setIfInBounds_toArray, List.set_cons_zero, List.set_cons_succ]
 refine wpAnyH_ready (rs := [11]) (by kernel_rfl) (by simp) ?_
 refine AllReadyH.cons rfl (fun K hK => ?_) AllReadyH.nil
 go_simp
 refine HOP2.out.mono ?_
 rintro e w4 ⟨rfl, o4, h4, hs4⟩
 have hb4 : Blk w4 g 131 (acA b.pb { x with regs := x.regs.set a (s.tms.length : Int) }) := (HB3.out.turns (Turns.refl (fun _ => False) W3).drew (fun h => h)).turns hs4.t HG2.out
 refine hK.out _ _ ?_ (fun hHeld => ?_)
 ·exact ⟨low_of hb4, .inr trivial⟩
 clear hK K
 try simp only [Act.put, List.setIfInBounds_toArray, List.set_cons_zero, List.set_cons_succ]
 refine takeH (i := 14) (d := some 86) (v := ?_) rfl rfl (by kernel_rfl) (by kernel_rfl) (by kernel_rfl) (fun _ _ _ h => h) (Or.inl ⟨by rfl, ?_⟩) (by assumption) ?_
 rotate_left
 ·intro w hSw
  try dsimp only at hSw
  go_simp
  try with_reducible rfl
 try simp only [Act.put, List.setIfInBounds_toArray, List.set_cons_zero, List.set_cons_succ]
 refine wpAnyH_ready (rs := [15]) (by kernel_rfl) (by simp) ?_
 refine AllReadyH.cons rfl (fun K hK => ?_) AllReadyH.nil
 have qz0 := hb4.cell (16 + cc)
 rw [ac_reg _ _ HLT2.out] at qz0
 have qf := hb4.free (16 + cc)
 have H4 := Lib.hid (And.intro h4 hs4)
 have HB4 := Lib.hid hb4
 clear h4 hs4 hb4
 go_simp
 refine hK.out _ _ ?_ (fun hHeld => ?_)
 ·exact ⟨low_regs (r := (x.regs.set a (s.tms.length : Int)).set cc (s.chs.length : Int)) (low_of (by have hb5 := HB4.out.put (16 + cc) (.int .i64 (s.chs.length : Int)); rw [ac_set _ _ _ HLT2.out] at hb5; exact hb5)), .inr trivial⟩
 clear hK K
 try simp only [Act.put, List.setIfInBounds_toArray, List.set_cons_zero, List.set_cons_succ]
 refine wpAnyH_done (by kernel_rfl) ?_ _
 have hb5 := HB4.out.put (16 + cc) (.int .i64 (s.chs.length : Int))
 rw [ac_set _ _ _ HLT2.out] at hb5
 have HB5 := Lib.hid hb5
 have HT5 := Lib.hid ((Turns.refl (fun k => k = g) w4).setCell (p := ⟨g, 16 + cc, none⟩) (fun _ => rfl) (.int .i64 (s.chs.length : Int)))
 clear hb5 hHeld qz0 qf
 generalize w4.setCell ⟨g, 16 + cc, none⟩ (.int .i64 (s.chs.length : Int)) = W5 at *
 go_wp2_with fail
 go_end0
 have HA := (((AStp.of g HS2.out).set HE.out.2).then (Stp.made (F := Own o2) (Turns.refl (fun _ => False) W3).drew)).then H4.out.2
 exact ⟨rfl, o4, ⟨cp, H4.out.1.turns HXX.out HT5.out (fun k hk e => HA.no HG.out HGL.out (by rw [← show k = g from e]; exact hk))⟩, HA.set HT5.out, HB5.out⟩
end Go.Proofs.YtjnkphhlkoapbaaGreat
namespace Go.Proofs.YtjnkphhlkoapbaaGreat
open Go.RowKit
set_option linter.unusedVariables false
set_option linter.unusedSimpArgs false
set_option maxRecDepth 100000 in
set_option maxHeartbeats 8000000 in
theorem acstop_0 {CX : World → (Nat → Prop) → Prop} {w : World} {b : Wp} {o : Nat → Nat} {ps : List (List Ins)} {s : Wst} {g a bb cc i cp ci : Nat} {x : Ac} {c : Chn} {kd dt : Int} {sg cl rm : Bool} {l : List Wt} (hx : Ext CX) (h : WW CX w b o ps s) (hb : Blk w g 131 (acA b.pb x)) (hg : ¬ Own o g) (hop : x.i.op = 20) (hxa : x.i.a = a) (hxb : x.i.b = bb) (ha : a < 8) (hbb : bb < 8) (hi : x.was.get a = i) (htm : s.tms[i]? = some ⟨1, dt, some cp⟩) (hch : s.chs[ci]? = some (cp, ⟨true, sg, cl, rm, none, l⟩)) (htl : s.tms.length ≤ 1000) (hsq : s.sq ≤ 1000000) :
  Calls Tryz.prog 81 #[.pointer (some ⟨g, 0, none⟩)] w fun e w' => e = .returned (.tuple #[]) ∧ ∃ o', WW CX w' b o' ps { s with L := delL i s.L } ∧ AStp w w' o o' g ∧ Blk w' g 131 (acA b.pb { x with regs := x.regs.set bb (bitZ (findL (i : Int) s.L).isSome) }) := by
 have HB := Lib.hid hb
 have HXX := Lib.hid hx
 have HLT := Lib.hid hbb
 have HX := Lib.hid (And.intro hxa (And.intro hxb (And.intro hop hi)))
 have HG := Lib.hid hg
 have HGL := Lib.hid hb.lt
 have HLA := Lib.hid ha
 have HT := Lib.hid (And.intro htm (And.intro hch (And.intro htl hsq)))
 have HW := Lib.hid h
 have jb1 : (0 : Int) ≤ (bb : Int) := by omega
 have jb2 : (bb : Int) < 8 := by omega
 have q0 : w.cell? ⟨g, 0, none⟩ = some (.pointer (some ⟨b.pb, 0, none⟩)) := hb.cell 0
 have q5 := h.cell5
 have HA1 := Lib.hid (aca_c hb hxa ha)
 obtain ⟨dd, hdd⟩ : ∃ dd, dd = (findL (i : Int) s.L).isSome := ⟨_, rfl⟩
 rw [← hdd]
 have HDD := Lib.hid hdd
 obtain ⟨bz, hbz⟩ : ∃ bz, bz = bitZ dd := ⟨_, rfl⟩
 rw [← hbz]
 have HBT := Lib.hid (fun ww => (show Calls Tryz.prog 117 #[.bool dd] ww (fun e w' => e = .returned (.int .i64 bz) ∧ ww = w') from by rw [hbz]; exact bit_c dd ww))
 clear hbz hdd
 clear h hb hx hxa hxb hg hop htm hch htl hsq hi
 go_enter Tryz.func81, Tryz.ntmps81
 go_wp2_with fail
 refine HA1.out.mono ?_
 rintro e w1 ⟨rfl, hm1⟩
 have HM1 := Lib.hid hm1
 have HB1 := Lib.hid (HB.out.turns hm1 (fun h => h))
 obtain ⟨vp, vc, vl, ve, hw1⟩ := HW.out.made HXX.out hm1
 have HW1 := Lib.hid hw1
 have HKD := Lib.hid (tskind_c hw1.tms HT.out.1 HT.out.2.2.1)
 rw [HX.out.2.2.2]
 clear hm1 hw1 q0 q5
 go_wp2_with fail
 refine HKD.out.mono ?_
 rintro e w2 ⟨rfl, rfl⟩
 have q2 : w1.cell? ⟨g, 2, none⟩ = some (.int .i64 x.i.op) := HB1.out.cell 2
 rw [HX.out.2.2.1] at q2
 have HA2 := Lib.hid (aca_c HB1.out HX.out.1 HLA.out)
 go_wp2_with fail
 refine HA2.out.mono ?_
 rintro e w3 ⟨rfl, hm3⟩
 have HM3 := Lib.hid (HM1.out.trans hm3)
 have HB3 := Lib.hid (HB1.out.turns hm3 (fun h => h))
 have hw3 := HW1.out.made HXX.out hm3
 have HW3 := Lib.hid hw3
 have HST := Lib.hid (tsstop_0 hw3.tms HT.out.1 (hw3.chn cp _ (List.mem_of_getElem? HT.out.2.1)) (fun k hk h4 => by have h5 : o k = 16 + cp := hk; have h6 : o k = 4 := h4; omega) HT.out.2.2.1 HT.out.2.2.2)
 rw [HX.out.2.2.2]
 clear hm3 hw3 q2
 rw [← HDD.out] at HST
 go_wp2_with fail
 refine HST.out.mono ?_
 rintro e w4 ⟨rfl, hT, hC, ht⟩
 obtain ⟨o4, h4, _, hs4⟩ := HW3.out.stepTms HXX.out hT ⟨ht, fun k hk => .inl hk⟩
 have HW4 := Lib.hid h4
 have HS4 := Lib.hid ((Stp.made (F := Own o) HM3.out).trans hs4)
 have HB4 := Lib.hid (HB3.out.turns hs4.t HG.out)
 clear hT hC ht h4 hs4
 go_upto_region 10 with fail
 refine wp_region_held_drew (S := fun w' => Low w' g b.pb (x) ∧ (w' = w4.drew ∨ True)) (by kernel_rfl) ?_ (fun hHeld => ?_)
 ·exact ⟨low_of (HB4.out), .inr trivial⟩
 refine takeH (i := 0) (d := some 73) (v := ?_) rfl rfl (by kernel_rfl) (by kernel_rfl) (by kernel_rfl) (fun _ _ _ h => h) (Or.inl ⟨by rfl, ?_⟩) (by assumption) ?_
 rotate_left
 ·intro w hSw
  try dsimp only at hSw
  go_simp
  try with_reducible rfl
 try simp only [Act.put, List.setIfInBounds_toArray, List.set_cons_zero, List.set_cons_succ]
 refine takeH (i := 1) (d := some 74) (v := ?_) rfl rfl (by kernel_rfl) (by kernel_rfl) (by kernel_rfl) (fun _ _ _ h => h) (Or.inl ⟨by rfl, ?_⟩) (by assumption) ?_
 rotate_left
 ·intro w hSw
  try dsimp only at hSw
  go_simp
  try with_reducible rfl
 try simp only [Act.put, List.setIfInBounds_toArray, List.set_cons_zero, List.set_cons_succ]
 refine takeH (i := 2) (d := some 75) (v := ?_) rfl rfl (by kernel_rfl) (by kernel_rfl) (by kernel_rfl) (fun _ _ _ h => h) (Or.inl ⟨by rfl, ?_⟩) (by assumption) ?_
 rotate_left
 ·intro w hSw
  try dsimp only at hSw
  go_simp
  try with_reducible rfl
 try simp only [Act.put, List.setIfInBounds_toArray, List.set_cons_zero, List.set_cons_succ]
 refine takeH (i := 3) (d := some 76) (v := ?_) rfl rfl (by kernel_rfl) (by kernel_rfl) (by kernel_rfl) (fun _ _ _ h => h) (Or.inl ⟨by rfl, ?_⟩) (by assumption) ?_
 rotate_left
 ·intro w hSw
  try dsimp only at hSw
  go_simp
  try with_reducible rfl
 try simp only [Act.put, List.setIfInBounds_toArray, List.set_cons_zero, List.set_cons_succ]
 refine takeH (i := 4) (d := some 77) (v := ?_) rfl rfl (by kernel_rfl) (by kernel_rfl) (by kernel_rfl) (fun _ _ _ h => h) (Or.inl ⟨by rfl, ?_⟩) (by assumption) ?_
 rotate_left
 ·intro w hSw
  try dsimp only at hSw
  go_simp
  try with_reducible rfl
 try simp only [Act.put, List.setIfInBounds_toArray, List.set_cons_zero, List.set_cons_succ]
 refine takeH (i := 5) (d := some 78) (v := ?_) rfl rfl (by kernel_rfl) (by kernel_rfl) (by kernel_rfl) (fun _ _ _ h => h) (Or.inl ⟨by rfl, ?_⟩) (by assumption) ?_
 rotate_left
 ·intro w hSw
  try dsimp only at hSw
  have q3 : w.cell? ⟨g, 4, none⟩ = some (.int .i64 (x.i.b)) := hSw.1 4 (by omega)
  rw [HX.out.2.1] at q3
  go_simp
  try with_reducible rfl
 try simp only [Act.put, List.setIfInBounds_toArray, List.set_cons_zero, List.set_cons_succ]
 refine takeH (i := 6) (d := some 79) (v := ?_) rfl rfl (by kernel_rfl) (by kernel_rfl) (by kernel_rfl) (fun _ _ _ h => h) (Or.inl ⟨by rfl, ?_⟩) (by assumption) ?_
 rotate_left
 ·intro w hSw
  try dsimp only at hSw
  go_simp
  try with_reducible rfl
 try simp only [Act.put, List.setIfInBounds_toArray, List.set_cons_zero, List.set_cons_succ]
 refine takeH (i := 8) (d := some 81) (v := ?_) rfl rfl (by kernel_rfl) (by kernel_rfl) (by kernel_rfl) (fun _ _ _ h => h) (Or.inl ⟨by rfl, ?_⟩) (by assumption) ?_
 rotate_left
 ·intro w hSw
  try dsimp only at hSw
  go_simp
  try with_reducible rfl
 try simp only [Act.put, List.setIfInBounds_toArray, List.set_cons_zero, List.set_cons_succ]
 refine takeH (i := 9) (d := some 82) (v := ?_) rfl rfl (by kernel_rfl) (by kernel_rfl) (by kernel_rfl) (fun _ _ _ h => h) (Or.inl ⟨by rfl, ?_⟩) (by assumption) ?_
 rotate_left
 ·intro w hSw
  try dsimp only at hSw
  go_simp
  try with_reducible rfl
 try simp only [Act.put, List.setIfInBounds_toArray, List.set_cons_zero, List.set_cons_succ]
 refine wpAnyH_ready (rs := [7]) (by kernel_rfl) (by simp) ?_
 refine AllReadyH.cons rfl (fun K hK => ?_) AllReadyH.nil
 go_simp
 refine (HBT.out _).mono ?_
 rintro e w9 ⟨rfl, rfl⟩
 refine hK.out _ _ ?_ (fun hHeld => ?_)
 ·exact hHeld
 clear hK K
 try simp only [Act.put, List.setIfInBounds_toArray, List.set_cons_zero, List.set_cons_succ]
 refine takeH (i := 10) (d := some 83) (v := ?_) rfl rfl (by kernel_rfl) (by kernel_rfl) (by kernel_rfl) (fun _ _ _ h => h) (Or.inl ⟨by rfl, ?_⟩) (by assumption) ?_
 rotate_left
 ·intro w hSw
  try dsimp only at hSw
  go_simp
  try with_reducible rfl
 try simp only [Act.put, List.setIfInBounds_toArray, List.set_cons_zero, List.set_cons_succ]
 refine wpAnyH_ready (rs := [11]) (by kernel_rfl) (by simp) ?_
 refine AllReadyH.cons rfl (fun K hK => ?_) AllReadyH.nil
 have qz0 := (HB4.out).cell (16 + bb)
 rw [ac_reg _ _ HLT.out] at qz0
 have qz1 : w4.drew.cell? ⟨g, 16 + bb, none⟩ = _ := qz0
 have qf := (HB4.out).free (16 + bb)
 have qf1 : w4.drew.frozen? ⟨g, 16 + bb, none⟩ = false := qf
 go_simp
 refine hK.out _ _ ?_ (fun hHeld => ?_)
 ·exact ⟨low_regs (r := (x).regs.set bb (bz)) (low_of (by have hb4 := (show Blk w4.drew g 131 _ from HB4.out).put (16 + bb) (.int .i64 (bz)); rw [ac_set _ _ _ HLT.out] at hb4; exact hb4)), .inr trivial⟩
 clear hK K
 try simp only [Act.put, List.setIfInBounds_toArray, List.set_cons_zero, List.set_cons_succ]
 refine wpAnyH_done (by kernel_rfl) ?_ _
 have hb4 := (show Blk w4.drew g 131 _ from HB4.out).put (16 + bb) (.int .i64 (bz))
 have ht4 : Turns (fun k => k = g) w4 (w4.drew.setCell ⟨g, 16 + bb, none⟩ (.int .i64 (bz))) := ((Turns.refl (fun k => k = g) w4).drew).setCell (p := ⟨g, 16 + bb, none⟩) (fun _ => rfl) _
 rw [ac_set _ _ _ HLT.out] at hb4
 have HE := Lib.hid (And.intro hb4 ht4)
 clear hb4 ht4 hHeld
 go_wp2_with fail
 go_end0
 exact ⟨rfl, o4, (show WW CX w4 b o4 ps _ from ⟨_, _, _, _, HW4.out⟩).turns HXX.out HE.out.2 (fun k hk e => (AStp.of g HS4.out).no HG.out HGL.out (by rw [← show k = g from e]; exact hk)), (AStp.of g HS4.out).set HE.out.2, HE.out.1⟩
end Go.Proofs.YtjnkphhlkoapbaaGreat
namespace Go.Proofs.YtjnkphhlkoapbaaGreat
open Go.RowKit
set_option linter.unusedVariables false
set_option linter.unusedSimpArgs false
set_option maxRecDepth 100000 in
set_option maxHeartbeats 8000000 in
theorem acreset_0 {CX : World → (Nat → Prop) → Prop} {w : World} {b : Wp} {o : Nat → Nat} {ps : List (List Ins)} {s : Wst} {g a bb cc i cp ci : Nat} {x : Ac} {dt : Int} {sg cl rm : Bool} {l : List Wt} (hx : Ext CX) (h : WW CX w b o ps s) (hb : Blk w g 131 (acA b.pb x)) (hg : ¬ Own o g) (hop : x.i.op = 21) (hxa : x.i.a = a) (hxb : x.i.b = bb) (hxc : x.i.c = cc) (ha : a < 8) (hbb : bb < 8) (hcc : cc < 8) (hi : x.was.get a = i) (htm : s.tms[i]? = some ⟨1, dt, some cp⟩) (hch : s.chs[ci]? = some (cp, ⟨true, sg, cl, rm, none, l⟩)) (htl : s.tms.length ≤ 1000) (hsq : s.sq < 1000000) (hd : 0 ≤ x.was.get bb) (hnow : 0 ≤ s.now ∧ s.now ≤ 4611686018427387904) (hw1 : 0 ≤ addZ s.now (x.was.get bb)) (hw2 : addZ s.now (x.was.get bb) ≤ 4611686018427387904) :
  Calls Tryz.prog 81 #[.pointer (some ⟨g, 0, none⟩)] w fun e w' => e = .returned (.tuple #[]) ∧ ∃ o', WW CX w' b o' ps { s with L := insL ⟨i, addZ s.now (x.was.get bb), s.sq + 1⟩ (delL i (delL i s.L)), sq := s.sq + 1 } ∧ AStp w w' o o' g ∧ Blk w' g 131 (acA b.pb { x with regs := x.regs.set cc (bitZ (findL (i : Int) s.L).isSome) }) := by
 have HB := Lib.hid hb
 have HXX := Lib.hid hx
 have HLT := Lib.hid hcc
 have HX := Lib.hid (And.intro hxa (And.intro hxb (And.intro hxc (And.intro hop hi))))
 have HG := Lib.hid hg
 have HGL := Lib.hid hb.lt
 have HLA := Lib.hid (And.intro ha hbb)
 have HT := Lib.hid (And.intro htm (And.intro hch (And.intro htl (And.intro hsq (And.intro hd (And.intro hnow (And.intro hw1 hw2)))))))
 have HW := Lib.hid h
 have jb1 : (0 : Int) ≤ (cc : Int) := by omega
 have jb2 : (cc : Int) < 8 := by omega
 have q0 : w.cell? ⟨g, 0, none⟩ = some (.pointer (some ⟨b.pb, 0, none⟩)) := hb.cell 0
 have q5 := h.cell5
 have HA1 := Lib.hid (aca_c hb hxa ha)
 obtain ⟨dd, hdd⟩ : ∃ dd, dd = (findL (i : Int) s.L).isSome := ⟨_, rfl⟩
 rw [← hdd]
 have HDD := Lib.hid hdd
 obtain ⟨bz, hbz⟩ : ∃ bz, bz = bitZ dd := ⟨_, rfl⟩
 rw [← hbz]
 have HBT := Lib.hid (fun ww => (show Calls Tryz.prog 117 #[.bool dd] ww (fun e w' => e = .returned (.int .i64 bz) ∧ ww = w') from by rw [hbz]; exact bit_c dd ww))
 clear hbz hdd
 clear h hb hx hxa hxb hxc hg hop htm hch htl hsq hi hd hnow hw1 hw2
 go_enter Tryz.func81, Tryz.ntmps81
 go_wp2_with fail
 refine HA1.out.mono ?_
 rintro e w1 ⟨rfl, hm1⟩
 have HM1 := Lib.hid hm1
 have HB1 := Lib.hid (HB.out.turns hm1 (fun h => h))
 obtain ⟨vp, vc, vl, ve, hw1⟩ := HW.out.made HXX.out hm1
 have HW1 := Lib.hid hw1
 have HKD := Lib.hid (tskind_c hw1.tms HT.out.1 HT.out.2.2.1)
 rw [HX.out.2.2.2.2]
 clear hm1 hw1 q0 q5
 go_wp2_with fail
 refine HKD.out.mono ?_
 rintro e w2 ⟨rfl, rfl⟩
 have q2 : w1.cell? ⟨g, 2, none⟩ = some (.int .i64 x.i.op) := HB1.out.cell 2
 rw [HX.out.2.2.2.1] at q2
 go_upto_region 2 with fail
 clear q2
 have HBD := Lib.hid (HB1.out.turns (Turns.refl (fun _ => False) w1).drew (fun h => h))
 have HA2 := Lib.hid (aca_c HBD.out HX.out.1 HLA.out.1)
 have HWD := Lib.hid (HW1.out.made HXX.out (Turns.refl (fun _ => False) w1).drew)
 refine wp_region_held_drew (S := fun w' => Low w' g b.pb x ∧ (w' = w1.drew ∨ True)) (by kernel_rfl) ?_ (fun hHeld => ?_)
 ·exact ⟨low_of HBD.out, .inr trivial⟩
 refine takeH (i := 0) (d := some 20) (v := ?_) rfl rfl (by kernel_rfl) (by kernel_rfl) (by kernel_rfl) (fun _ _ _ h => h) (Or.inl ⟨by rfl, ?_⟩) (by assumption) ?_
 rotate_left
 ·intro w hSw
  try dsimp only at hSw
  go_simp
  try with_reducible rfl
 try simp only [Act.put, List.setIfInBounds_toArray, List.set_cons_zero, List.set_cons_succ]
 refine takeH (i := 1) (d := some 21) (v := ?_) rfl rfl (by kernel_rfl) (by kernel_rfl) (by kernel_rfl) (fun _ _ _ h => h) (Or.inl ⟨by rfl, ?_⟩) (by assumption) ?_
 rotate_left
 ·intro w hSw
  try dsimp only at hSw
  go_simp
  try with_reducible rfl
 try simp only [Act.put, List.setIfInBounds_toArray, List.set_cons_zero, List.set_cons_succ]
 refine takeH (i := 3) (d := some 23) (v := ?_) rfl rfl (by kernel_rfl) (by kernel_rfl) (by kernel_rfl) (fun _ _ _ h => h) (Or.inl ⟨by rfl, ?_⟩) (by assumption) ?_
 rotate_left
 ·intro w hSw
  try dsimp only at hSw
  go_simp
  try with_reducible rfl
 try simp only [Act.put, List.setIfInBounds_toArray, List.set_cons_zero, List.set_cons_succ]
 refine takeH (i := 4) (d := some 24) (v := ?_) rfl rfl (by kernel_rfl) (by kernel_rfl) (by kernel_rfl) (fun _ _ _ h => h) (Or.inl ⟨by rfl, ?_⟩) (by assumption) ?_
 rotate_left
 ·intro w hSw
  try dsimp only at hSw
  go_simp
  try with_reducible rfl
 try simp only [Act.put, List.setIfInBounds_toArray, List.set_cons_zero, List.set_cons_succ]
 refine takeH (i := 5) (d := some 25) (v := ?_) rfl rfl (by kernel_rfl) (by kernel_rfl) (by kernel_rfl) (fun _ _ _ h => h) (Or.inl ⟨by rfl, ?_⟩) (by assumption) ?_
 rotate_left
 ·intro w hSw
  try dsimp only at hSw
  go_simp
  try with_reducible rfl
 try simp only [Act.put, List.setIfInBounds_toArray, List.set_cons_zero, List.set_cons_succ]
 refine takeH (i := 6) (d := some 26) (v := ?_) rfl rfl (by kernel_rfl) (by kernel_rfl) (by kernel_rfl) (fun _ _ _ h => h) (Or.inl ⟨by rfl, ?_⟩) (by assumption) ?_
 rotate_left
 ·intro w hSw
  try dsimp only at hSw
  have q3 : w.cell? ⟨g, 0, none⟩ = some (.pointer (some ⟨b.pb, 0, none⟩)) := hSw.1 0 (by omega)
  go_simp
  try with_reducible rfl
 try simp only [Act.put, List.setIfInBounds_toArray, List.set_cons_zero, List.set_cons_succ]
 refine takeH (i := 8) (d := some 28) (v := ?_) rfl rfl (by kernel_rfl) (by kernel_rfl) (by kernel_rfl) (fun _ _ _ h => h) (Or.inl ⟨by rfl, ?_⟩) (by assumption) ?_
 rotate_left
 ·intro w hSw
  try dsimp only at hSw
  go_simp
  try with_reducible rfl
 try simp only [Act.put, List.setIfInBounds_toArray, List.set_cons_zero, List.set_cons_succ]
 refine wpAnyH_ready (rs := [2]) (by kernel_rfl) (by simp) ?_
 refine AllReadyH.cons rfl (fun K hK => ?_) AllReadyH.nil
 rw [HX.out.2.2.2.2] at HA2
 go_simp
 refine HA2.out.mono ?_
 rintro e wA ⟨rfl, hmA⟩
 have hbA := HBD.out.turns hmA (fun h => h)
 have hwA := HWD.out.made HXX.out hmA
 have HNW := wnow_c (show WW CX wA b o ps s from ⟨_, _, _, _, hwA⟩)
 refine hK.out _ _ ?_ (fun hHeld => ?_)
 ·exact ⟨low_of hbA, .inr trivial⟩
 clear hK K
 try simp only [Act.put, List.setIfInBounds_toArray, List.set_cons_zero, List.set_cons_succ]
 refine wpAnyH_ready (rs := [7]) (by kernel_rfl) (by simp) ?_
 refine AllReadyH.cons rfl (fun K hK => ?_) AllReadyH.nil
 go_simp
 refine HNW.mono ?_
 rintro e wN ⟨rfl, rfl⟩
 refine hK.out _ _ ?_ (fun hHeld => ?_)
 ·exact ⟨low_of hbA, .inr trivial⟩
 clear hK K
 try simp only [Act.put, List.setIfInBounds_toArray, List.set_cons_zero, List.set_cons_succ]
 refine wpAnyH_ready (rs := [9]) (by kernel_rfl) (by simp) ?_
 refine AllReadyH.cons rfl (fun K hK => ?_) AllReadyH.nil
 go_simp
 refine (acb_c hbA HX.out.2.1 HLA.out.2).mono ?_
 rintro e wB ⟨rfl, hmB⟩
 have hbB := hbA.turns hmB (fun h => h)
 have hwB := hwA.made HXX.out hmB
 refine hK.out _ _ ?_ (fun hHeld => ?_)
 ·exact ⟨low_of hbB, .inr trivial⟩
 clear hK K
 try simp only [Act.put, List.setIfInBounds_toArray, List.set_cons_zero, List.set_cons_succ]
 refine wpAnyH_ready (rs := [10]) (by kernel_rfl) (by simp) ?_
 refine AllReadyH.cons rfl (fun K hK => ?_) AllReadyH.nil
 have HRS := tsreset_0 hwB.tms HT.out.1 (hwB.chn cp _ (List.mem_of_getElem? HT.out.2.1)) (fun k hk h4 => by have h5 : o k = 16 + cp := hk; have h6 : o k = 4 := h4; omega) HT.out.2.2.1 HT.out.2.2.2.1 HT.out.2.2.2.2.2.1 HT.out.2.2.2.2.1 rfl HT.out.2.2.2.2.2.2.1 HT.out.2.2.2.2.2.2.2
 rw [← HDD.out] at HRS
 have HRSH := Lib.hid HRS
 clear HRS
 go_simp
 refine HRSH.out.mono ?_
 rintro e w4 ⟨rfl, F4, hT, hC, ht, hf, hdj⟩
 obtain ⟨o4, h4, _, _, hs4, _⟩ := hwB.stepTC HXX.out HT.out.2.1 hT hC ht hf (fun k hk => .inl hk) hdj
 refine hK.out _ _ ?_ (fun hHeld => ?_)
 ·exact ⟨low_of (hbB.turns hs4.t HG.out), .inr trivial⟩
 clear hK K
 try simp only [Act.put, List.setIfInBounds_toArray, List.set_cons_zero, List.set_cons_succ]
 refine takeH (i := 11) (d := some 19) (v := ?_) rfl rfl (by kernel_rfl) (by kernel_rfl) (by kernel_rfl) (fun _ _ _ h => h) (Or.inl ⟨by rfl, ?_⟩) (by assumption) ?_
 rotate_left
 ·intro w hSw
  try dsimp only at hSw
  go_simp
  try with_reducible rfl
 try simp only [Act.put, List.setIfInBounds_toArray, List.set_cons_zero, List.set_cons_succ]
 refine takeH (i := 12) (d := some 31) (v := ?_) rfl rfl (by kernel_rfl) (by kernel_rfl) (by kernel_rfl) (fun _ _ _ h => h) (Or.inl ⟨by rfl, ?_⟩) (by assumption) ?_
 rotate_left
 ·intro w hSw
  try dsimp only at hSw
  go_simp
  try with_reducible rfl
 try simp only [Act.put, List.setIfInBounds_toArray, List.set_cons_zero, List.set_cons_succ]
 refine takeH (i := 13) (d := some 32) (v := ?_) rfl rfl (by kernel_rfl) (by kernel_rfl) (by kernel_rfl) (fun _ _ _ h => h) (Or.inl ⟨by rfl, ?_⟩) (by assumption) ?_
 rotate_left
 ·intro w hSw
  try dsimp only at hSw
  go_simp
  try with_reducible rfl
 try simp only [Act.put, List.setIfInBounds_toArray, List.set_cons_zero, List.set_cons_succ]
 refine takeH (i := 14) (d := some 6) (v := ?_) rfl rfl (by kernel_rfl) (by kernel_rfl) (by kernel_rfl) (fun _ _ _ h => h) (Or.inl ⟨by rfl, ?_⟩) (by assumption) ?_
 rotate_left
 ·intro w hSw
  try dsimp only at hSw
  go_simp
  try with_reducible rfl
 try simp only [Act.put, List.setIfInBounds_toArray, List.set_cons_zero, List.set_cons_succ]
 refine takeH (i := 15) (d := some 7) (v := ?_) rfl rfl (by kernel_rfl) (by kernel_rfl) (by kernel_rfl) (fun _ _ _ h => h) (Or.inl ⟨by rfl, ?_⟩) (by assumption) ?_
 rotate_left
 ·intro w hSw
  try dsimp only at hSw
  go_simp
  try with_reducible rfl
 try simp only [Act.put, List.setIfInBounds_toArray, List.set_cons_zero, List.set_cons_succ]
 refine wpAnyH_done (by kernel_rfl) ?_ _
 have HB4 := Lib.hid (hbB.turns hs4.t HG.out)
 have HW4 := Lib.hid h4
 have HS4 := Lib.hid ((Stp.made (F := Own o) (((HM1.out.trans (Turns.refl (fun _ => False) w1).drew).trans hmA).trans hmB)).trans hs4)
 clear hHeld h4 hs4 hT hC ht hf hdj hbA hbB hwA hwB HNW
 go_upto_region 5 with fail
 refine wp_region_held_drew (S := fun w' => Low w' g b.pb (x) ∧ (w' = w4.drew ∨ True)) (by kernel_rfl) ?_ (fun hHeld => ?_)
 ·exact ⟨low_of (HB4.out), .inr trivial⟩
 refine takeH (i := 0) (d := some 38) (v := ?_) rfl rfl (by kernel_rfl) (by kernel_rfl) (by kernel_rfl) (fun _ _ _ h => h) (Or.inl ⟨by rfl, ?_⟩) (by assumption) ?_
 rotate_left
 ·intro w hSw
  try dsimp only at hSw
  go_simp
  try with_reducible rfl
 try simp only [Act.put, List.setIfInBounds_toArray, List.set_cons_zero, List.set_cons_succ]
 refine takeH (i := 1) (d := some 39) (v := ?_) rfl rfl (by kernel_rfl) (by kernel_rfl) (by kernel_rfl) (fun _ _ _ h => h) (Or.inl ⟨by rfl, ?_⟩) (by assumption) ?_
 rotate_left
 ·intro w hSw
  try dsimp only at hSw
  go_simp
  try with_reducible rfl
 try simp only [Act.put, List.setIfInBounds_toArray, List.set_cons_zero, List.set_cons_succ]
 refine takeH (i := 2) (d := some 40) (v := ?_) rfl rfl (by kernel_rfl) (by kernel_rfl) (by kernel_rfl) (fun _ _ _ h => h) (Or.inl ⟨by rfl, ?_⟩) (by assumption) ?_
 rotate_left
 ·intro w hSw
  try dsimp only at hSw
  go_simp
  try with_reducible rfl
 try simp only [Act.put, List.setIfInBounds_toArray, List.set_cons_zero, List.set_cons_succ]
 refine takeH (i := 3) (d := some 41) (v := ?_) rfl rfl (by kernel_rfl) (by kernel_rfl) (by kernel_rfl) (fun _ _ _ h => h) (Or.inl ⟨by rfl, ?_⟩) (by assumption) ?_
 rotate_left
 ·intro w hSw
  try dsimp only at hSw
  go_simp
  try with_reducible rfl
 try simp only [Act.put, List.setIfInBounds_toArray, List.set_cons_zero, List.set_cons_succ]
 refine takeH (i := 4) (d := some 42) (v := ?_) rfl rfl (by kernel_rfl) (by kernel_rfl) (by kernel_rfl) (fun _ _ _ h => h) (Or.inl ⟨by rfl, ?_⟩) (by assumption) ?_
 rotate_left
 ·intro w hSw
  try dsimp only at hSw
  go_simp
  try with_reducible rfl
 try simp only [Act.put, List.setIfInBounds_toArray, List.set_cons_zero, List.set_cons_succ]
 refine takeH (i := 5) (d := some 43) (v := ?_) rfl rfl (by kernel_rfl) (by kernel_rfl) (by kernel_rfl) (fun _ _ _ h => h) (Or.inl ⟨by rfl, ?_⟩) (by assumption) ?_
 rotate_left
 ·intro w hSw
  try dsimp only at hSw
  have q3 : w.cell? ⟨g, 5, none⟩ = some (.int .i64 (x.i.c)) := hSw.1 5 (by omega)
  rw [HX.out.2.2.1] at q3
  go_simp
  try with_reducible rfl
 try simp only [Act.put, List.setIfInBounds_toArray, List.set_cons_zero, List.set_cons_succ]
 refine takeH (i := 6) (d := some 44) (v := ?_) rfl rfl (by kernel_rfl) (by kernel_rfl) (by kernel_rfl) (fun _ _ _ h => h) (Or.inl ⟨by rfl, ?_⟩) (by assumption) ?_
 rotate_left
 ·intro w hSw
  try dsimp only at hSw
  go_simp
  try with_reducible rfl
 try simp only [Act.put, List.setIfInBounds_toArray, List.set_cons_zero, List.set_cons_succ]
 refine takeH (i := 8) (d := some 46) (v := ?_) rfl rfl (by kernel_rfl) (by kernel_rfl) (by kernel_rfl) (fun _ _ _ h => h) (Or.inl ⟨by rfl, ?_⟩) (by assumption) ?_
 rotate_left
 ·intro w hSw
  try dsimp only at hSw
  go_simp
  try with_reducible rfl
 try simp only [Act.put, List.setIfInBounds_toArray, List.set_cons_zero, List.set_cons_succ]
 refine takeH (i := 9) (d := some 47) (v := ?_) rfl rfl (by kernel_rfl) (by kernel_rfl) (by kernel_rfl) (fun _ _ _ h => h) (Or.inl ⟨by rfl, ?_⟩) (by assumption) ?_
 rotate_left
 ·intro w hSw
  try dsimp only at hSw
  go_simp
  try with_reducible rfl
 try simp only [Act.put, List.setIfInBounds_toArray, List.set_cons_zero, List.set_cons_succ]
 refine wpAnyH_ready (rs := [7]) (by kernel_rfl) (by simp) ?_
 refine AllReadyH.cons rfl (fun K hK => ?_) AllReadyH.nil
 go_simp
 refine (HBT.out _).mono ?_
 rintro e w9 ⟨rfl, rfl⟩
 refine hK.out _ _ ?_ (fun hHeld => ?_)
 ·exact hHeld
 clear hK K
 try simp only [Act.put, List.setIfInBounds_toArray, List.set_cons_zero, List.set_cons_succ]
 refine takeH (i := 10) (d := some 48) (v := ?_) rfl rfl (by kernel_rfl) (by kernel_rfl) (by kernel_rfl) (fun _ _ _ h => h) (Or.inl ⟨by rfl, ?_⟩) (by assumption) ?_
 rotate_left
 ·intro w hSw
  try dsimp only at hSw
  go_simp
  try with_reducible rfl
 try simp only [Act.put, List.setIfInBounds_toArray, List.set_cons_zero, List.set_cons_succ]
 refine wpAnyH_ready (rs := [11]) (by kernel_rfl) (by simp) ?_
 refine AllReadyH.cons rfl (fun K hK => ?_) AllReadyH.nil
 have qz0 := (HB4.out).cell (16 + cc)
 rw [ac_reg _ _ HLT.out] at qz0
 have qz1 : w4.drew.cell? ⟨g, 16 + cc, none⟩ = _ := qz0
 have qf := (HB4.out).free (16 + cc)
 have qf1 : w4.drew.frozen? ⟨g, 16 + cc, none⟩ = false := qf
 go_simp
 refine hK.out _ _ ?_ (fun hHeld => ?_)
 ·exact ⟨low_regs (r := (x).regs.set cc (bz)) (low_of (by have hb4 := (show Blk w4.drew g 131 _ from HB4.out).put (16 + cc) (.int .i64 (bz)); rw [ac_set _ _ _ HLT.out] at hb4; exact hb4)), .inr trivial⟩
 clear hK K
 try simp only [Act.put, List.setIfInBounds_toArray, List.set_cons_zero, List.set_cons_succ]
 refine wpAnyH_done (by kernel_rfl) ?_ _
 have hb4 := (show Blk w4.drew g 131 _ from HB4.out).put (16 + cc) (.int .i64 (bz))
 have ht4 : Turns (fun k => k = g) w4 (w4.drew.setCell ⟨g, 16 + cc, none⟩ (.int .i64 (bz))) := ((Turns.refl (fun k => k = g) w4).drew).setCell (p := ⟨g, 16 + cc, none⟩) (fun _ => rfl) _
 rw [ac_set _ _ _ HLT.out] at hb4
 have HE := Lib.hid (And.intro hb4 ht4)
 clear hb4 ht4 hHeld
 go_wp2_with fail
 go_end0
 have hch4 : s.chs.set ci (cp, (⟨true, sg, cl, rm, none, l⟩ : Chn)) = s.chs := set_same HT.out.2.1
 have hW4 := HW4.out
 rw [hch4] at hW4
 exact ⟨rfl, o4, (show WW CX w4 b o4 ps _ from ⟨_, _, _, _, hW4⟩).turns HXX.out HE.out.2 (fun k hk e => (AStp.of g HS4.out).no HG.out HGL.out (by rw [← show k = g from e]; exact hk)), (AStp.of g HS4.out).set HE.out.2, HE.out.1⟩
end Go.Proofs.YtjnkphhlkoapbaaGreat
namespace Go.Proofs.YtjnkphhlkoapbaaGreat
open Go.RowKit
set_option linter.unusedVariables false
set_option linter.unusedSimpArgs false
set_option maxRecDepth 100000 in
theorem acdo_go {w : World} {g p : Nat} {x : Ac} {R : World → Prop} (hb : Blk w g 131 (acA p x)) (hop : x.i.op = 8) (H : Calls Tryz.prog 76 #[.pointer (some ⟨g, 0, none⟩)] w fun e w' => e = .returned (.tuple #[]) ∧ R w') :
  Calls Tryz.prog 50 #[.pointer (some ⟨g, 0, none⟩)] w fun e w' => e = .returned (.tuple #[]) ∧ R w' := by
 have q2 : w.cell? ⟨g, 2, none⟩ = some (.int .i64 x.i.op) := hb.cell 2
 rw [hop] at q2
 have HH := Lib.hid H
 clear H hb hop
 go_enter Tryz.func50, Tryz.ntmps50
 go_wp2_with fail
 refine HH.out.mono ?_
 rintro e w1 ⟨rfl, hr⟩
 have HR := Lib.hid hr
 clear hr q2
 go_wp2_with fail
 go_end0
 exact ⟨rfl, HR.out⟩
set_option maxRecDepth 100000 in
theorem acdo_recv {w : World} {g p : Nat} {x : Ac} {R : World → Prop} (hb : Blk w g 131 (acA p x)) (hop : x.i.op = 11) (H : Calls Tryz.prog 78 #[.pointer (some ⟨g, 0, none⟩)] w fun e w' => e = .returned (.tuple #[]) ∧ R w') :
  Calls Tryz.prog 50 #[.pointer (some ⟨g, 0, none⟩)] w fun e w' => e = .returned (.tuple #[]) ∧ R w' := by
 have q2 : w.cell? ⟨g, 2, none⟩ = some (.int .i64 x.i.op) := hb.cell 2
 rw [hop] at q2
 have HH := Lib.hid H
 clear H hb hop
 go_enter Tryz.func50, Tryz.ntmps50
 go_wp2_with fail
 refine HH.out.mono ?_
 rintro e w1 ⟨rfl, hr⟩
 have HR := Lib.hid hr
 clear hr q2
 go_wp2_with fail
 go_end0
 exact ⟨rfl, HR.out⟩
set_option maxRecDepth 100000 in
theorem acdo_timer {w : World} {g p : Nat} {x : Ac} {R : World → Prop} (hb : Blk w g 131 (acA p x)) (hop : x.i.op = 17) (H : Calls Tryz.prog 80 #[.pointer (some ⟨g, 0, none⟩)] w fun e w' => e = .returned (.tuple #[]) ∧ R w') :
  Calls Tryz.prog 50 #[.pointer (some ⟨g, 0, none⟩)] w fun e w' => e = .returned (.tuple #[]) ∧ R w' := by
 have q2 : w.cell? ⟨g, 2, none⟩ = some (.int .i64 x.i.op) := hb.cell 2
 rw [hop] at q2
 have HH := Lib.hid H
 clear H hb hop
 go_enter Tryz.func50, Tryz.ntmps50
 go_wp2_with fail
 refine HH.out.mono ?_
 rintro e w1 ⟨rfl, hr⟩
 have HR := Lib.hid hr
 clear hr q2
 go_wp2_with fail
 go_end0
 exact ⟨rfl, HR.out⟩
set_option maxRecDepth 100000 in
theorem acdo_stop {w : World} {g p : Nat} {x : Ac} {R : World → Prop} (hb : Blk w g 131 (acA p x)) (hop : x.i.op = 20) (H : Calls Tryz.prog 81 #[.pointer (some ⟨g, 0, none⟩)] w fun e w' => e = .returned (.tuple #[]) ∧ R w') :
  Calls Tryz.prog 50 #[.pointer (some ⟨g, 0, none⟩)] w fun e w' => e = .returned (.tuple #[]) ∧ R w' := by
 have q2 : w.cell? ⟨g, 2, none⟩ = some (.int .i64 x.i.op) := hb.cell 2
 rw [hop] at q2
 have HH := Lib.hid H
 clear H hb hop
 go_enter Tryz.func50, Tryz.ntmps50
 go_wp2_with fail
 refine HH.out.mono ?_
 rintro e w1 ⟨rfl, hr⟩
 have HR := Lib.hid hr
 clear hr q2
 go_wp2_with fail
 go_end0
 exact ⟨rfl, HR.out⟩
set_option maxRecDepth 100000 in
theorem acdo_reset {w : World} {g p : Nat} {x : Ac} {R : World → Prop} (hb : Blk w g 131 (acA p x)) (hop : x.i.op = 21) (H : Calls Tryz.prog 81 #[.pointer (some ⟨g, 0, none⟩)] w fun e w' => e = .returned (.tuple #[]) ∧ R w') :
  Calls Tryz.prog 50 #[.pointer (some ⟨g, 0, none⟩)] w fun e w' => e = .returned (.tuple #[]) ∧ R w' := by
 have q2 : w.cell? ⟨g, 2, none⟩ = some (.int .i64 x.i.op) := hb.cell 2
 rw [hop] at q2
 have HH := Lib.hid H
 clear H hb hop
 go_enter Tryz.func50, Tryz.ntmps50
 go_wp2_with fail
 refine HH.out.mono ?_
 rintro e w1 ⟨rfl, hr⟩
 have HR := Lib.hid hr
 clear hr q2
 go_wp2_with fail
 go_end0
 exact ⟨rfl, HR.out⟩
end Go.Proofs.YtjnkphhlkoapbaaGreat
namespace Go.Proofs.YtjnkphhlkoapbaaGreat
open Go.RowKit
set_option linter.unusedVariables false
set_option linter.unusedSimpArgs false
set_option maxRecDepth 100000 in
set_option maxHeartbeats 2000000 in
theorem acchan_recv {CX : World → (Nat → Prop) → Prop} {w : World} {b : Wp} {o : Nat → Nat} {ps : List (List Ins)} {s : Wst} {g a i p : Nat} {x : Ac} {c : Chn} {R : World → Prop} (hx : Ext CX) (h : WW CX w b o ps s) (hb : Blk w g 131 (acA b.pb x)) (hop : x.i.op = 11) (hxa : x.i.a = a) (ha : a < 8) (hi : x.was.get a = i) (hch : s.chs[i]? = some (p, c)) (hcl : s.chs.length ≤ 1000)
  (H : ∀ w1, Made w w1 → Calls Tryz.prog 125 #[.pointer (some ⟨g, 0, none⟩), .pointer (some ⟨p, 0, none⟩)] w1 fun e w' => e = .returned (.tuple #[]) ∧ R w') :
  Calls Tryz.prog 78 #[.pointer (some ⟨g, 0, none⟩)] w fun e w' => e = .returned (.tuple #[]) ∧ R w' := by
 have HB := Lib.hid hb
 have HXX := Lib.hid hx
 have HOP := Lib.hid hop
 have HI := Lib.hid hi
 have HBD := Lib.hid (hb.turns (Turns.refl (fun _ => False) w).drew (fun h => h))
 have HWD := Lib.hid (h.made hx (Turns.refl (fun _ => False) w).drew)
 have HA2 := Lib.hid (aca_c HBD.out hxa ha)
 rw [hi] at HA2
 have HH := Lib.hid H
 have HCH := Lib.hid (And.intro hch hcl)
 clear h hb hx hop hxa hi hch hcl H
 go_enter Tryz.func78, Tryz.ntmps78
 go_wp2_with fail
 refine wp_region_held_drew (S := fun w' => Low w' g b.pb x ∧ (w' = w.drew ∨ True)) (by kernel_rfl) ?_ (fun hHeld => ?_)
 ·exact ⟨low_of HBD.out, .inr trivial⟩
 refine takeH (i := 0) (d := some 5) (v := ?_) rfl rfl (by kernel_rfl) (by kernel_rfl) (by kernel_rfl) (fun _ _ _ h => h) (Or.inl ⟨by rfl, ?_⟩) (by assumption) ?_
 rotate_left
 ·intro w hSw
  try dsimp only at hSw
  go_simp
  try with_reducible rfl
 try simp only [Act.put, List.setIfInBounds_toArray, List.set_cons_zero, List.set_cons_succ]
 refine takeH (i := 1) (d := some 6) (v := ?_) rfl rfl (by kernel_rfl) (by kernel_rfl) (by kernel_rfl) (fun _ _ _ h => h) (Or.inl ⟨by rfl, ?_⟩) (by assumption) ?_
 rotate_left
 ·intro w hSw
  try dsimp only at hSw
  go_simp
  try with_reducible rfl
 try simp only [Act.put, List.setIfInBounds_toArray, List.set_cons_zero, List.set_cons_succ]
 refine takeH (i := 2) (d := some 7) (v := ?_) rfl rfl (by kernel_rfl) (by kernel_rfl) (by kernel_rfl) (fun _ _ _ h => h) (Or.inl ⟨by rfl, ?_⟩) (by assumption) ?_
 rotate_left
 ·intro w hSw
  try dsimp only at hSw
  go_simp
  try with_reducible rfl
 try simp only [Act.put, List.setIfInBounds_toArray, List.set_cons_zero, List.set_cons_succ]
 refine takeH (i := 3) (d := some 8) (v := ?_) rfl rfl (by kernel_rfl) (by kernel_rfl) (by kernel_rfl) (fun _ _ _ h => h) (Or.inl ⟨by rfl, ?_⟩) (by assumption) ?_
 rotate_left
 ·intro w hSw
  try dsimp only at hSw
  have q3 : w.cell? ⟨g, 0, none⟩ = some (.pointer (some ⟨b.pb, 0, none⟩)) := hSw.1 0 (by omega)
  go_simp
  try with_reducible rfl
 try simp only [Act.put, List.setIfInBounds_toArray, List.set_cons_zero, List.set_cons_succ]
 refine takeH (i := 4) (d := some 9) (v := ?_) rfl rfl (by kernel_rfl) (by kernel_rfl) (by kernel_rfl) (fun _ _ _ h => h) (Or.inl ⟨by rfl, ?_⟩) (by assumption) ?_
 rotate_left
 ·intro w hSw
  try dsimp only at hSw
  go_simp
  try with_reducible rfl
 try simp only [Act.put, List.setIfInBounds_toArray, List.set_cons_zero, List.set_cons_succ]
 refine wpAnyH_ready (rs := [5]) (by kernel_rfl) (by simp) ?_
 refine AllReadyH.cons rfl (fun K hK => ?_) AllReadyH.nil
 go_simp
 refine HA2.out.mono ?_
 rintro e wA ⟨rfl, hmA⟩
 have hbA := HBD.out.turns hmA (fun h => h)
 have HWC := Lib.hid (wchannel_c (HWD.out.made HXX.out hmA) HCH.out.1 HCH.out.2)
 refine hK.out _ _ ?_ (fun hHeld => ?_)
 ·exact ⟨low_of hbA, .inr trivial⟩
 clear hK K
 try simp only [Act.put, List.setIfInBounds_toArray, List.set_cons_zero, List.set_cons_succ]
 refine wpAnyH_ready (rs := [6]) (by kernel_rfl) (by simp) ?_
 refine AllReadyH.cons rfl (fun K hK => ?_) AllReadyH.nil
 go_simp
 refine HWC.out.mono ?_
 rintro e wN ⟨rfl, rfl⟩
 refine hK.out _ _ ?_ (fun hHeld => ?_)
 ·exact ⟨low_of hbA, .inr trivial⟩
 clear hK K
 try simp only [Act.put, List.setIfInBounds_toArray, List.set_cons_zero, List.set_cons_succ]
 refine takeH (i := 7) (d := some 4) (v := ?_) rfl rfl (by kernel_rfl) (by kernel_rfl) (by kernel_rfl) (fun _ _ _ h => h) (Or.inl ⟨by rfl, ?_⟩) (by assumption) ?_
 rotate_left
 ·intro w hSw
  try dsimp only at hSw
  go_simp
  try with_reducible rfl
 try simp only [Act.put, List.setIfInBounds_toArray, List.set_cons_zero, List.set_cons_succ]
 refine takeH (i := 8) (d := some 12) (v := ?_) rfl rfl (by kernel_rfl) (by kernel_rfl) (by kernel_rfl) (fun _ _ _ h => h) (Or.inl ⟨by rfl, ?_⟩) (by assumption) ?_
 rotate_left
 ·intro w hSw
  try dsimp only at hSw
  go_simp
  try with_reducible rfl
 try simp only [Act.put, List.setIfInBounds_toArray, List.set_cons_zero, List.set_cons_succ]
 refine takeH (i := 9) (d := some 13) (v := ?_) rfl rfl (by kernel_rfl) (by kernel_rfl) (by kernel_rfl) (fun _ _ _ h => h) (Or.inl ⟨by rfl, ?_⟩) (by assumption) ?_
 rotate_left
 ·intro w hSw
  try dsimp only at hSw
  go_simp
  try with_reducible rfl
 try simp only [Act.put, List.setIfInBounds_toArray, List.set_cons_zero, List.set_cons_succ]
 refine takeH (i := 10) (d := some 2) (v := ?_) rfl rfl (by kernel_rfl) (by kernel_rfl) (by kernel_rfl) (fun _ _ _ h => h) (Or.inl ⟨by rfl, ?_⟩) (by assumption) ?_
 rotate_left
 ·intro w hSw
  try dsimp only at hSw
  go_simp
  try with_reducible rfl
 try simp only [Act.put, List.setIfInBounds_toArray, List.set_cons_zero, List.set_cons_succ]
 refine takeH (i := 11) (d := some 3) (v := ?_) rfl rfl (by kernel_rfl) (by kernel_rfl) (by kernel_rfl) (fun _ _ _ h => h) (Or.inl ⟨by rfl, ?_⟩) (by assumption) ?_
 rotate_left
 ·intro w hSw
  try dsimp only at hSw
  go_simp
  try with_reducible rfl
 try simp only [Act.put, List.setIfInBounds_toArray, List.set_cons_zero, List.set_cons_succ]
 refine wpAnyH_done (by kernel_rfl) ?_ _
 have q2 : wA.cell? ⟨g, 2, none⟩ = some (.int .i64 x.i.op) := hbA.cell 2
 rw [HOP.out] at q2
 have HRC := Lib.hid (HH.out wA ((Turns.refl (fun _ => False) w).drew.trans hmA))
 clear hHeld hmA hbA
 go_wp2_with fail
 refine HRC.out.mono ?_
 rintro e w5 ⟨rfl, hr⟩
 have HR := Lib.hid hr
 clear hr q2
 go_wp2_with fail
 go_end0
 exact ⟨rfl, HR.out⟩
end Go.Proofs.YtjnkphhlkoapbaaGreat
