/-
  Walks and laws under LawTopNested, part 8.
-/
import Derived.Deep.LoopGhost
import Derived.Deep.DeepCutAuto
import Derived.Test.YtjnkphhlkoapbaaGreatPn7
set_option linter.unusedVariables false
set_option linter.unusedSimpArgs false
set_option maxRecDepth 100000
set_option maxHeartbeats 16000000
namespace Go.Proofs.YtjnkphhlkoapbaaGreat
open Go.RowKit
theorem cxadd_c {w : World} {q pm n : Nat} {F : Nat → Prop} {vl : Value} {cs : List Cx} {cp : Nat} {wh : Int} {hs ow : Bool} (h : CtxAt w q pm F vl cs (n + 1)) (hlen : cs.length = n + 1) (hn : n ≤ 50) :
  Calls Tryz.prog 37 #[.pointer (some ⟨q, 0, none⟩), .agg #[.int .i64 0, .bool false, .pointer (some ⟨cp, 0, none⟩), .int .i64 0, .int .i64 0, .int .i64 wh, .bool hs, .bool ow, .int .i64 0], .int .i64 n] w fun e w' => e = .returned (.int .i64 ((n : Int) + 1)) ∧ ∃ F' vl', CtxAt w' q pm F' vl' (cs ++ [⟨(n : Int) + 1, false, some cp, 0, 0, wh, hs, ow, -1⟩]) (n + 2) ∧ Stp w w' F F' := by
 obtain ⟨i0, hi0, hz0, hz1, hz2⟩ := info_parts Tryz.infoCx
 obtain ⟨tr, m, lb, h, hl⟩ := h
 rcases h.own.form with ⟨_, h0⟩ | ⟨g, c, rfl, hgb, hlc, hcm⟩
 ·subst h0
  simp at hlen
 have hq := h.blk
 have ho := h.own
 have ht := h.tree
 rw [hlen] at hq ho ht
 have HC := zh h
 have HLB := zh hl
 have HLN := zh hlen
 have HB0 := zh (Blk.new w 106 #[.int .i64 0, .bool false, .pointer (some ⟨cp, 0, none⟩), .int .i64 0, .int .i64 0, .int .i64 wh, .bool hs, .bool ow, .int .i64 0])
 have HM0 := zh ((zT w).alloc (.cells #[.int .i64 0, .bool false, .pointer (some ⟨cp, 0, none⟩), .int .i64 0, .int .i64 0, .int .i64 wh, .bool hs, .bool ow, .int .i64 0] 106))
 have HQ := zh (hq.turns HM0.out (fun h => h))
 have HT := zh (ht.turns HM0.out (fun _ _ h => h))
 have HMP := zh (h.mp.turns HM0.out (fun h => h))
 have HO := zh (ho.turns HM0.out (fun _ _ h => h))
 have HL := zh (And.intro hq.lt (And.intro h.mp.lt (show ∀ k, lb k ≠ 0 → k < w.heap.size from hl.lt)))
 have HX : Hid (lb q = 1 ∧ lb m = 3 ∧ lb g = 4) := zh ⟨h.lq, h.lm, (h.lv g).1 rfl⟩
 clear h hl hq ho ht hlen hgb hlc hcm
 go_enter Tryz.func37, Tryz.ntmps37
 go_upto_region 1 with fail
 have HLW : Hid (w.heap.size < (w.alloc (.cells #[.int .i64 0, .bool false, .pointer (some ⟨cp, 0, none⟩), .int .i64 0, .int .i64 0, .int .i64 wh, .bool hs, .bool ow, .int .i64 0] 106)).heap.size) := zh HB0.out.lt
 generalize w.alloc (.cells #[.int .i64 0, .bool false, .pointer (some ⟨cp, 0, none⟩), .int .i64 0, .int .i64 0, .int .i64 wh, .bool hs, .bool ow, .int .i64 0] 106) = W at *
 have had := tradd_c (n := n) (HT.out.turns (zT W).drew (fun _ _ h => h)) (by omega)
 simp only [Int.natCast_add, Int.cast_ofNat_Int] at had
 have HAD := zh had
 clear had
 refine wp_region_held_drew (S := fun w' => Blk w' (q) 102 #[.pointer (some ⟨pm, 0, none⟩), .pointer (some ⟨tr, 0, none⟩), .slice (some ⟨g, 0, none⟩) (n + 1) c, .slice none 0 0, .map (some m)] ∧ w'.cell? ⟨w.heap.size, 1, none⟩ = some (.bool false) ∧ (w' = W.drew ∨ True)) (by kernel_rfl) ?_ (fun hHeld => ?_)
 ·exact ⟨HQ.out, HB0.out.cell 1, .inr trivial⟩
 refine tH 0 8 ?_ ?_ ?_;rotate_left
 ·intro w hSw
  go_simp
  try with_reducible rfl
 try simp only [zP]
 refine tH 1 9 ?_ ?_ ?_;rotate_left
 ·intro w hSw
  go_simp
  try with_reducible rfl
 try simp only [zP]
 refine tH 2 10 ?_ ?_ ?_;rotate_left
 ·intro w hSw
  go_simp
  try with_reducible rfl
 try simp only [zP]
 refine tH 3 11 ?_ ?_ ?_;rotate_left
 ·intro w hSw
  have q0_0 := hSw.1.cell 0
  have q0_1 := hSw.1.cell 1
  have q0_2 := hSw.1.cell 2
  have q0_3 := hSw.1.cell 3
  have q0_4 := hSw.1.cell 4
  simp only [zG] at q0_0 q0_1 q0_2 q0_3 q0_4
  have q1_1 := hSw.2.1
  go_simp
  try with_reducible rfl
 try simp only [zP]
 refine tH 4 12 ?_ ?_ ?_;rotate_left
 ·intro w hSw
  go_simp
  try with_reducible rfl
 try simp only [zP]
 refine tH 5 13 ?_ ?_ ?_;rotate_left
 ·intro w hSw
  go_simp
  try with_reducible rfl
 try simp only [zP]
 refine tH 6 14 ?_ ?_ ?_;rotate_left
 ·intro w hSw
  have q0_0 := hSw.1.cell 0
  have q0_1 := hSw.1.cell 1
  have q0_2 := hSw.1.cell 2
  have q0_3 := hSw.1.cell 3
  have q0_4 := hSw.1.cell 4
  simp only [zG] at q0_0 q0_1 q0_2 q0_3 q0_4
  have q1_1 := hSw.2.1
  go_simp
  try with_reducible rfl
 try simp only [zP]
 refine tH 7 15 ?_ ?_ ?_;rotate_left
 ·intro w hSw
  go_simp
  try with_reducible rfl
 try simp only [zP]
 refine zR 8 fun K hK => ?_
 go_simp
 refine HAD.out.mono ?_
 rintro e w1 ⟨rfl, F2, hbt, htt⟩
 have hnx : ¬ lb w.heap.size = 2 := fun e => by have := HL.out.2.2 _ (show lb w.heap.size ≠ 0 by rw [e]; omega); omega
 have HBX := zh (HB0.out.turns ((Turns.refl (fun k => lb k = 2) W).drew.trans htt.t) hnx)
 refine hK.out _ _ ?_ (fun hHeld => ?_)
 ·exact ⟨hHeld.1.turns htt.t (by rw [HX.out.1]; omega), (htt.t.cell (p := ⟨w.heap.size, 1, none⟩) HLW.out hnx).trans hHeld.2.1, .inr trivial⟩
 clear hK K
 try simp only [zP]
 refine tH 9 7 ?_ ?_ ?_;rotate_left
 ·intro w hSw
  go_simp
  try with_reducible rfl
 try simp only [zP]
 refine tH 10 17 ?_ ?_ ?_;rotate_left
 ·intro w hSw
  go_simp
  try with_reducible rfl
 try simp only [zP]
 refine tH 11 18 ?_ ?_ ?_;rotate_left
 ·intro w hSw
  go_simp
  try with_reducible rfl
 try simp only [zP]
 refine tH 12 19 ?_ ?_ ?_;rotate_left
 ·intro w hSw
  go_simp
  try with_reducible rfl
 try simp only [zP]
 refine zR 13 fun K hK => ?_
 have qz := HBX.out.cell 0
 have qf := HBX.out.free 0
 simp only [zG] at qz
 go_simp
 refine hK.out _ _ ?_ (fun hHeld => ?_)
 ·exact ⟨hHeld.1.far (by show q ≠ w.heap.size; have := HL.out.1; omega) _, (World.cell?_setCell_other w1 ⟨w.heap.size, 0, none⟩ ⟨w.heap.size, 1, none⟩ _ (by simp)).trans hHeld.2.1, .inr trivial⟩
 clear hK K
 try simp only [zP]
 refine wpAnyH_done (by kernel_rfl) ?_ _
 have hs1 : Stp w w1 (fun k => lb k = 2) F2 := (Stp.made (HM0.out.drew)).trans htt
 obtain ⟨lb1, FF1, hl1, e1, hne1, hst1⟩ := HLB.out.step 2 (by omega) hs1 hbt.fb
 have hx2 : ¬ F2 w.heap.size := fun h => by
  rcases htt.f _ h with h1 | h1
  ·have := HL.out.2.2 w.heap.size (by rw [h1]; omega)
   omega
  ·have := HLW.out
   have h3 : W.drew.heap.size = W.heap.size := rfl
   omega
 have hx0 : lb1 w.heap.size = 0 := by
  rcases Nat.eq_zero_or_pos (lb1 w.heap.size) with h0 | h0
  ·exact h0
  ·by_cases h2 : lb1 w.heap.size = 2
   ·exact absurd ((congrFun e1 w.heap.size).mp h2) hx2
   ·have h3 := (congrFun (hne1 (lb1 w.heap.size) (by omega) h2) w.heap.size).mp rfl
    have := HL.out.2.2 w.heap.size (by rw [h3]; omega)
    omega
 have HX1L : Hid (lb1 q = 1 ∧ lb1 m = 3 ∧ lb1 g = 4 ∧ lb1 w.heap.size = 0) := zh ⟨lab_is (hne1 1 (by omega) (by omega)) HX.out.1, lab_is (hne1 3 (by omega) (by omega)) HX.out.2.1, lab_is (hne1 4 (by omega) (by omega)) HX.out.2.2, hx0⟩
 have HS1 := zh (And.intro hl1 (And.intro e1 (And.intro hne1 hst1)))
 have HTR := zh hbt
 have HQ1 := zh hHeld.1
 have HX1 : Hid (Blk (w1.setCell ⟨w.heap.size, 0, none⟩ (.int .i64 ((n : Int) + 1))) w.heap.size 106 #[.int .i64 ((n : Int) + 1), .bool false, .pointer (some ⟨cp, 0, none⟩), .int .i64 0, .int .i64 0, .int .i64 wh, .bool hs, .bool ow, .int .i64 0]) := zh (by simpa using HBX.out.put 0 (.int .i64 ((n : Int) + 1)))
 have htd := (Turns.refl (fun k => lb k = 2) W).drew.trans htt.t
 have hs0 := set1 w1 w.heap.size 0 (.int .i64 ((n : Int) + 1))
 have HO1 := zh ((HO.out.turns htd (fun k hk => by simp only [Value.ownBlock, Option.some.injEq] at hk; rw [← hk, HX.out.2.2]; omega)).turns hs0 (fun k hk e => by simp only [Value.ownBlock, Option.some.injEq] at hk; have h9 := HX1L.out.2.2; rw [hk, e] at h9; omega))
 have HP1 := zh ((HMP.out.turns htd (by rw [HX.out.2.1]; omega)).turns hs0 (by show ¬ m = w.heap.size; have := HL.out.2.1; omega))
 have HTT1 := zh (hs0.mono (S' := fun k => k = w.heap.size ∨ lb1 k = 3) (fun _ _ e => .inl e))
 have HSZ : Hid (w.heap.size < w1.heap.size) := zh (by have h8 := htt.t.size; have h9 := HLW.out; have h3 : W.drew.heap.size = W.heap.size := rfl; omega)
 clear hHeld hbt htt hs1 hl1 e1 hne1 hst1 hx2 hx0 htd hs0
 generalize w1.setCell ⟨w.heap.size, 0, none⟩ (.int .i64 ((n : Int) + 1)) = W1 at *
 have f8 := HX1.out.free 8
 have q8 := HX1.out.cell 8
 simp only [zG] at q8
 go_upto_region 3 with fail
 have hs2 := set1 W1 w.heap.size 8 (.int .i64 (-1))
 have HT2 := zh (HTT1.out.trans (hs2.mono (fun _ _ e => .inl e)))
 have HQ2 := zh (HQ1.out.far (p := ⟨w.heap.size, 8, none⟩) (by show q ≠ w.heap.size; have := HL.out.1; omega) (.int .i64 (-1)))
 have HX2 : Hid (Blk (W1.setCell ⟨w.heap.size, 8, none⟩ (.int .i64 (-1))) w.heap.size 106 #[.int .i64 ((n : Int) + 1), .bool false, .pointer (some ⟨cp, 0, none⟩), .int .i64 0, .int .i64 0, .int .i64 wh, .bool hs, .bool ow, .int .i64 (-1)]) := zh (by simpa using HX1.out.put 8 (.int .i64 (-1)))
 have HO2 := zh (HO1.out.turns hs2 (fun k hk e => by simp only [Value.ownBlock, Option.some.injEq] at hk; have h9 := HX1L.out.2.2; rw [hk, e] at h9; omega))
 have HP2 := zh (HP1.out.turns hs2 (by show ¬ m = w.heap.size; have := HL.out.2.1; omega))
 clear f8 q8 hs2
 generalize W1.setCell ⟨w.heap.size, 8, none⟩ (.int .i64 (-1)) = W2 at *
 obtain ⟨W3, hrun, hm3, ht3, hsz3⟩ := MapI.store (P := Tryz.prog) (w := W2.drew) (b := m) (HP2.out.turns (zT W2).drew (fun h => h)) Tryz.underlying98 Tryz.underlying3 ((n : Int) + 1) (.int .i64 ((n : Int) + 1))
 have HM3 := zh hm3
 have HT3 := zh ht3
 have HQM : Hid (q ≠ m ∧ w.heap.size ≠ m ∧ g ≠ m) := zh ⟨fun e => by have h9 := HX1L.out; rw [e] at h9; omega, fun e => by have := HL.out.2.1; omega, fun e => by have h9 := HX1L.out; rw [e] at h9; omega⟩
 clear hm3 ht3 hsz3
 refine wp_region_held_drew (S := fun w' => Blk w' (q) 102 #[.pointer (some ⟨pm, 0, none⟩), .pointer (some ⟨tr, 0, none⟩), .slice (some ⟨g, 0, none⟩) (n + 1) c, .slice none 0 0, .map (some m)] ∧ Blk w' (w.heap.size) 106 #[.int .i64 ((n : Int) + 1), .bool false, .pointer (some ⟨cp, 0, none⟩), .int .i64 0, .int .i64 0, .int .i64 wh, .bool hs, .bool ow, .int .i64 (-1)] ∧ (w' = W2.drew ∨ True)) (by kernel_rfl) ?_ (fun hHeld => ?_)
 ·exact ⟨HQ2.out, HX2.out, .inr trivial⟩
 refine tH 0 21 ?_ ?_ ?_;rotate_left
 ·intro w hSw
  go_simp
  try with_reducible rfl
 try simp only [zP]
 refine tH 1 22 ?_ ?_ ?_;rotate_left
 ·intro w hSw
  go_simp
  try with_reducible rfl
 try simp only [zP]
 refine tH 2 23 ?_ ?_ ?_;rotate_left
 ·intro w hSw
  go_simp
  try with_reducible rfl
 try simp only [zP]
 refine tH 3 24 ?_ ?_ ?_;rotate_left
 ·intro w hSw
  have q0_0 := hSw.1.cell 0
  have q0_1 := hSw.1.cell 1
  have q0_2 := hSw.1.cell 2
  have q0_3 := hSw.1.cell 3
  have q0_4 := hSw.1.cell 4
  simp only [zG] at q0_0 q0_1 q0_2 q0_3 q0_4
  go_simp
  try with_reducible rfl
 try simp only [zP]
 refine tH 4 25 ?_ ?_ ?_;rotate_left
 ·intro w hSw
  go_simp
  try with_reducible rfl
 try simp only [zP]
 refine tH 5 26 ?_ ?_ ?_;rotate_left
 ·intro w hSw
  have q1_0 : w.cell? ⟨_, 0, none⟩ = some (.int .i64 ((n : Int) + 1)) := hSw.2.1.cell 0
  go_simp
  try with_reducible rfl
 try simp only [zP]
 refine tH 6 27 ?_ ?_ ?_;rotate_left
 ·intro w hSw
  go_simp
  try with_reducible rfl
 try simp only [zP]
 refine tH 7 28 ?_ ?_ ?_;rotate_left
 ·intro w hSw
  go_simp
  try with_reducible rfl
 try simp only [zP]
 refine tH 8 29 ?_ ?_ ?_;rotate_left
 ·intro w hSw
  go_simp
  try with_reducible rfl
 try simp only [zP]
 refine tH 9 30 ?_ ?_ ?_;rotate_left
 ·intro w hSw
  have q0_0 := hSw.1.cell 0
  have q0_1 := hSw.1.cell 1
  have q0_2 := hSw.1.cell 2
  have q0_3 := hSw.1.cell 3
  have q0_4 := hSw.1.cell 4
  simp only [zG] at q0_0 q0_1 q0_2 q0_3 q0_4
  go_simp
  try with_reducible rfl
 try simp only [zP]
 refine tH 10 31 ?_ ?_ ?_;rotate_left
 ·intro w hSw
  go_simp
  try with_reducible rfl
 try simp only [zP]
 refine zR 11 fun K hK => ?_
 go_simp
 refine hK.out _ _ ?_ (fun hHeld => ?_)
 ·exact ⟨hHeld.1.turns HT3.out HQM.out.1, hHeld.2.1.turns HT3.out HQM.out.2.1, .inr trivial⟩
 clear hK K
 try simp only [zP]
 refine wpAnyH_done (by kernel_rfl) ?_ _
 have HTM := zh (HT2.out.drew.trans (HT3.out.mono (fun _ _ e => .inr (by rw [e]; exact HX1L.out.2.1))))
 have HQ3 := zh (HQ2.out.drew.turns HT3.out HQM.out.1)
 have HX3 := zh (HX2.out.drew.turns HT3.out HQM.out.2.1)
 have HO3 := zh ((HO2.out.turns (zT W2).drew (fun _ _ h => h)).turns HT3.out (fun k hk e => by simp only [Value.ownBlock, Option.some.injEq] at hk; exact HQM.out.2.2 (hk.trans e)))
 have HNQ := zh (show ∀ k, (Value.slice (some ⟨g, 0, none⟩) (n + 1) c).ownBlock = some k → k ≠ q from fun k hk e => by simp only [Value.ownBlock, Option.some.injEq] at hk; have h9 := HX1L.out; rw [hk, e] at h9; omega)
 have HNX := zh (show ∀ k, (Value.slice (some ⟨g, 0, none⟩) (n + 1) c).ownBlock = some k → k ≠ w.heap.size from fun k hk e => by simp only [Value.ownBlock, Option.some.injEq] at hk; have h9 := HX1L.out; rw [hk, e] at h9; omega)
 clear hHeld hrun
 go_upto_region 4 with fail
 refine wp_region_z (S := fun w' => Blk w' (q) 102 #[.pointer (some ⟨pm, 0, none⟩), .pointer (some ⟨tr, 0, none⟩), .slice (some ⟨g, 0, none⟩) (n + 1) c, .slice none 0 0, .map (some m)] ∧ Blk w' (w.heap.size) 106 #[.int .i64 ((n : Int) + 1), .bool false, .pointer (some ⟨cp, 0, none⟩), .int .i64 0, .int .i64 0, .int .i64 wh, .bool hs, .bool ow, .int .i64 (-1)] ∧ Turns (fun k => ((Value.slice (some ⟨g, 0, none⟩) (n + 1) c)).ownBlock = some k) W3 w') 10 (by kernel_rfl) ?_ (fun hHeld => ?_)
 ·exact ⟨HQ3.out, HX3.out, (Turns.refl _ W3).drew⟩
 refine tZ 0 32 ?_ ?_ ?_;rotate_left
 ·intro w hSw
  go_simp
  try with_reducible rfl
 try simp only [zP]
 refine tZ 1 33 ?_ ?_ ?_;rotate_left
 ·intro w hSw
  go_simp
  try with_reducible rfl
 try simp only [zP]
 refine tZ 2 34 ?_ ?_ ?_;rotate_left
 ·intro w hSw
  go_simp
  try with_reducible rfl
 try simp only [zP]
 refine tZ 3 35 ?_ ?_ ?_;rotate_left
 ·intro w hSw
  go_simp
  try with_reducible rfl
 try simp only [zP]
 refine tZ 4 36 ?_ ?_ ?_;rotate_left
 ·intro w hSw
  have q0_0 := hSw.1.cell 0
  have q0_1 := hSw.1.cell 1
  have q0_2 := hSw.1.cell 2
  have q0_3 := hSw.1.cell 3
  have q0_4 := hSw.1.cell 4
  have q1_0 := hSw.2.1.cell 0
  have q1_1 := hSw.2.1.cell 1
  have q1_2 := hSw.2.1.cell 2
  have q1_3 := hSw.2.1.cell 3
  have q1_4 := hSw.2.1.cell 4
  have q1_5 := hSw.2.1.cell 5
  have q1_6 := hSw.2.1.cell 6
  have q1_7 := hSw.2.1.cell 7
  have q1_8 := hSw.2.1.cell 8
  simp only [zG] at q0_0 q0_1 q0_2 q0_3 q0_4 q1_0 q1_1 q1_2 q1_3 q1_4 q1_5 q1_6 q1_7 q1_8
  go_simp
  try with_reducible rfl
 try simp only [zP]
 refine tZ 5 37 ?_ ?_ ?_;rotate_left
 ·intro w hSw
  refine exec_load_row (P := Tryz.prog) (x := .tmp 4) ?_ ?_ hSw.2.1 Tryz.underlying106 ?_ Tryz.sizeCx <;> rfl
 try simp only [zP]
 refine wpAnyZ_ready (rs := [6]) (by kernel_rfl) (by simp) ?_
 refine AllReadyZ.cons rfl (fun K hK => ?_) AllReadyZ.nil
 refine step_single rfl _ (.tmp 37) (by rfl) i0 _ Tryz.underlying99 hi0 hz0 (by rw [hz1]; decide) (by rw [hz1]; decide) #[.int .i64 ((n : Int) + 1), .bool false, .pointer (some ⟨cp, 0, none⟩), .int .i64 0, .int .i64 0, .int .i64 wh, .bool hs, .bool ow, .int .i64 (-1)] (by rfl) (fillCx hz1 _ _ _ _ _ _ _ _ _) ?_
 intro bX wX hTX hBX hLX
 refine hK.out _ _ ?_ (fun hHeld => ?_)
 ·exact ⟨hHeld.1.turns hTX (fun h => h), hHeld.2.1.turns hTX (fun h => h), (hHeld.2.2).trans (hTX.mono (fun _ _ h => h.elim))⟩
 clear hK K
 try simp only [zP]
 refine wpAnyZ_ready (rs := [7]) (by kernel_rfl) (by simp) ?_
 refine AllReadyZ.cons rfl (fun K hK => ?_) AllReadyZ.nil
 refine step_push rfl _ _ _ (by rfl) i0 _ 64 Tryz.underlying99 hi0 hz0 hz1 hz2 rfl (by omega) cxC_len cxC_one (by rfl) (((HO3.out.turns (zT W3).drew (fun _ _ h => h))).turns hTX (fun _ _ h => h)) (⟨(n : Int) + 1, false, some cp, 0, 0, wh, hs, ow, -1⟩) (by rfl) hBX (by rw [HLN.out]; omega) (by omega) ?_
 intro v2 w2 hO2 hT2 hV2
 obtain ⟨a3, c3, rfl⟩ := owns_slice hO2
 refine hK.out _ _ ?_ (fun hHeld => ?_)
 ·exact ⟨hHeld.1.turns hT2 (fun e => HNQ.out _ e rfl), hHeld.2.1.turns hT2 (fun e => HNX.out _ e rfl), (hHeld.2.2).trans hT2⟩
 clear hK K
 try simp only [zP]
 refine wpAnyZ_ready (rs := [8]) (by kernel_rfl) (by simp) ?_
 refine AllReadyZ.cons rfl (fun K hK => ?_) AllReadyZ.nil
 go_simp
 refine hK.out _ _ hHeld (fun hHeld => ?_)
 clear hK K
 try simp only [zP]
 refine tZ 9 41 ?_ ?_ ?_;rotate_left
 ·intro w hSw
  go_simp
  try with_reducible rfl
 try simp only [zP]
 refine wpAnyZ_ready (rs := [10]) (by kernel_rfl) (by simp) ?_
 refine AllReadyZ.last rfl (fun K hK => ?_) AllReadyZ.nil
 have qz0 := hHeld.1.cell 2
 have qf := hHeld.1.free 2
 simp only [zG] at qz0
 go_simp
 refine hK.out _ _ ?_
 clear hK K
 try simp only [zP]
 refine wpAnyZ_done (by kernel_rfl) ?_ _
 simp only [List.length_append, List.length_cons, List.length_nil, HLN.out, Nat.zero_add] at hO2 hT2 hV2 ⊢
 have hO2' : Owns cxC 106 9 w2 (.slice a3 (n + 1 + 1) c3) (cs ++ [⟨(n : Int) + 1, false, some cp, 0, 0, wh, hs, ow, -1⟩]) := hO2
 have hs4 : Stp W3 w2 (fun k => lb1 k = 4) (fun k => (Value.slice a3 (n + 1 + 1) c3).ownBlock = some k) := ⟨((Turns.refl (fun k => lb1 k = 4) W3).drew.trans (hTX.mono (fun _ _ h => h.elim))).then hT2 (fun k _ hk => by simp only [Value.ownBlock, Option.some.injEq] at hk; rw [← hk]; exact HX1L.out.2.2.1), fun k hk => (hV2 k hk).imp (fun h => by simp only [Value.ownBlock, Option.some.injEq] at h; rw [← h]; exact HX1L.out.2.2.1) (fun h => Nat.le_trans hTX.size h)⟩
 have hlW3 : Lab W3 lb1 FF1 := HS1.out.1.turns HTM.out
 obtain ⟨lb2, FF2, hl2, e2, hne2, hst2⟩ := hlW3.step 4 (by omega) hs4 (fun k hk => hO2'.lt hk)
 have hq2 : lb2 q = 1 := lab_is (hne2 1 (by omega) (by omega)) HX1L.out.1
 have hm2 : lb2 m = 3 := lab_is (hne2 3 (by omega) (by omega)) HX1L.out.2.1
 have hs5 := set1 w2 q 2 (.slice a3 (n + 1 + 1) c3)
 have h4 := hHeld.1.put 2 (.slice a3 (n + 1 + 1) c3)
 simp only [List.setIfInBounds_toArray, List.set_cons_zero, List.set_cons_succ] at h4
 have HQ4 := zh h4
 have hst1 := HS1.out.2.2.2
 have hw3 : Stp w W3 F FF1 := ⟨hst1.t.then HTM.out (fun b hb h => by
  rcases h with h | h
  ·omega
  ·exact (HLB.out.on b).2 (by rw [(congrFun (HS1.out.2.2.1 3 (by omega) (by omega)) b).mp h]; omega)), hst1.f⟩
 have HST := zh ((hw3.trans hst2).trans (Stp.same (hs5.mono (fun k _ e => (hl2.on k).2 (by rw [e, hq2]; omega)))))
 have hn4 : ∀ k, (Value.slice a3 (n + 1 + 1) c3).ownBlock = some k → lb2 k = 4 := fun k hk => (congrFun e2 k).mpr hk
 have HO5 := zh (And.intro (hO2'.turns hs5 (fun k hk e => by have h9 := hn4 k hk; rw [e, hq2] at h9; omega)) (show ∀ k, (Value.slice a3 (n + 1 + 1) c3).ownBlock = some k ↔ lb2 k = 4 from fun k => (iff_of_eq (congrFun e2 k)).symm))
 have hF2 : ∀ k, F2 k ↔ lb1 k = 2 := fun k => (iff_of_eq (congrFun HS1.out.2.1 k)).symm
 have ht5 := ((HTR.out.turns HTM.out (fun k hk e => by
  have h1 := (hF2 k).1 hk
  rcases e with e | e
  ·rw [e, HX1L.out.2.2.2] at h1; omega
  ·omega)).turns hs4.t (fun k hk => by rw [(hF2 k).1 hk]; omega)).turns hs5 (fun k hk e => by have h1 := (hF2 k).1 hk; rw [e, HX1L.out.1] at h1; omega)
 rw [show F2 = fun k => lb2 k = 2 from by rw [hne2 2 (by omega) (by omega)]; exact HS1.out.2.1.symm] at ht5
 have HT5 := zh ht5
 have HM5 := zh ((HM3.out.turns hs4.t (by rw [HX1L.out.2.1]; omega)).turns hs5 (fun e => HQM.out.1 e.symm))
 have HL5 := zh (And.intro (hl2.turns hs5) (And.intro hq2 hm2))
 clear hHeld hO2 hT2 hV2 hTX hBX hLX hO2' hs4 hlW3 hl2 e2 hne2 hst2 hq2 hm2 hs5 hst1 hw3 hn4 hF2 ht5
 generalize w2.setCell ⟨q, 2, none⟩ (.slice a3 (n + 1 + 1) c3) = W4 at *
 have r2 := h4.cell 2
 simp only [zG] at r2
 clear h4
 have hw9 := IntWalk.i64_in ((n : Int) + 1) (by omega)
 go_wp2_with fail
 go_ret
 refine ⟨rfl, FF2, ⟨_, tr, m, lb2, ⟨HQ4.out, HL5.out.2.1, by rw [List.length_append, HLN.out]; exact HT5.out, ?_, HL5.out.2.2, HO5.out.1, HO5.out.2, fun i x hx => ?_⟩, HL5.out.1⟩, HST.out⟩
 ·refine cast (congrArg (MapI W4 m) (funext fun j => ?_)) HM5.out
  rw [List.length_append, HLN.out]
  by_cases hj : j = (n : Int) + 1
  ·rw [if_pos hj, if_pos (by simp only [List.length_cons, List.length_nil]; omega), hj]
  ·rw [if_neg hj]
   by_cases h0 : 0 ≤ j ∧ j < ((n + 1 : Nat) : Int)
   ·rw [if_pos h0, if_pos (by simp only [List.length_cons, List.length_nil]; omega)]
   ·rw [if_neg h0, if_neg (by simp only [List.length_cons, List.length_nil]; omega)]
 ·rcases Nat.lt_or_ge i (n + 1) with hi | hi
  ·rw [List.getElem?_append_left (by rw [HLN.out]; exact hi)] at hx
   exact HC.out.node i x hx
  ·rw [List.getElem?_append_right (by rw [HLN.out]; exact hi), HLN.out] at hx
   obtain rfl : i = n + 1 := by
    rcases Nat.eq_zero_or_pos (i - (n + 1)) with h0 | h0
    ·omega
    ·rw [List.getElem?_cons, if_neg (by omega)] at hx
     simp at hx
   rw [Nat.sub_self, List.getElem?_cons_zero] at hx
   cases hx
   rfl
theorem cxbegin_c {w : World} {q pm n0 cut : Nat} {F : Nat → Prop} {vl : Value} {cs : List Cx} {x : Cx} (id : Int) (h : CtxAt w q pm F vl cs cut) (hx : cs[n0]? = some x) (he : x.err = 0) (hn : cs.length ≤ 60) : Calls Tryz.prog 182 #[.pointer (some ⟨q, 0, none⟩), .int .i64 id, .int .i64 n0] w fun e w' => e = .returned (.slice none 0 0) ∧ Made w w' := by
 obtain ⟨g, c, n, h1, h2, q2, hc⟩ := cx_row h hx
 have HC := zh hc
 have b1 : (x.err == 0) = true := by simp [he]
 have j1 : (0 : Int) ≤ (n0 : Int) := Int.natCast_nonneg _
 have j2 : (n0 : Int) < (n : Int) := by omega
 clear h hc h2 hx hn he
 go_enter Tryz.func182, Tryz.ntmps182
 go_wp2_with (first | (refine wpList_load_at (o := ⟨some 16, .load 106 (.tmp 15), _, _, _, _⟩) rfl _ _ rfl g (n0 * 9) rfl ([.int .i64 x.node, .bool x.free, .pointer (pt x.c), .int .i64 x.err, .int .i64 x.cause, .int .i64 x.when, .bool x.has, .bool x.own, .int .i64 x.timer]) _ HC.out Tryz.underlying106 rfl Tryz.sizeCx ?_) | fail)
 go_returns
 exact ⟨rfl, (Turns.refl _ w).alloc _⟩
theorem cxcancels_c {w : World} {q pm n0 : Nat} {F : Nat → Prop} {vl : Value} {cs : List Cx} {x : Cx} (h : CtxAt w q pm F vl cs (n0 + 1)) (hlen : cs.length = n0 + 1) (hn : n0 ≤ 50) (hx : cs[n0]? = some x) (hnode : x.node = (n0 : Int)) (he : x.err = 0) : Calls Tryz.prog 139 #[.pointer (some ⟨q, 0, none⟩), .int .i64 n0] w fun e w' => ∃ cp Fc F' vl', e = .returned (.tuple #[.int .i64 ((n0 : Int) + 1), .slice none 0 0, .int .i64 0]) ∧ CtxAt w' q pm F' vl' (cs ++ [⟨(n0 : Int) + 1, false, some cp, 0, 0, x.when, x.has, false, -1⟩]) (n0 + 2) ∧ ChAt w' cp Fc ⟨false, true, false, false, none, []⟩ ∧ Stp w w' F F' ∧ (∀ k, Fc k → w.heap.size ≤ k) ∧ ∀ k, Fc k → ¬ F' k := by
 obtain ⟨g, c, n, h1, h2, q2, hc⟩ := cx_row h hx
 have HC := zh hc
 have HH := zh (cxroom_c h (i := n0) (by omega) (by omega))
 have HA := zh h
 have HX := zh (And.intro hx (And.intro he hlen))
 have HB8 := zh (Blk.new w 106 #[.int .i64 x.node, .bool x.free, .pointer (pt x.c), .int .i64 x.err, .int .i64 x.cause, .int .i64 x.when, .bool x.has, .bool x.own, .int .i64 x.timer])
 have HM8 := zh ((zT w).alloc (.cells #[.int .i64 x.node, .bool x.free, .pointer (pt x.c), .int .i64 x.err, .int .i64 x.cause, .int .i64 x.when, .bool x.has, .bool x.own, .int .i64 x.timer] 106))
 have j1 : (0 : Int) ≤ (n0 : Int) := Int.natCast_nonneg _
 have j2 : (n0 : Int) < (n : Int) := by omega
 have HN := zh hnode
 clear h hc h2 hx he hlen hnode
 go_enter Tryz.func139, Tryz.ntmps139
 go_wp2_with fail
 refine HH.out.mono ?_
 rintro e w1 ⟨rfl, rfl⟩
 go_upto_region 5 with (first | (refine wpList_load_at (o := ⟨some 22, .load 106 (.tmp 21), _, _, _, _⟩) rfl _ _ rfl g (n0 * 9) rfl ([.int .i64 x.node, .bool x.free, .pointer (pt x.c), .int .i64 x.err, .int .i64 x.cause, .int .i64 x.when, .bool x.has, .bool x.own, .int .i64 x.timer]) _ HC.out Tryz.underlying106 rfl Tryz.sizeCx ?_) | fail)
 generalize w.alloc (.cells #[.int .i64 x.node, .bool x.free, .pointer (pt x.c), .int .i64 x.err, .int .i64 x.cause, .int .i64 x.when, .bool x.has, .bool x.own, .int .i64 x.timer] 106) = W at *
 have hcw := (HA.out.made HM8.out).made (zT W).drew
 have HCW := zh hcw
 clear hcw q2
 refine wp_region_held_drew (S := fun w' => Blk w' (w.heap.size) 106 #[.int .i64 x.node, .bool x.free, .pointer (pt x.c), .int .i64 x.err, .int .i64 x.cause, .int .i64 x.when, .bool x.has, .bool x.own, .int .i64 x.timer] ∧ (w' = W.drew ∨ True)) (by kernel_rfl) ?_ (fun hHeld => ?_)
 ·exact ⟨HB8.out, .inr trivial⟩
 refine tH 0 23 ?_ ?_ ?_;rotate_left
 ·intro w hSw
  go_simp
  try with_reducible rfl
 try simp only [zP]
 refine tH 2 25 ?_ ?_ ?_;rotate_left
 ·intro w hSw
  go_simp
  try with_reducible rfl
 try simp only [zP]
 refine tH 3 26 ?_ ?_ ?_;rotate_left
 ·intro w hSw
  have q0_0 := hSw.1.cell 0
  have q0_1 := hSw.1.cell 1
  have q0_2 := hSw.1.cell 2
  have q0_3 := hSw.1.cell 3
  have q0_4 := hSw.1.cell 4
  have q0_5 := hSw.1.cell 5
  have q0_6 := hSw.1.cell 6
  have q0_7 := hSw.1.cell 7
  have q0_8 := hSw.1.cell 8
  simp only [zG] at q0_0 q0_1 q0_2 q0_3 q0_4 q0_5 q0_6 q0_7 q0_8
  go_simp
  try with_reducible rfl
 try simp only [zP]
 refine tH 4 27 ?_ ?_ ?_;rotate_left
 ·intro w hSw
  go_simp
  try with_reducible rfl
 try simp only [zP]
 refine tH 5 28 ?_ ?_ ?_;rotate_left
 ·intro w hSw
  have q0_0 := hSw.1.cell 0
  have q0_1 := hSw.1.cell 1
  have q0_2 := hSw.1.cell 2
  have q0_3 := hSw.1.cell 3
  have q0_4 := hSw.1.cell 4
  have q0_5 := hSw.1.cell 5
  have q0_6 := hSw.1.cell 6
  have q0_7 := hSw.1.cell 7
  have q0_8 := hSw.1.cell 8
  simp only [zG] at q0_0 q0_1 q0_2 q0_3 q0_4 q0_5 q0_6 q0_7 q0_8
  go_simp
  try with_reducible rfl
 try simp only [zP]
 refine tH 7 30 ?_ ?_ ?_;rotate_left
 ·intro w hSw
  go_simp
  try with_reducible rfl
 try simp only [zP]
 refine tH 8 31 ?_ ?_ ?_;rotate_left
 ·intro w hSw
  have q0_0 := hSw.1.cell 0
  have q0_1 := hSw.1.cell 1
  have q0_2 := hSw.1.cell 2
  have q0_3 := hSw.1.cell 3
  have q0_4 := hSw.1.cell 4
  have q0_5 := hSw.1.cell 5
  have q0_6 := hSw.1.cell 6
  have q0_7 := hSw.1.cell 7
  have q0_8 := hSw.1.cell 8
  simp only [zG] at q0_0 q0_1 q0_2 q0_3 q0_4 q0_5 q0_6 q0_7 q0_8
  go_simp
  try with_reducible rfl
 try simp only [zP]
 refine zR 1 fun K hK => ?_
 go_simp
 refine (chsignal_c _).mono ?_
 rintro e w1 ⟨cp, Fc, rfl, hch, hmc, hfc⟩
 refine hK.out _ _ ?_ (fun hHeld => ?_)
 ·exact ⟨hHeld.1.turns hmc (fun h => h), .inr trivial⟩
 clear hK K
 try simp only [zP]
 refine tH 6 29 ?_ ?_ ?_;rotate_left
 ·intro w hSw
  go_simp
  try with_reducible rfl
 try simp only [zP]
 refine zR 9 fun K hK => ?_
 have hnd := HN.out
 go_simp
 try rw [hnd]
 refine (cxadd_c (cp := cp) (wh := x.when) (hs := x.has) (ow := false) (HCW.out.made hmc) HX.out.2.2 hn).mono ?_
 rintro e w2 ⟨rfl, F2, vl2, hcx2, hst2⟩
 refine hK.out _ _ ?_ (fun hHeld => ?_)
 ·exact ⟨hHeld.1.turns hst2.t (fun h => by have h8 := HA.out.fb _ h; omega), .inr trivial⟩
 clear hK K
 try simp only [zP]
 refine tH 10 9 ?_ ?_ ?_;rotate_left
 ·intro w hSw
  go_simp
  try with_reducible rfl
 try simp only [zP]
 refine wpAnyH_done (by kernel_rfl) ?_ _
 have hx' : (cs ++ [(⟨(n0 : Int) + 1, false, some cp, 0, 0, x.when, x.has, false, -1⟩ : Cx)])[n0]? = some x := by
  rw [List.getElem?_append_left (by rw [HX.out.2.2]; omega)]
  exact HX.out.1
 have hl' : (cs ++ [(⟨(n0 : Int) + 1, false, some cp, 0, 0, x.when, x.has, false, -1⟩ : Cx)]).length ≤ 60 := by
  rw [List.length_append, HX.out.2.2]
  simp only [List.length_cons, List.length_nil]
  omega
 have HBG := zh (cxbegin_c ((n0 : Int) + 1) hcx2 hx' HX.out.2.1 hl')
 have hmw : Made w w1 := (HM8.out.drew).trans hmc
 have hch2 := hch.turns hst2.t (fun k hk hF => by have h1 := hfc k hk; have h2 := HA.out.fb k hF; have h3 := HM8.out.size; have h4 : W.drew.heap.size = W.heap.size := rfl; omega)
 have HR := zh (And.intro hcx2 (And.intro hch2 (And.intro ((Stp.made hmw).trans hst2) (And.intro (show ∀ k, Fc k → w.heap.size ≤ k from fun k hk => by have h1 := hfc k hk; have h3 := HM8.out.size; have h4 : W.drew.heap.size = W.heap.size := rfl; omega) (show ∀ k, Fc k → ¬ F2 k from fun k hk hF => by
  rcases hst2.f k hF with h1 | h1
  ·have h2 := HA.out.fb k h1
   have h3 := hfc k hk
   have h5 := HM8.out.size
   have h4 : W.drew.heap.size = W.heap.size := rfl
   omega
  ·have h3 := hch.fb k hk
   omega)))))
 clear hHeld hch hmc hfc hcx2 hst2 hx' hl' hmw hch2
 go_wp2_with fail
 refine HBG.out.mono ?_
 rintro e w3 ⟨rfl, hm3⟩
 have HM3 := zh hm3
 clear hm3
 go_wp2_with fail
 go_returns
 exact ⟨cp, Fc, F2, vl2, rfl, HR.out.1.made HM3.out, HR.out.2.1.made HM3.out, HR.out.2.2.1.then_made HM3.out, HR.out.2.2.2.1, HR.out.2.2.2.2⟩
section
variable {w w' : World} {q pm i j cut : Nat} {F : Nat → Prop} {vl u : Value} {cs : List Cx} {x x' : Cx}
theorem cx_row2 (h : CtxAt w q pm F vl cs cut) (hx : cs[i]? = some x) : ∃ g c, vl = .slice (some ⟨g, 0, none⟩) cs.length c ∧ w.cell? ⟨q, 2, none⟩ = some (.slice (some ⟨g, 0, none⟩) cs.length c) ∧ w.cell? ⟨q, 0, none⟩ = some (.pointer (some ⟨pm, 0, none⟩)) ∧ (∀ j u, (cxC x)[j]? = some u → w.cell? ⟨g, i * 9 + j, none⟩ = some u) ∧ (∀ n, w.frozen? ⟨g, n, none⟩ = false) ∧ F g ∧ F q ∧ q ≠ g := by
 obtain ⟨tr, m, lb, h, hl⟩ := h
 have hi := (List.getElem?_eq_some_iff.1 hx).1
 rcases h.own.form with ⟨_, h0⟩ | ⟨g, c, rfl, hgb, hlc, hcm⟩
 ·subst h0
  simp at hi
 have q2 := h.blk.cell 2
 have q0 := h.blk.cell 0
 simp only [zG] at q2 q0
 have h4 := (h.lv g).1 rfl
 exact ⟨g, c, rfl, q2, q0, fun j u hu => Owns.cell cxC_len h.own hx hu, fun n => Owns.free h.own n, (hl.on g).2 (by rw [h4]; omega), (hl.on q).2 (by rw [h.lq]; omega), fun e => by rw [← e, h.lq] at h4; omega⟩
theorem CtxAt.put {g c : Nat} (h : CtxAt w q pm F (.slice (some ⟨g, 0, none⟩) cs.length c) cs cut) (hx : cs[i]? = some x) (hu : cxC x' = (cxC x).set j u) (hj : j < 9) (hnd : x'.node = x.node) : CtxAt (w.setCell ⟨g, i * 9 + j, none⟩ u) q pm F (.slice (some ⟨g, 0, none⟩) cs.length c) (cs.set i x') cut ∧ Turns F w (w.setCell ⟨g, i * 9 + j, none⟩ u) := by
 obtain ⟨tr, m, lb, h, hl⟩ := h
 have hg4 : lb g = 4 := (h.lv g).1 rfl
 have ht : Turns (fun k => lb k = 4) w (w.setCell ⟨g, i * 9 + j, none⟩ u) := (Turns.refl _ w).setCell (p := ⟨g, i * 9 + j, none⟩) (fun _ => hg4) _
 have hln : (cs.set i x').length = cs.length := List.length_set
 refine ⟨⟨tr, m, lb, ⟨h.blk.turns ht (by rw [h.lq]; omega), h.lq, by rw [hln]; exact h.tree.turns ht (fun k hk => by rw [hk]; omega), by rw [hln]; exact h.mp.turns ht (by rw [h.lm]; omega), h.lm, h.own.put cxC_len hx hu hj, h.lv, fun k y hy => ?_⟩, hl.turns ht⟩, ht.mono (fun k _ hk => (hl.on k).2 (by rw [hk]; omega))⟩
 rw [List.getElem?_set] at hy
 by_cases hik : i = k
 ·subst hik
  rw [if_pos rfl, if_pos (List.getElem?_eq_some_iff.1 hx).1] at hy
  cases hy
  rw [hnd]
  exact h.node i x hx
 ·rw [if_neg hik] at hy
  exact h.node k y hy
end
theorem cxdeadline_0 {w : World} {q pm n0 : Nat} {F : Nat → Prop} {vl : Value} {cs : List Cx} {x : Cx} {when_ : Int} (now : Int) (h : CtxAt w q pm F vl cs (n0 + 1)) (hlen : cs.length = n0 + 1) (hn : n0 ≤ 50) (hx : cs[n0]? = some x) (hnode : x.node = (n0 : Int)) (he : x.err = 0) (hw : 0 ≤ when_ ∧ when_ ≤ 4611686018427387904) (hh : x.has = true) (hle : x.when ≤ when_) : Calls Tryz.prog 138 #[.pointer (some ⟨q, 0, none⟩), .int .i64 n0, .int .i64 when_, .int .i64 now] w fun e w' => ∃ cp Fc F' vl', e = .returned (.tuple #[.int .i64 ((n0 : Int) + 1), .slice none 0 0, .int .i64 0]) ∧ CtxAt w' q pm F' vl' (cs ++ [⟨(n0 : Int) + 1, false, some cp, 0, 0, x.when, x.has, false, -1⟩]) (n0 + 2) ∧ ChAt w' cp Fc ⟨false, true, false, false, none, []⟩ ∧ Stp w w' F F' ∧ (∀ k, Fc k → w.heap.size ≤ k) ∧ ∀ k, Fc k → ¬ F' k := by
 obtain ⟨nd, fr, cc, er, ca, wh, hs, ow, tm⟩ := x
 simp only at hnode he hh hle
 subst hh
 obtain ⟨g, c, n, h1, h2, q2, hc⟩ := cx_row h hx
 have HC := zh hc
 have HH := zh (cxroom_c h (i := n0) (by omega) (by omega))
 have HM8 := zh ((zT w).alloc (.cells #[.int .i64 nd, .bool fr, .pointer (pt cc), .int .i64 er, .int .i64 ca, .int .i64 wh, .bool true, .bool ow, .int .i64 tm] 106))
 have HCC := zh (cxcancels_c (h.made HM8.out) hlen hn hx hnode he)
 have haz : addZ when_ 0 = when_ := by
  unfold addZ heldZ
  repeat' split
  all_goals omega
 have HAD := zh (add_c when_ 0)
 have HAZ := zh haz
 have j1 : (0 : Int) ≤ (n0 : Int) := Int.natCast_nonneg _
 have j2 : (n0 : Int) < (n : Int) := by omega
 have HLE := zh hw
 have hmx : ¬ when_ < 0 := by omega
 clear h hc h2 hx he hlen hnode haz hw
 go_enter Tryz.func138, Tryz.ntmps138
 go_wp2_with fail
 refine HH.out.mono ?_
 rintro e w1 ⟨rfl, rfl⟩
 go_wp2_with fail
 refine (HAD.out _).mono ?_
 rintro e w1 ⟨rfl, rfl⟩
 rw [HAZ.out]
 go_wp2_with (first | (refine wpList_load_at (o := ⟨some 32, .load 106 (.tmp 31), _, _, _, _⟩) rfl _ _ rfl g (n0 * 9) rfl ([.int .i64 nd, .bool fr, .pointer (pt cc), .int .i64 er, .int .i64 ca, .int .i64 wh, .bool true, .bool ow, .int .i64 tm]) _ HC.out Tryz.underlying106 rfl Tryz.sizeCx ?_) | fail)
 refine HCC.out.mono ?_
 rintro e w2 ⟨cp, Fc, F', vl', rfl, hcx, hch, hst, hf1, hf2⟩
 have HR := zh (And.intro hcx (And.intro hch (And.intro ((Stp.made HM8.out).trans hst) (And.intro (show ∀ k, Fc k → w.heap.size ≤ k from fun k hk => Nat.le_trans HM8.out.size (hf1 k hk)) hf2))))
 clear hcx hch hst hf1 hf2
 go_wp2_with fail
 go_returns
 exact ⟨cp, Fc, F', vl', rfl, HR.out⟩
structure DlOut (w w' : World) (q pm cp : Nat) (F FT F' FT' Fc : Nat → Prop) (vl' : Value) (cs : List Cx) (cut : Nat) (ts : List Tk) (named : Int) (L : List It) (sq : Int) : Prop where
 ctx : CtxAt w' q pm F' vl' cs cut
 tms : TsAt w' pm FT' ts named L sq
 ch : ChAt w' cp Fc ⟨false, true, false, false, none, []⟩
 t : Turns (fun k => F k ∨ FT k) w w'
 f1 : ∀ k, F' k → F k ∨ w.heap.size ≤ k
 f2 : ∀ k, FT' k → FT k ∨ w.heap.size ≤ k
 f3 : ∀ k, Fc k → w.heap.size ≤ k
 d1 : ∀ k, F' k → ¬ FT' k
 d2 : ∀ k, Fc k → ¬ F' k
 d3 : ∀ k, Fc k → ¬ FT' k
theorem cxdeadline_1 {w : World} {q pm n0 : Nat} {F FT : Nat → Prop} {vl : Value} {cs : List Cx} {x : Cx} {when_ now : Int} {ts : List Tk} {named : Int} {L : List It} {sq : Int} (h : CtxAt w q pm F vl cs (n0 + 1)) (hlen : cs.length = n0 + 1) (hn : n0 ≤ 50) (hx : cs[n0]? = some x) (hnode : x.node = (n0 : Int)) (he : x.err = 0) (hw : 0 ≤ when_ ∧ when_ ≤ 4611686018427387904) (hno : x.has = true → when_ < x.when) (hnow : now < when_) (hT : TsAt w pm FT ts named L sq) (hd : ∀ k, F k → ¬ FT k) (htn : ts.length < 1000) (hnm : 0 ≤ named ∧ named ≤ 64) (hsq : sq < 1000000) : Calls Tryz.prog 138 #[.pointer (some ⟨q, 0, none⟩), .int .i64 n0, .int .i64 when_, .int .i64 now] w fun e w' => ∃ cp Fc F' FT' vl', e = .returned (.tuple #[.int .i64 ((n0 : Int) + 1), .slice none 0 0, .int .i64 0]) ∧ DlOut w w' q pm cp F FT F' FT' Fc vl' (cs ++ [⟨(n0 : Int) + 1, false, some cp, 0, 0, when_, true, true, ts.length⟩]) (n0 + 2) (ts ++ [⟨4, (n0 : Int) + 1, none⟩]) named (insL ⟨ts.length, when_, sq + 1⟩ (delL ts.length L)) (sq + 1) := by
 obtain ⟨nd, fr, cc, er, ca, wh, hs, ow, tm⟩ := x
 simp only at hnode he hno
 obtain ⟨g, c, n, h1, h2, q2, hc⟩ := cx_row h hx
 have HC := zh hc
 have HH := zh (cxroom_c h (i := n0) (by omega) (by omega))
 have HA := zh h
 have HX := zh (And.intro hx (And.intro he hlen))
 have haz : addZ when_ 0 = when_ := by
  unfold addZ heldZ
  repeat' split
  all_goals omega
 have HAD := zh (add_c when_ 0)
 have HAZ := zh haz
 have j1 : (0 : Int) ≤ (n0 : Int) := Int.natCast_nonneg _
 have j2 : (n0 : Int) < (n : Int) := by omega
 have HLE := zh hw
 have HN := zh hnode
 have HTT := zh (And.intro hT (And.intro hd (And.intro htn (And.intro hnm hsq))))
 have hmx : ¬ when_ < 0 := by omega
 have hmn : ¬ when_ ≤ now := by omega
 clear h hc h2 hx he hlen hnode haz hw hT hd htn hnm hsq
 cases hs
 case false =>
  clear hno
  have HB8 := zh (Blk.new w 106 #[.int .i64 nd, .bool fr, .pointer (pt cc), .int .i64 er, .int .i64 ca, .int .i64 wh, .bool false, .bool ow, .int .i64 tm])
  have HM8 := zh ((zT w).alloc (.cells #[.int .i64 nd, .bool fr, .pointer (pt cc), .int .i64 er, .int .i64 ca, .int .i64 wh, .bool false, .bool ow, .int .i64 tm] 106))
  go_enter Tryz.func138, Tryz.ntmps138
  go_wp2_with fail
  refine HH.out.mono ?_
  rintro e w1 ⟨rfl, rfl⟩
  go_wp2_with fail
  refine (HAD.out _).mono ?_
  rintro e w1 ⟨rfl, rfl⟩
  rw [HAZ.out]
  go_upto_region 8 with (first | (refine wpList_load_at (o := ⟨some 32, .load 106 (.tmp 31), _, _, _, _⟩) rfl _ _ rfl g (n0 * 9) rfl ([.int .i64 nd, .bool fr, .pointer (pt cc), .int .i64 er, .int .i64 ca, .int .i64 wh, .bool false, .bool ow, .int .i64 tm]) _ HC.out Tryz.underlying106 rfl Tryz.sizeCx ?_) | fail)
  generalize w.alloc (.cells #[.int .i64 nd, .bool fr, .pointer (pt cc), .int .i64 er, .int .i64 ca, .int .i64 wh, .bool false, .bool ow, .int .i64 tm] 106) = W at *
  have hcw := (HA.out.made HM8.out).made (zT W).drew
  have HCW := zh hcw
  clear hcw q2
  refine wp_region_held_drew (S := fun w' => Blk w' (w.heap.size) 106 #[.int .i64 nd, .bool fr, .pointer (pt cc), .int .i64 er, .int .i64 ca, .int .i64 wh, .bool false, .bool ow, .int .i64 tm] ∧ (w' = W.drew ∨ True)) (by kernel_rfl) ?_ (fun hHeld => ?_)
  ·exact ⟨HB8.out, .inr trivial⟩
  refine tH 0 47 ?_ ?_ ?_;rotate_left
  ·intro w hSw
   go_simp
   try with_reducible rfl
  try simp only [zP]
  refine tH 2 49 ?_ ?_ ?_;rotate_left
  ·intro w hSw
   go_simp
   try with_reducible rfl
  try simp only [zP]
  refine tH 4 51 ?_ ?_ ?_;rotate_left
  ·intro w hSw
   go_simp
   try with_reducible rfl
  try simp only [zP]
  refine tH 5 52 ?_ ?_ ?_;rotate_left
  ·intro w hSw
   have q0_0 := hSw.1.cell 0
   have q0_1 := hSw.1.cell 1
   have q0_2 := hSw.1.cell 2
   have q0_3 := hSw.1.cell 3
   have q0_4 := hSw.1.cell 4
   have q0_5 := hSw.1.cell 5
   have q0_6 := hSw.1.cell 6
   have q0_7 := hSw.1.cell 7
   have q0_8 := hSw.1.cell 8
   simp only [zG] at q0_0 q0_1 q0_2 q0_3 q0_4 q0_5 q0_6 q0_7 q0_8
   go_simp
   try with_reducible rfl
  try simp only [zP]
  refine zR 1 fun K hK => ?_
  go_simp
  refine (chsignal_c _).mono ?_
  rintro e w1 ⟨cp, Fc, rfl, hch, hmc, hfc⟩
  refine hK.out _ _ ?_ (fun hHeld => ?_)
  ·exact ⟨hHeld.1.turns hmc (fun h => h), .inr trivial⟩
  clear hK K
  try simp only [zP]
  refine tH 3 50 ?_ ?_ ?_;rotate_left
  ·intro w hSw
   go_simp
   try with_reducible rfl
  try simp only [zP]
  refine zR 6 fun K hK => ?_
  have hnd := HN.out
  go_simp
  try rw [hnd]
  refine (cxadd_c (cp := cp) (wh := when_) (hs := true) (ow := true) (HCW.out.made hmc) HX.out.2.2 hn).mono ?_
  rintro e w2 ⟨rfl, F2, vl2, hcx2, hst2⟩
  refine hK.out _ _ ?_ (fun hHeld => ?_)
  ·exact ⟨hHeld.1.turns hst2.t (fun h => by have h8 := HA.out.fb _ h; omega), .inr trivial⟩
  clear hK K
  try simp only [zP]
  refine tH 7 13 ?_ ?_ ?_;rotate_left
  ·intro w hSw
   go_simp
   try with_reducible rfl
  try simp only [zP]
  refine wpAnyH_done (by kernel_rfl) ?_ _
  have hln2 : (cs ++ [(⟨(n0 : Int) + 1, false, some cp, 0, 0, when_, true, true, -1⟩ : Cx)]).length = n0 + 2 := by
   rw [List.length_append, HX.out.2.2]
   rfl
  have hx' : (cs ++ [(⟨(n0 : Int) + 1, false, some cp, 0, 0, when_, true, true, -1⟩ : Cx)])[n0]? = some ⟨nd, fr, cc, er, ca, wh, false, ow, tm⟩ := by
   rw [List.getElem?_append_left (by rw [HX.out.2.2]; omega)]
   exact HX.out.1
  have hxn : (cs ++ [(⟨(n0 : Int) + 1, false, some cp, 0, 0, when_, true, true, -1⟩ : Cx)])[n0 + 1]? = some ⟨(n0 : Int) + 1, false, some cp, 0, 0, when_, true, true, -1⟩ := by
   rw [List.getElem?_append_right (by rw [HX.out.2.2]; omega), HX.out.2.2, Nat.sub_self]
   rfl
  have HBG := zh (cxbegin_c ((n0 : Int) + 1) hcx2 hx' HX.out.2.1 (by rw [hln2]; omega))
  have hmw : Made w w1 := (HM8.out.drew).trans hmc
  have hst3 := (Stp.made (F := F) hmw).trans hst2
  have hsw := hmw.size
  have hff : ∀ k, Fc k → w.heap.size ≤ k := fun k hk => by have h1 := hfc k hk; have h3 := HM8.out.size; have h4 : W.drew.heap.size = W.heap.size := rfl; omega
  have hch2 := hch.turns hst2.t (fun k hk hF => by have h1 := hff k hk; have h2 := HA.out.fb k hF; omega)
  have hT2 := HTT.out.1.turns hst3.t (fun k hk hF => HTT.out.2.1 k hF hk)
  have hd2 : ∀ k, F2 k → ¬ FT k := fun k hk hF => by
   rcases hst3.f k hk with h1 | h1
   ·exact HTT.out.2.1 k h1 hF
   ·have := HTT.out.1.fb k hF
    omega
  have hcf : ∀ k, Fc k → ¬ F2 k := fun k hk hF => by
   rcases hst2.f k hF with h1 | h1
   ·have h2 := HA.out.fb k h1
    have h3 := hff k hk
    omega
   ·have h3 := hch.fb k hk
    omega
  have HR := zh (And.intro hcx2 (And.intro hch2 (And.intro hst3 (And.intro hff (And.intro hcf (And.intro hd2 (And.intro hT2 (And.intro hln2 hxn))))))))
  clear hHeld hch hmc hfc hcx2 hst2 hx' hmw hst3 hch2 hT2 hd2 hff hcf hsw hln2 hxn
  go_wp2_with fail
  refine HBG.out.mono ?_
  rintro e w3 ⟨rfl, hm3⟩
  have HM3 := zh hm3
  have HLA := zh (tslapse_c (id := (n0 : Int) + 1) (HR.out.2.2.2.2.2.2.1.made hm3) HTT.out.2.2.1 HTT.out.2.2.2.1 HTT.out.2.2.2.2 (by omega) HLE.out.1 HLE.out.2)
  obtain ⟨g5, c5, -, -, q50, -, -, -, -, -⟩ := cx_row2 (HR.out.1.made hm3) HR.out.2.2.2.2.2.2.2.2
  clear hm3
  go_wp2_with fail
  refine HLA.out.mono ?_
  rintro e w4 ⟨rfl, FT', hT4, hs4⟩
  have hcx4 := (HR.out.1.made HM3.out).turns hs4.t HR.out.2.2.2.2.2.1
  obtain ⟨g6, c6, rfl, q62, q60, h6c, h6f, h6g, h6q, h6n⟩ := cx_row2 hcx4 HR.out.2.2.2.2.2.2.2.2
  have r8 := h6c 8 _ rfl
  have f8 := h6f ((n0 + 1) * 9 + 8)
  rw [HR.out.2.2.2.2.2.2.2.1] at q62
  have hput := hcx4.put (x' := ⟨(n0 : Int) + 1, false, some cp, 0, 0, when_, true, true, ts.length⟩) HR.out.2.2.2.2.2.2.2.2 (j := 8) (u := .int .i64 ts.length) rfl (by omega) rfl
  rw [show (cs ++ [(⟨(n0 : Int) + 1, false, some cp, 0, 0, when_, true, true, -1⟩ : Cx)]).set (n0 + 1) (⟨(n0 : Int) + 1, false, some cp, 0, 0, when_, true, true, ts.length⟩ : Cx) = cs ++ [(⟨(n0 : Int) + 1, false, some cp, 0, 0, when_, true, true, ts.length⟩ : Cx)] from by
   rw [List.set_append_right _ _ (by rw [HX.out.2.2]; omega), HX.out.2.2, Nat.sub_self]
   rfl] at hput
  have HP := zh (And.intro hput (And.intro hT4 (And.intro hs4 (And.intro h6g h6n))))
  clear hput hT4 hs4 h6c h6f h6g h6q h6n hcx4 q50 q60
  have l1 : (0 : Int) ≤ (n0 : Int) + 1 := by omega
  have l2 : (n0 : Int) + 1 < ((n0 + 2 : Nat) : Int) := by omega
  have l3 : n0 + 1 < n0 + 2 := by omega
  have l4 : ((n0 : Int) + 1).toNat = n0 + 1 := by omega
  go_wp2_with fail
  go_returns
  obtain ⟨hput, hT4, hs4, h6g, h6n⟩ := HP.out
  obtain ⟨hcx2, hch2, hst3, hff, hcf, hd2, hT2, hln2, hxn⟩ := HR.out
  have hm3 := HM3.out
  have hz := hst3.t.size
  have hz3 := hm3.size
  have hcft : ∀ k, Fc k → ¬ FT k := fun k hk hF => by have h1 := hff k hk; have h2 := HTT.out.1.fb k hF; omega
  have hd4 : ∀ k, F2 k → ¬ FT' k := fun k hk hF => by
   rcases hs4.f k hF with h1 | h1
   ·exact hd2 k hk h1
   ·have h2 := hcx2.fb k hk
    omega
  have hc4 : ∀ k, Fc k → ¬ FT' k := fun k hk hF => by
   rcases hs4.f k hF with h1 | h1
   ·exact hcft k hk h1
   ·have h2 := hch2.fb k hk
    omega
  exact ⟨cp, Fc, F2, FT', _, rfl, ⟨hput.1, hT4.turns hput.2 (fun k hk hF => hd4 k hF hk), ((hch2.made hm3).turns hs4.t hcft).turns hput.2 hcf, (((hst3.t.mono (fun _ _ h => .inl h)).then hm3 (fun _ _ h => h.elim)).then hs4.t (fun _ _ h => .inr h)).then hput.2 (fun k hk h => (hst3.f k h).imp id (fun h1 => by omega)), hst3.f, fun k hk => (hs4.f k hk).imp id (fun h1 => by omega), hff, hd4, hcf, hc4⟩⟩
 case true =>
  have hlt : ¬ wh ≤ when_ := by have := hno rfl; omega
  clear hno
  have HB8 := zh (Blk.new w 106 #[.int .i64 nd, .bool fr, .pointer (pt cc), .int .i64 er, .int .i64 ca, .int .i64 wh, .bool true, .bool ow, .int .i64 tm])
  have HM8 := zh ((zT w).alloc (.cells #[.int .i64 nd, .bool fr, .pointer (pt cc), .int .i64 er, .int .i64 ca, .int .i64 wh, .bool true, .bool ow, .int .i64 tm] 106))
  go_enter Tryz.func138, Tryz.ntmps138
  go_wp2_with fail
  refine HH.out.mono ?_
  rintro e w1 ⟨rfl, rfl⟩
  go_wp2_with fail
  refine (HAD.out _).mono ?_
  rintro e w1 ⟨rfl, rfl⟩
  rw [HAZ.out]
  go_upto_region 8 with (first | (refine wpList_load_at (o := ⟨some 32, .load 106 (.tmp 31), _, _, _, _⟩) rfl _ _ rfl g (n0 * 9) rfl ([.int .i64 nd, .bool fr, .pointer (pt cc), .int .i64 er, .int .i64 ca, .int .i64 wh, .bool true, .bool ow, .int .i64 tm]) _ HC.out Tryz.underlying106 rfl Tryz.sizeCx ?_) | fail)
  generalize w.alloc (.cells #[.int .i64 nd, .bool fr, .pointer (pt cc), .int .i64 er, .int .i64 ca, .int .i64 wh, .bool true, .bool ow, .int .i64 tm] 106) = W at *
  have hcw := (HA.out.made HM8.out).made (zT W).drew
  have HCW := zh hcw
  clear hcw q2
  refine wp_region_held_drew (S := fun w' => Blk w' (w.heap.size) 106 #[.int .i64 nd, .bool fr, .pointer (pt cc), .int .i64 er, .int .i64 ca, .int .i64 wh, .bool true, .bool ow, .int .i64 tm] ∧ (w' = W.drew ∨ True)) (by kernel_rfl) ?_ (fun hHeld => ?_)
  ·exact ⟨HB8.out, .inr trivial⟩
  refine tH 0 47 ?_ ?_ ?_;rotate_left
  ·intro w hSw
   go_simp
   try with_reducible rfl
  try simp only [zP]
  refine tH 2 49 ?_ ?_ ?_;rotate_left
  ·intro w hSw
   go_simp
   try with_reducible rfl
  try simp only [zP]
  refine tH 4 51 ?_ ?_ ?_;rotate_left
  ·intro w hSw
   go_simp
   try with_reducible rfl
  try simp only [zP]
  refine tH 5 52 ?_ ?_ ?_;rotate_left
  ·intro w hSw
   have q0_0 := hSw.1.cell 0
   have q0_1 := hSw.1.cell 1
   have q0_2 := hSw.1.cell 2
   have q0_3 := hSw.1.cell 3
   have q0_4 := hSw.1.cell 4
   have q0_5 := hSw.1.cell 5
   have q0_6 := hSw.1.cell 6
   have q0_7 := hSw.1.cell 7
   have q0_8 := hSw.1.cell 8
   simp only [zG] at q0_0 q0_1 q0_2 q0_3 q0_4 q0_5 q0_6 q0_7 q0_8
   go_simp
   try with_reducible rfl
  try simp only [zP]
  refine zR 1 fun K hK => ?_
  go_simp
  refine (chsignal_c _).mono ?_
  rintro e w1 ⟨cp, Fc, rfl, hch, hmc, hfc⟩
  refine hK.out _ _ ?_ (fun hHeld => ?_)
  ·exact ⟨hHeld.1.turns hmc (fun h => h), .inr trivial⟩
  clear hK K
  try simp only [zP]
  refine tH 3 50 ?_ ?_ ?_;rotate_left
  ·intro w hSw
   go_simp
   try with_reducible rfl
  try simp only [zP]
  refine zR 6 fun K hK => ?_
  have hnd := HN.out
  go_simp
  try rw [hnd]
  refine (cxadd_c (cp := cp) (wh := when_) (hs := true) (ow := true) (HCW.out.made hmc) HX.out.2.2 hn).mono ?_
  rintro e w2 ⟨rfl, F2, vl2, hcx2, hst2⟩
  refine hK.out _ _ ?_ (fun hHeld => ?_)
  ·exact ⟨hHeld.1.turns hst2.t (fun h => by have h8 := HA.out.fb _ h; omega), .inr trivial⟩
  clear hK K
  try simp only [zP]
  refine tH 7 13 ?_ ?_ ?_;rotate_left
  ·intro w hSw
   go_simp
   try with_reducible rfl
  try simp only [zP]
  refine wpAnyH_done (by kernel_rfl) ?_ _
  have hln2 : (cs ++ [(⟨(n0 : Int) + 1, false, some cp, 0, 0, when_, true, true, -1⟩ : Cx)]).length = n0 + 2 := by
   rw [List.length_append, HX.out.2.2]
   rfl
  have hx' : (cs ++ [(⟨(n0 : Int) + 1, false, some cp, 0, 0, when_, true, true, -1⟩ : Cx)])[n0]? = some ⟨nd, fr, cc, er, ca, wh, true, ow, tm⟩ := by
   rw [List.getElem?_append_left (by rw [HX.out.2.2]; omega)]
   exact HX.out.1
  have hxn : (cs ++ [(⟨(n0 : Int) + 1, false, some cp, 0, 0, when_, true, true, -1⟩ : Cx)])[n0 + 1]? = some ⟨(n0 : Int) + 1, false, some cp, 0, 0, when_, true, true, -1⟩ := by
   rw [List.getElem?_append_right (by rw [HX.out.2.2]; omega), HX.out.2.2, Nat.sub_self]
   rfl
  have HBG := zh (cxbegin_c ((n0 : Int) + 1) hcx2 hx' HX.out.2.1 (by rw [hln2]; omega))
  have hmw : Made w w1 := (HM8.out.drew).trans hmc
  have hst3 := (Stp.made (F := F) hmw).trans hst2
  have hsw := hmw.size
  have hff : ∀ k, Fc k → w.heap.size ≤ k := fun k hk => by have h1 := hfc k hk; have h3 := HM8.out.size; have h4 : W.drew.heap.size = W.heap.size := rfl; omega
  have hch2 := hch.turns hst2.t (fun k hk hF => by have h1 := hff k hk; have h2 := HA.out.fb k hF; omega)
  have hT2 := HTT.out.1.turns hst3.t (fun k hk hF => HTT.out.2.1 k hF hk)
  have hd2 : ∀ k, F2 k → ¬ FT k := fun k hk hF => by
   rcases hst3.f k hk with h1 | h1
   ·exact HTT.out.2.1 k h1 hF
   ·have := HTT.out.1.fb k hF
    omega
  have hcf : ∀ k, Fc k → ¬ F2 k := fun k hk hF => by
   rcases hst2.f k hF with h1 | h1
   ·have h2 := HA.out.fb k h1
    have h3 := hff k hk
    omega
   ·have h3 := hch.fb k hk
    omega
  have HR := zh (And.intro hcx2 (And.intro hch2 (And.intro hst3 (And.intro hff (And.intro hcf (And.intro hd2 (And.intro hT2 (And.intro hln2 hxn))))))))
  clear hHeld hch hmc hfc hcx2 hst2 hx' hmw hst3 hch2 hT2 hd2 hff hcf hsw hln2 hxn
  go_wp2_with fail
  refine HBG.out.mono ?_
  rintro e w3 ⟨rfl, hm3⟩
  have HM3 := zh hm3
  have HLA := zh (tslapse_c (id := (n0 : Int) + 1) (HR.out.2.2.2.2.2.2.1.made hm3) HTT.out.2.2.1 HTT.out.2.2.2.1 HTT.out.2.2.2.2 (by omega) HLE.out.1 HLE.out.2)
  obtain ⟨g5, c5, -, -, q50, -, -, -, -, -⟩ := cx_row2 (HR.out.1.made hm3) HR.out.2.2.2.2.2.2.2.2
  clear hm3
  go_wp2_with fail
  refine HLA.out.mono ?_
  rintro e w4 ⟨rfl, FT', hT4, hs4⟩
  have hcx4 := (HR.out.1.made HM3.out).turns hs4.t HR.out.2.2.2.2.2.1
  obtain ⟨g6, c6, rfl, q62, q60, h6c, h6f, h6g, h6q, h6n⟩ := cx_row2 hcx4 HR.out.2.2.2.2.2.2.2.2
  have r8 := h6c 8 _ rfl
  have f8 := h6f ((n0 + 1) * 9 + 8)
  rw [HR.out.2.2.2.2.2.2.2.1] at q62
  have hput := hcx4.put (x' := ⟨(n0 : Int) + 1, false, some cp, 0, 0, when_, true, true, ts.length⟩) HR.out.2.2.2.2.2.2.2.2 (j := 8) (u := .int .i64 ts.length) rfl (by omega) rfl
  rw [show (cs ++ [(⟨(n0 : Int) + 1, false, some cp, 0, 0, when_, true, true, -1⟩ : Cx)]).set (n0 + 1) (⟨(n0 : Int) + 1, false, some cp, 0, 0, when_, true, true, ts.length⟩ : Cx) = cs ++ [(⟨(n0 : Int) + 1, false, some cp, 0, 0, when_, true, true, ts.length⟩ : Cx)] from by
   rw [List.set_append_right _ _ (by rw [HX.out.2.2]; omega), HX.out.2.2, Nat.sub_self]
   rfl] at hput
  have HP := zh (And.intro hput (And.intro hT4 (And.intro hs4 (And.intro h6g h6n))))
  clear hput hT4 hs4 h6c h6f h6g h6q h6n hcx4 q50 q60
  have l1 : (0 : Int) ≤ (n0 : Int) + 1 := by omega
  have l2 : (n0 : Int) + 1 < ((n0 + 2 : Nat) : Int) := by omega
  have l3 : n0 + 1 < n0 + 2 := by omega
  have l4 : ((n0 : Int) + 1).toNat = n0 + 1 := by omega
  go_wp2_with fail
  go_returns
  obtain ⟨hput, hT4, hs4, h6g, h6n⟩ := HP.out
  obtain ⟨hcx2, hch2, hst3, hff, hcf, hd2, hT2, hln2, hxn⟩ := HR.out
  have hm3 := HM3.out
  have hz := hst3.t.size
  have hz3 := hm3.size
  have hcft : ∀ k, Fc k → ¬ FT k := fun k hk hF => by have h1 := hff k hk; have h2 := HTT.out.1.fb k hF; omega
  have hd4 : ∀ k, F2 k → ¬ FT' k := fun k hk hF => by
   rcases hs4.f k hF with h1 | h1
   ·exact hd2 k hk h1
   ·have h2 := hcx2.fb k hk
    omega
  have hc4 : ∀ k, Fc k → ¬ FT' k := fun k hk hF => by
   rcases hs4.f k hF with h1 | h1
   ·exact hcft k hk h1
   ·have h2 := hch2.fb k hk
    omega
  exact ⟨cp, Fc, F2, FT', _, rfl, ⟨hput.1, hT4.turns hput.2 (fun k hk hF => hd4 k hF hk), ((hch2.made hm3).turns hs4.t hcft).turns hput.2 hcf, (((hst3.t.mono (fun _ _ h => .inl h)).then hm3 (fun _ _ h => h.elim)).then hs4.t (fun _ _ h => .inr h)).then hput.2 (fun k hk h => (hst3.f k h).imp id (fun h1 => by omega)), hst3.f, fun k hk => (hs4.f k hk).imp id (fun h1 => by omega), hff, hd4, hcf, hc4⟩⟩
section
variable {CX CX' : World → (Nat → Prop) → Prop} {w w' : World} {b : Wp} {o o' : Nat → Nat} {ps : List (List Ins)} {s : Wst} {vp vc vl ve : Value}
theorem WAt.stepCX (h : WAt CX w b o ps s vp vc vl ve) {F' : Nat → Prop} (ha : CX' w' F') (hb : ∀ k, F' k → k < w'.heap.size) (hs : Stp w w' (fun k => o k = 6) F') : ∃ o', WAt CX' w' b o' ps s vp vc vl ve ∧ (fun k => o' k = 6) = F' ∧ Stp w w' (Own o) (Own o') := by
 obtain ⟨o', hlt, e, hne, hst⟩ := relabel h.lt (by omega) hs hb
 obtain ⟨ds, hd1, hd2⟩ := h.dls
 obtain ⟨ls, hl1, hl2⟩ := h.lrow
 exact ⟨o', { lt := hlt, cnd := h.cnd, blk := h.blk.turns hs.t (by rw [h.ob]; omega), ob := lab_is (hne 1 (by omega) (by omega)) h.ob, clk := h.clk.turns hs.t (by rw [h.ok]; omega), ok := lab_is (hne 2 (by omega) (by omega)) h.ok, tab := by rw [hne 3 (by omega) (by omega)]; exact h.tab.turns hs.t (fun k hk => by rw [hk]; omega), tms := by rw [hne 4 (by omega) (by omega)]; exact h.tms.turns hs.t (fun k hk => by rw [hk]; omega), dls := ⟨ds, hd1, by rw [hne 5 (by omega) (by omega)]; exact hd2.turns hs.t (fun k hk => by rw [hk]; omega)⟩, ctx := by rw [e]; exact ha, prs := h.prs.turns hs.t (fun k hk => by rw [hk]; omega) (fun k hk => lab_is (hne 7 (by omega) (by omega)) hk), crow := h.crow.turns hs.t (fun k hk => by rw [(h.co k).1 hk]; omega), co := fun k => (h.co k).trans (iff_of_eq (congrFun (hne 8 (by omega) (by omega)) k)).symm, lrow := ⟨ls, hl1, hl2.turns hs.t (fun k hk => by rw [(h.lo k).1 hk]; omega)⟩, lo := fun k => (h.lo k).trans (iff_of_eq (congrFun (hne 9 (by omega) (by omega)) k)).symm, erow := h.erow.turns hs.t (fun k hk => by rw [(h.eo k).1 hk]; omega), eo := fun k => (h.eo k).trans (iff_of_eq (congrFun (hne 10 (by omega) (by omega)) k)).symm, chn := fun p c hp => by rw [hne (16 + p) (by omega) (by omega)]; exact (h.chn p c hp).turns hs.t (fun k hk => by rw [hk]; omega) }, e, hst⟩
theorem WAt.addCh (h : WAt CX w b o ps s vp vc vl ve) {p : Nat} {Fc : Nat → Prop} {c : Chn} (hc : ChAt w p Fc c) (hd : ∀ k, Fc k → ¬ Own o k) : ∃ o', WAt CX w b o' ps s vp vc vl ve ∧ (fun k => o' k = 16 + p) = Fc ∧ (∀ k, Own o' k → Own o k ∨ Fc k) ∧ p ∉ s.chs.map Prod.fst := by
 have hnp : p ∉ s.chs.map Prod.fst := fun hp => by
  obtain ⟨⟨p2, c2⟩, h2, rfl⟩ := List.mem_map.1 hp
  have h9 : o p2 = 16 + p2 := (h.chn p2 c2 h2).self
  exact hd p2 hc.self (by show o p2 ≠ 0; omega)
 classical
 obtain ⟨o', ho⟩ : ∃ o' : Nat → Nat, ∀ k, o' k = if Fc k then 16 + p else if o k = 16 + p then 0 else o k := ⟨_, fun _ => rfl⟩
 have e : (fun k => o' k = 16 + p) = Fc := by
  funext k
  refine propext ⟨fun h1 => ?_, fun h1 => by rw [ho, if_pos h1]⟩
  rw [ho] at h1
  by_cases hf : Fc k
  ·exact hf
  ·rw [if_neg hf] at h1
   by_cases h2 : o k = 16 + p
   ·rw [if_pos h2] at h1
    omega
   ·rw [if_neg h2] at h1
    exact absurd h1 h2
 have hne : ∀ j, j ≠ 0 → j ≠ 16 + p → (fun k => o' k = j) = fun k => o k = j := fun j h0 h1 => by
  funext k
  refine propext ?_
  rw [ho]
  by_cases hf : Fc k
  ·have h2 : o k = 0 := by
    rcases Nat.eq_zero_or_pos (o k) with h3 | h3
    ·exact h3
    ·exact absurd (show o k ≠ 0 by omega) (hd k hf)
   rw [if_pos hf]
   omega
  ·rw [if_neg hf]
   by_cases h2 : o k = 16 + p
   ·rw [if_pos h2]
    omega
   ·rw [if_neg h2]
 have hown : ∀ k, Own o' k → Own o k ∨ Fc k := fun k hk => by
  by_cases hf : Fc k
  ·exact .inr hf
  ·refine .inl ?_
   show o k ≠ 0
   have h1 : o' k ≠ 0 := hk
   rw [ho, if_neg hf] at h1
   by_cases h2 : o k = 16 + p
   ·omega
   ·rwa [if_neg h2] at h1
 obtain ⟨ds, hd1, hd2⟩ := h.dls
 obtain ⟨ls, hl1, hl2⟩ := h.lrow
 refine ⟨o', { lt := fun k hk => (hown k hk).elim (h.lt k) (hc.fb k), cnd := h.cnd, chn := fun p2 c2 hp2 => ?_, blk := h.blk, ob := lab_is (hne 1 (by omega) (by omega)) h.ob, clk := h.clk, ok := lab_is (hne 2 (by omega) (by omega)) h.ok, tab := by rw [hne 3 (by omega) (by omega)]; exact h.tab, tms := by rw [hne 4 (by omega) (by omega)]; exact h.tms, dls := ⟨ds, hd1, by rw [hne 5 (by omega) (by omega)]; exact hd2⟩, ctx := by rw [hne 6 (by omega) (by omega)]; exact h.ctx, prs := h.prs.turns (zT w) (fun _ _ h => h) (fun k hk => lab_is (hne 7 (by omega) (by omega)) hk), crow := h.crow, co := fun k => (h.co k).trans (iff_of_eq (congrFun (hne 8 (by omega) (by omega)) k)).symm, lrow := ⟨ls, hl1, hl2⟩, lo := fun k => (h.lo k).trans (iff_of_eq (congrFun (hne 9 (by omega) (by omega)) k)).symm, erow := h.erow, eo := fun k => (h.eo k).trans (iff_of_eq (congrFun (hne 10 (by omega) (by omega)) k)).symm }, e, hown, hnp⟩
 have hpp : p2 ≠ p := fun e => hnp (by rw [← e]; exact List.mem_map.2 ⟨_, hp2, rfl⟩)
 rw [hne (16 + p2) (by omega) (by omega)]
 exact h.chn p2 c2 hp2
end
theorem chEnd_c {w : World} {p : Nat} {F : Nat → Prop} {t rm : Bool} {v : Option Int} {l : List Wt} (h : ChAt w p F ⟨t, true, false, rm, v, l⟩) (hnd : (l.map Wt.task).Nodup) (hn : l.length ≤ 900) :
  Calls Tryz.prog 155 #[.pointer (some ⟨p, 0, none⟩)] w fun e w' => ∃ a F' cap, e = .returned (.slice a l.length cap) ∧ WkRow w w' F' a (l.map clW) ∧ ChAt w' p F' ⟨t, true, true, rm, v, []⟩ ∧ Stp w w' F F' := by
 have HEN := zh (chend_c h hnd hn)
 have c4 : w.cell? ⟨p, 4, none⟩ = some (.bool true) := by obtain ⟨r, q1, q2, lb, h1, _⟩ := h; exact h1.blk.cell 4
 have c5 : w.cell? ⟨p, 5, none⟩ = some (.bool false) := by obtain ⟨r, q1, q2, lb, h1, _⟩ := h; exact h1.blk.cell 5
 clear h hnd hn
 go_enter Tryz.func155, Tryz.ntmps155
 go_wp2_with fail
 refine HEN.out.mono ?_
 rintro e w2 ⟨a, F', cap, rfl, h1, h2, h3⟩
 have HE := zh (And.intro h1 (And.intro h2 h3))
 clear h1 h2 h3 c5 c4
 go_wp2_with fail
 go_returns
 exact ⟨a, F', cap, rfl, HE.out.1, HE.out.2.1, HE.out.2.2⟩
structure Lp where
 id : Int
 err : Int
 cause : Int
 row : Option Addr × Nat × Nat
def lpC (x : Lp) : List Value := [.int .i64 x.id, .int .i64 x.err, .int .i64 x.cause, .slice x.row.1 x.row.2.1 x.row.2.2]
theorem lpC_len (x : Lp) : (lpC x).length = 4 := rfl
theorem lpC_one (x : Lp) : ∀ u ∈ lpC x, u.oneCell' = true := by
 intro u hu
 simp only [lpC, List.mem_cons, List.not_mem_nil, or_false] at hu
 rcases hu with rfl | rfl | rfl | rfl <;> rfl
theorem Tryz.infoLp : (Tryz.prog.info? 199).map (fun i => (i.zero, i.size, i.bytes)) = some (some (.agg #[.int .i64 0, .int .i64 0, .int .i64 0, .slice none 0 0]), 4, 48) := by kernel_rfl
theorem cx_tree {w : World} {q pm cut : Nat} {F : Nat → Prop} {vl : Value} {cs : List Cx} (h : CtxAt w q pm F vl cs cut) : ∃ tr m FT, w.cell? ⟨q, 1, none⟩ = some (.pointer (some ⟨tr, 0, none⟩)) ∧ w.cell? ⟨q, 4, none⟩ = some (.map (some m)) ∧ MapI w m (fun j => if 0 ≤ j ∧ j < cs.length then some (.int .i64 j) else none) ∧ TrAt w tr FT cs.length cut ∧ (∀ k, FT k → F k) ∧ F m ∧ ∀ w' F' cut', TrAt w' tr F' cs.length cut' → Stp w w' FT F' → ∃ FF, CtxAt w' q pm FF vl cs cut' ∧ Stp w w' F FF := by
 obtain ⟨tr, m, lb, h, hl⟩ := h
 have q1 := h.blk.cell 1
 have q4 := h.blk.cell 4
 simp only [zG] at q1 q4
 refine ⟨tr, m, fun k => lb k = 2, q1, q4, h.mp, h.tree, fun k hk => (hl.on k).2 (by rw [hk]; omega), (hl.on m).2 (by rw [h.lm]; omega), fun w' F' cut' ht hs => ?_⟩
 obtain ⟨lb', FF, hl', e, hne, hst⟩ := hl.step 2 (by omega) hs ht.fb
 refine ⟨FF, ⟨tr, m, lb', ⟨h.blk.turns hs.t (by rw [h.lq]; omega), lab_is (hne 1 (by omega) (by omega)) h.lq, by rw [e]; exact ht, h.mp.turns hs.t (by rw [h.lm]; omega), lab_is (hne 3 (by omega) (by omega)) h.lm, h.own.turns hs.t (fun k hk => by rw [(h.lv k).1 hk]; omega), fun k => (h.lv k).trans (iff_of_eq (congrFun (hne 4 (by omega) (by omega)) k)).symm, h.node⟩, hl'⟩, hst⟩
structure Cd where
 x : Cx
 ci : Nat
 q : Nat × Chn
def canT (t : Int) (L : List It) : List It := if 0 ≤ t then delL t L else L
def canX (err cause : Int) (x : Cx) : Cx := ⟨x.node, x.free, x.c, err, cause, x.when, x.has, x.own, x.timer⟩
def can1 (s : Wst) (d : Cd) : Wst := { s with chs := s.chs.set d.ci (d.q.1, ⟨d.q.2.timed, true, true, d.q.2.room, d.q.2.val, []⟩), L := canT d.x.timer s.L }
def canS : List Cd → Wst → Wst
 | [], s => s
 | d :: D, s => canS D (can1 s d)
def canK (err cause : Int) : List Cd → Nat → List Cx → List Cx
 | [], _, cs => cs
 | d :: D, m, cs => canK err cause D (m + 1) (cs.set m (canX err cause d.x))
def canO : List Cd → Nat → List (Nat × List Wk)
 | [], _ => []
 | d :: D, m => (m, d.q.2.recvs.map clW) :: canO D (m + 1)
structure CanOK1 (d : Cd) (m : Nat) (s : Wst) (cs : List Cx) : Prop where
 x : cs[m]? = some d.x
 q : s.chs[d.ci]? = some d.q
 c : d.x.c = some d.q.1
 free : d.x.free = false
 err : d.x.err = 0
 sig : d.q.2.signal = true
 cl : d.q.2.closed = false
 nd : (d.q.2.recvs.map Wt.task).Nodup
 le : d.q.2.recvs.length ≤ 50
 tm : d.x.timer = -1 ∨ ∃ (i : Nat) (kd dt : Int), d.x.timer = i ∧ s.tms[i]? = some ⟨kd, dt, none⟩
def CanOK (err cause : Int) : List Cd → Nat → Wst → List Cx → Prop
 | [], _, _, _ => True
 | d :: D, m, s, cs => CanOK1 d m s cs ∧ CanOK err cause D (m + 1) (can1 s d) (cs.set m (canX err cause d.x))
theorem canO_len : ∀ (D : List Cd) (m : Nat), (canO D m).length = D.length
 | [], _ => rfl
 | d :: D, m => by show (canO D (m + 1)).length + 1 = _; rw [canO_len D, List.length_cons]
theorem canK_len (err cause : Int) : ∀ (D : List Cd) (m : Nat) (cs : List Cx), (canK err cause D m cs).length = cs.length
 | [], _, _ => rfl
 | d :: D, m, cs => by show (canK err cause D (m + 1) (cs.set m _)).length = _; rw [canK_len err cause D, List.length_set]
theorem canK_low (err cause : Int) : ∀ (D : List Cd) (m : Nat) (cs : List Cx) (i : Nat), i < m → (canK err cause D m cs)[i]? = cs[i]?
 | [], _, _, _, _ => rfl
 | d :: D, m, cs, i, h => by
  show (canK err cause D (m + 1) (cs.set m _))[i]? = _
  rw [canK_low err cause D (m + 1) _ i (by omega), List.getElem?_set_ne (by omega)]
structure LpOne (w : World) (o : Nat → Nat) (err cause : Int) (x : Lp) (y : Nat × List Wk) : Prop where
 id : x.id = y.1
 err : x.err = err
 cause : x.cause = cause
 row : x.row.2.1 = y.2.length ∧ RowIn wkC 5 w x.row.1 y.2.length y.2
 far : y.2 = [] ∨ ∀ b off, x.row.1 = some ⟨b, off, none⟩ → ¬ Own o b ∧ b < w.heap.size
def LpOut (w : World) (o : Nat → Nat) (err cause : Int) (v : Value) (ys : List (Nat × List Wk)) : Prop := ∃ ls : List Lp, ls.length = ys.length ∧ Owns lpC 199 4 w v ls ∧ (∀ k, v.ownBlock = some k → ¬ Own o k) ∧ ∀ (i : Nat) (x : Lp) (y : Nat × List Wk), ls[i]? = some x → ys[i]? = some y → LpOne w o err cause x y
theorem row_nil {w w' : World} {a : Option Addr} {l : List Wk} (h : RowIn wkC 5 w a l.length l) (h0 : l = []) : RowIn wkC 5 w' a l.length l := by
 subst h0
 exact ⟨rfl, .inl (Nat.le_refl _)⟩
theorem LpOne.step {w w' : World} {o o' : Nat → Nat} {err cause : Int} {x : Lp} {y : Nat × List Wk} (h : LpOne w o err cause x y) (hs : Stp w w' (Own o) (Own o')) : LpOne w' o' err cause x y := by
 rcases h.far with h0 | hf
 ·exact ⟨h.id, h.err, h.cause, ⟨h.row.1, row_nil h.row.2 h0⟩, .inl h0⟩
 ·exact ⟨h.id, h.err, h.cause, ⟨h.row.1, h.row.2.turns hs.t (fun b off e => (hf b off e).1)⟩, .inr fun b off e => ⟨fun hk => by
   rcases hs.f b hk with h1 | h1
   ·exact (hf b off e).1 h1
   ·have := (hf b off e).2
    omega, Nat.lt_of_lt_of_le (hf b off e).2 hs.t.size⟩⟩
theorem LpOne.made {w w' : World} {o : Nat → Nat} {err cause : Int} {x : Lp} {y : Nat × List Wk} (h : LpOne w o err cause x y) (hm : Made w w') : LpOne w' o err cause x y := h.step (Stp.made hm)
theorem LpOut.step {w w' : World} {o o' : Nat → Nat} {err cause : Int} {v : Value} {ys : List (Nat × List Wk)} (h : LpOut w o err cause v ys) (hs : Stp w w' (Own o) (Own o')) : LpOut w' o' err cause v ys := by
 obtain ⟨ls, h1, h2, h3, h4⟩ := h
 refine ⟨ls, h1, h2.turns hs.t (fun k hk => h3 k hk), fun k hk hk2 => ?_, fun i x y hx hy => (h4 i x y hx hy).step hs⟩
 rcases hs.f k hk2 with h5 | h5
 ·exact h3 k hk h5
 ·have := h2.lt hk
  omega
theorem LpOut.made {w w' : World} {o : Nat → Nat} {err cause : Int} {v : Value} {ys : List (Nat × List Wk)} (h : LpOut w o err cause v ys) (hm : Made w w') : LpOut w' o err cause v ys := h.step (Stp.made hm)
theorem LpOut.nil (w : World) (o : Nat → Nat) (err cause : Int) : LpOut w o err cause (.slice none 0 0) [] := ⟨[], rfl, Owns.nil, fun k hk => by (cases hk), fun i x y hx hy => by simp at hx⟩
abbrev CXv (b : Wp) (vl : Value) (cs : List Cx) (cut : Nat) : World → (Nat → Prop) → Prop := fun w F => CtxAt w b.px b.pm F vl cs cut
theorem CXv.ext (b : Wp) (vl : Value) (cs : List Cx) (cut : Nat) : Ext (CXv b vl cs cut) := ⟨fun S w w' F h ht hn => h.turns ht hn⟩
section
variable {P : Program} {ops : Array Oper} {o : Oper} {a : Act} {K : Act → World → Prop} {Q : Exit → Act → World → Prop} {E : Prop} {α : Type} {enc : α → List Value} {T : TypeId} {size : Nat} {w : World} {v : Value} {M N : List α}
theorem step_catgrow (hgd : o.guard = none) (s x : Operand) (t : TypeId) (ho : o.op = .call { callee := .builtin .append, args := #[s, x], argTypes := #[t, t] })
  (i : TypeInfo) (z : Value) (bytes : Nat) (ht : P.underlying t = some (.slice T)) (hi : P.info? T = some i) (hz : i.zero = some z) (hsize : i.size = size) (hby : i.bytes = bytes) (hzs : z.cells.size = size) (hsz : 0 < size)
  (he : ∀ x, (enc x).length = size) (h1 : ∀ x, ∀ u ∈ enc x, u.oneCell' = true) {g n : Nat}
  (hs : a.eval s = .slice (some ⟨g, 0, none⟩) n n) (hg : Owns enc T size w (.slice (some ⟨g, 0, none⟩) n n) M) {xv : Value} (hx : a.eval x = xv) (hsrc : SrcAt enc w xv N) (hN : 0 < N.length) (h63 : M.length + N.length ≤ maxLen) (hbytes : (M.length + N.length) * bytes ≤ 140737488355328)
  (h : ∀ v' w', Owns enc T size w' v' (M ++ N) → Made w w' → (∀ k, v'.ownBlock = some k → w.heap.size ≤ k) → K (a.put o.dst v') w') :
  if Region.wanted o (yielded ops a.tmps) = true then Oper.wp P o a w K Q else E := by
 have hw : Region.wanted o (yielded ops a.tmps) = true := by simp [Region.wanted, hgd]
 rw [if_pos hw]
 have hn : n = M.length := by
  obtain ⟨a', c', hv⟩ := owns_slice hg
  simp only [Value.slice.injEq] at hv
  exact hv.2.1
 subst hn
 rcases hsrc with ⟨rfl, rfl⟩ | ⟨ad, c, rfl, hnews⟩
 ·simp at hN
 ·have hol := hg
  unfold Owns at hol
  have hfl := flat_length he N
  obtain ⟨v', w', hr, h2, h3, _, h5⟩ := run_append_own_at (P := P) w 0 t o.type T i z size bytes ht hi hz hsize hby hzs hsz _ M.length (flat enc M) hol ad N.length c (flat enc N) hfl hnews (fun u hu => by
   unfold flat at hu
   obtain ⟨y, _, hy⟩ := List.mem_flatMap.1 hu
   exact h1 y u hy) h63 hbytes (Nat.zero_le _)
  have h64 : M.length + N.length ≤ 9223372036854775807 := by simp only [maxLen] at h63; omega
  have hr2 := run_append_grow (P := P) w t o.type T i z ht hi hz ⟨g, 0, none⟩ M.length M.length (flat enc M) (by rw [hsize]; exact hol.1) (hol.cells (g := g) rfl) ad N.length c (flat enc N) (by rw [hsize]; exact hfl) hnews (by omega) (by omega) (growslice_fits (by omega) (by rw [hby]; exact hbytes))
  rw [hr2] at hr
  cases hr
  unfold Oper.wp execOp
  simp only [ho, resolve, invoke, builtin, Sem.run_bind, Sem.run_pure, Result.andThen_ok, List.map_toArray, List.map_cons, List.map_nil, hs, hx, hr2]
  refine h _ _ ?_ ((zT w).drew.alloc _) (fun k hk => ?_)
  ·unfold Owns
   rw [flat_append, List.length_append]
   exact h2
  ·simp only [Value.ownBlock, Option.some.injEq] at hk
   omega
theorem step_catnil (hgd : o.guard = none) (s x : Operand) (t : TypeId) (ho : o.op = .call { callee := .builtin .append, args := #[s, x], argTypes := #[t, t] })
  (i : TypeInfo) (ht : P.underlying t = some (.slice T)) (hi : P.info? T = some i) (hs : a.eval s = .slice none 0 0) (hx : a.eval x = .slice none 0 0)
  (h : K (a.put o.dst (.slice none 0 0)) w) :
  if Region.wanted o (yielded ops a.tmps) = true then Oper.wp P o a w K Q else E := by
 have hw : Region.wanted o (yielded ops a.tmps) = true := by simp [Region.wanted, hgd]
 rw [if_pos hw]
 have hr := run_append_nothing (P := P) w t t o.type T i ht hi none 0 0 (Nat.le_refl _) (.slice none 0 0) (by
  refine ⟨.inl ⟨_, ht⟩, fun w' => ?_, ?_, ?_, by simp, by simp⟩
  ·rfl
  ·cases hss : i.size <;> rfl
  ·cases hss : i.size <;> rfl)
 unfold Oper.wp execOp
 simp only [ho, resolve, invoke, builtin, Sem.run_bind, Sem.run_pure, Result.andThen_ok, List.map_toArray, List.map_cons, List.map_nil, hs, hx, hr]
 exact h
theorem wpList_catgrow {rest : List Oper} (hgd : o.guard = none) (s x : Operand) (t : TypeId) (ho : o.op = .call { callee := .builtin .append, args := #[s, x], argTypes := #[t, t] })
  (i : TypeInfo) (z : Value) (bytes : Nat) (ht : P.underlying t = some (.slice T)) (hi : P.info? T = some i) (hz : i.zero = some z) (hsize : i.size = size) (hby : i.bytes = bytes) (hzs : z.cells.size = size) (hsz : 0 < size)
  (he : ∀ x, (enc x).length = size) (h1 : ∀ x, ∀ u ∈ enc x, u.oneCell' = true) {g n : Nat}
  (hs : a.eval s = .slice (some ⟨g, 0, none⟩) n n) (hg : Owns enc T size w (.slice (some ⟨g, 0, none⟩) n n) M) {xv : Value} (hx : a.eval x = xv) (hsrc : SrcAt enc w xv N) (hN : 0 < N.length) (h63 : M.length + N.length ≤ maxLen) (hbytes : (M.length + N.length) * bytes ≤ 140737488355328)
  (h : ∀ v' w', Owns enc T size w' v' (M ++ N) → Made w w' → (∀ k, v'.ownBlock = some k → w.heap.size ≤ k) → wpList P ops Q rest (a.put o.dst v') w') :
  wpList P ops Q (o :: rest) a w := by
 refine wpList_plain hgd fun K hK => ?_
 have h0 := step_catgrow (K := K) (Q := Q) (E := True) (ops := ops) hgd s x t ho i z bytes ht hi hz hsize hby hzs hsz he h1 hs hg hx hsrc hN h63 hbytes (fun v' w' h1 h2 h3 => hK _ _ (h v' w' h1 h2 h3))
 rwa [if_pos (by simp [Region.wanted, hgd])] at h0
theorem wpList_catnil {rest : List Oper} (hgd : o.guard = none) (s x : Operand) (t : TypeId) (ho : o.op = .call { callee := .builtin .append, args := #[s, x], argTypes := #[t, t] })
  (i : TypeInfo) (ht : P.underlying t = some (.slice T)) (hi : P.info? T = some i) (hs : a.eval s = .slice none 0 0) (hx : a.eval x = .slice none 0 0)
  (h : wpList P ops Q rest (a.put o.dst (.slice none 0 0)) w) :
  wpList P ops Q (o :: rest) a w := by
 refine wpList_plain hgd fun K hK => ?_
 have h0 := step_catnil (K := K) (Q := Q) (E := True) (ops := ops) hgd s x t ho i ht hi hs hx (hK _ _ h)
 rwa [if_pos (by simp [Region.wanted, hgd])] at h0
theorem owns_slice' (h : Owns enc T size w v M) : ∃ a n c, v = .slice a n c ∧ n = M.length := by
 obtain ⟨a, c, e⟩ := owns_slice h
 exact ⟨a, _, c, e, rfl⟩
end
section
variable {w w' : World} {q pm i cut g n c : Nat} {F : Nat → Prop} {cs : List Cx} {x x' : Cx}
theorem cx_row3 (h : CtxAt w q pm F (.slice (some ⟨g, 0, none⟩) n c) cs cut) (hx : cs[i]? = some x) : n = cs.length ∧ w.cell? ⟨q, 2, none⟩ = some (.slice (some ⟨g, 0, none⟩) n c) ∧ w.cell? ⟨q, 0, none⟩ = some (.pointer (some ⟨pm, 0, none⟩)) ∧ (∀ j u, (cxC x)[j]? = some u → w.cell? ⟨g, i * 9 + j, none⟩ = some u) ∧ (∀ n, w.frozen? ⟨g, n, none⟩ = false) ∧ F g ∧ F q ∧ q ≠ g := by
 obtain ⟨g2, c2, e, h1, h2, h3, h4, h5, h6, h7⟩ := cx_row2 h hx
 simp only [Value.slice.injEq, Option.some.injEq, Addr.mk.injEq, and_true] at e
 obtain ⟨rfl, rfl, rfl⟩ := e
 exact ⟨rfl, h1, h2, h3, h4, h5, h6, h7⟩
theorem CtxAt.put' {j : Nat} {u : Value} (h : CtxAt w q pm F (.slice (some ⟨g, 0, none⟩) n c) cs cut) (hx : cs[i]? = some x) (hu : cxC x' = (cxC x).set j u) (hj : j < 9) (hnd : x'.node = x.node) : CtxAt (w.setCell ⟨g, i * 9 + j, none⟩ u) q pm F (.slice (some ⟨g, 0, none⟩) n c) (cs.set i x') cut ∧ Turns F w (w.setCell ⟨g, i * 9 + j, none⟩ u) := by
 obtain ⟨rfl, -⟩ := cx_row3 h hx
 exact h.put hx hu hj hnd
theorem CtxAt.put2 {err cause : Int} (h : CtxAt w q pm F (.slice (some ⟨g, 0, none⟩) n c) cs cut) (hx : cs[i]? = some x) : CtxAt ((w.setCell ⟨g, i * 9 + 3, none⟩ (.int .i64 err)).setCell ⟨g, i * 9 + 4, none⟩ (.int .i64 cause)) q pm F (.slice (some ⟨g, 0, none⟩) n c) (cs.set i (canX err cause x)) cut ∧ Turns F w ((w.setCell ⟨g, i * 9 + 3, none⟩ (.int .i64 err)).setCell ⟨g, i * 9 + 4, none⟩ (.int .i64 cause)) := by
 have hi := (List.getElem?_eq_some_iff.1 hx).1
 obtain ⟨h1, t1⟩ := h.put' (x' := ⟨x.node, x.free, x.c, err, x.cause, x.when, x.has, x.own, x.timer⟩) hx (j := 3) (u := .int .i64 err) rfl (by omega) rfl
 obtain ⟨h2, t2⟩ := h1.put' (i := i) (x := ⟨x.node, x.free, x.c, err, x.cause, x.when, x.has, x.own, x.timer⟩) (x' := canX err cause x) (by rw [List.getElem?_set_self hi]) (j := 4) (u := .int .i64 cause) rfl (by omega) rfl
 rw [List.set_set] at h2
 exact ⟨h2, t1.trans t2⟩
end
theorem Tryz.infoSta : (Tryz.prog.info? 201).map (fun i => (i.zero, i.size, i.bytes)) = some (some (.agg #[.int .i64 0, .int .i64 0]), 2, 16) := by kernel_rfl
theorem owns_blk1 {α : Type} {enc : α → List Value} {size : Nat} {w : World} {b n : Nat} {T : TypeId} {cs : Array Value} {l : List α} (he : ∀ x, (enc x).length = size) (h : Blk w b T cs) (hc : cs = (flat enc l).toArray) (hn : l.length = n) (hm : n ≤ maxLen) : Owns enc T size w (.slice (some ⟨b, 0, none⟩) n n) l := by
 subst hn
 have hs : cs.size = l.length * size := by rw [hc]; simp [flat_length he]
 exact ⟨flat_length he l, .inr ⟨b, l.length, cs, rfl, Nat.zero_le _, h, Nat.le_refl _, hm, hs, by rw [hc, ← flat_length he l]; simp⟩⟩
theorem Tryz.zeroInt (w : World) : (zeroValue 3).run Tryz.prog w = .ok (.int .i64 0) w := by kernel_rfl
theorem cx_node {w : World} {q pm i cut : Nat} {F : Nat → Prop} {vl : Value} {cs : List Cx} {x : Cx} (h : CtxAt w q pm F vl cs cut) (hx : cs[i]? = some x) : x.node = i := by
 obtain ⟨tr, m, lb, h, hl⟩ := h
 exact h.node i x hx
theorem cx_tree2 {w : World} {q pm cut : Nat} {F : Nat → Prop} {vl : Value} {cs : List Cx} (h : CtxAt w q pm F vl cs cut) : ∃ tr m FT, w.cell? ⟨q, 1, none⟩ = some (.pointer (some ⟨tr, 0, none⟩)) ∧ w.cell? ⟨q, 4, none⟩ = some (.map (some m)) ∧ MapI w m (fun j => if 0 ≤ j ∧ j < cs.length then some (.int .i64 j) else none) ∧ TrAt w tr FT cs.length cut ∧ ¬ FT q ∧ (∀ k, vl.ownBlock = some k → ¬ FT k) ∧ ∀ w' F' cut', TrAt w' tr F' cs.length cut' → Stp w w' FT F' → ∃ FF, CtxAt w' q pm FF vl cs cut' ∧ Stp w w' F FF := by
 obtain ⟨tr, m, lb, h, hl⟩ := h
 have q1 := h.blk.cell 1
 have q4 := h.blk.cell 4
 simp only [zG] at q1 q4
 refine ⟨tr, m, fun k => lb k = 2, q1, q4, h.mp, h.tree, (by show ¬ lb q = 2; rw [h.lq]; omega), fun k hk => (by show ¬ lb k = 2; rw [(h.lv k).1 hk]; omega), fun w' F' cut' ht hs => ?_⟩
 obtain ⟨lb', FF, hl', e, hne, hst⟩ := hl.step 2 (by omega) hs ht.fb
 refine ⟨FF, ⟨tr, m, lb', ⟨h.blk.turns hs.t (by rw [h.lq]; omega), lab_is (hne 1 (by omega) (by omega)) h.lq, by rw [e]; exact ht, h.mp.turns hs.t (by rw [h.lm]; omega), lab_is (hne 3 (by omega) (by omega)) h.lm, h.own.turns hs.t (fun k hk => by rw [(h.lv k).1 hk]; omega), fun k => (h.lv k).trans (iff_of_eq (congrFun (hne 4 (by omega) (by omega)) k)).symm, h.node⟩, hl'⟩, hst⟩
theorem tsstop_any {w : World} {p : Nat} {F : Nat → Prop} {ts : List Tk} {named : Int} {L : List It} {sq tm : Int} (h : TsAt w p F ts named L sq) (ht : tm = -1 ∨ ∃ (i : Nat) (kd dt : Int), tm = i ∧ ts[i]? = some ⟨kd, dt, none⟩) (hn : ts.length ≤ 1000) (hsq : sq ≤ 1000000) :
  Calls Tryz.prog 135 #[.pointer (some ⟨p, 0, none⟩), .int .i64 tm] w fun e w' => ∃ v, e = .returned v ∧ TsAt w' p F ts named (canT tm L) sq ∧ Turns F w w' := by
 rcases ht with rfl | ⟨i, kd, dt, rfl, hx⟩
 ·refine (tsstop_no h).mono ?_
  rintro e w' ⟨rfl, rfl⟩
  exact ⟨_, rfl, h, Turns.refl _ _⟩
 ·refine (tsstop_n h hx hn hsq).mono ?_
  rintro e w' ⟨rfl, h1, h2⟩
  exact ⟨_, rfl, by unfold canT; rw [if_pos (by omega)]; exact h1, h2⟩
theorem WAt.endCh {CX : World → (Nat → Prop) → Prop} {w w' : World} {b : Wp} {o : Nat → Nat} {ps : List (List Ins)} {s : Wst} {vp vc vl ve : Value} (hx : Ext CX) (h : WAt CX w b o ps s vp vc vl ve) {F' : Nat → Prop} {i p : Nat} {c c' : Chn} (hi : s.chs[i]? = some (p, c)) (ha : ChAt w' p F' c') (hs : Stp w w' (fun k => o k = 16 + p) F') : ∃ o', WAt CX w' b o' ps { s with chs := s.chs.set i (p, c') } vp vc vl ve ∧ Stp w w' (Own o) (Own o') ∧ ∀ k, Own o' k → F' k ∨ Own o k := by
 obtain ⟨o1, h1, _, _, hst1, hown⟩ := h.stepTC hx (FT := fun k => o k = 4) hi (h.tms.turns hs.t (fun k hk e => by have h5 : o k = 16 + p := e; have h6 : o k = 4 := hk; omega)) ha (hs.t.mono (fun k _ e => .inr e)) (fun k hk => .inl hk) (fun k hk => hs.f k hk) (fun k hk h4 => (hs.f k hk).elim (fun h5 => by have h5 : o k = 16 + p := h5; have h6 : o k = 4 := h4; omega) (fun h5 => absurd (h.lt k (by have h6 : o k = 4 := h4; omega)) (Nat.not_lt.2 h5)))
 refine ⟨o1, h1, hst1, fun k hk => ?_⟩
 rcases hown k hk with h4 | h4 | h4
 ·exact .inr (by have h6 : o k = 4 := h4; show o k ≠ 0; omega)
 ·exact .inl h4
 ·exact .inr h4
theorem wk_far {w w' : World} {o o' : Nat → Nat} {F' : Nat → Prop} {a : Option Addr} {l : List Wk} (hwk : WkRow w w' F' a l) (hown : ∀ k, Own o' k → F' k ∨ Own o k) (hlt : ∀ k, Own o k → k < w.heap.size) : l = [] ∨ ∀ b off, a = some ⟨b, off, none⟩ → ¬ Own o' b ∧ b < w'.heap.size := by
 rcases hwk.1.2 with h5 | ⟨rb, off2, e2, hrb, _⟩
 ·exact .inl (List.length_eq_zero_iff.1 (Nat.le_zero.1 h5))
 ·refine .inr fun b off e => ?_
  obtain ⟨m1, m2⟩ := hwk.2 b off e
  refine ⟨fun h0 => (hown b h0).elim m2 (fun h4 => absurd (hlt b h4) (Nat.not_lt.2 m1)), ?_⟩
  rw [e2] at e
  cases e
  exact hrb
theorem LpOut.cat {w w' : World} {o : Nat → Nat} {err cause : Int} {v v' v1 : Value} {y1 y2 : List (Nat × List Wk)} (h1 : LpOut w o err cause v y1) (h2 : LpOut w o err cause v1 y2) {ls1 ls2 : List Lp} (he1 : ls1.length = y1.length) (he2 : ls2.length = y2.length) (hl1 : ∀ (i : Nat) (x : Lp) (y : Nat × List Wk), ls1[i]? = some x → y1[i]? = some y → LpOne w o err cause x y) (hl2 : ∀ (i : Nat) (x : Lp) (y : Nat × List Wk), ls2[i]? = some x → y2[i]? = some y → LpOne w o err cause x y) (ho : Owns lpC 199 4 w' v' (ls1 ++ ls2)) (hn : ∀ k, v'.ownBlock = some k → ¬ Own o k) (hs : Stp w w' (Own o) (Own o)) : LpOut w' o err cause v' (y1 ++ y2) := by
 refine ⟨ls1 ++ ls2, by rw [List.length_append, List.length_append, he1, he2], ho, hn, fun i x y hx hy => ?_⟩
 rcases Nat.lt_or_ge i ls1.length with h | h
 ·rw [List.getElem?_append_left h] at hx
  rw [List.getElem?_append_left (by omega)] at hy
  exact (hl1 i x y hx hy).step hs
 ·rw [List.getElem?_append_right h] at hx
  rw [List.getElem?_append_right (by omega), ← he1] at hy
  exact (hl2 _ x y hx hy).step hs
def CanP (b : Wp) (ps : List (List Ins)) (g n c : Nat) (err cause : Int) (vp vc vk ve : Value) (D : List Cd) (m : Nat) (s : Wst) (cs : List Cx) (w : World) (o : Nat → Nat) (e : Ending) (w' : World) : Prop :=
 ∃ (a : Option Addr) (cap : Nat) (o' : Nat → Nat), e = .returned (.tuple #[.slice a D.length cap, .slice none 0 0]) ∧ WAt (CXv b (.slice (some ⟨g, 0, none⟩) n c) (canK err cause D m cs) m) w' b o' ps (canS D s) vp vc vk ve ∧ LpOut w' o' err cause (.slice a D.length cap) (canO D m) ∧ Stp w w' (Own o) (Own o')
def CanR (b : Wp) (ps : List (List Ins)) (g n c cut : Nat) (err cause : Int) (vp vc vk ve : Value) (wks : List Wk) (D : List Cd) (m : Nat) (s1 : Wst) (cs1 : List Cx) (w : World) (o : Nat → Nat) (Ks : List Int) (vK : Value) (k : Nat) (v8 : Value) (wr : World) : Prop :=
 ∃ (E : List Cd) (cu : Nat) (o' : Nat → Nat) (a : Option Addr) (cap : Nat), (k = 0 ∧ E = [] ∧ cu = cut ∨ k = Ks.length ∧ E = D ∧ cu = m + 1) ∧ v8 = .slice a (E.length + 1) cap ∧ (k = 0 → ∃ bX, a = some ⟨bX, 0, none⟩ ∧ cap = 1) ∧ WAt (CXv b (.slice (some ⟨g, 0, none⟩) n c) (canK err cause E (m + 1) cs1) cu) wr b o' ps (canS E s1) vp vc vk ve ∧ LpOut wr o' err cause v8 ((m, wks) :: canO E (m + 1)) ∧ Stp w wr (Own o) (Own o') ∧ Owns encI 3 1 wr vK Ks ∧ ∀ j, vK.ownBlock = some j → ¬ Own o' j
theorem cxcan_step {w : World} {b : Wp} {o : Nat → Nat} {ps : List (List Ins)} {s : Wst} {vp vc vk ve : Value} {g n c m cut : Nat} {cs : List Cx} {err cause : Int} {d : Cd} {D : List Cd} (h : WAt (CXv b (.slice (some ⟨g, 0, none⟩) n c) cs cut) w b o ps s vp vc vk ve) (hcut : m + D.length + 1 = cut) (hm : 1 ≤ m) (hle : cut ≤ n) (hn : n ≤ 60) (hok : CanOK1 d m s cs) (htl : s.tms.length ≤ 1000) (hsq : s.sq ≤ 1000000)
  (hrec : D ≠ [] → ∀ (w1 : World) (o1 : Nat → Nat), WAt (CXv b (.slice (some ⟨g, 0, none⟩) n c) (cs.set m (canX err cause d.x)) cut) w1 b o1 ps (can1 s d) vp vc vk ve → Calls Tryz.prog 109 #[.pointer (some ⟨b.px, 0, none⟩), .int .i64 ((m : Int) + 1), .int .i64 err, .int .i64 cause] w1 (CanP b ps g n c err cause vp vc vk ve D (m + 1) (can1 s d) (cs.set m (canX err cause d.x)) w1 o1)) :
  Calls Tryz.prog 109 #[.pointer (some ⟨b.px, 0, none⟩), .int .i64 m, .int .i64 err, .int .i64 cause] w (CanP b ps g n c err cause vp vc vk ve (d :: D) m s cs w o) := by
 obtain ⟨i0, hi0, hz0, hz1, hz2⟩ := info_parts Tryz.infoLp
 obtain ⟨i5, hi5, -⟩ := info_parts Tryz.infoSta
 obtain ⟨⟨nd, fr, cc, er, ca, wh, hs, ow, tm⟩, ci, p, qt, qs, qc, qr, qv, ql⟩ := d
 obtain ⟨hx, hq, hcc, hfr, her, hsig, hcl, hnd, hle50, htm⟩ := hok
 simp only at hx hq hcc hfr her hsig hcl hnd hle50 htm hrec
 subst hcc hfr her hsig hcl
 have hctx : CtxAt w b.px b.pm (fun k => o k = 6) (.slice (some ⟨g, 0, none⟩) n c) cs cut := h.ctx
 have hnode : nd = m := cx_node hctx hx
 subst hnode
 obtain ⟨hn0, q2, q0, hce, hfe, hF1, hF2, hqg⟩ := cx_row3 hctx hx
 have r1 : w.cell? ⟨g, m * 9 + 1, none⟩ = some (.bool false) := hce 1 _ rfl
 have r3 : w.cell? ⟨g, m * 9 + 3, none⟩ = some (.int .i64 0) := hce 3 _ rfl
 have j1 : (0 : Int) ≤ (m : Int) := Int.natCast_nonneg _
 have j2 : (m : Int) < (n : Int) := by omega
 have HA := zh h
 have HCX := zh hctx
 have HX := zh (And.intro hx hq)
 have HREC := zh hrec
 have HQL := zh (And.intro hnd hle50)
 have HTM := zh (And.intro htm (And.intro htl hsq))
 have HCUT := zh (And.intro hcut (And.intro hm (And.intro hle (And.intro hn hn0))))
 have HFE := zh hfe
 have HMC := zh hce
 clear h hcut hm hle hn hn0 htl hsq hrec hx hq hnd hle50 htm hctx hfe hF1 hF2 hqg q0 hce
 go_enter Tryz.func109, Tryz.ntmps109
 have r4 : w.cell? ⟨g, m * 9 + 4, none⟩ = some (.int .i64 ca) := HMC.out 4 _ rfl
 have f3 : w.frozen? ⟨g, m * 9 + 3, none⟩ = false := HFE.out _
 have f4 : w.frozen? ⟨g, m * 9 + 4, none⟩ = false := HFE.out _
 go_upto_region 5 with fail
 have hp2 := HCX.out.put2 (err := err) (cause := cause) HX.out.1
 obtain ⟨o1, hw1, _, hs1⟩ := HA.out.stepCX (CX' := CXv b (.slice (some ⟨g, 0, none⟩) n c) (cs.set m (canX err cause ⟨m, false, some p, 0, ca, wh, hs, ow, tm⟩)) cut) hp2.1 hp2.1.fb (Stp.same hp2.2)
 have HW1 := zh hw1
 have HS1 := zh hs1
 clear hp2 hw1 hs1 r1 r3 r4 f3 f4 q2
 generalize (w.setCell ⟨g, m * 9 + 3, none⟩ (.int .i64 err)).setCell ⟨g, m * 9 + 4, none⟩ (.int .i64 cause) = W at *
 have hcx1 : CtxAt W b.px b.pm (fun k => o1 k = 6) (.slice (some ⟨g, 0, none⟩) n c) (cs.set m (canX err cause ⟨m, false, some p, 0, ca, wh, hs, ow, tm⟩)) cut := HW1.out.ctx
 have hx1 : (cs.set m (canX err cause ⟨m, false, some p, 0, ca, wh, hs, ow, tm⟩))[m]? = some (canX err cause ⟨m, false, some p, 0, ca, wh, hs, ow, tm⟩) := List.getElem?_set_self (List.getElem?_eq_some_iff.1 HX.out.1).1
 obtain ⟨-, q2, q0, hce, hfe, hG6, -, -⟩ := cx_row3 hcx1 hx1
 have r2 : W.cell? ⟨g, m * 9 + 2, none⟩ = some (.pointer (some ⟨p, 0, none⟩)) := hce 2 _ rfl
 have HX1 := zh hx1
 have HG6 : Hid (o1 g = 6) := zh hG6
 have HGL : Hid (g < W.heap.size) := zh (HW1.out.lt g (by have := HG6.out; omega))
 have HEN := zh (chEnd_c (HW1.out.chn p _ (List.mem_of_getElem? HX.out.2)) HQL.out.1 (by have := HQL.out.2; omega))
 clear hcx1 hx1 hce hfe hG6 q2 q0
 go_wp2_with fail
 refine HEN.out.mono ?_
 rintro e w2 ⟨a2, F2, cap2, rfl, hwk, hc2, hs2⟩
 have HWK := zh (And.intro hwk (And.intro hc2 hs2))
 have r2 : w2.cell? ⟨g, m * 9 + 2, none⟩ = some (.pointer (some ⟨p, 0, none⟩)) := (hs2.t.cell (p := ⟨g, m * 9 + 2, none⟩) HGL.out (fun e => by have h5 : o1 g = 16 + p := e; have h6 := HG6.out; omega)).trans r2
 clear hwk hc2 hs2
 go_upto_region 6 with fail
 obtain ⟨hwk, hc2, hs2⟩ := HWK.out
 obtain ⟨o2, hw2, hst2, hown2⟩ := HW1.out.endCh (CXv.ext b (.slice (some ⟨g, 0, none⟩) n c) (cs.set m (canX err cause ⟨m, false, some p, 0, ca, wh, hs, ow, tm⟩)) cut) HX.out.2 hc2 hs2
 have hfar := wk_far hwk hown2 HW1.out.lt
 have hTX : Made w2 (w2.alloc (.cells #[.int .i64 m, .int .i64 err, .int .i64 cause, .slice a2 ql.length cap2] 199)) := (zT w2).alloc _
 have hBX := Blk.new w2 199 #[.int .i64 m, .int .i64 err, .int .i64 cause, .slice a2 ql.length cap2]
 have hLX : w2.heap.size ≤ w2.heap.size := Nat.le_refl _
 generalize w2.alloc (.cells #[.int .i64 m, .int .i64 err, .int .i64 cause, .slice a2 ql.length cap2] 199) = wX at *
 have hlp : LpOne wX o2 err cause (⟨m, err, cause, (a2, ql.length, cap2)⟩ : Lp) (m, ql.map clW) := LpOne.made ⟨rfl, rfl, rfl, ⟨by simp, hwk.1⟩, hfar⟩ hTX
 have hob : Owns lpC 199 4 wX (.slice (some ⟨w2.heap.size, 0, none⟩) 1 1) [(⟨m, err, cause, (a2, ql.length, cap2)⟩ : Lp)] := owns_blk1 lpC_len hBX rfl rfl (by unfold maxLen; omega)
 have HLP : Hid (LpOut wX o2 err cause (.slice (some ⟨w2.heap.size, 0, none⟩) 1 1) [(m, ql.map clW)]) := zh ⟨[(⟨m, err, cause, (a2, ql.length, cap2)⟩ : Lp)], rfl, hob, fun k hk => by
  simp only [Value.ownBlock, Option.some.injEq] at hk
  subst hk
  exact fun h0 => absurd (hw2.lt _ h0) (by omega), fun i x y hx hy => by
  cases i with
  | zero => cases hx; cases hy; exact hlp
  | succ i => simp at hx⟩
 have HW2 := zh (hw2.made (CXv.ext b (.slice (some ⟨g, 0, none⟩) n c) (cs.set m (canX err cause ⟨m, false, some p, 0, ca, wh, hs, ow, tm⟩)) cut) hTX)
 have HS2 := zh ((HS1.out.trans hst2).then_made hTX)
 have hx2 := HX1.out
 obtain ⟨-, q2, q0, hce, hfe, hG6, hP6, -⟩ := cx_row3 (show CtxAt wX b.px b.pm (fun k => o2 k = 6) (.slice (some ⟨g, 0, none⟩) n c) (cs.set m (canX err cause ⟨m, false, some p, 0, ca, wh, hs, ow, tm⟩)) cut from HW2.out.ctx) hx2
 have r8 : wX.cell? ⟨g, m * 9 + 8, none⟩ = some (.int .i64 tm) := hce 8 _ rfl
 have HST := zh (tsstop_any (HW2.out.tms.made (zT wX).drew) HTM.out.1 HTM.out.2.1 HTM.out.2.2)
 have HLX : Hid (o2 b.px = 6 ∧ o2 g = 6 ∧ b.px < wX.heap.size ∧ g < wX.heap.size) := zh ⟨hP6, hG6, HW2.out.lt _ (by rw [show o2 b.px = 6 from hP6]; omega), HW2.out.lt _ (by rw [show o2 g = 6 from hG6]; omega)⟩
 clear hwk hc2 hs2 hTX hBX hLX hw2 hst2 hown2 hfar hlp hob hx2 hce hfe q2 r2 hP6 hG6
 refine wp_region_held_drew (S := fun w' => w'.cell? ⟨b.px, 0, none⟩ = some (.pointer (some ⟨b.pm, 0, none⟩)) ∧ w'.cell? ⟨g, m * 9 + 8, none⟩ = some (.int .i64 tm)) (by kernel_rfl) ?_ (fun hHeld => ?_)
 ·exact ⟨q0, r8⟩
 refine tH 0 51 ?_ ?_ ?_;rotate_left
 ·intro w hSw
  go_simp
  try with_reducible rfl
 try simp only [zP]
 refine tH 1 52 ?_ ?_ ?_;rotate_left
 ·intro w hSw
  go_simp
  try with_reducible rfl
 try simp only [zP]
 refine tH 2 53 ?_ ?_ ?_;rotate_left
 ·intro w hSw
  go_simp
  try with_reducible rfl
 try simp only [zP]
 refine tH 3 54 ?_ ?_ ?_;rotate_left
 ·intro w hSw
  have hS1 := hSw.1
  have hS2 := hSw.2
  go_simp
  try with_reducible rfl
 try simp only [zP]
 refine tH 4 55 ?_ ?_ ?_;rotate_left
 ·intro w hSw
  go_simp
  try with_reducible rfl
 try simp only [zP]
 refine tH 5 56 ?_ ?_ ?_;rotate_left
 ·intro w hSw
  go_simp
  try with_reducible rfl
 try simp only [zP]
 refine tH 6 57 ?_ ?_ ?_;rotate_left
 ·intro w hSw
  go_simp
  try with_reducible rfl
 try simp only [zP]
 refine tH 7 58 ?_ ?_ ?_;rotate_left
 ·intro w hSw
  have hS1 := hSw.1
  have hS2 := hSw.2
  go_simp
  try with_reducible rfl
 try simp only [zP]
 refine zR 8 fun K hK => ?_
 go_simp
 refine HST.out.mono ?_
 rintro e w3 ⟨v3, rfl, hT3, ht3⟩
 refine hK.out _ _ ?_ (fun hHeld => ?_)
 ·exact ⟨(ht3.cell (p := ⟨b.px, 0, none⟩) HLX.out.2.2.1 (fun e => by have h5 : o2 b.px = 4 := e; have h6 := HLX.out.1; omega)).trans hHeld.1, (ht3.cell (p := ⟨g, m * 9 + 8, none⟩) HLX.out.2.2.2 (fun e => by have h5 : o2 g = 4 := e; have h6 := HLX.out.2.1; omega)).trans hHeld.2⟩
 clear hK K
 try simp only [zP]
 refine wpAnyH_done (by kernel_rfl) ?_ _
 obtain ⟨o3, hw3, _, hs3⟩ := (HW2.out.made (CXv.ext b (.slice (some ⟨g, 0, none⟩) n c) (cs.set m (canX err cause ⟨m, false, some p, 0, ca, wh, hs, ow, tm⟩)) cut) (zT wX).drew).stepTms (CXv.ext b (.slice (some ⟨g, 0, none⟩) n c) (cs.set m (canX err cause ⟨m, false, some p, 0, ca, wh, hs, ow, tm⟩)) cut) hT3 (Stp.same ht3)
 have HW3 : Hid (WAt (CXv b (.slice (some ⟨g, 0, none⟩) n c) (cs.set m (canX err cause ⟨m, false, some p, 0, ca, wh, hs, ow, tm⟩)) cut) w3 b o3 ps (can1 s ⟨⟨m, false, some p, 0, ca, wh, hs, ow, tm⟩, ci, p, qt, true, false, qr, qv, ql⟩) vp vc vk ve) := zh hw3
 have HS3 := zh ((HS2.out.then_made (zT wX).drew).trans hs3)
 have HLP3 := zh ((HLP.out.made (zT wX).drew).step hs3)
 obtain ⟨tr, mp, FT, q1, q4, hmp, htr, hFT, hFm, hback⟩ := cx_tree (show CtxAt w3 b.px b.pm (fun k => o3 k = 6) (.slice (some ⟨g, 0, none⟩) n c) (cs.set m (canX err cause ⟨m, false, some p, 0, ca, wh, hs, ow, tm⟩)) cut from HW3.out.ctx)
 have hx3 := HX1.out
 obtain ⟨-, -, -, hce, -, hG6, hP6, -⟩ := cx_row3 (show CtxAt w3 b.px b.pm (fun k => o3 k = 6) (.slice (some ⟨g, 0, none⟩) n c) (cs.set m (canX err cause ⟨m, false, some p, 0, ca, wh, hs, ow, tm⟩)) cut from HW3.out.ctx) hx3
 have r0 : w3.cell? ⟨g, m * 9, none⟩ = some (.int .i64 m) := hce 0 _ rfl
 have hl1 : (cs.set m (canX err cause ⟨m, false, some p, 0, ca, wh, hs, ow, tm⟩)).length = n := by rw [List.length_set]; exact HCUT.out.2.2.2.2.symm
 rw [hl1] at htr
 have HKI := zh (trkids_c (i := m) (htr.made (zT w3).drew) (by have := HCUT.out; omega) (by have := HCUT.out; omega))
 have HLT : Hid (b.px < w3.drew.heap.size ∧ g < w3.drew.heap.size) := zh ⟨HW3.out.lt _ (by rw [show o3 b.px = 6 from hP6]; omega), HW3.out.lt _ (by rw [show o3 g = 6 from hG6]; omega)⟩
 clear hHeld hT3 ht3 hw3 hs3 hmp htr hFT hFm hback hx3 hce hl1 r8 q0 q4 hP6 hG6
 go_upto_region 7 with fail
 refine wp_region_held_drew (S := fun w' => w'.cell? ⟨b.px, 1, none⟩ = some (.pointer (some ⟨tr, 0, none⟩)) ∧ w'.cell? ⟨g, m * 9, none⟩ = some (.int .i64 m)) (by kernel_rfl) ?_ (fun hHeld => ?_)
 ·exact ⟨q1, r0⟩
 refine tH 0 60 ?_ ?_ ?_;rotate_left
 ·intro w hSw
  go_simp
  try with_reducible rfl
 try simp only [zP]
 refine tH 1 61 ?_ ?_ ?_;rotate_left
 ·intro w hSw
  go_simp
  try with_reducible rfl
 try simp only [zP]
 refine tH 2 62 ?_ ?_ ?_;rotate_left
 ·intro w hSw
  go_simp
  try with_reducible rfl
 try simp only [zP]
 refine tH 3 63 ?_ ?_ ?_;rotate_left
 ·intro w hSw
  have hS1 := hSw.1
  have hS2 := hSw.2
  go_simp
  try with_reducible rfl
 try simp only [zP]
 refine tH 4 64 ?_ ?_ ?_;rotate_left
 ·intro w hSw
  go_simp
  try with_reducible rfl
 try simp only [zP]
 refine tH 5 65 ?_ ?_ ?_;rotate_left
 ·intro w hSw
  go_simp
  try with_reducible rfl
 try simp only [zP]
 refine tH 6 66 ?_ ?_ ?_;rotate_left
 ·intro w hSw
  go_simp
  try with_reducible rfl
 try simp only [zP]
 refine tH 7 67 ?_ ?_ ?_;rotate_left
 ·intro w hSw
  have hS1 := hSw.1
  have hS2 := hSw.2
  go_simp
  try with_reducible rfl
 try simp only [zP]
 refine tH 10 70 ?_ ?_ ?_;rotate_left
 ·intro w hSw
  go_simp
  try with_reducible rfl
 try simp only [zP]
 refine zR 8 fun K hK => ?_
 go_simp
 refine HKI.out.mono ?_
 rintro e w4 ⟨vK, rfl, hoK, hm4, hfK⟩
 obtain ⟨Ks, hKs⟩ : ∃ Ks, Ks = (chainN cut m).2.2 := ⟨_, rfl⟩
 rw [← hKs] at hoK
 have hkl : Ks.length ≤ 1 := by rw [hKs]; unfold chainN; split <;> simp
 have HKD := zh hKs
 clear hKs
 obtain ⟨aK, cK, hvK⟩ := owns_slice hoK
 subst hvK
 refine hK.out _ _ ?_ (fun hHeld => ?_)
 ·exact ⟨(hm4.cell (p := ⟨b.px, 1, none⟩) HLT.out.1 (fun h => h)).trans hHeld.1, (hm4.cell (p := ⟨g, m * 9, none⟩) HLT.out.2 (fun h => h)).trans hHeld.2⟩
 clear hK K
 try simp only [zP]
 refine tH 9 69 ?_ ?_ ?_;rotate_left
 ·intro w hSw
  go_simp
  try with_reducible rfl
 try simp only [zP]
 refine wpAnyH_done (by kernel_rfl) ?_ _
 have HOK := zh hoK
 have HNK : Hid (∀ j, (Value.slice aK Ks.length cK).ownBlock = some j → ¬ Own o3 j) := zh fun j hj h0 => absurd (HW3.out.lt j h0) (Nat.not_lt.2 (hfK j hj))
 have hm4b : Made w3 w4 := (zT w3).drew.trans hm4
 have hR0 : CanR b ps g n c cut err cause vp vc vk ve (ql.map clW) D m (can1 s ⟨⟨m, false, some p, 0, ca, wh, hs, ow, tm⟩, ci, p, qt, true, false, qr, qv, ql⟩) (cs.set m (canX err cause ⟨m, false, some p, 0, ca, wh, hs, ow, tm⟩)) w o Ks (.slice aK Ks.length cK) 0 (.slice (some ⟨w2.heap.size, 0, none⟩) 1 1) w4 := ⟨[], cut, o3, _, _, .inl ⟨rfl, rfl, rfl⟩, rfl, fun _ => ⟨w2.heap.size, rfl, rfl⟩, HW3.out.made (CXv.ext b (.slice (some ⟨g, 0, none⟩) n c) (cs.set m (canX err cause ⟨m, false, some p, 0, ca, wh, hs, ow, tm⟩)) cut) hm4b, HLP3.out.made hm4b, HS3.out.then_made hm4b, HOK.out, HNK.out⟩
 have HR0 := zh hR0
 have HKL := zh hkl
 clear hHeld hoK hm4 hm4b hfK hR0 hkl r0 q1
 go_wp2_with fail
 go_loopw [8, 9, 70] (fun v8 v9 v70 wr => ∃ k : Nat, k ≤ Ks.length ∧ v70 = .int .i64 k ∧ v9 = .slice none 0 0 ∧ CanR b ps g n c cut err cause vp vc vk ve (ql.map clW) D m (can1 s ⟨⟨m, false, some p, 0, ca, wh, hs, ow, tm⟩, ci, p, qt, true, false, qr, qv, ql⟩) (cs.set m (canX err cause ⟨m, false, some p, 0, ca, wh, hs, ow, tm⟩)) w o Ks (.slice aK Ks.length cK) k v8 wr) (fun _ _ v70 _ => Ks.length - (intOf v70).toNat)
 case atStart => exact ⟨0, Nat.zero_le _, rfl, rfl, HR0.out⟩
 case round =>
  obtain ⟨k, hk, rfl, rfl, hrl⟩ := hrel
  have k1 : (0 : Int) ≤ (k : Int) := Int.natCast_nonneg _
  obtain ⟨E, cu, o5, a5, c5, hE, hv8, hk0f, hw5, hlp5, hs5, hoK5, hnK5⟩ := hrl
  have HW5 := zh hw5
  have HS5 := zh hs5
  by_cases hkn : k < Ks.length
  ·have hk0 : k = 0 := by have := HKL.out; omega
   have hE0 : E = [] ∧ cu = cut := by
    rcases hE with ⟨_, h1, h2⟩ | ⟨h1, _⟩
    ·exact ⟨h1, h2⟩
    ·omega
   obtain ⟨hE1, hcu⟩ := hE0
   subst hE1
   obtain ⟨bX5, ha5, hc5⟩ := hk0f hk0
   have hv8 : u8 = .slice (some ⟨bX5, 0, none⟩) 1 1 := by rw [hv8, ha5, hc5]; rfl
   subst hv8
   have hmc : m + 1 < cut := by
    by_cases h1 : m + 1 < cut
    ·exact h1
    ·have h2 := HKD.out
     simp only [chainN, if_neg h1] at h2
     rw [h2] at hkn
     simp at hkn
   have hKm : Ks = [((m + 1 : Nat) : Int)] := by
    rw [HKD.out]
    simp only [chainN, if_pos hmc]
   have hD : D ≠ [] := fun h0 => by
    have h1 := HCUT.out.1
    rw [h0] at h1
    simp only [List.length_nil] at h1
    omega
   obtain ⟨gK, haK⟩ : ∃ gK, aK = some ⟨gK, 0, none⟩ := by
    rcases hoK5.form with ⟨_, h0⟩ | ⟨gK, cK2, h0, -⟩
    ·rw [h0] at hkn
     simp at hkn
    ·simp only [Value.slice.injEq] at h0
     exact ⟨gK, h0.1⟩
   subst haK
   have r9 : wr.cell? ⟨gK, k, none⟩ = some (.int .i64 ((m : Int) + 1)) := by
    have h1 := Owns.cell encI_len hoK5 (i := 0) (x := (m : Int) + 1) (by rw [hKm]; rfl) (j := 0) rfl
    rw [hk0]
    simpa using h1
   rw [hcu] at hw5
   have HRC := zh (HREC.out hD wr o5 hw5)
   have hcx5 : CtxAt wr b.px b.pm (fun k => o5 k = 6) (.slice (some ⟨g, 0, none⟩) n c) (cs.set m (canX err cause ⟨m, false, some p, 0, ca, wh, hs, ow, tm⟩)) cut := hw5.ctx
   obtain ⟨tr, mp, FT, -, q4, hmp, -, -, -, -⟩ := cx_tree hcx5
   have hlk := hmp.look Tryz.underlying98 Tryz.underlying3 (Tryz.zeroInt wr) ((m : Int) + 1) false
   have hif : (if 0 ≤ (m : Int) + 1 ∧ (m : Int) + 1 < ((cs.set m (canX err cause ⟨m, false, some p, 0, ca, wh, hs, ow, tm⟩)).length : Int) then some (Value.int .i64 ((m : Int) + 1)) else none) = some (.int .i64 ((m : Int) + 1)) := if_pos ⟨by omega, by rw [List.length_set]; have := HCUT.out; omega⟩
   simp only [hif, Bool.false_eq_true, if_false, Option.getD_some] at hlk
   have HLK := zh hlk
   have HOK5 := zh (And.intro hoK5 hnK5)
   have HLP5 := zh hlp5
   have HK0 := zh (And.intro hk0 hKm)
   have j4 : ¬ (m : Int) + 1 < 0 := by omega
   have j6 : Ks.length ≤ 1 := HKL.out
   have j5 : (k : Int) < (Ks.length : Int) := by omega
   clear hE hw5 hlp5 hs5 hoK5 hnK5 hmc hKm hcx5 hmp hlk hcu hk0 hk0f ha5 hc5
   go_wp2_with (at_lookup; refine wpList_lookrun _ rfl _ _ 98 false rfl _ _ _ rfl rfl HLK.out ?_)
   refine HRC.out.mono ?_
   rintro e w6 ⟨a6, c6, o6, rfl, hw6, hlp6, hs6⟩
   have HLP5b := zh (HLP5.out.step hs6)
   obtain ⟨ls1, hb1, hb2, hb3, hb4⟩ := HLP5b.out
   obtain ⟨ls2, hd1, hd2, hd3, hd4⟩ := hlp6
   have hlen1 : ls1.length = 1 := hb1
   have hlen2 : ls2.length = D.length := by rw [hd1, canO_len]
   have HOB := zh hb2
   have HSD := zh (SrcAt.ofOwns lpC_len hd2)
   have HBD := zh (And.intro hlen1 hlen2)
   have HBE := zh (And.intro hb1 (And.intro hb3 hb4))
   have HDE := zh (And.intro hd1 (And.intro hd4 (show LpOut w6 o6 err cause (.slice a6 D.length c6) (canO D (m + 1)) from ⟨ls2, hd1, hd2, hd3, hd4⟩)))
   have HW6 := zh hw6
   have HS6 := zh hs6
   have hdn : D.length ≤ 60 := by have := HCUT.out; omega
   have HDN := zh hdn
   have HND := zh (List.length_pos_iff.2 hD)
   clear hD
   clear hw6 hs6 hb1 hb2 hb3 hb4 hd1 hd2 hd3 hd4 hlen1 hlen2 hdn r9 q4
   go_wp2_with (first
    | (at_builtin; refine wpList_catgrow rfl (.tmp 98) (.tmp 99) 159 rfl i0 _ 48 Tryz.underlying159 hi0 hz0 hz1 hz2 rfl (by omega) lpC_len lpC_one rfl HOB.out rfl HSD.out (by have := HBD.out; have := HND.out; omega) (by unfold maxLen; have := HBD.out; have := HDN.out; omega) (by have := HBD.out; have := HDN.out; omega) ?_; intro v7 w7 ho7 hm7 hv7; obtain ⟨a7, n7, c7, hve, hn7⟩ := owns_slice' ho7; subst hve; have HN7 := zh hn7; have HO7 := zh (And.intro ho7 (And.intro hm7 hv7)); clear hn7 ho7 hm7 hv7)
    | (at_builtin; refine wpList_catnil rfl (.tmp 101) (.tmp 102) 160 rfl i5 Tryz.underlying160 hi5 rfl rfl ?_)
    | fail)
   have hm7 : Made w6 w7 := HO7.out.2.1
   have hn7 : n7 = D.length + 1 := by rw [HN7.out, List.length_append, HBD.out.1, HBD.out.2, Nat.add_comm]
   have hcat := LpOut.cat HLP5b.out HDE.out.2.2 HBE.out.1 HDE.out.1 HBE.out.2.2 HDE.out.2.1 HO7.out.1 (fun j hj h0 => absurd (HW6.out.lt j h0) (Nat.not_lt.2 (HO7.out.2.2 j hj))) (Stp.made hm7)
   have HR : Hid (CanR b ps g n c cut err cause vp vc vk ve (ql.map clW) D m (can1 s ⟨⟨m, false, some p, 0, ca, wh, hs, ow, tm⟩, ci, p, qt, true, false, qr, qv, ql⟩) (cs.set m (canX err cause ⟨m, false, some p, 0, ca, wh, hs, ow, tm⟩)) w o Ks (.slice (some ⟨gK, 0, none⟩) Ks.length cK) (k + 1) (.slice a7 n7 c7) w7) := zh ⟨D, m + 1, o6, a7, c7, .inr ⟨by rw [HK0.out.1, HK0.out.2]; rfl, rfl, rfl⟩, by rw [hn7], fun h0 => absurd h0 (by omega), HW6.out.made (CXv.ext b (.slice (some ⟨g, 0, none⟩) n c) (canK err cause D (m + 1) (cs.set m (canX err cause ⟨m, false, some p, 0, ca, wh, hs, ow, tm⟩))) (m + 1)) hm7, hcat, (HS5.out.trans HS6.out).then_made hm7, (HOK5.out.1.turns HS6.out.t (fun j hj => HOK5.out.2 j hj)).made hm7, fun j hj h0 => (HS6.out.f j h0).elim (HOK5.out.2 j hj) (fun h1 => absurd (HOK5.out.1.lt hj) (Nat.not_lt.2 h1))⟩
   clear hcat hm7 hn7
   go_roundw
   case rel => exact ⟨k + 1, by omega, by go_num, rfl, HR.out⟩
   case measure => simp [intOf]; omega
  ·subst hv8
   have hkK : k = Ks.length := by omega
   have hE0 : E = D ∧ cu = m + 1 := by
    rcases hE with ⟨h0, h1, h2⟩ | ⟨_, h1, h2⟩
    ·have h3 := HKD.out
     by_cases h4 : m + 1 < cut
     ·simp only [chainN, if_pos h4] at h3
      rw [h3, h0] at hkK
      simp at hkK
     ·have h5 := HCUT.out.1
      have h6 : D = [] := List.length_eq_zero_iff.1 (by omega)
      exact ⟨by rw [h1, h6], by omega⟩
    ·exact ⟨h1, h2⟩
   obtain ⟨hE1, hcu⟩ := hE0
   subst hE1 hcu
   have hcx5 : CtxAt wr b.px b.pm (fun k => o5 k = 6) (.slice (some ⟨g, 0, none⟩) n c) (canK err cause E (m + 1) (cs.set m (canX err cause ⟨m, false, some p, 0, ca, wh, hs, ow, tm⟩))) (m + 1) := hw5.ctx
   obtain ⟨tr, mp, FT, q1, -, -, htr, hFq, hFv, hback⟩ := cx_tree2 hcx5
   have hx5 : (canK err cause E (m + 1) (cs.set m (canX err cause ⟨m, false, some p, 0, ca, wh, hs, ow, tm⟩)))[m]? = some (canX err cause ⟨m, false, some p, 0, ca, wh, hs, ow, tm⟩) := by
    rw [canK_low err cause E (m + 1) _ m (by omega)]
    exact HX1.out
   obtain ⟨-, -, -, hce, -, hG6, hP6, -⟩ := cx_row3 hcx5 hx5
   have r0 : wr.cell? ⟨g, m * 9, none⟩ = some (.int .i64 m) := hce 0 _ rfl
   have hl5 : (canK err cause E (m + 1) (cs.set m (canX err cause ⟨m, false, some p, 0, ca, wh, hs, ow, tm⟩))).length = n := by rw [canK_len, List.length_set]; exact HCUT.out.2.2.2.2.symm
   rw [hl5] at htr hback
   have hdt := trdet_c (j := m - 1) (by rw [show m - 1 + 2 = m + 1 from by have := HCUT.out; omega]; exact htr.made (zT wr).drew) (by have := HCUT.out; omega) (by have := HCUT.out; omega)
   rw [show m - 1 + 1 = m from by have := HCUT.out; omega] at hdt
   have HDT := zh hdt
   have HBK := zh hback
   have HLP5 := zh hlp5
   subst hkK
   have HLT5 : Hid (b.px < wr.drew.heap.size ∧ g < wr.drew.heap.size) := zh ⟨HW5.out.lt _ (by rw [show o5 b.px = 6 from hP6]; omega), HW5.out.lt _ (by rw [show o5 g = 6 from hG6]; omega)⟩
   have HNF := zh (And.intro hFq (hFv g rfl))
   clear hE hw5 hlp5 hs5 hoK5 hnK5 hk0f hcx5 htr hFq hFv hback hx5 hce hl5 hdt hkn hG6 hP6
   go_upto_region 16 with fail
   refine wp_region_held_drew (S := fun w' => w'.cell? ⟨b.px, 1, none⟩ = some (.pointer (some ⟨tr, 0, none⟩)) ∧ w'.cell? ⟨g, m * 9, none⟩ = some (.int .i64 m)) (by kernel_rfl) ?_ (fun hHeld => ?_)
   ·exact ⟨q1, r0⟩
   refine tH 0 105 ?_ ?_ ?_;rotate_left
   ·intro w hSw
    go_simp
    try with_reducible rfl
   try simp only [zP]
   refine tH 1 106 ?_ ?_ ?_;rotate_left
   ·intro w hSw
    go_simp
    try with_reducible rfl
   try simp only [zP]
   refine tH 2 107 ?_ ?_ ?_;rotate_left
   ·intro w hSw
    go_simp
    try with_reducible rfl
   try simp only [zP]
   refine tH 3 108 ?_ ?_ ?_;rotate_left
   ·intro w hSw
    have hS1 := hSw.1
    have hS2 := hSw.2
    go_simp
    try with_reducible rfl
   try simp only [zP]
   refine tH 4 109 ?_ ?_ ?_;rotate_left
   ·intro w hSw
    go_simp
    try with_reducible rfl
   try simp only [zP]
   refine tH 5 110 ?_ ?_ ?_;rotate_left
   ·intro w hSw
    go_simp
    try with_reducible rfl
   try simp only [zP]
   refine tH 6 111 ?_ ?_ ?_;rotate_left
   ·intro w hSw
    go_simp
    try with_reducible rfl
   try simp only [zP]
   refine tH 7 112 ?_ ?_ ?_;rotate_left
   ·intro w hSw
    have hS1 := hSw.1
    have hS2 := hSw.2
    go_simp
    try with_reducible rfl
   try simp only [zP]
   refine zR 8 fun K hK => ?_
   go_simp
   refine HDT.out.mono ?_
   rintro e w6 ⟨rfl, F6, ht6, hs6⟩
   refine hK.out _ _ ?_ (fun hHeld => ?_)
   ·exact ⟨(hs6.t.cell (p := ⟨b.px, 1, none⟩) HLT5.out.1 HNF.out.1).trans hHeld.1, (hs6.t.cell (p := ⟨g, m * 9, none⟩) HLT5.out.2 HNF.out.2).trans hHeld.2⟩
   clear hK K
   try simp only [zP]
   refine wpAnyH_done (by kernel_rfl) ?_ _
   obtain ⟨FF, hcx6, hst6⟩ := HBK.out w6 F6 m ht6 ((Stp.made (zT wr).drew).trans hs6)
   obtain ⟨o6, hw6, _, hs6b⟩ := HW5.out.stepCX (CX' := CXv b (.slice (some ⟨g, 0, none⟩) n c) (canK err cause E (m + 1) (cs.set m (canX err cause ⟨m, false, some p, 0, ca, wh, hs, ow, tm⟩))) m) hcx6 hcx6.fb hst6
   have HW6 := zh hw6
   have HS6 := zh hs6b
   clear hHeld ht6 hs6 hcx6 hst6 hw6 hs6b q1 r0
   go_wp2_with fail
   go_returns
   exact ⟨a5, c5, o6, rfl, HW6.out, HLP5.out.step HS6.out, HS5.out.trans HS6.out⟩
theorem cxcancel_c {b : Wp} {ps : List (List Ins)} {g n c cut : Nat} {err cause : Int} {vp vc vk ve : Value} (hle : cut ≤ n) (hn : n ≤ 60) : ∀ (D : List Cd) (m : Nat) (s : Wst) (cs : List Cx) (w : World) (o : Nat → Nat), D ≠ [] → WAt (CXv b (.slice (some ⟨g, 0, none⟩) n c) cs cut) w b o ps s vp vc vk ve → m + D.length = cut → 1 ≤ m → CanOK err cause D m s cs → s.tms.length ≤ 1000 → s.sq ≤ 1000000 → Calls Tryz.prog 109 #[.pointer (some ⟨b.px, 0, none⟩), .int .i64 m, .int .i64 err, .int .i64 cause] w (CanP b ps g n c err cause vp vc vk ve D m s cs w o)
 | [], _, _, _, _, _, h, _, _, _, _, _, _ => absurd rfl h
 | d :: D, m, s, cs, w, o, _, h, hcut, hm, hok, htl, hsq => by
  simp only [List.length_cons] at hcut
  refine cxcan_step h (by omega) hm hle hn hok.1 htl hsq (fun hD w1 o1 h1 => ?_)
  have h2 := cxcancel_c hle hn D (m + 1) (can1 s d) (cs.set m (canX err cause d.x)) w1 o1 hD h1 (by omega) (by omega) hok.2 htl hsq
  rwa [show ((m + 1 : Nat) : Int) = (m : Int) + 1 from by omega] at h2
theorem cxcancel_done {w : World} {q pm m cut : Nat} {F : Nat → Prop} {vl : Value} {cs : List Cx} {x : Cx} {err cause : Int} (h : CtxAt w q pm F vl cs cut) (hx : cs[m]? = some x) (hf : x.free = false) (he : x.err ≠ 0) : Calls Tryz.prog 109 #[.pointer (some ⟨q, 0, none⟩), .int .i64 m, .int .i64 err, .int .i64 cause] w fun e w' => e = .returned (.tuple #[.slice none 0 0, .slice none 0 0]) ∧ Made w w' := by
 obtain ⟨g, c, n, h1, h2, q2, hc⟩ := cx_row h hx
 have r1 : w.cell? ⟨g, m * 9 + 1, none⟩ = some (.bool x.free) := hc 1 _ rfl
 have r3 : w.cell? ⟨g, m * 9 + 3, none⟩ = some (.int .i64 x.err) := hc 3 _ rfl
 rw [hf] at r1
 have b1 : (x.err != 0) = true := by simpa using he
 have j1 : (0 : Int) ≤ (m : Int) := Int.natCast_nonneg _
 have j2 : (m : Int) < (n : Int) := by omega
 clear h hc h2 hx hf he
 go_enter Tryz.func109, Tryz.ntmps109
 go_wp2_with fail
 go_returns
 exact ⟨rfl, Turns.refl _ w⟩
theorem cxCancel_c {w : World} {q pm m cut : Nat} {F : Nat → Prop} {vl : Value} {cs : List Cx} {x : Cx} {cause : Int} {R : Value → World → Prop} (h : CtxAt w q pm F vl cs cut) (hx : cs[m]? = some x) (hf : x.free = false) (hn : cs.length ≤ 60) (hca : 1 ≤ cause) (H : Calls Tryz.prog 109 #[.pointer (some ⟨q, 0, none⟩), .int .i64 m, .int .i64 1, .int .i64 cause] w fun e w' => ∃ v, e = .returned (.tuple #[v, .slice none 0 0]) ∧ R v w') : Calls Tryz.prog 83 #[.pointer (some ⟨q, 0, none⟩), .int .i64 m, .int .i64 cause] w fun e w' => ∃ v, e = .returned (.tuple #[v, .slice none 0 0, .int .i64 0]) ∧ R v w' := by
 have HH := zh (cxhas_c h (List.getElem?_eq_some_iff.1 hx).1 hn)
 obtain ⟨g, c, n, h1, h2, q2, hc⟩ := cx_row h hx
 have r1 : w.cell? ⟨g, m * 9 + 1, none⟩ = some (.bool x.free) := hc 1 _ rfl
 rw [hf] at r1
 have HR := zh H
 have j1 : (0 : Int) ≤ (m : Int) := Int.natCast_nonneg _
 have j2 : (m : Int) < (n : Int) := by omega
 have j3 : ¬ cause < 1 := by omega
 clear h hc h2 hx hn hf hca H
 go_enter Tryz.func83, Tryz.ntmps83
 go_wp2_with fail
 refine HH.out.mono ?_
 rintro e w1 ⟨rfl, rfl⟩
 go_wp2_with fail
 refine HR.out.mono ?_
 rintro e w2 ⟨v, rfl, hr⟩
 have HR2 := zh hr
 clear hr r1 q2
 go_wp2_with fail
 go_returns
 exact ⟨v, rfl, HR2.out⟩
theorem cxLapse_c {w : World} {q pm m cut : Nat} {F : Nat → Prop} {vl : Value} {cs : List Cx} {x : Cx} {R : Value → World → Prop} (h : CtxAt w q pm F vl cs cut) (hx : cs[m]? = some x) (ho : x.own = true) (hn : cs.length ≤ 60) (H : Calls Tryz.prog 109 #[.pointer (some ⟨q, 0, none⟩), .int .i64 m, .int .i64 2, .int .i64 2] w fun e w' => ∃ v, e = .returned (.tuple #[v, .slice none 0 0]) ∧ R v w') : Calls Tryz.prog 66 #[.pointer (some ⟨q, 0, none⟩), .int .i64 m] w fun e w' => ∃ v, e = .returned (.tuple #[v, .slice none 0 0, .int .i64 0]) ∧ R v w' := by
 have HH := zh (cxhas_c h (List.getElem?_eq_some_iff.1 hx).1 hn)
 obtain ⟨g, c, n, h1, h2, q2, hc⟩ := cx_row h hx
 have r1 : w.cell? ⟨g, m * 9 + 7, none⟩ = some (.bool x.own) := hc 7 _ rfl
 rw [ho] at r1
 have HR := zh H
 have j1 : (0 : Int) ≤ (m : Int) := Int.natCast_nonneg _
 have j2 : (m : Int) < (n : Int) := by omega
 clear h hc h2 hx hn ho H
 go_enter Tryz.func66, Tryz.ntmps66
 go_wp2_with fail
 refine HH.out.mono ?_
 rintro e w1 ⟨rfl, rfl⟩
 go_wp2_with fail
 refine HR.out.mono ?_
 rintro e w2 ⟨v, rfl, hr⟩
 have HR2 := zh hr
 clear hr r1 q2
 go_wp2_with fail
 go_returns
 exact ⟨v, rfl, HR2.out⟩
def lapT (err cause : Int) (s : Wst) (y : Nat × List Wk) : Wst := { s with ev := s.ev ++ [⟨s.steps, 7, -1, y.1, err, cause⟩] }
def lapS (err cause : Int) : List (Nat × List Wk) → Wst → Wst
 | [], s => s
 | y :: l, s => lapS err cause l (wakesS (lapT err cause s y) y.2)
def LapOK (err cause : Int) : List (Nat × List Wk) → Wst → Prop
 | [], _ => True
 | y :: l, s => (s.ev.length < 1000 ∧ y.2.length ≤ 1000 ∧ WakesOK (lapT err cause s y) y.2) ∧ LapOK err cause l (wakesS (lapT err cause s y) y.2)
theorem wwake_nil {w : World} {b : Wp} (a : Option Addr) (cap : Nat) : Calls Tryz.prog 72 #[.pointer (some ⟨b.pb, 0, none⟩), .slice a 0 cap] w fun e w' => e = .returned (.tuple #[]) ∧ Made w w' := by
 go_enter Tryz.func72, Tryz.ntmps72
 go_wp2_with fail
 go_loopw [12] (fun v12 wr => v12 = .int .i64 0 ∧ Made w wr) (fun _ _ => 0)
 case atStart => exact ⟨rfl, Turns.refl _ w⟩
 case round =>
  obtain ⟨rfl, hm⟩ := hrel
  go_wp2_with fail
  go_end0
  exact ⟨rfl, hm⟩
theorem wwake_any {CX : World → (Nat → Prop) → Prop} {w : World} {b : Wp} {o : Nat → Nat} {ps : List (List Ins)} {s : Wst} {a : Option Addr} {cap : Nat} {l : List Wk} (hx : Ext CX) (h : WW CX w b o ps s) (hrow : RowIn wkC 5 w a l.length l) (hun : l = [] ∨ ∀ b' off, a = some ⟨b', off, none⟩ → ¬ Own o b' ∧ b' < w.heap.size) (hn : l.length ≤ 1000) (hok : WakesOK s l) :
  Calls Tryz.prog 72 #[.pointer (some ⟨b.pb, 0, none⟩), .slice a l.length cap] w fun e w' => e = .returned (.tuple #[]) ∧ ∃ o', WW CX w' b o' ps (wakesS s l) ∧ Stp w w' (Own o) (Own o') := by
 rcases hun with rfl | hun
 ·refine (wwake_nil a cap).mono ?_
  rintro e w' ⟨rfl, hm⟩
  exact ⟨rfl, o, h.made hx hm, Stp.made hm⟩
 ·exact wwake_c hx h hrow (fun b' off e => (hun b' off e).1) hn hok
def LapRel (CX : World → (Nat → Prop) → Prop) (b : Wp) (ps : List (List Ins)) (err cause : Int) (w : World) (o : Nat → Nat) (s : Wst) (ys : List (Nat × List Wk)) (k : Nat) (wr : World) : Prop := ∃ o' s', WW CX wr b o' ps s' ∧ Stp w wr (Own o) (Own o') ∧ lapS err cause (ys.drop k) s' = lapS err cause ys s ∧ LapOK err cause (ys.drop k) s'
theorem wlapse_c {CX : World → (Nat → Prop) → Prop} {w : World} {b : Wp} {o : Nat → Nat} {ps : List (List Ins)} {s : Wst} {err cause : Int} {v : Value} {ys : List (Nat × List Wk)} (hx : Ext CX) (h : WW CX w b o ps s) (hlp : LpOut w o err cause v ys) (hn : ys.length ≤ 1000) (hok : LapOK err cause ys s) :
  Calls Tryz.prog 67 #[.pointer (some ⟨b.pb, 0, none⟩), v, .slice none 0 0] w fun e w' => e = .returned (.tuple #[]) ∧ ∃ o', WW CX w' b o' ps (lapS err cause ys s) ∧ Stp w w' (Own o) (Own o') := by
 have HXX := zh hx
 have HLP := zh hlp
 have H0 := zh (show LapRel CX b ps err cause w o s ys 0 w from ⟨o, s, h, Stp.made (Turns.refl _ w), rfl, hok⟩)
 obtain ⟨ls, hl1, hl2, -, -⟩ := hlp
 obtain ⟨a, n, c, rfl, hnn⟩ := owns_slice' hl2
 have hny : n = ys.length := by rw [hnn, hl1]
 clear h hok hx hl1 hl2 hnn
 subst hny
 go_enter Tryz.func67, Tryz.ntmps67
 go_wp2_with fail
 go_loopw [12] (fun v12 wr => ∃ k : Nat, k ≤ ys.length ∧ v12 = .int .i64 k ∧ LapRel CX b ps err cause w o s ys k wr) (fun v12 _ => ys.length - (intOf v12).toNat)
 case atStart => exact ⟨0, Nat.zero_le _, rfl, H0.out⟩
 case round =>
  obtain ⟨k, hk, rfl, hrl⟩ := hrel
  have j1 : (0 : Int) ≤ (k : Int) := Int.natCast_nonneg _
  obtain ⟨o1, s1, hw1, hs1, hfold, hoks⟩ := hrl
  by_cases hlt : k < ys.length
  ·obtain ⟨y, hyk⟩ := get_of_lt (xs := ys) (k := k) hlt
   have hdr : ys.drop k = y :: ys.drop (k + 1) := by
    obtain ⟨h1, rfl⟩ := List.getElem?_eq_some_iff.1 hyk
    exact List.drop_eq_getElem_cons h1
   rw [hdr] at hfold hoks
   obtain ⟨⟨hev, hyl, hwk⟩, hok2⟩ := hoks
   have HLP1 := zh (HLP.out.step hs1)
   obtain ⟨ls1, hb1, hb2, hb3, hb4⟩ := HLP1.out
   obtain ⟨x, hxk⟩ := get_of_lt (xs := ls1) (k := k) (by omega)
   obtain ⟨⟨xid, xerr, xca, xa, xn, xc⟩, hxe⟩ : ∃ z : Lp, z = x := ⟨x, rfl⟩
   subst hxe
   have hone := hb4 k _ _ hxk hyk
   obtain ⟨hi1, hi2, hi3, ⟨hi4, hi5⟩, hi6⟩ := hone
   simp only at hi1 hi2 hi3 hi4 hi5 hi6
   have hi2 := hi2.symm
   have hi3 := hi3.symm
   subst hi1 hi2 hi3 hi4
   rcases hb2.form with ⟨_, h0⟩ | ⟨ga, cap, hva, -⟩
   ·rw [h0] at hxk
    simp at hxk
   have ha : a = some ⟨ga, 0, none⟩ := by
    simp only [Value.slice.injEq] at hva
    exact hva.1
   subst ha
   have hb5 : Owns lpC 199 4 wr (.slice (some ⟨ga, 0, none⟩) ls1.length c) ls1 := by rw [hb1]; exact hb2
   have c0 : wr.cell? ⟨ga, k * 4, none⟩ = some (.int .i64 y.1) := Owns.cell lpC_len hb5 hxk (j := 0) (u := .int .i64 y.1) rfl
   have c1 := Owns.cell lpC_len hb5 hxk (j := 1) (u := .int .i64 err) rfl
   have c2 := Owns.cell lpC_len hb5 hxk (j := 2) (u := .int .i64 cause) rfl
   have c3 := Owns.cell lpC_len hb5 hxk (j := 3) (u := .slice xa y.2.length xc) rfl
   have HY := zh (And.intro hi5 (And.intro hi6 (And.intro hyl (And.intro hwk (And.intro hfold (And.intro hok2 hs1))))))
   have HYK := zh (And.intro hyk hdr)
   have hmA := (zT wr).alloc (.cells #[.int .i64 y.1, .int .i64 err, .int .i64 cause, .slice xa y.2.length xc] 199)
   have HMA := zh hmA
   have HBA := zh (Blk.new wr 199 #[.int .i64 y.1, .int .i64 err, .int .i64 cause, .slice xa y.2.length xc])
   have HTE := zh (wtell_c (kind := 7) (who := -1) (ea := y.1) (eb := err) (ec := cause) HXX.out (hw1.made HXX.out hmA) hev)
   have HNG := zh (show ¬ Own o1 wr.heap.size from fun h0 => absurd (hw1.lt _ h0) (Nat.lt_irrefl _))
   have j2 : (k : Int) < (ys.length : Int) := by omega
   clear hw1 hs1 hfold hev hyl hwk hok2 hb1 hb5 hb2 hb3 hb4 hxk hi5 hi6 hva hyk hdr hmA
   go_wp2_with fail
   refine HTE.out.mono ?_
   rintro e w2 ⟨rfl, o2, hw2, hs2⟩
   have hB2 := HBA.out.turns hs2.t HNG.out
   have d3 : w2.cell? ⟨wr.heap.size, 3, none⟩ = some (.slice xa y.2.length xc) := hB2.cell 3
   have hst2 := (Stp.made (F := Own o1) HMA.out).trans hs2
   have hfar2 : y.2 = [] ∨ ∀ b' off, xa = some ⟨b', off, none⟩ → ¬ Own o2 b' ∧ b' < w2.heap.size := HY.out.2.1.imp id (fun hf b' off e => ⟨fun h0 => (hst2.f b' h0).elim (hf b' off e).1 (fun h1 => absurd (hf b' off e).2 (Nat.not_lt.2 h1)), Nat.lt_of_lt_of_le (hf b' off e).2 hst2.t.size⟩)
   have hrow2 : RowIn wkC 5 w2 xa y.2.length y.2 := by
    rcases HY.out.2.1 with h0 | hf
    ·exact row_nil HY.out.1 h0
    ·exact HY.out.1.turns hst2.t (fun b' off e => (hf b' off e).1)
   have HWK := zh (wwake_any (cap := xc) HXX.out hw2 hrow2 hfar2 HY.out.2.2.1 HY.out.2.2.2.1)
   have HS2 := zh (HY.out.2.2.2.2.2.2.trans hst2)
   clear hw2 hs2 hB2 hst2 hfar2 hrow2 c0 c1 c2 c3
   go_wp2_with fail
   refine HWK.out.mono ?_
   rintro e w3 ⟨rfl, o3, hw3, hs3⟩
   have HR := zh (show LapRel CX b ps err cause w o s ys (k + 1) w3 from ⟨o3, _, hw3, HS2.out.trans hs3, HY.out.2.2.2.2.1, HY.out.2.2.2.2.2.1⟩)
   clear hw3 hs3 d3
   go_wp2_with fail
   go_roundw
   case rel => exact ⟨k + 1, by omega, by go_num, HR.out⟩
   case measure => simp [intOf]; omega
  ·have hk2 : k = ys.length := by omega
   subst hk2
   rw [List.drop_length] at hfold
   have HE : Hid (WW CX wr b o1 ps (lapS err cause ys s) ∧ Stp w wr (Own o) (Own o1)) := zh ⟨by rw [← hfold]; exact hw1, hs1⟩
   clear hw1 hs1 hfold hoks
   go_wp2_with fail
   go_loopw [31] (fun v31 wq => v31 = .int .i64 0 ∧ Made wr wq) (fun _ _ => 0)
   case atStart => exact ⟨rfl, Turns.refl _ wr⟩
   case round =>
    obtain ⟨rfl, hm⟩ := hrel
    go_wp2_with fail
    go_end0
    exact ⟨rfl, o1, HE.out.1.made HXX.out hm, HE.out.2.then_made hm⟩
structure Cs where
 cs : List Cx
 cut : Nat
abbrev CXs (b : Wp) (k : Cs) : World → (Nat → Prop) → Prop := fun w F => ∃ vl, CtxAt w b.px b.pm F vl k.cs k.cut
theorem CXs.ext (b : Wp) (k : Cs) : Ext (CXs b k) := CtxAt.ext b.px b.pm k.cs k.cut
section
variable {w : World} {b : Wp} {o : Nat → Nat} {ps : List (List Ins)} {s : Wst} {k : Cs} {vp vc vk ve : Value}
theorem WAt.up {vl : Value} {cs : List Cx} {cut : Nat} (h : WAt (CXv b vl cs cut) w b o ps s vp vc vk ve) : WAt (CXs b ⟨cs, cut⟩) w b o ps s vp vc vk ve :=
 { blk := h.blk, ob := h.ob, lt := h.lt, clk := h.clk, ok := h.ok, tab := h.tab, tms := h.tms, dls := h.dls, ctx := ⟨vl, h.ctx⟩, prs := h.prs, crow := h.crow, co := h.co, lrow := h.lrow, lo := h.lo, erow := h.erow, eo := h.eo, cnd := h.cnd, chn := h.chn }
theorem WAt.down (h : WAt (CXs b k) w b o ps s vp vc vk ve) : ∃ vl, WAt (CXv b vl k.cs k.cut) w b o ps s vp vc vk ve := by
 obtain ⟨vl, hc⟩ := h.ctx
 exact ⟨vl, { blk := h.blk, ob := h.ob, lt := h.lt, clk := h.clk, ok := h.ok, tab := h.tab, tms := h.tms, dls := h.dls, ctx := hc, prs := h.prs, crow := h.crow, co := h.co, lrow := h.lrow, lo := h.lo, erow := h.erow, eo := h.eo, cnd := h.cnd, chn := h.chn }⟩
theorem WW.ctx (h : WW (CXs b k) w b o ps s) : ∃ vl, CtxAt w b.px b.pm (fun j => o j = 6) vl k.cs k.cut := by
 obtain ⟨vp, vc, vk, ve, h⟩ := h
 exact h.ctx
theorem WW.cell6 (h : WW (CXs b k) w b o ps s) : w.cell? ⟨b.pb, 6, none⟩ = some (.pointer (some ⟨b.px, 0, none⟩)) := by
 obtain ⟨vp, vc, vk, ve, h⟩ := h
 exact h.blk.cell 6
end
structure CanPre (err cause : Int) (D : List Cd) (m : Nat) (s : Wst) (k : Cs) : Prop where
 ne : D ≠ []
 cut : m + D.length = k.cut
 one : 1 ≤ m
 le : k.cut ≤ k.cs.length
 few : k.cs.length ≤ 60
 ok : CanOK err cause D m s k.cs
 tl : s.tms.length ≤ 1000
 sq : s.sq ≤ 1000000
def canCs (err cause : Int) (D : List Cd) (m : Nat) (k : Cs) : Cs := ⟨canK err cause D m k.cs, m⟩
theorem wwcancel_c {w : World} {b : Wp} {o : Nat → Nat} {ps : List (List Ins)} {s : Wst} {k : Cs} {err cause : Int} {D : List Cd} {m : Nat} (h : WW (CXs b k) w b o ps s) (hp : CanPre err cause D m s k) :
  Calls Tryz.prog 109 #[.pointer (some ⟨b.px, 0, none⟩), .int .i64 m, .int .i64 err, .int .i64 cause] w fun e w' => ∃ v, e = .returned (.tuple #[v, .slice none 0 0]) ∧ ∃ o', WW (CXs b (canCs err cause D m k)) w' b o' ps (canS D s) ∧ LpOut w' o' err cause v (canO D m) ∧ Stp w w' (Own o) (Own o') := by
 obtain ⟨vp, vc, vk, ve, h⟩ := h
 obtain ⟨vl, h⟩ := h.down
 obtain ⟨d, D', hd⟩ : ∃ d D', D = d :: D' := List.exists_cons_of_ne_nil hp.ne
 have hok := hp.ok
 rw [hd] at hok
 obtain ⟨g, c, hv, -⟩ := cx_row2 (show CtxAt w b.px b.pm (fun j => o j = 6) vl k.cs k.cut from h.ctx) hok.1.x
 subst hv
 refine (cxcancel_c hp.le hp.few D m s k.cs w o hp.ne h hp.cut hp.one hp.ok hp.tl hp.sq).mono ?_
 rintro e w' ⟨a, cap, o', rfl, h1, h2, h3⟩
 exact ⟨_, rfl, o', ⟨_, _, _, _, h1.up⟩, h2, h3⟩
theorem wfireL_c {w : World} {b : Wp} {o : Nat → Nat} {ps : List (List Ins)} {s : Wst} {k : Cs} {D : List Cd} {m : Nat} {i wh at_ : Int} {x : Cx} (h : WW (CXs b k) w b o ps s) (hp : CanPre 2 2 D m s k) (hx : k.cs[m]? = some x) (hown : x.own = true) (hok : LapOK 2 2 (canO D m) (canS D s)) :
  Calls Tryz.prog 45 #[.pointer (some ⟨b.pb, 0, none⟩), .agg #[.int .i64 i, .int .i64 4, .int .i64 wh, .int .i64 at_, .int .i64 m, .slice none 0 0, .bool false]] w fun e w' => e = .returned (.tuple #[]) ∧ ∃ o', WW (CXs b (canCs 2 2 D m k)) w' b o' ps (lapS 2 2 (canO D m) (canS D s)) ∧ Stp w w' (Own o) (Own o') := by
 have HM := zh ((zT w).alloc (.cells #[.int .i64 i, .int .i64 4, .int .i64 wh, .int .i64 at_, .int .i64 m, .slice none 0 0, .bool false] 114))
 have HB := zh (Blk.new w 114 #[.int .i64 i, .int .i64 4, .int .i64 wh, .int .i64 at_, .int .i64 m, .slice none 0 0, .bool false])
 have HNG := zh (show ¬ Own o w.heap.size from fun h0 => absurd (h.lt _ h0) (Nat.lt_irrefl _))
 have HD := zh (And.intro hok (show (canO D m).length ≤ 1000 from by rw [canO_len]; have := hp.cut; have := hp.le; have := hp.few; omega))
 have HWD := zh (h.made (CXs.ext b k) (HM.out.drew))
 obtain ⟨vl, hcx⟩ := HWD.out.ctx
 have HLA := zh (cxLapse_c (R := fun v w' => ∃ o', WW (CXs b (canCs 2 2 D m k)) w' b o' ps (canS D s) ∧ LpOut w' o' 2 2 v (canO D m) ∧ Stp _ w' (Own o) (Own o')) hcx hx hown hp.few (wwcancel_c HWD.out hp))
 have HC6 := zh HWD.out.cell6
 clear h hp hx hown hok hcx
 go_enter Tryz.func45, Tryz.ntmps45
 go_upto_region 2 with fail
 have HLW : Hid (w.heap.size < (w.alloc (.cells #[.int .i64 i, .int .i64 4, .int .i64 wh, .int .i64 at_, .int .i64 m, .slice none 0 0, .bool false] 114)).heap.size) := zh HB.out.lt
 generalize w.alloc (.cells #[.int .i64 i, .int .i64 4, .int .i64 wh, .int .i64 at_, .int .i64 m, .slice none 0 0, .bool false] 114) = W at *
 refine wp_region_held_drew (S := fun w' => w'.cell? ⟨b.pb, 6, none⟩ = some (.pointer (some ⟨b.px, 0, none⟩)) ∧ w'.cell? ⟨w.heap.size, 4, none⟩ = some (.int .i64 m)) (by kernel_rfl) ?_ (fun hHeld => ?_)
 ·exact ⟨HC6.out, HB.out.cell 4⟩
 refine tH 0 11 ?_ ?_ ?_;rotate_left
 ·intro w hSw
  go_simp
  try with_reducible rfl
 try simp only [zP]
 refine tH 1 12 ?_ ?_ ?_;rotate_left
 ·intro w hSw
  go_simp
  try with_reducible rfl
 try simp only [zP]
 refine tH 2 13 ?_ ?_ ?_;rotate_left
 ·intro w hSw
  go_simp
  try with_reducible rfl
 try simp only [zP]
 refine tH 3 14 ?_ ?_ ?_;rotate_left
 ·intro w hSw
  have hS1 := hSw.1
  have hS2 := hSw.2
  go_simp
  try with_reducible rfl
 try simp only [zP]
 refine tH 4 15 ?_ ?_ ?_;rotate_left
 ·intro w hSw
  go_simp
  try with_reducible rfl
 try simp only [zP]
 refine tH 5 16 ?_ ?_ ?_;rotate_left
 ·intro w hSw
  have hS1 := hSw.1
  have hS2 := hSw.2
  go_simp
  try with_reducible rfl
 try simp only [zP]
 refine zR 6 fun K hK => ?_
 go_simp
 refine HLA.out.mono ?_
 rintro e w2 ⟨v2, rfl, o2, hw2, hlp2, hs2⟩
 refine hK.out _ _ ?_ (fun hHeld => ?_)
 ·exact ⟨hw2.cell6, (hs2.t.cell (p := ⟨w.heap.size, 4, none⟩) HLW.out HNG.out).trans hHeld.2⟩
 clear hK K
 try simp only [zP]
 refine tH 7 10 ?_ ?_ ?_;rotate_left
 ·intro w hSw
  go_simp
  try with_reducible rfl
 try simp only [zP]
 refine tH 8 18 ?_ ?_ ?_;rotate_left
 ·intro w hSw
  go_simp
  try with_reducible rfl
 try simp only [zP]
 refine tH 9 19 ?_ ?_ ?_;rotate_left
 ·intro w hSw
  go_simp
  try with_reducible rfl
 try simp only [zP]
 refine tH 10 20 ?_ ?_ ?_;rotate_left
 ·intro w hSw
  go_simp
  try with_reducible rfl
 try simp only [zP]
 refine tH 11 4 ?_ ?_ ?_;rotate_left
 ·intro w hSw
  go_simp
  try with_reducible rfl
 try simp only [zP]
 refine tH 12 5 ?_ ?_ ?_;rotate_left
 ·intro w hSw
  go_simp
  try with_reducible rfl
 try simp only [zP]
 refine tH 13 6 ?_ ?_ ?_;rotate_left
 ·intro w hSw
  go_simp
  try with_reducible rfl
 try simp only [zP]
 refine wpAnyH_done (by kernel_rfl) ?_ _
 have HS2 := zh ((Stp.made (F := Own o) HM.out.drew).trans hs2)
 have HLP := zh (wlapse_c (CXs.ext b (canCs 2 2 D m k)) hw2 hlp2 HD.out.2 HD.out.1)
 clear hHeld hw2 hlp2 hs2
 go_wp2_with fail
 refine HLP.out.mono ?_
 rintro e w3 ⟨rfl, o3, hw3, hs3⟩
 have HE := zh (And.intro hw3 (HS2.out.trans hs3))
 clear hw3 hs3
 go_wp2_with fail
 first | go_ret | go_returns | go_end0
 exact ⟨rfl, o3, HE.out.1, HE.out.2⟩
structure FSys (b : Wp) (R : Int → Nat → World → (Nat → Nat) → Prop) (St : Nat → Nat → World → (Nat → Nat) → List Value → Bool → Prop) (Fin : World → (Nat → Nat) → Prop) : Prop where
 rturns : ∀ now n (S : Nat → Prop) w w' o, R now n w o → Turns S w w' → (∀ k, o k ≠ 0 → ¬ S k) → R now n w' o
 rlt : ∀ now n w o, R now n w o → ∀ k, Own o k → k < w.heap.size
 rcell : ∀ now n w o, R now n w o → w.cell? ⟨b.pb, 5, none⟩ = some (.pointer (some ⟨b.pm, 0, none⟩))
 rnow : ∀ now n w o, R now n w o → Calls Tryz.prog 44 #[.pointer (some ⟨b.pb, 0, none⟩)] w fun e w' => e = .returned (.int .i64 now) ∧ w = w'
 rfire : ∀ now n w o, R now n w o → Calls Tryz.prog 43 #[.pointer (some ⟨b.pm, 0, none⟩), .int .i64 now] w fun e w' => ∃ fc ok, e = .returned (.tuple #[.agg fc.toArray, .bool ok]) ∧ fc.length = 7 ∧ (∀ u ∈ fc, u.oneCell' = true) ∧ ∃ o', St n w.heap.size w' o' fc ok ∧ Stp w w' (Own o) (Own o')
 sturns : ∀ n lo (S : Nat → Prop) w w' o fc ok, St n lo w o fc ok → Turns S w w' → (∀ k, o k ≠ 0 → ¬ S k) → (∀ k, lo ≤ k → k < w.heap.size → ¬ S k) → St n lo w' o fc ok
 slow : ∀ n lo w o fc ok, St n lo w o fc ok → St n 0 w o fc ok
 slt : ∀ n lo w o fc ok, St n lo w o fc ok → ∀ k, Own o k → k < w.heap.size
 scell : ∀ n lo w o fc ok, St n lo w o fc ok → w.cell? ⟨b.pb, 5, none⟩ = some (.pointer (some ⟨b.pm, 0, none⟩))
 sno : ∀ n lo w o fc, St n lo w o fc false → Fin w o
 syes : ∀ n lo w o fc, St n lo w o fc true → ∃ m now, n = m + 1 ∧ Calls Tryz.prog 45 #[.pointer (some ⟨b.pb, 0, none⟩), .agg fc.toArray] w fun e w' => e = .returned (.tuple #[]) ∧ ∃ o', R now m w' o' ∧ Stp w w' (Own o) (Own o')
def XRel (St : Nat → Nat → World → (Nat → Nat) → List Value → Bool → Prop) (w0 : World) (o0 : Nat → Nat) (n g : Nat) (ok : Bool) (wr : World) : Prop := ∃ o' fc, St n 0 wr o' fc ok ∧ Stp w0 wr (Own o0) (Own o') ∧ Blk wr g 114 fc.toArray ∧ fc.length = 7 ∧ (∀ u ∈ fc, u.oneCell' = true) ∧ ¬ Own o' g ∧ w0.heap.size ≤ g
theorem wadvance_x {w : World} {b : Wp} {o : Nat → Nat} {R : Int → Nat → World → (Nat → Nat) → Prop} {St : Nat → Nat → World → (Nat → Nat) → List Value → Bool → Prop} {Fin : World → (Nat → Nat) → Prop} {n : Nat} {d now0 : Int} (hF : FSys b R St Fin) (q1 : w.cell? ⟨b.pb, 1, none⟩ = some (.pointer (some ⟨b.pk, 0, none⟩))) (hka : Calls Tryz.prog 42 #[.pointer (some ⟨b.pk, 0, none⟩), .int .i64 d] w fun e w' => e = .returned (.int .i64 0) ∧ ∃ o', R now0 n w' o' ∧ Stp w w' (Own o) (Own o')) :
  Calls Tryz.prog 25 #[.pointer (some ⟨b.pb, 0, none⟩), .int .i64 d] w fun e w' => e = .returned (.tuple #[]) ∧ ∃ o', Fin w' o' ∧ Stp w w' (Own o) (Own o') := by
 have HF := zh hF
 have HKA := zh hka
 clear hF hka
 go_enter Tryz.func25, Tryz.ntmps25
 go_wp2_with fail
 refine HKA.out.mono ?_
 rintro e W0 ⟨rfl, oA, hA, hsA⟩
 have HWD := zh (HF.out.rturns _ _ (fun _ => False) _ _ _ hA (zT W0).drew (fun _ _ h => h))
 have HW0S := zh hsA
 have HNO := zh (show ¬ Own oA W0.drew.heap.size from fun h0 => absurd (HF.out.rlt _ _ _ _ HWD.out _ h0) (Nat.lt_irrefl _))
 clear hA hsA q1
 go_upto_region 1 with fail
 go_cut [4, 5] (fun v4 v5 wx => ∃ (g : Nat) (ok : Bool), v4 = .pointer (some ⟨g, 0, none⟩) ∧ v5 = .bool ok ∧ XRel St w o n g ok wx)
 case first =>
  refine wp_region_held_drew (S := fun w' => w'.cell? ⟨b.pb, 5, none⟩ = some (.pointer (some ⟨b.pm, 0, none⟩)) ∧ (w' = W0.drew ∨ True)) (by kernel_rfl) ?_ (fun hHeld => ?_)
  ·exact ⟨HF.out.rcell _ _ _ _ HWD.out, .inr trivial⟩
  refine tH 0 13 ?_ ?_ ?_;rotate_left
  ·intro w hSw
   go_simp
   try with_reducible rfl
  try simp only [zP]
  refine tH 1 14 ?_ ?_ ?_;rotate_left
  ·intro w hSw
   go_simp
   try with_reducible rfl
  try simp only [zP]
  refine tH 2 15 ?_ ?_ ?_;rotate_left
  ·intro w hSw
   go_simp
   try with_reducible rfl
  try simp only [zP]
  refine tH 3 16 ?_ ?_ ?_;rotate_left
  ·intro w hSw
   have qw := hSw.1
   go_simp
   try with_reducible rfl
  try simp only [zP]
  refine tH 4 17 ?_ ?_ ?_;rotate_left
  ·intro w hSw
   go_simp
   try with_reducible rfl
  try simp only [zP]
  refine wpAnyH_ready (rs := [5, 10]) (by kernel_rfl) (by simp) ?_
  refine AllReadyH.cons rfl (fun K hK => ?_) ?_
  ·as_aux_lemma =>
    go_simp
    refine (HF.out.rnow _ _ _ _ (HWD.out)).mono ?_
    rintro e wN ⟨rfl, rfl⟩
    refine hK.out _ _ ?_ (fun hHeld => ?_)
    ·exact ⟨hHeld.1, .inr trivial⟩
    clear hK K
    try simp only [zP]
    refine wpAnyH_ready (rs := [6, 10]) (by kernel_rfl) (by simp) ?_
    refine AllReadyH.cons rfl (fun K hK => ?_) ?_
    ·as_aux_lemma =>
      go_simp
      refine (HF.out.rfire _ _ _ _ (HWD.out)).mono ?_
      rintro e wF ⟨fc, ok, rfl, h7, h1c, o2, hfs, hsw⟩
      refine hK.out _ _ ?_ (fun hHeld => ?_)
      ·exact ⟨HF.out.scell _ _ _ _ _ _ hfs, .inr trivial⟩
      clear hK K
      try simp only [zP]
      have hlt2 := HF.out.slt _ _ _ _ _ _ hfs
      refine tH 7 12 ?_ ?_ ?_;rotate_left
      ·intro w hSw
       go_simp
       try with_reducible rfl
      try simp only [zP]
      refine tH 8 20 ?_ ?_ ?_;rotate_left
      ·intro w hSw
       go_simp
       try with_reducible rfl
      try simp only [zP]
      refine tH 9 21 ?_ ?_ ?_;rotate_left
      ·intro w hSw
       go_simp
       try with_reducible rfl
      try simp only [zP]
      refine zR 10 fun K hK => ?_
      go_simp
      refine hK.out _ _ ?_ (fun hHeld => ?_)
      ·exact ⟨HF.out.scell _ _ _ _ _ _ (HF.out.sturns _ _ (fun _ => False) _ _ _ _ _ hfs ((Turns.refl _ wF).alloc _) (fun _ _ h => h) (fun _ _ _ h => h)), .inr trivial⟩
      clear hK K
      try simp only [zP]
      have HZ := Blk.new wF 114 #[.int .i64 0, .int .i64 0, .int .i64 0, .int .i64 0, .int .i64 0, .slice none 0 0, .bool false]
      have hgo : ¬ Own o2 wF.heap.size := fun h0 => absurd (hlt2 _ h0) (Nat.lt_irrefl _)
      have hst : Stp w (wF.alloc (.cells #[.int .i64 0, .int .i64 0, .int .i64 0, .int .i64 0, .int .i64 0, .slice none 0 0, .bool false] 114)) (Own o) (Own o2) := (HW0S.out.trans ((Stp.made (F := Own oA) (zT W0).drew).trans hsw)).trans (Stp.made ((zT wF).alloc _))
      have hgl : ∀ k, W0.drew.heap.size ≤ k → k < wF.heap.size → k ≠ wF.heap.size := fun k _ h e => by omega
      have hgw : w.heap.size ≤ wF.heap.size := Nat.le_trans HW0S.out.t.size hsw.t.size
      refine zR 11 fun K hK => ?_
      refine step_store_mid rfl rfl _ _ _ (by rfl) (by rfl) fc [] [.int .i64 0, .int .i64 0, .int .i64 0, .int .i64 0, .int .i64 0, .slice none 0 0, .bool false] [] (by rfl) (t := 114) (show Blk _ _ _ _ from by simpa using HZ) (by rfl) (by rw [h7]; first | rfl | exact HO1.out.2) h1c (by rw [h7]; exact Tryz.sizeFired) ?_
      intro wS hbS htS
      have hfsS := HF.out.sturns _ _ _ _ _ _ _ _ hfs (((Turns.refl (fun k => k = wF.heap.size) wF).alloc (.cells #[.int .i64 0, .int .i64 0, .int .i64 0, .int .i64 0, .int .i64 0, .slice none 0 0, .bool false] 114)).then htS (fun _ _ h => h)) (fun k hk e => hgo (by subst e; exact hk)) (fun k h1 h2 => hgl k h1 h2)
      have hstS : Stp w wS (Own o) (Own o2) := ⟨hst.t.then htS (fun k hk e => by have e2 : k = _ := e; exact absurd hk (by rw [e2]; exact Nat.not_lt.2 hgw)), hst.f⟩
      refine hK.out _ _ ?_ (fun hHeld => ?_)
      ·exact ⟨HF.out.scell _ _ _ _ _ _ hfsS, .inr trivial⟩
      clear hK K
      try simp only [zP]
      refine tH 12 5 ?_ ?_ ?_;rotate_left
      ·intro w hSw
       go_simp
       try with_reducible rfl
      try simp only [zP]
      refine wpAnyH_done (by kernel_rfl) ?_ _
      have HR := zh (show XRel St w o n _ ok wS from ⟨o2, fc, HF.out.slow _ _ _ _ _ _ hfsS, hstS, by simpa using hbS, h7, h1c, hgo, hgw⟩)
      clear hHeld hbS htS hfsS hstS hgo hgw hgl hst HZ hfs hsw hlt2
      go_wp2_with fail
      go_meet
      exact ⟨_, _, rfl, rfl, HR.out⟩
    refine AllReadyH.cons rfl (fun K hK => ?_) ?_
    ·as_aux_lemma =>
      go_simp
      refine hK.out _ _ ?_ (fun hHeld => ?_)
      ·exact ⟨HF.out.rcell _ _ _ _ (HF.out.rturns _ _ (fun _ => False) _ _ _ HWD.out ((Turns.refl _ _).alloc _) (fun _ _ h => h)), .inr trivial⟩
      clear hK K
      try simp only [zP]
      have hz0 := Blk.new W0.drew 114 #[.int .i64 0, .int .i64 0, .int .i64 0, .int .i64 0, .int .i64 0, .slice none 0 0, .bool false]
      refine zR 6 fun K hK => ?_
      go_simp
      refine (HF.out.rfire _ _ _ _ (HF.out.rturns _ _ (fun _ => False) _ _ _ HWD.out ((Turns.refl _ _).alloc _) (fun _ _ h => h))).mono ?_
      rintro e wF ⟨fc, ok, rfl, h7, h1c, o2, hfs, hsw⟩
      refine hK.out _ _ ?_ (fun hHeld => ?_)
      ·exact ⟨HF.out.scell _ _ _ _ _ _ hfs, .inr trivial⟩
      clear hK K
      try simp only [zP]
      have hlt2 := HF.out.slt _ _ _ _ _ _ hfs
      have HZ := hz0.turns hsw.t HNO.out
      have hgo : ¬ Own o2 W0.drew.heap.size := fun h0 => by rcases hsw.f _ h0 with h4 | h4; exact HNO.out h4; exact absurd h4 (by simp)
      have hst : Stp w wF (Own o) (Own o2) := HW0S.out.trans ((Stp.made (F := Own oA) ((zT W0).drew.alloc (.cells #[.int .i64 0, .int .i64 0, .int .i64 0, .int .i64 0, .int .i64 0, .slice none 0 0, .bool false] 114))).trans hsw)
      have hgl : ∀ k, (W0.drew.alloc (.cells #[.int .i64 0, .int .i64 0, .int .i64 0, .int .i64 0, .int .i64 0, .slice none 0 0, .bool false] 114)).heap.size ≤ k → k < wF.heap.size → k ≠ W0.drew.heap.size := fun k h _ e => by have h9 : W0.drew.heap.size < (W0.drew.alloc (.cells #[.int .i64 0, .int .i64 0, .int .i64 0, .int .i64 0, .int .i64 0, .slice none 0 0, .bool false] 114)).heap.size := (by simp); rw [e] at h; exact absurd h (Nat.not_le.2 h9)
      have hgw : w.heap.size ≤ W0.drew.heap.size := HW0S.out.t.size
      refine tH 7 12 ?_ ?_ ?_;rotate_left
      ·intro w hSw
       go_simp
       try with_reducible rfl
      try simp only [zP]
      refine tH 8 20 ?_ ?_ ?_;rotate_left
      ·intro w hSw
       go_simp
       try with_reducible rfl
      try simp only [zP]
      refine tH 9 21 ?_ ?_ ?_;rotate_left
      ·intro w hSw
       go_simp
       try with_reducible rfl
      try simp only [zP]
      refine zR 11 fun K hK => ?_
      refine step_store_mid rfl rfl _ _ _ (by rfl) (by rfl) fc [] [.int .i64 0, .int .i64 0, .int .i64 0, .int .i64 0, .int .i64 0, .slice none 0 0, .bool false] [] (by rfl) (t := 114) (show Blk _ _ _ _ from by simpa using HZ) (by rfl) (by rw [h7]; first | rfl | exact HO1.out.2) h1c (by rw [h7]; exact Tryz.sizeFired) ?_
      intro wS hbS htS
      have hfsS := HF.out.sturns _ _ _ _ _ _ _ _ hfs htS (fun k hk e => hgo (by subst e; exact hk)) (fun k h1 h2 => hgl k h1 h2)
      have hstS : Stp w wS (Own o) (Own o2) := ⟨hst.t.then htS (fun k hk e => by have e2 : k = _ := e; exact absurd hk (by rw [e2]; exact Nat.not_lt.2 hgw)), hst.f⟩
      refine hK.out _ _ ?_ (fun hHeld => ?_)
      ·exact ⟨HF.out.scell _ _ _ _ _ _ hfsS, .inr trivial⟩
      clear hK K
      try simp only [zP]
      refine tH 12 5 ?_ ?_ ?_;rotate_left
      ·intro w hSw
       go_simp
       try with_reducible rfl
      try simp only [zP]
      refine wpAnyH_done (by kernel_rfl) ?_ _
      have HR := zh (show XRel St w o n _ ok wS from ⟨o2, fc, HF.out.slow _ _ _ _ _ _ hfsS, hstS, by simpa using hbS, h7, h1c, hgo, hgw⟩)
      clear hHeld hbS htS hfsS hstS hgo hgw hgl hst HZ hfs hsw hlt2
      go_wp2_with fail
      go_meet
      exact ⟨_, _, rfl, rfl, HR.out⟩
    exact AllReadyH.nil
  refine AllReadyH.cons rfl (fun K hK => ?_) ?_
  ·as_aux_lemma =>
    go_simp
    refine hK.out _ _ ?_ (fun hHeld => ?_)
    ·exact ⟨HF.out.rcell _ _ _ _ (HF.out.rturns _ _ (fun _ => False) _ _ _ HWD.out ((Turns.refl _ _).alloc _) (fun _ _ h => h)), .inr trivial⟩
    clear hK K
    try simp only [zP]
    have hz0 := Blk.new W0.drew 114 #[.int .i64 0, .int .i64 0, .int .i64 0, .int .i64 0, .int .i64 0, .slice none 0 0, .bool false]
    refine zR 5 fun K hK => ?_
    go_simp
    refine (HF.out.rnow _ _ _ _ (HF.out.rturns _ _ (fun _ => False) _ _ _ HWD.out ((Turns.refl _ _).alloc _) (fun _ _ h => h))).mono ?_
    rintro e wN ⟨rfl, rfl⟩
    refine hK.out _ _ ?_ (fun hHeld => ?_)
    ·exact ⟨hHeld.1, .inr trivial⟩
    clear hK K
    try simp only [zP]
    refine zR 6 fun K hK => ?_
    go_simp
    refine (HF.out.rfire _ _ _ _ (HF.out.rturns _ _ (fun _ => False) _ _ _ HWD.out ((Turns.refl _ _).alloc _) (fun _ _ h => h))).mono ?_
    rintro e wF ⟨fc, ok, rfl, h7, h1c, o2, hfs, hsw⟩
    refine hK.out _ _ ?_ (fun hHeld => ?_)
    ·exact ⟨HF.out.scell _ _ _ _ _ _ hfs, .inr trivial⟩
    clear hK K
    try simp only [zP]
    have hlt2 := HF.out.slt _ _ _ _ _ _ hfs
    have HZ := hz0.turns hsw.t HNO.out
    have hgo : ¬ Own o2 W0.drew.heap.size := fun h0 => by rcases hsw.f _ h0 with h4 | h4; exact HNO.out h4; exact absurd h4 (by simp)
    have hst : Stp w wF (Own o) (Own o2) := HW0S.out.trans ((Stp.made (F := Own oA) ((zT W0).drew.alloc (.cells #[.int .i64 0, .int .i64 0, .int .i64 0, .int .i64 0, .int .i64 0, .slice none 0 0, .bool false] 114))).trans hsw)
    have hgl : ∀ k, (W0.drew.alloc (.cells #[.int .i64 0, .int .i64 0, .int .i64 0, .int .i64 0, .int .i64 0, .slice none 0 0, .bool false] 114)).heap.size ≤ k → k < wF.heap.size → k ≠ W0.drew.heap.size := fun k h _ e => by have h9 : W0.drew.heap.size < (W0.drew.alloc (.cells #[.int .i64 0, .int .i64 0, .int .i64 0, .int .i64 0, .int .i64 0, .slice none 0 0, .bool false] 114)).heap.size := (by simp); rw [e] at h; exact absurd h (Nat.not_le.2 h9)
    have hgw : w.heap.size ≤ W0.drew.heap.size := HW0S.out.t.size
    refine tH 7 12 ?_ ?_ ?_;rotate_left
    ·intro w hSw
     go_simp
     try with_reducible rfl
    try simp only [zP]
    refine tH 8 20 ?_ ?_ ?_;rotate_left
    ·intro w hSw
     go_simp
     try with_reducible rfl
    try simp only [zP]
    refine tH 9 21 ?_ ?_ ?_;rotate_left
    ·intro w hSw
     go_simp
     try with_reducible rfl
    try simp only [zP]
    refine zR 11 fun K hK => ?_
    refine step_store_mid rfl rfl _ _ _ (by rfl) (by rfl) fc [] [.int .i64 0, .int .i64 0, .int .i64 0, .int .i64 0, .int .i64 0, .slice none 0 0, .bool false] [] (by rfl) (t := 114) (show Blk _ _ _ _ from by simpa using HZ) (by rfl) (by rw [h7]; first | rfl | exact HO1.out.2) h1c (by rw [h7]; exact Tryz.sizeFired) ?_
    intro wS hbS htS
    have hfsS := HF.out.sturns _ _ _ _ _ _ _ _ hfs htS (fun k hk e => hgo (by subst e; exact hk)) (fun k h1 h2 => hgl k h1 h2)
    have hstS : Stp w wS (Own o) (Own o2) := ⟨hst.t.then htS (fun k hk e => by have e2 : k = _ := e; exact absurd hk (by rw [e2]; exact Nat.not_lt.2 hgw)), hst.f⟩
    refine hK.out _ _ ?_ (fun hHeld => ?_)
    ·exact ⟨HF.out.scell _ _ _ _ _ _ hfsS, .inr trivial⟩
    clear hK K
    try simp only [zP]
    refine tH 12 5 ?_ ?_ ?_;rotate_left
    ·intro w hSw
     go_simp
     try with_reducible rfl
    try simp only [zP]
    refine wpAnyH_done (by kernel_rfl) ?_ _
    have HR := zh (show XRel St w o n _ ok wS from ⟨o2, fc, HF.out.slow _ _ _ _ _ _ hfsS, hstS, by simpa using hbS, h7, h1c, hgo, hgw⟩)
    clear hHeld hbS htS hfsS hstS hgo hgw hgl hst HZ hfs hsw hlt2
    go_wp2_with fail
    go_meet
    exact ⟨_, _, rfl, rfl, HR.out⟩
  exact AllReadyH.nil
 case rest =>
  obtain ⟨g0, ok0, rfl, rfl, hr⟩ := hcut
  have HR0 := zh hr
  clear hr HWD HW0S HNO
  go_wp2_with fail
  go_loopg [4, 5] n (fun kn v4 v5 wr => ∃ (g : Nat) (ok : Bool), v4 = .pointer (some ⟨g, 0, none⟩) ∧ v5 = .bool ok ∧ XRel St w o kn g ok wr)
  case atStart => exact ⟨g0, ok0, rfl, rfl, HR0.out⟩
  case round =>
   obtain ⟨g1, ok1, rfl, rfl, hr⟩ := hrel
   obtain ⟨oB, fcB, hfsB, hstB, hbkB, h7B, h1B, hgoB, hgwB⟩ := hr
   cases ok1 with
   | false =>
    have HE := zh (And.intro (HF.out.sno _ _ _ _ _ hfsB) hstB)
    clear hfsB hstB hbkB h7B h1B hgoB hgwB
    go_wp2_with fail
    go_end0
    exact ⟨rfl, oB, HE.out.1, HE.out.2⟩
   | true =>
    obtain ⟨m, now1, e1, hfi⟩ := HF.out.syes _ _ _ _ _ hfsB
    subst e1
    have HWF := zh hfi
    have HC1 := zh (blk_cells (cs := fcB) hbkB)
    have HB1 := zh hbkB
    have HO1 := zh (And.intro h1B h7B)
    have HS1 := zh (And.intro hstB hgoB)
    have HGW1 := zh hgwB
    clear hfi hfsB hstB hbkB h7B h1B hgoB hgwB
    go_wp2_with (first
     | (refine wpList_load_at (o := ⟨some 34, .load 114 (.tmp 4), _, _, _, _⟩) rfl _ _ rfl _ 0 rfl (fcB) _ HC1.out Tryz.underlying114 rfl (by rw [HO1.out.2]; exact Tryz.sizeFired) ?_)
     | fail)
    refine HWF.out.mono ?_
    rintro e w3 ⟨rfl, oA, h3, hs3⟩
    have HC3 := zh (blk_cells (cs := fcB) (HB1.out.turns hs3.t HS1.out.2))
    have HH3 := zh (And.intro h3 (HS1.out.1.trans hs3))
    clear h3 hs3
    go_upto_region 3 with (first
     | (refine wpList_load_at (o := ⟨some 36, .load 114 (.tmp 4), _, _, _, _⟩) rfl _ _ rfl _ 0 rfl (fcB) _ HC3.out Tryz.underlying114 rfl (by rw [HO1.out.2]; exact Tryz.sizeFired) ?_)
     | (refine wpList_store_mid rfl rfl _ _ _ (by rfl) (by rfl) fcB [] [.int .i64 0, .int .i64 0, .int .i64 0, .int .i64 0, .int .i64 0, .slice none 0 0, .bool false] [] (by rfl) (t := 114) (show Blk _ _ _ _ from by simpa using Blk.new w3 114 #[.int .i64 0, .int .i64 0, .int .i64 0, .int .i64 0, .int .i64 0, .slice none 0 0, .bool false]) (by rfl) (by rw [HO1.out.2]; rfl) HO1.out.1 (by rw [HO1.out.2]; exact Tryz.sizeFired) ?_; intro W0 hb4 ht4)
     | fail)
    have HWD := zh (HF.out.rturns _ _ (fun _ => False) _ _ _ (HF.out.rturns _ _ _ _ _ _ HH3.out.1 (((Turns.refl (fun k => k = w3.heap.size) w3).alloc (.cells #[.int .i64 0, .int .i64 0, .int .i64 0, .int .i64 0, .int .i64 0, .slice none 0 0, .bool false] 114)).then ht4 (fun _ _ h => h)) (fun k hk e => absurd (HF.out.rlt _ _ _ _ HH3.out.1 k hk) (by rw [show k = _ from e]; exact Nat.lt_irrefl _))) (zT W0).drew (fun _ _ h => h))
    have HW0S := zh (show Stp w W0 (Own o) (Own oA) from ⟨HH3.out.2.t.then (((Turns.refl (fun k => k = w3.heap.size) w3).alloc (.cells #[.int .i64 0, .int .i64 0, .int .i64 0, .int .i64 0, .int .i64 0, .slice none 0 0, .bool false] 114)).then ht4 (fun _ _ h => h)) (fun k hk e => absurd (Nat.lt_of_lt_of_le hk HH3.out.2.t.size) (by rw [show k = _ from e]; exact Nat.lt_irrefl _)), HH3.out.2.f⟩)
    have HGB := zh (show Blk W0.drew w3.heap.size 114 (fcB).toArray from (show Blk W0 w3.heap.size 114 (fcB).toArray from by simpa using hb4).turns (zT W0).drew (fun h => h))
    have HGN := zh (show ¬ Own oA w3.heap.size from fun h0 => absurd (HF.out.rlt _ _ _ _ HH3.out.1 _ h0) (Nat.lt_irrefl _))
    have HGL := zh (show w3.heap.size < W0.drew.heap.size from HGB.out.lt)
    have HGW := zh (show w.heap.size ≤ w3.heap.size from HH3.out.2.t.size)
    clear hb4 ht4
    refine wp_region_held_drew (S := fun w' => w'.cell? ⟨b.pb, 5, none⟩ = some (.pointer (some ⟨b.pm, 0, none⟩)) ∧ (w' = W0.drew ∨ True)) (by kernel_rfl) ?_ (fun hHeld => ?_)
    ·exact ⟨HF.out.rcell _ _ _ _ HWD.out, .inr trivial⟩
    refine tH 0 24 ?_ ?_ ?_;rotate_left
    ·intro w hSw
     go_simp
     try with_reducible rfl
    try simp only [zP]
    refine tH 1 25 ?_ ?_ ?_;rotate_left
    ·intro w hSw
     go_simp
     try with_reducible rfl
    try simp only [zP]
    refine tH 2 26 ?_ ?_ ?_;rotate_left
    ·intro w hSw
     go_simp
     try with_reducible rfl
    try simp only [zP]
    refine tH 3 27 ?_ ?_ ?_;rotate_left
    ·intro w hSw
     have qw := hSw.1
     go_simp
     try with_reducible rfl
    try simp only [zP]
    refine tH 4 28 ?_ ?_ ?_;rotate_left
    ·intro w hSw
     go_simp
     try with_reducible rfl
    try simp only [zP]
    refine zR 5 fun K hK => ?_
    go_simp
    refine (HF.out.rnow _ _ _ _ (HWD.out)).mono ?_
    rintro e wN ⟨rfl, rfl⟩
    refine hK.out _ _ ?_ (fun hHeld => ?_)
    ·exact ⟨hHeld.1, .inr trivial⟩
    clear hK K
    try simp only [zP]
    refine zR 6 fun K hK => ?_
    go_simp
    refine (HF.out.rfire _ _ _ _ (HWD.out)).mono ?_
    rintro e wF ⟨fc, ok, rfl, h7, h1c, o2, hfs, hsw⟩
    refine hK.out _ _ ?_ (fun hHeld => ?_)
    ·exact ⟨HF.out.scell _ _ _ _ _ _ hfs, .inr trivial⟩
    clear hK K
    try simp only [zP]
    have hlt2 := HF.out.slt _ _ _ _ _ _ hfs
    have HZ := HGB.out.turns hsw.t HGN.out
    have hgo : ¬ Own o2 w3.heap.size := fun h0 => by rcases hsw.f _ h0 with h4 | h4; exact HGN.out h4; exact absurd h4 (Nat.not_le.2 HGL.out)
    have hst : Stp w wF (Own o) (Own o2) := HW0S.out.trans ((Stp.made (F := Own oA) (zT W0).drew).trans hsw)
    have hgl : ∀ k, W0.drew.heap.size ≤ k → k < wF.heap.size → k ≠ w3.heap.size := fun k h _ e => absurd HGL.out (Nat.not_lt.2 (by rw [← e]; exact h))
    have hgw := HGW.out
    refine tH 7 23 ?_ ?_ ?_;rotate_left
    ·intro w hSw
     go_simp
     try with_reducible rfl
    try simp only [zP]
    refine tH 8 31 ?_ ?_ ?_;rotate_left
    ·intro w hSw
     go_simp
     try with_reducible rfl
    try simp only [zP]
    refine tH 9 32 ?_ ?_ ?_;rotate_left
    ·intro w hSw
     go_simp
     try with_reducible rfl
    try simp only [zP]
    refine zR 10 fun K hK => ?_
    refine step_store_mid rfl rfl _ _ _ (by rfl) (by rfl) fc [] fcB [] (by rfl) (t := 114) (show Blk _ _ _ _ from by simpa using HZ) (by rfl) (by rw [h7]; first | rfl | exact HO1.out.2) h1c (by rw [h7]; exact Tryz.sizeFired) ?_
    intro wS hbS htS
    have hfsS := HF.out.sturns _ _ _ _ _ _ _ _ hfs htS (fun k hk e => hgo (by subst e; exact hk)) (fun k h1 h2 => hgl k h1 h2)
    have hstS : Stp w wS (Own o) (Own o2) := ⟨hst.t.then htS (fun k hk e => by have e2 : k = _ := e; exact absurd hk (by rw [e2]; exact Nat.not_lt.2 hgw)), hst.f⟩
    refine hK.out _ _ ?_ (fun hHeld => ?_)
    ·exact ⟨HF.out.scell _ _ _ _ _ _ hfsS, .inr trivial⟩
    clear hK K
    try simp only [zP]
    refine tH 11 5 ?_ ?_ ?_;rotate_left
    ·intro w hSw
     go_simp
     try with_reducible rfl
    try simp only [zP]
    refine wpAnyH_done (by kernel_rfl) ?_ _
    have HR := zh (show XRel St w o m _ ok wS from ⟨o2, fc, HF.out.slow _ _ _ _ _ _ hfsS, hstS, by simpa using hbS, h7, h1c, hgo, hgw⟩)
    clear hHeld hbS htS hfsS hstS hgo hgw hgl hst HZ hfs hsw hlt2
    go_wp2_with fail
    go_roundg m
    case measure => omega
    case rel => exact ⟨_, _, rfl, rfl, HR.out⟩
end Go.Proofs.YtjnkphhlkoapbaaGreat
