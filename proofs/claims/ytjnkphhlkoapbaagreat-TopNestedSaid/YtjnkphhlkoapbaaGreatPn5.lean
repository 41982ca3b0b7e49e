/-
  Walks and laws under LawTopNested, part 5.
-/
import Derived.LaidEqlPtr
import Derived.Deep.LoopGhost
import Derived.Deep.DeepCutAuto
import Derived.Test.YtjnkphhlkoapbaaGreatPn4
set_option linter.unusedVariables false
set_option linter.unusedSimpArgs false
set_option maxRecDepth 100000
set_option maxHeartbeats 16000000
namespace Go.Proofs.YtjnkphhlkoapbaaGreat
open Go.RowKit
theorem ldo_move {a : Option Addr} {p : List Ins} {cap pc i j : Nat} {v u : Int} {r : Reg} {now : Int} (w : World) (hgood : ∀ x ∈ p, GoodC x p.length) (h : RowIn insC 6 w a p.length p) (hl : p.length ≤ 100) (hx : p[pc]? = some ⟨2, i, j, v⟩) (hi : i < 8) (hj : j < 8) :
  Calls Tryz.prog 48 #[.slice a p.length cap, .int .i64 pc, regV r, .int .i64 now] w fun e w' => e = .returned (.tuple #[.agg (outA ⟨pc + 1, r.set i (r.get j), false, 0, false⟩), .int .i64 0]) ∧ Made w w' := by
 have HG := zh hgood
 have HR := zh h
 clear hgood h
 go_enter Tryz.func48, Tryz.ntmps48
 go_wp2_with fail
 have H1 := zh ((Blk.new w 36 #[.int .i64 r.r0, .int .i64 r.r1, .int .i64 r.r2, .int .i64 r.r3, .int .i64 r.r4, .int .i64 r.r5, .int .i64 r.r6, .int .i64 r.r7]).alloc (.cells #[.int .i64 0, .int .i64 0, .int .i64 0, .int .i64 0, .int .i64 0, .int .i64 0, .int .i64 0, .int .i64 0, .int .i64 0, .bool false, .int .i64 0, .bool false] 125))
 have H2 := Blk.new (w.alloc (.cells #[.int .i64 r.r0, .int .i64 r.r1, .int .i64 r.r2, .int .i64 r.r3, .int .i64 r.r4, .int .i64 r.r5, .int .i64 r.r6, .int .i64 r.r7] 36)) 125 #[.int .i64 0, .int .i64 0, .int .i64 0, .int .i64 0, .int .i64 0, .int .i64 0, .int .i64 0, .int .i64 0, .int .i64 0, .bool false, .int .i64 0, .bool false]
 rw [World.size_alloc] at H2
 have H2 := zh H2
 have HM := zh (((zT w).alloc (.cells #[.int .i64 r.r0, .int .i64 r.r1, .int .i64 r.r2, .int .i64 r.r3, .int .i64 r.r4, .int .i64 r.r5, .int .i64 r.r6, .int .i64 r.r7] 36)).alloc (.cells #[.int .i64 0, .int .i64 0, .int .i64 0, .int .i64 0, .int .i64 0, .int .i64 0, .int .i64 0, .int .i64 0, .int .i64 0, .bool false, .int .i64 0, .bool false] 125))
 generalize (w.alloc (.cells #[.int .i64 r.r0, .int .i64 r.r1, .int .i64 r.r2, .int .i64 r.r3, .int .i64 r.r4, .int .i64 r.r5, .int .i64 r.r6, .int .i64 r.r7] 36)).alloc (.cells #[.int .i64 0, .int .i64 0, .int .i64 0, .int .i64 0, .int .i64 0, .int .i64 0, .int .i64 0, .int .i64 0, .int .i64 0, .bool false, .int .i64 0, .bool false] 125) = W at *
 refine (check_c (cap := cap) _ HG.out (HR.out.made HM.out) hl).mono ?_
 rintro e w1 ⟨rfl, hm1⟩
 have HM1 := zh (HM.out.trans hm1)
 have HB1 := zh (H1.out.turns hm1 (fun h => h))
 have HB2 := zh (H2.out.turns hm1 (fun h => h))
 have hsz : w.heap.size + 1 < w1.heap.size := HB2.out.lt
 clear H1 H2 HM hm1
 obtain ⟨b, off, rfl, hb1, hlt, c0, c1, c2, c3, c4, c5⟩ := ins_at (HR.out.made HM1.out) hx
 have u0 := HB1.out.cell 0
 have u1 := HB1.out.cell 1
 have u2 := HB1.out.cell 2
 have u3 := HB1.out.cell 3
 have u4 := HB1.out.cell 4
 have u5 := HB1.out.cell 5
 have u6 := HB1.out.cell 6
 have u7 := HB1.out.cell 7
 simp only [zG] at u0 u1 u2 u3 u4 u5 u6 u7
 go_wp2_with fail
 refine (mine_t (by decide) _).mono ?_
 rintro e w2 ⟨rfl, rfl⟩
 go_upto_region 18 with fail
 have HO : Blk ((w1.alloc (.cells (outA ⟨pc + 1, r, false, 0, false⟩) 125)).alloc (.cells #[.int .i64 2, .int .i64 ↑i, .int .i64 ↑j, .int .i64 v, .slice none 0 0, .bool false] 25)) w1.heap.size 125 (outA ⟨pc + 1, r, false, 0, false⟩) := (Blk.new w1 _ _).alloc _
 have HI := Blk.new (w1.alloc (.cells (outA ⟨pc + 1, r, false, 0, false⟩) 125)) 25 #[.int .i64 2, .int .i64 ↑i, .int .i64 ↑j, .int .i64 v, .slice none 0 0, .bool false]
 rw [World.size_alloc] at HI
 have HMV := (((zT w1).alloc (.cells (outA ⟨pc + 1, r, false, 0, false⟩) 125)).alloc (.cells #[.int .i64 2, .int .i64 ↑i, .int .i64 ↑j, .int .i64 v, .slice none 0 0, .bool false] 25))
 have HZ := zh (HB2.out.turns HMV (fun h => h))
 have HU := zh (HB1.out.turns HMV (fun h => h))
 have HMV := zh (HM1.out.trans HMV)
 clear c0 c1 c2 c3 c4 c5 u0 u1 u2 u3 u4 u5 u6 u7
 generalize (w1.alloc (.cells (outA ⟨pc + 1, r, false, 0, false⟩) 125)).alloc (.cells #[.int .i64 2, .int .i64 ↑i, .int .i64 ↑j, .int .i64 v, .slice none 0 0, .bool false] 25) = V at *
 have HOK := zh ((HO.cell (1 + i)).trans (out_get _ _ _ hi))
 have HOF := zh (HO.free (1 + i))
 have HO := zh HO
 have HI := zh HI
 have jb1 : (0 : Int) ≤ (j : Int) := by omega
 have jb2 : (j : Int) < 8 := by omega
 have ib1 : (0 : Int) ≤ (i : Int) := by omega
 have ib2 : (i : Int) < 8 := by omega
 refine wp_region_held_drew (S := fun w' => Blk w' (w1.heap.size + 1) 25 #[.int .i64 2, .int .i64 ↑i, .int .i64 ↑j, .int .i64 v, .slice none 0 0, .bool false] ∧ Blk w' (w.heap.size) 36 #[.int .i64 r.r0, .int .i64 r.r1, .int .i64 r.r2, .int .i64 r.r3, .int .i64 r.r4, .int .i64 r.r5, .int .i64 r.r6, .int .i64 r.r7] ∧ Made w w') (by kernel_rfl) ?_ (fun hHeld => ?_)
 ·exact ⟨HI.out, HU.out, HMV.out.drew⟩
 refine tH 0 74 ?_ ?_ ?_;rotate_left
 ·intro w hSw
  go_simp
  try with_reducible rfl
 try simp only [zP]
 refine tH 1 75 ?_ ?_ ?_;rotate_left
 ·intro w hSw
  have q0_0 := hSw.1.cell 0
  have q0_1 := hSw.1.cell 1
  have q0_2 := hSw.1.cell 2
  have q0_3 := hSw.1.cell 3
  have q0_4 := hSw.1.cell 4
  have q0_5 := hSw.1.cell 5
  simp only [zG] at q0_0 q0_1 q0_2 q0_3 q0_4 q0_5
  go_simp
  try with_reducible rfl
 try simp only [zP]
 refine tH 2 76 ?_ ?_ ?_;rotate_left
 ·intro w hSw
  go_simp
  try with_reducible rfl
 try simp only [zP]
 refine tH 3 77 ?_ ?_ ?_;rotate_left
 ·intro w hSw
  have q0_0 := hSw.1.cell 0
  have q0_1 := hSw.1.cell 1
  have q0_2 := hSw.1.cell 2
  have q0_3 := hSw.1.cell 3
  have q0_4 := hSw.1.cell 4
  have q0_5 := hSw.1.cell 5
  simp only [zG] at q0_0 q0_1 q0_2 q0_3 q0_4 q0_5
  go_simp
  try with_reducible rfl
 try simp only [zP]
 refine tH 4 78 ?_ ?_ ?_;rotate_left
 ·intro w hSw
  go_simp
  try with_reducible rfl
 try simp only [zP]
 refine tH 5 79 ?_ ?_ ?_;rotate_left
 ·intro w hSw
  have q := hSw.2.1.cell j
  rw [reg_get r j hj] at q
  go_simp
  try with_reducible rfl
 try simp only [zP]
 refine tH 6 80 ?_ ?_ ?_;rotate_left
 ·intro w hSw
  go_simp
  try with_reducible rfl
 try simp only [zP]
 refine tH 7 81 ?_ ?_ ?_;rotate_left
 ·intro w hSw
  go_simp
  try with_reducible rfl
 try simp only [zP]
 refine zR 8 fun K hK => ?_
 have ok : V.drew.cell? ⟨w1.heap.size, 1 + i, none⟩ = _ := HOK.out
 have ofr : V.drew.frozen? ⟨w1.heap.size, 1 + i, none⟩ = _ := HOF.out
 simp only [World.cell?_drew, World.frozen?_drew] at ok ofr
 go_simp
 refine hK.out _ _ ?_ (fun hHeld => ?_)
 ·exact ⟨hHeld.1.far (p := ⟨w1.heap.size, 1 + i, none⟩) (fun e => by simp at e) _, hHeld.2.1.far (p := ⟨w1.heap.size, 1 + i, none⟩) (fun e => by simp only at e; omega) _, hHeld.2.2.setCell (p := ⟨w1.heap.size, 1 + i, none⟩) (fun hk => by simp only at hk; omega) _⟩
 clear hK K
 try simp only [zP]
 refine wpAnyH_done (by kernel_rfl) ?_ _
 clear hHeld
 try clear hHeld
 try clear hHeld
 go_upto_region 26 with fail
 have HO2 := HO.out.put (1 + i) (.int .i64 (r.get j))
 rw [out_set _ _ _ _ hi] at HO2
 have hne : w.heap.size + 1 ≠ w1.heap.size := by omega
 have HZ2 := zh (HZ.out.far (p := ⟨w1.heap.size, 1 + i, none⟩) hne (.int .i64 (r.get j)))
 have HMV2 := zh (HMV.out.setCell (p := ⟨w1.heap.size, 1 + i, none⟩) (fun hk => by simp only at hk; omega) (.int .i64 (r.get j)))
 have HO2 := zh HO2
 generalize V.setCell ⟨w1.heap.size, 1 + i, none⟩ (.int .i64 (r.get j)) = V2 at *
 have o0 := HO2.out.cell 0
 have o1 := HO2.out.cell 1
 have o2 := HO2.out.cell 2
 have o3 := HO2.out.cell 3
 have o4 := HO2.out.cell 4
 have o5 := HO2.out.cell 5
 have o6 := HO2.out.cell 6
 have o7 := HO2.out.cell 7
 have o8 := HO2.out.cell 8
 have o9 := HO2.out.cell 9
 have o10 := HO2.out.cell 10
 have o11 := HO2.out.cell 11
 simp only [zG] at o0 o1 o2 o3 o4 o5 o6 o7 o8 o9 o10 o11
 have z0 := HZ2.out.cell 0
 have z1 := HZ2.out.cell 1
 have z2 := HZ2.out.cell 2
 have z3 := HZ2.out.cell 3
 have z4 := HZ2.out.cell 4
 have z5 := HZ2.out.cell 5
 have z6 := HZ2.out.cell 6
 have z7 := HZ2.out.cell 7
 have z8 := HZ2.out.cell 8
 have z9 := HZ2.out.cell 9
 have z10 := HZ2.out.cell 10
 have z11 := HZ2.out.cell 11
 simp only [zG] at z0 z1 z2 z3 z4 z5 z6 z7 z8 z9 z10 z11
 have fz0 := HZ2.out.free 0
 have fz1 := HZ2.out.free 1
 have fz2 := HZ2.out.free 2
 have fz3 := HZ2.out.free 3
 have fz4 := HZ2.out.free 4
 have fz5 := HZ2.out.free 5
 have fz6 := HZ2.out.free 6
 have fz7 := HZ2.out.free 7
 have fz8 := HZ2.out.free 8
 have fz9 := HZ2.out.free 9
 have fz10 := HZ2.out.free 10
 have fz11 := HZ2.out.free 11
 go_wp2_with fail
 refine bodyPost_ret (res_boxO (o := ⟨pc + 1, r.set i (r.get j), false, 0, false⟩) rfl (HZ2.out.put12 _ _ _ _ _ _ _ _ _ _ _ _).drew rfl rfl) rfl ?_
 exact ⟨rfl, (HMV2.out.then (set12 _ _ _ _ _ _ _ _ _ _ _ _ _ _) (fun k hk (e : k = w.heap.size + 1) => by omega)).drew⟩
theorem ldo_emit {a : Option Addr} {p : List Ins} {cap pc i j : Nat} {v u : Int} {r : Reg} {now : Int} (w : World) (hgood : ∀ x ∈ p, GoodC x p.length) (h : RowIn insC 6 w a p.length p) (hl : p.length ≤ 100) (hx : p[pc]? = some ⟨6, i, j, v⟩) (hi : i < 8) :
  Calls Tryz.prog 48 #[.slice a p.length cap, .int .i64 pc, regV r, .int .i64 now] w fun e w' => e = .returned (.tuple #[.agg (outA ⟨pc + 1, r, true, r.get i, false⟩), .int .i64 0]) ∧ Made w w' := by
 have HG := zh hgood
 have HR := zh h
 clear hgood h
 go_enter Tryz.func48, Tryz.ntmps48
 go_wp2_with fail
 have H1 := zh ((Blk.new w 36 #[.int .i64 r.r0, .int .i64 r.r1, .int .i64 r.r2, .int .i64 r.r3, .int .i64 r.r4, .int .i64 r.r5, .int .i64 r.r6, .int .i64 r.r7]).alloc (.cells #[.int .i64 0, .int .i64 0, .int .i64 0, .int .i64 0, .int .i64 0, .int .i64 0, .int .i64 0, .int .i64 0, .int .i64 0, .bool false, .int .i64 0, .bool false] 125))
 have H2 := Blk.new (w.alloc (.cells #[.int .i64 r.r0, .int .i64 r.r1, .int .i64 r.r2, .int .i64 r.r3, .int .i64 r.r4, .int .i64 r.r5, .int .i64 r.r6, .int .i64 r.r7] 36)) 125 #[.int .i64 0, .int .i64 0, .int .i64 0, .int .i64 0, .int .i64 0, .int .i64 0, .int .i64 0, .int .i64 0, .int .i64 0, .bool false, .int .i64 0, .bool false]
 rw [World.size_alloc] at H2
 have H2 := zh H2
 have HM := zh (((zT w).alloc (.cells #[.int .i64 r.r0, .int .i64 r.r1, .int .i64 r.r2, .int .i64 r.r3, .int .i64 r.r4, .int .i64 r.r5, .int .i64 r.r6, .int .i64 r.r7] 36)).alloc (.cells #[.int .i64 0, .int .i64 0, .int .i64 0, .int .i64 0, .int .i64 0, .int .i64 0, .int .i64 0, .int .i64 0, .int .i64 0, .bool false, .int .i64 0, .bool false] 125))
 generalize (w.alloc (.cells #[.int .i64 r.r0, .int .i64 r.r1, .int .i64 r.r2, .int .i64 r.r3, .int .i64 r.r4, .int .i64 r.r5, .int .i64 r.r6, .int .i64 r.r7] 36)).alloc (.cells #[.int .i64 0, .int .i64 0, .int .i64 0, .int .i64 0, .int .i64 0, .int .i64 0, .int .i64 0, .int .i64 0, .int .i64 0, .bool false, .int .i64 0, .bool false] 125) = W at *
 refine (check_c (cap := cap) _ HG.out (HR.out.made HM.out) hl).mono ?_
 rintro e w1 ⟨rfl, hm1⟩
 have HM1 := zh (HM.out.trans hm1)
 have HB1 := zh (H1.out.turns hm1 (fun h => h))
 have HB2 := zh (H2.out.turns hm1 (fun h => h))
 have hsz : w.heap.size + 1 < w1.heap.size := HB2.out.lt
 clear H1 H2 HM hm1
 obtain ⟨b, off, rfl, hb1, hlt, c0, c1, c2, c3, c4, c5⟩ := ins_at (HR.out.made HM1.out) hx
 have u0 := HB1.out.cell 0
 have u1 := HB1.out.cell 1
 have u2 := HB1.out.cell 2
 have u3 := HB1.out.cell 3
 have u4 := HB1.out.cell 4
 have u5 := HB1.out.cell 5
 have u6 := HB1.out.cell 6
 have u7 := HB1.out.cell 7
 simp only [zG] at u0 u1 u2 u3 u4 u5 u6 u7
 go_wp2_with fail
 refine (mine_t (by decide) _).mono ?_
 rintro e w2 ⟨rfl, rfl⟩
 go_upto_region 23 with fail
 have HO : Blk ((w1.alloc (.cells (outA ⟨pc + 1, r, false, 0, false⟩) 125)).alloc (.cells #[.int .i64 6, .int .i64 ↑i, .int .i64 ↑j, .int .i64 v, .slice none 0 0, .bool false] 25)) w1.heap.size 125 (outA ⟨pc + 1, r, false, 0, false⟩) := (Blk.new w1 _ _).alloc _
 have HI := Blk.new (w1.alloc (.cells (outA ⟨pc + 1, r, false, 0, false⟩) 125)) 25 #[.int .i64 6, .int .i64 ↑i, .int .i64 ↑j, .int .i64 v, .slice none 0 0, .bool false]
 rw [World.size_alloc] at HI
 have HMV := (((zT w1).alloc (.cells (outA ⟨pc + 1, r, false, 0, false⟩) 125)).alloc (.cells #[.int .i64 6, .int .i64 ↑i, .int .i64 ↑j, .int .i64 v, .slice none 0 0, .bool false] 25))
 have HZ := zh (HB2.out.turns HMV (fun h => h))
 have HU := zh (HB1.out.turns HMV (fun h => h))
 have HMV := zh (HM1.out.trans HMV)
 clear c0 c1 c2 c3 c4 c5 u0 u1 u2 u3 u4 u5 u6 u7
 generalize (w1.alloc (.cells (outA ⟨pc + 1, r, false, 0, false⟩) 125)).alloc (.cells #[.int .i64 6, .int .i64 ↑i, .int .i64 ↑j, .int .i64 v, .slice none 0 0, .bool false] 25) = V at *
 have HO := zh HO
 have HI := zh HI
 have ib1 : (0 : Int) ≤ (i : Int) := by omega
 have ib2 : (i : Int) < 8 := by omega
 refine wp_region_held_drew (S := fun w' => Blk w' (w1.heap.size + 1) 25 #[.int .i64 6, .int .i64 ↑i, .int .i64 ↑j, .int .i64 v, .slice none 0 0, .bool false] ∧ Blk w' (w.heap.size) 36 #[.int .i64 r.r0, .int .i64 r.r1, .int .i64 r.r2, .int .i64 r.r3, .int .i64 r.r4, .int .i64 r.r5, .int .i64 r.r6, .int .i64 r.r7] ∧ Made w w') (by kernel_rfl) ?_ (fun hHeld => ?_)
 ·exact ⟨HI.out, HU.out, HMV.out.drew⟩
 refine tH 0 104 ?_ ?_ ?_;rotate_left
 ·intro w hSw
  go_simp
  try with_reducible rfl
 try simp only [zP]
 refine tH 1 105 ?_ ?_ ?_;rotate_left
 ·intro w hSw
  have q0_0 := hSw.1.cell 0
  have q0_1 := hSw.1.cell 1
  have q0_2 := hSw.1.cell 2
  have q0_3 := hSw.1.cell 3
  have q0_4 := hSw.1.cell 4
  have q0_5 := hSw.1.cell 5
  simp only [zG] at q0_0 q0_1 q0_2 q0_3 q0_4 q0_5
  go_simp
  try with_reducible rfl
 try simp only [zP]
 refine tH 2 106 ?_ ?_ ?_;rotate_left
 ·intro w hSw
  go_simp
  try with_reducible rfl
 try simp only [zP]
 refine tH 3 107 ?_ ?_ ?_;rotate_left
 ·intro w hSw
  have q := hSw.2.1.cell i
  rw [reg_get r i hi] at q
  go_simp
  try with_reducible rfl
 try simp only [zP]
 refine tH 4 108 ?_ ?_ ?_;rotate_left
 ·intro w hSw
  go_simp
  try with_reducible rfl
 try simp only [zP]
 refine zR 5 fun K hK => ?_
 have q := HO.out.cell 9
 have qf := HO.out.free 9
 simp only [zG] at q
 go_simp
 refine hK.out _ _ ?_ (fun hHeld => ?_)
 ·exact ⟨hHeld.1.far (p := ⟨w1.heap.size, 9, none⟩) (fun e => by simp at e) _, hHeld.2.1.far (p := ⟨w1.heap.size, 9, none⟩) (fun e => by simp only at e; omega) _, hHeld.2.2.setCell (p := ⟨w1.heap.size, 9, none⟩) (fun hk => by simp only at hk; omega) _⟩
 clear hK K
 try simp only [zP]
 refine tH 6 109 ?_ ?_ ?_;rotate_left
 ·intro w hSw
  go_simp
  try with_reducible rfl
 try simp only [zP]
 refine zR 7 fun K hK => ?_
 have HO3 := HO.out.put 9 (.bool true)
 have q := HO3.cell 10
 have qf := HO3.free 10
 simp only [List.setIfInBounds_toArray, List.set_cons_zero, List.set_cons_succ, zG] at q
 go_simp
 refine hK.out _ _ ?_ (fun hHeld => ?_)
 ·exact ⟨hHeld.1.far (p := ⟨w1.heap.size, 10, none⟩) (fun e => by simp at e) _, hHeld.2.1.far (p := ⟨w1.heap.size, 10, none⟩) (fun e => by simp only at e; omega) _, hHeld.2.2.setCell (p := ⟨w1.heap.size, 10, none⟩) (fun hk => by simp only at hk; omega) _⟩
 clear hK K
 try simp only [zP]
 refine wpAnyH_done (by kernel_rfl) ?_ _
 clear hHeld
 try clear hHeld
 try clear hHeld
 have HO2 := (HO.out.put 9 (.bool true)).put 10 (.int .i64 (r.get i))
 simp only [List.setIfInBounds_toArray, List.set_cons_zero, List.set_cons_succ] at HO2
 have HO2 := zh HO2
 have HZ2 := zh ((HZ.out.far (p := ⟨w1.heap.size, 9, none⟩) (fun e => by simp only at e; omega) (.bool true)).far (p := ⟨w1.heap.size, 10, none⟩) (fun e => by simp only at e; omega) (.int .i64 (r.get i)))
 have HMV2 := zh ((HMV.out.setCell (p := ⟨w1.heap.size, 9, none⟩) (fun hk => by simp only at hk; omega) (.bool true)).setCell (p := ⟨w1.heap.size, 10, none⟩) (fun hk => by simp only at hk; omega) (.int .i64 (r.get i)))
 generalize (V.setCell ⟨w1.heap.size, 9, none⟩ (.bool true)).setCell ⟨w1.heap.size, 10, none⟩ (.int .i64 (r.get i)) = V2 at *
 have o0 := HO2.out.cell 0
 have o1 := HO2.out.cell 1
 have o2 := HO2.out.cell 2
 have o3 := HO2.out.cell 3
 have o4 := HO2.out.cell 4
 have o5 := HO2.out.cell 5
 have o6 := HO2.out.cell 6
 have o7 := HO2.out.cell 7
 have o8 := HO2.out.cell 8
 have o9 := HO2.out.cell 9
 have o10 := HO2.out.cell 10
 have o11 := HO2.out.cell 11
 simp only [zG] at o0 o1 o2 o3 o4 o5 o6 o7 o8 o9 o10 o11
 have z0 := HZ2.out.cell 0
 have z1 := HZ2.out.cell 1
 have z2 := HZ2.out.cell 2
 have z3 := HZ2.out.cell 3
 have z4 := HZ2.out.cell 4
 have z5 := HZ2.out.cell 5
 have z6 := HZ2.out.cell 6
 have z7 := HZ2.out.cell 7
 have z8 := HZ2.out.cell 8
 have z9 := HZ2.out.cell 9
 have z10 := HZ2.out.cell 10
 have z11 := HZ2.out.cell 11
 simp only [zG] at z0 z1 z2 z3 z4 z5 z6 z7 z8 z9 z10 z11
 have fz0 := HZ2.out.free 0
 have fz1 := HZ2.out.free 1
 have fz2 := HZ2.out.free 2
 have fz3 := HZ2.out.free 3
 have fz4 := HZ2.out.free 4
 have fz5 := HZ2.out.free 5
 have fz6 := HZ2.out.free 6
 have fz7 := HZ2.out.free 7
 have fz8 := HZ2.out.free 8
 have fz9 := HZ2.out.free 9
 have fz10 := HZ2.out.free 10
 have fz11 := HZ2.out.free 11
 go_wp2_with fail
 refine bodyPost_ret (res_boxO (o := ⟨pc + 1, r, true, r.get i, false⟩) rfl (HZ2.out.put12 _ _ _ _ _ _ _ _ _ _ _ _).drew rfl rfl) rfl ?_
 exact ⟨rfl, (HMV2.out.then (set12 _ _ _ _ _ _ _ _ _ _ _ _ _ _) (fun k hk (e : k = w.heap.size + 1) => by omega)).drew⟩
structure Ev where
 step : Int
 kind : Int
 task : Int
 a : Int
 b : Int
 c : Int
def evC (x : Ev) : List Value := [.int .i64 x.step, .int .i64 x.kind, .int .i64 x.task, .int .i64 x.a, .int .i64 x.b, .int .i64 x.c]
theorem evC_len (x : Ev) : (evC x).length = 6 := rfl
theorem evC_one (x : Ev) : ∀ u ∈ evC x, u.oneCell' = true := by
 intro u hu
 simp only [evC, List.mem_cons, List.not_mem_nil, or_false] at hu
 rcases hu with rfl | rfl | rfl | rfl | rfl | rfl <;> rfl
structure Dl where
 ch : Int
 task : Int
 value : Int
 got : Bool
 at_ : Int
def dlC (x : Dl) : List Value := [.int .i64 x.ch, .int .i64 x.task, .int .i64 x.value, .bool x.got, .int .i64 x.at_]
theorem dlC_len (x : Dl) : (dlC x).length = 5 := rfl
theorem dlC_one (x : Dl) : ∀ u ∈ dlC x, u.oneCell' = true := by
 intro u hu
 simp only [dlC, List.mem_cons, List.not_mem_nil, or_false] at hu
 rcases hu with rfl | rfl | rfl | rfl | rfl <;> rfl
structure Lk where
 row : Option Addr × Nat × Nat
 picked : Int
def lkC (x : Lk) : List Value := [.slice x.row.1 x.row.2.1 x.row.2.2, .int .i64 x.picked]
theorem lkC_len (x : Lk) : (lkC x).length = 2 := rfl
theorem lkC_one (x : Lk) : ∀ u ∈ lkC x, u.oneCell' = true := by
 intro u hu
 simp only [lkC, List.mem_cons, List.not_mem_nil, or_false] at hu
 rcases hu with rfl | rfl <;> rfl
def pC (p : Nat) : List Value := [.pointer (some ⟨p, 0, none⟩)]
theorem pC_len (p : Nat) : (pC p).length = 1 := rfl
theorem pC_one (p : Nat) : ∀ u ∈ pC p, u.oneCell' = true := by
 intro u hu
 simp only [pC, List.mem_cons, List.not_mem_nil, or_false] at hu
 subst hu
 rfl
structure Wp where
 pb : Nat
 pk : Nat
 pt : Nat
 pm : Nat
 pd : Nat
 px : Nat
structure Wst where
 now : Int
 ts : List Tsk
 rd : List Int
 chs : List (Nat × Chn)
 made : Int
 tms : List Tk
 named : Int
 L : List It
 sq : Int
 nd : Nat
 nl : Nat
 steps : Int
 ev : List Ev
structure Ext (CX : World → (Nat → Prop) → Prop) : Prop where
 turns : ∀ (S : Nat → Prop) (w w' : World) (F : Nat → Prop), CX w F → Turns S w w' → (∀ k, F k → ¬ S k) → CX w' F
structure PrIn (w : World) (o : Nat → Nat) (v : Value) (ps : List (List Ins)) : Prop where
 ex : ∃ g c, v = .slice (some ⟨g, 0, none⟩) ps.length c ∧ o g = 7 ∧ g < w.heap.size ∧ ∀ i p, ps[i]? = some p → ∃ a ci, w.cell? ⟨g, i, none⟩ = some (.slice a p.length ci) ∧ RowIn insC 6 w a p.length p ∧ ∀ b off, a = some ⟨b, off, none⟩ → o b = 7
theorem PrIn.turns {S : Nat → Prop} {w w' : World} {o o' : Nat → Nat} {v : Value} {ps : List (List Ins)} (h : PrIn w o v ps) (ht : Turns S w w') (hn : ∀ k, o k = 7 → ¬ S k) (ho : ∀ k, o k = 7 → o' k = 7) : PrIn w' o' v ps := by
 obtain ⟨g, c, e, hg, hlt, h⟩ := h
 refine ⟨g, c, e, ho g hg, Nat.lt_of_lt_of_le hlt ht.size, fun i p hp => ?_⟩
 obtain ⟨a, ci, h1, h2, h3⟩ := h i p hp
 exact ⟨a, ci, (ht.cell (p := ⟨g, i, none⟩) hlt (hn g hg)).trans h1, h2.turns ht (fun b off e => hn b (h3 b off e)), fun b off e => ho b (h3 b off e)⟩
structure WAt (CX : World → (Nat → Prop) → Prop) (w : World) (b : Wp) (o : Nat → Nat) (ps : List (List Ins)) (s : Wst) (vp vc vl ve : Value) : Prop where
 blk : Blk w b.pb 65 #[vp, .pointer (some ⟨b.pk, 0, none⟩), .pointer (some ⟨b.pt, 0, none⟩), vc, .int .i64 s.made, .pointer (some ⟨b.pm, 0, none⟩), .pointer (some ⟨b.px, 0, none⟩), .pointer (some ⟨b.pd, 0, none⟩), vl, .int .i64 s.steps, ve]
 ob : o b.pb = 1
 lt : ∀ k, o k ≠ 0 → k < w.heap.size
 clk : Blk w b.pk 80 #[.int .i64 s.now]
 ok : o b.pk = 2
 tab : TabAt w b.pt (fun k => o k = 3) s.ts s.rd
 tms : TsAt w b.pm (fun k => o k = 4) s.tms s.named s.L s.sq
 dls : ∃ ds : List Dl, ds.length = s.nd ∧ BoxAt dlC 204 95 5 w b.pd (fun k => o k = 5) ds
 ctx : CX w (fun k => o k = 6)
 prs : PrIn w o vp ps
 crow : Owns pC 104 1 w vc (s.chs.map Prod.fst)
 co : ∀ k, vc.ownBlock = some k ↔ o k = 8
 lrow : ∃ ls : List Lk, ls.length = s.nl ∧ Owns lkC 123 2 w vl ls
 lo : ∀ k, vl.ownBlock = some k ↔ o k = 9
 erow : Owns evC 45 6 w ve s.ev
 eo : ∀ k, ve.ownBlock = some k ↔ o k = 10
 cnd : (s.chs.map Prod.fst).Nodup
 chn : ∀ p c, (p, c) ∈ s.chs → ChAt w p (fun k => o k = 16 + p) c
def WW (CX : World → (Nat → Prop) → Prop) (w : World) (b : Wp) (o : Nat → Nat) (ps : List (List Ins)) (s : Wst) : Prop := ∃ vp vc vl ve, WAt CX w b o ps s vp vc vl ve
abbrev Own (o : Nat → Nat) : Nat → Prop := fun k => o k ≠ 0
section
variable {CX : World → (Nat → Prop) → Prop} {w w' : World} {b : Wp} {o o' : Nat → Nat} {ps : List (List Ins)} {s : Wst} {vp vc vl ve : Value}
theorem WAt.turns {S : Nat → Prop} (hx : Ext CX) (h : WAt CX w b o ps s vp vc vl ve) (ht : Turns S w w') (hn : ∀ k, o k ≠ 0 → ¬ S k) : WAt CX w' b o ps s vp vc vl ve := by
 have n : ∀ j, j ≠ 0 → ∀ k, o k = j → ¬ S k := fun j hj k hk => hn k (by rw [hk]; exact hj)
 obtain ⟨ds, hd1, hd2⟩ := h.dls
 obtain ⟨ls, hl1, hl2⟩ := h.lrow
 exact { blk := h.blk.turns ht (n 1 (by omega) _ h.ob), ob := h.ob, lt := fun k hk => Nat.lt_of_lt_of_le (h.lt k hk) ht.size, clk := h.clk.turns ht (n 2 (by omega) _ h.ok), ok := h.ok, tab := h.tab.turns ht (n 3 (by omega)), tms := h.tms.turns ht (n 4 (by omega)), dls := ⟨ds, hd1, hd2.turns ht (n 5 (by omega))⟩, ctx := hx.turns S w w' _ h.ctx ht (n 6 (by omega)), prs := h.prs.turns ht (n 7 (by omega)) (fun _ hk => hk), crow := h.crow.turns ht (fun k hk => n 8 (by omega) k ((h.co k).1 hk)), co := h.co, lrow := ⟨ls, hl1, hl2.turns ht (fun k hk => n 9 (by omega) k ((h.lo k).1 hk))⟩, lo := h.lo, erow := h.erow.turns ht (fun k hk => n 10 (by omega) k ((h.eo k).1 hk)), eo := h.eo, cnd := h.cnd, chn := fun p c hp => (h.chn p c hp).turns ht (n (16 + p) (by omega)) }
theorem WAt.made (hx : Ext CX) (h : WAt CX w b o ps s vp vc vl ve) (ht : Made w w') : WAt CX w' b o ps s vp vc vl ve := h.turns hx ht (fun _ _ h => h)
theorem WW.made (hx : Ext CX) (h : WW CX w b o ps s) (ht : Made w w') : WW CX w' b o ps s := by
 obtain ⟨vp, vc, vl, ve, h⟩ := h
 exact ⟨vp, vc, vl, ve, h.made hx ht⟩
theorem relabel {i : Nat} {F' : Nat → Prop} (hlt : ∀ k, o k ≠ 0 → k < w.heap.size) (hi : i ≠ 0) (hs : Stp w w' (fun k => o k = i) F') (hb : ∀ k, F' k → k < w'.heap.size) :
  ∃ o', (∀ k, o' k ≠ 0 → k < w'.heap.size) ∧ (fun k => o' k = i) = F' ∧ (∀ j, j ≠ 0 → j ≠ i → (fun k => o' k = j) = fun k => o k = j) ∧ Stp w w' (Own o) (Own o') := by
 have hl : Lab w o (Own o) := ⟨fun _ => Iff.rfl, hlt⟩
 obtain ⟨o', FF, hl', e, hne, hst⟩ := hl.step i hi hs hb
 have hff : FF = Own o' := by
  funext k
  exact propext (hl'.on k)
 subst hff
 exact ⟨o', hl'.lt, e, hne, hst⟩
theorem WAt.stepTab (hx : Ext CX) (h : WAt CX w b o ps s vp vc vl ve) {F' : Nat → Prop} {ts' : List Tsk} {rd' : List Int} (ha : TabAt w' b.pt F' ts' rd') (hs : Stp w w' (fun k => o k = 3) F') : ∃ o', WAt CX w' b o' ps { s with ts := ts', rd := rd' } vp vc vl ve ∧ (fun k => o' k = 3) = F' ∧ Stp w w' (Own o) (Own o') := by
 obtain ⟨o', hlt, e, hne, hst⟩ := relabel h.lt (by omega) hs (ha.fb)
 obtain ⟨ds, hd1, hd2⟩ := h.dls
 obtain ⟨ls, hl1, hl2⟩ := h.lrow
 exact ⟨o', { lt := hlt, cnd := h.cnd, blk := h.blk.turns hs.t (by rw [h.ob]; omega), ob := lab_is (hne 1 (by omega) (by omega)) h.ob, clk := h.clk.turns hs.t (by rw [h.ok]; omega), ok := lab_is (hne 2 (by omega) (by omega)) h.ok, tab := by rw [e]; exact ha, tms := by rw [hne 4 (by omega) (by omega)]; exact h.tms.turns hs.t (fun k hk => by rw [hk]; omega), dls := ⟨ds, hd1, by rw [hne 5 (by omega) (by omega)]; exact hd2.turns hs.t (fun k hk => by rw [hk]; omega)⟩, ctx := by rw [hne 6 (by omega) (by omega)]; exact hx.turns _ w w' _ h.ctx hs.t (fun k hk => by rw [hk]; omega), prs := h.prs.turns hs.t (fun k hk => by rw [hk]; omega) (fun k hk => lab_is (hne 7 (by omega) (by omega)) hk), crow := h.crow.turns hs.t (fun k hk => by rw [(h.co k).1 hk]; omega), co := fun k => (h.co k).trans (iff_of_eq (congrFun (hne 8 (by omega) (by omega)) k)).symm, lrow := ⟨ls, hl1, hl2.turns hs.t (fun k hk => by rw [(h.lo k).1 hk]; omega)⟩, lo := fun k => (h.lo k).trans (iff_of_eq (congrFun (hne 9 (by omega) (by omega)) k)).symm, erow := h.erow.turns hs.t (fun k hk => by rw [(h.eo k).1 hk]; omega), eo := fun k => (h.eo k).trans (iff_of_eq (congrFun (hne 10 (by omega) (by omega)) k)).symm, chn := fun p c hp => by rw [hne (16 + p) (by omega) (by omega)]; exact (h.chn p c hp).turns hs.t (fun k hk => by rw [hk]; omega) }, e, hst⟩
theorem WAt.stepTms (hx : Ext CX) (h : WAt CX w b o ps s vp vc vl ve) {F' : Nat → Prop} {tms' : List Tk} {named' : Int} {L' : List It} {sq' : Int} (ha : TsAt w' b.pm F' tms' named' L' sq') (hs : Stp w w' (fun k => o k = 4) F') : ∃ o', WAt CX w' b o' ps { s with tms := tms', named := named', L := L', sq := sq' } vp vc vl ve ∧ (fun k => o' k = 4) = F' ∧ Stp w w' (Own o) (Own o') := by
 obtain ⟨o', hlt, e, hne, hst⟩ := relabel h.lt (by omega) hs (ha.fb)
 obtain ⟨ds, hd1, hd2⟩ := h.dls
 obtain ⟨ls, hl1, hl2⟩ := h.lrow
 exact ⟨o', { lt := hlt, cnd := h.cnd, blk := h.blk.turns hs.t (by rw [h.ob]; omega), ob := lab_is (hne 1 (by omega) (by omega)) h.ob, clk := h.clk.turns hs.t (by rw [h.ok]; omega), ok := lab_is (hne 2 (by omega) (by omega)) h.ok, tab := by rw [hne 3 (by omega) (by omega)]; exact h.tab.turns hs.t (fun k hk => by rw [hk]; omega), tms := by rw [e]; exact ha, dls := ⟨ds, hd1, by rw [hne 5 (by omega) (by omega)]; exact hd2.turns hs.t (fun k hk => by rw [hk]; omega)⟩, ctx := by rw [hne 6 (by omega) (by omega)]; exact hx.turns _ w w' _ h.ctx hs.t (fun k hk => by rw [hk]; omega), prs := h.prs.turns hs.t (fun k hk => by rw [hk]; omega) (fun k hk => lab_is (hne 7 (by omega) (by omega)) hk), crow := h.crow.turns hs.t (fun k hk => by rw [(h.co k).1 hk]; omega), co := fun k => (h.co k).trans (iff_of_eq (congrFun (hne 8 (by omega) (by omega)) k)).symm, lrow := ⟨ls, hl1, hl2.turns hs.t (fun k hk => by rw [(h.lo k).1 hk]; omega)⟩, lo := fun k => (h.lo k).trans (iff_of_eq (congrFun (hne 9 (by omega) (by omega)) k)).symm, erow := h.erow.turns hs.t (fun k hk => by rw [(h.eo k).1 hk]; omega), eo := fun k => (h.eo k).trans (iff_of_eq (congrFun (hne 10 (by omega) (by omega)) k)).symm, chn := fun p c hp => by rw [hne (16 + p) (by omega) (by omega)]; exact (h.chn p c hp).turns hs.t (fun k hk => by rw [hk]; omega) }, e, hst⟩
theorem WAt.stepDls (hx : Ext CX) (h : WAt CX w b o ps s vp vc vl ve) {F' : Nat → Prop} {ds' : List Dl} (ha : BoxAt dlC 204 95 5 w' b.pd F' ds') (hs : Stp w w' (fun k => o k = 5) F') : ∃ o', WAt CX w' b o' ps { s with nd := ds'.length } vp vc vl ve ∧ (fun k => o' k = 5) = F' ∧ Stp w w' (Own o) (Own o') := by
 obtain ⟨o', hlt, e, hne, hst⟩ := relabel h.lt (by omega) hs (ha.fb)
 obtain ⟨ds, hd1, hd2⟩ := h.dls
 obtain ⟨ls, hl1, hl2⟩ := h.lrow
 exact ⟨o', { lt := hlt, cnd := h.cnd, blk := h.blk.turns hs.t (by rw [h.ob]; omega), ob := lab_is (hne 1 (by omega) (by omega)) h.ob, clk := h.clk.turns hs.t (by rw [h.ok]; omega), ok := lab_is (hne 2 (by omega) (by omega)) h.ok, tab := by rw [hne 3 (by omega) (by omega)]; exact h.tab.turns hs.t (fun k hk => by rw [hk]; omega), tms := by rw [hne 4 (by omega) (by omega)]; exact h.tms.turns hs.t (fun k hk => by rw [hk]; omega), dls := ⟨ds', rfl, by rw [e]; exact ha⟩, ctx := by rw [hne 6 (by omega) (by omega)]; exact hx.turns _ w w' _ h.ctx hs.t (fun k hk => by rw [hk]; omega), prs := h.prs.turns hs.t (fun k hk => by rw [hk]; omega) (fun k hk => lab_is (hne 7 (by omega) (by omega)) hk), crow := h.crow.turns hs.t (fun k hk => by rw [(h.co k).1 hk]; omega), co := fun k => (h.co k).trans (iff_of_eq (congrFun (hne 8 (by omega) (by omega)) k)).symm, lrow := ⟨ls, hl1, hl2.turns hs.t (fun k hk => by rw [(h.lo k).1 hk]; omega)⟩, lo := fun k => (h.lo k).trans (iff_of_eq (congrFun (hne 9 (by omega) (by omega)) k)).symm, erow := h.erow.turns hs.t (fun k hk => by rw [(h.eo k).1 hk]; omega), eo := fun k => (h.eo k).trans (iff_of_eq (congrFun (hne 10 (by omega) (by omega)) k)).symm, chn := fun p c hp => by rw [hne (16 + p) (by omega) (by omega)]; exact (h.chn p c hp).turns hs.t (fun k hk => by rw [hk]; omega) }, e, hst⟩
theorem WAt.stepCh (hx : Ext CX) (h : WAt CX w b o ps s vp vc vl ve) {F' : Nat → Prop} {i p : Nat} {c c' : Chn} (hi : s.chs[i]? = some (p, c)) (ha : ChAt w' p F' c') (hs : Stp w w' (fun k => o k = 16 + p) F') : ∃ o', WAt CX w' b o' ps { s with chs := s.chs.set i (p, c') } vp vc vl ve ∧ (fun k => o' k = 16 + p) = F' ∧ Stp w w' (Own o) (Own o') := by
 obtain ⟨o', hlt, e, hne, hst⟩ := relabel h.lt (by omega) hs ha.fb
 obtain ⟨ds, hd1, hd2⟩ := h.dls
 obtain ⟨ls, hl1, hl2⟩ := h.lrow
 have hmap : (s.chs.set i (p, c')).map Prod.fst = s.chs.map Prod.fst := by
  rw [List.map_set]
  exact set_same (by rw [List.getElem?_map, hi]; rfl)
 refine ⟨o', { lt := hlt, cnd := by show ((s.chs.set i (p, c')).map Prod.fst).Nodup; rw [hmap]; exact h.cnd, crow := by show Owns pC _ 1 w' vc ((s.chs.set i (p, c')).map Prod.fst); rw [hmap]; exact h.crow.turns hs.t (fun k hk => by rw [(h.co k).1 hk]; omega), co := fun k => (h.co k).trans (iff_of_eq (congrFun (hne 8 (by omega) (by omega)) k)).symm, chn := fun p2 c2 hp => ?_, blk := h.blk.turns hs.t (by rw [h.ob]; omega), ob := lab_is (hne 1 (by omega) (by omega)) h.ob, clk := h.clk.turns hs.t (by rw [h.ok]; omega), ok := lab_is (hne 2 (by omega) (by omega)) h.ok, tab := by rw [hne 3 (by omega) (by omega)]; exact h.tab.turns hs.t (fun k hk => by rw [hk]; omega), tms := by rw [hne 4 (by omega) (by omega)]; exact h.tms.turns hs.t (fun k hk => by rw [hk]; omega), dls := ⟨ds, hd1, by rw [hne 5 (by omega) (by omega)]; exact hd2.turns hs.t (fun k hk => by rw [hk]; omega)⟩, ctx := by rw [hne 6 (by omega) (by omega)]; exact hx.turns _ w w' _ h.ctx hs.t (fun k hk => by rw [hk]; omega), prs := h.prs.turns hs.t (fun k hk => by rw [hk]; omega) (fun k hk => lab_is (hne 7 (by omega) (by omega)) hk), lrow := ⟨ls, hl1, hl2.turns hs.t (fun k hk => by rw [(h.lo k).1 hk]; omega)⟩, lo := fun k => (h.lo k).trans (iff_of_eq (congrFun (hne 9 (by omega) (by omega)) k)).symm, erow := h.erow.turns hs.t (fun k hk => by rw [(h.eo k).1 hk]; omega), eo := fun k => (h.eo k).trans (iff_of_eq (congrFun (hne 10 (by omega) (by omega)) k)).symm }, e, hst⟩
 obtain ⟨j, hj⟩ := List.getElem?_of_mem hp
 by_cases hij : i = j
 ·subst hij
  have hil : i < s.chs.length := (List.getElem?_eq_some_iff.1 hi).1
  rw [List.getElem?_set_self hil] at hj
  cases hj
  rw [e]
  exact ha
 ·rw [List.getElem?_set_ne hij] at hj
  have hpp : p2 ≠ p := by
   rintro rfl
   have h1 : (s.chs.map Prod.fst)[i]? = some p2 := by rw [List.getElem?_map, hi]; rfl
   have h2 : (s.chs.map Prod.fst)[j]? = some p2 := by rw [List.getElem?_map, hj]; rfl
   rcases Nat.lt_or_gt_of_ne hij with h3 | h3
   ·exact nd_ne h.cnd h1 h2 h3 rfl
   ·exact nd_ne h.cnd h2 h1 h3 rfl
  rw [hne (16 + p2) (by omega) (by omega)]
  exact (h.chn p2 c2 (List.mem_of_getElem? hj)).turns hs.t (fun k hk => by rw [hk]; omega)
end
theorem nodup_snoc {l : List Nat} {p : Nat} (h : l.Nodup) (hp : p ∉ l) : (l ++ [p]).Nodup := by
 rw [List.nodup_append]
 refine ⟨h, by simp, fun a ha c hc e => ?_⟩
 simp only [List.mem_singleton] at hc
 subst hc
 subst e
 exact hp ha
section
variable {CX : World → (Nat → Prop) → Prop} {w w' : World} {b : Wp} {o o' : Nat → Nat} {ps : List (List Ins)} {s : Wst} {vp vc vl ve : Value}
theorem WAt.pushEv (hx : Ext CX) (h : WAt CX w b o ps s vp vc vl ve) {x : Ev} {wX w2 : World} {v2 : Value} (hm : Made w wX) (h1 : Owns evC 45 6 w2 v2 (s.ev ++ [x])) (h2 : Turns (fun k => ve.ownBlock = some k) wX w2) (h3 : ∀ k, v2.ownBlock = some k → ve.ownBlock = some k ∨ wX.heap.size ≤ k) :
  ∃ o', WAt CX (w2.setCell ⟨b.pb, 10, none⟩ v2) b o' ps { s with ev := s.ev ++ [x] } vp vc vl v2 ∧ Stp w (w2.setCell ⟨b.pb, 10, none⟩ v2) (Own o) (Own o') := by
 have hsz := hm.size
 have hpl := h.blk.lt
 have hpn : ∀ k, v2.ownBlock = some k → ¬ k = b.pb := fun k hk e => by
  rcases h3 k hk with h4 | h4
  ·have h5 := (h.eo k).1 h4
   rw [e, h.ob] at h5
   omega
  ·omega
 have hs2 : Stp w w2 (fun k => o k = 10) (fun k => v2.ownBlock = some k) := ⟨(hm.mono (fun _ _ h => h.elim)).then h2 (fun k _ hk => (h.eo k).1 hk), fun k hk => (h3 k hk).imp (fun h4 => (h.eo k).1 h4) (fun h4 => by omega)⟩
 obtain ⟨o', hlt, e, hne, hst⟩ := relabel h.lt (by omega) hs2 (fun k hk => h1.lt hk)
 have ht : Turns (fun k => o k = 10 ∨ o k = 1) w (w2.setCell ⟨b.pb, 10, none⟩ v2) := (hs2.t.mono (S' := fun k => o k = 10 ∨ o k = 1) (fun k _ hk => .inl hk)).trans ((set1 w2 b.pb 10 v2).mono (fun k _ e => .inr (by rw [e]; exact h.ob)))
 obtain ⟨ds, hd1, hd2⟩ := h.dls
 obtain ⟨ls, hl1, hl2⟩ := h.lrow
 have hb2 : Blk w2 b.pb _ _ := h.blk.turns hs2.t (by rw [h.ob]; omega)
 have hb3 := hb2.put 10 v2
 simp only [List.setIfInBounds_toArray, List.set_cons_zero, List.set_cons_succ] at hb3
 refine ⟨o', { lt := fun k hk => by have := hlt k hk; have h9 := (set1 w2 b.pb 10 v2).size; omega, cnd := h.cnd, blk := hb3, erow := h1.turns (set1 w2 b.pb 10 v2) hpn, eo := fun k => (iff_of_eq (congrFun e k)).symm, ob := lab_is (hne 1 (by omega) (by omega)) h.ob, clk := h.clk.turns ht (by rw [h.ok]; omega), ok := lab_is (hne 2 (by omega) (by omega)) h.ok, tab := by rw [hne 3 (by omega) (by omega)]; exact h.tab.turns ht (fun k hk => by rw [hk]; omega), tms := by rw [hne 4 (by omega) (by omega)]; exact h.tms.turns ht (fun k hk => by rw [hk]; omega), dls := ⟨ds, hd1, by rw [hne 5 (by omega) (by omega)]; exact hd2.turns ht (fun k hk => by rw [hk]; omega)⟩, ctx := by rw [hne 6 (by omega) (by omega)]; exact hx.turns _ w _ _ h.ctx ht (fun k hk => by rw [hk]; omega), prs := h.prs.turns ht (fun k hk => by rw [hk]; omega) (fun k hk => lab_is (hne 7 (by omega) (by omega)) hk), crow := h.crow.turns ht (fun k hk => by rw [(h.co k).1 hk]; omega), co := fun k => (h.co k).trans (iff_of_eq (congrFun (hne 8 (by omega) (by omega)) k)).symm, lrow := ⟨ls, hl1, hl2.turns ht (fun k hk => by rw [(h.lo k).1 hk]; omega)⟩, lo := fun k => (h.lo k).trans (iff_of_eq (congrFun (hne 9 (by omega) (by omega)) k)).symm, chn := fun p c hp => by rw [hne (16 + p) (by omega) (by omega)]; exact (h.chn p c hp).turns ht (fun k hk => by rw [hk]; omega) }, ⟨(hst.t).trans ((set1 w2 b.pb 10 v2).mono (fun k _ e => by show o k ≠ 0; rw [e, h.ob]; omega)), hst.f⟩⟩
theorem WAt.pushLk (hx : Ext CX) (h : WAt CX w b o ps s vp vc vl ve) {ls2 : List Lk} {x : Lk} (hls : ls2.length = s.nl) {wX w2 : World} {v2 : Value} (hm : Made w wX) (h1 : Owns lkC 123 2 w2 v2 (ls2 ++ [x])) (h2 : Turns (fun k => vl.ownBlock = some k) wX w2) (h3 : ∀ k, v2.ownBlock = some k → vl.ownBlock = some k ∨ wX.heap.size ≤ k) :
  ∃ o', WAt CX (w2.setCell ⟨b.pb, 8, none⟩ v2) b o' ps { s with nl := s.nl + 1 } vp vc v2 ve ∧ Stp w (w2.setCell ⟨b.pb, 8, none⟩ v2) (Own o) (Own o') := by
 have hsz := hm.size
 have hpl := h.blk.lt
 have hpn : ∀ k, v2.ownBlock = some k → ¬ k = b.pb := fun k hk e => by
  rcases h3 k hk with h4 | h4
  ·have h5 := (h.lo k).1 h4
   rw [e, h.ob] at h5
   omega
  ·omega
 have hs2 : Stp w w2 (fun k => o k = 9) (fun k => v2.ownBlock = some k) := ⟨(hm.mono (fun _ _ h => h.elim)).then h2 (fun k _ hk => (h.lo k).1 hk), fun k hk => (h3 k hk).imp (fun h4 => (h.lo k).1 h4) (fun h4 => by omega)⟩
 obtain ⟨o', hlt, e, hne, hst⟩ := relabel h.lt (by omega) hs2 (fun k hk => h1.lt hk)
 have ht : Turns (fun k => o k = 9 ∨ o k = 1) w (w2.setCell ⟨b.pb, 8, none⟩ v2) := (hs2.t.mono (S' := fun k => o k = 9 ∨ o k = 1) (fun k _ hk => .inl hk)).trans ((set1 w2 b.pb 8 v2).mono (fun k _ e => .inr (by rw [e]; exact h.ob)))
 obtain ⟨ds, hd1, hd2⟩ := h.dls
 obtain ⟨ls, hl1, hl2⟩ := h.lrow
 have hb2 : Blk w2 b.pb _ _ := h.blk.turns hs2.t (by rw [h.ob]; omega)
 have hb3 := hb2.put 8 v2
 simp only [List.setIfInBounds_toArray, List.set_cons_zero, List.set_cons_succ] at hb3
 refine ⟨o', { lt := fun k hk => by have := hlt k hk; have h9 := (set1 w2 b.pb 8 v2).size; omega, cnd := h.cnd, blk := hb3, lrow := ⟨ls2 ++ [x], by simp [hls], h1.turns (set1 w2 b.pb 8 v2) hpn⟩, lo := fun k => (iff_of_eq (congrFun e k)).symm, ob := lab_is (hne 1 (by omega) (by omega)) h.ob, clk := h.clk.turns ht (by rw [h.ok]; omega), ok := lab_is (hne 2 (by omega) (by omega)) h.ok, tab := by rw [hne 3 (by omega) (by omega)]; exact h.tab.turns ht (fun k hk => by rw [hk]; omega), tms := by rw [hne 4 (by omega) (by omega)]; exact h.tms.turns ht (fun k hk => by rw [hk]; omega), dls := ⟨ds, hd1, by rw [hne 5 (by omega) (by omega)]; exact hd2.turns ht (fun k hk => by rw [hk]; omega)⟩, ctx := by rw [hne 6 (by omega) (by omega)]; exact hx.turns _ w _ _ h.ctx ht (fun k hk => by rw [hk]; omega), prs := h.prs.turns ht (fun k hk => by rw [hk]; omega) (fun k hk => lab_is (hne 7 (by omega) (by omega)) hk), crow := h.crow.turns ht (fun k hk => by rw [(h.co k).1 hk]; omega), co := fun k => (h.co k).trans (iff_of_eq (congrFun (hne 8 (by omega) (by omega)) k)).symm, erow := h.erow.turns ht (fun k hk => by rw [(h.eo k).1 hk]; omega), eo := fun k => (h.eo k).trans (iff_of_eq (congrFun (hne 10 (by omega) (by omega)) k)).symm, chn := fun p c hp => by rw [hne (16 + p) (by omega) (by omega)]; exact (h.chn p c hp).turns ht (fun k hk => by rw [hk]; omega) }, ⟨(hst.t).trans ((set1 w2 b.pb 8 v2).mono (fun k _ e => by show o k ≠ 0; rw [e, h.ob]; omega)), hst.f⟩⟩
theorem WAt.pushCh (hx : Ext CX) (h : WAt CX w b o ps s vp vc vl ve) {p : Nat} {c : Chn} (hp : ChAt w p (fun k => o k = 16 + p) c) (hnp : p ∉ s.chs.map Prod.fst) {wX w2 : World} {v2 : Value} (hm : Made w wX) (h1 : Owns pC 104 1 w2 v2 ((s.chs.map Prod.fst) ++ [p])) (h2 : Turns (fun k => vc.ownBlock = some k) wX w2) (h3 : ∀ k, v2.ownBlock = some k → vc.ownBlock = some k ∨ wX.heap.size ≤ k) :
  ∃ o', WAt CX (w2.setCell ⟨b.pb, 3, none⟩ v2) b o' ps { s with chs := s.chs ++ [(p, c)] } vp v2 vl ve ∧ Stp w (w2.setCell ⟨b.pb, 3, none⟩ v2) (Own o) (Own o') := by
 have hsz := hm.size
 have hpl := h.blk.lt
 have hpn : ∀ k, v2.ownBlock = some k → ¬ k = b.pb := fun k hk e => by
  rcases h3 k hk with h4 | h4
  ·have h5 := (h.co k).1 h4
   rw [e, h.ob] at h5
   omega
  ·omega
 have hs2 : Stp w w2 (fun k => o k = 8) (fun k => v2.ownBlock = some k) := ⟨(hm.mono (fun _ _ h => h.elim)).then h2 (fun k _ hk => (h.co k).1 hk), fun k hk => (h3 k hk).imp (fun h4 => (h.co k).1 h4) (fun h4 => by omega)⟩
 obtain ⟨o', hlt, e, hne, hst⟩ := relabel h.lt (by omega) hs2 (fun k hk => h1.lt hk)
 have ht : Turns (fun k => o k = 8 ∨ o k = 1) w (w2.setCell ⟨b.pb, 3, none⟩ v2) := (hs2.t.mono (S' := fun k => o k = 8 ∨ o k = 1) (fun k _ hk => .inl hk)).trans ((set1 w2 b.pb 3 v2).mono (fun k _ e => .inr (by rw [e]; exact h.ob)))
 obtain ⟨ds, hd1, hd2⟩ := h.dls
 obtain ⟨ls, hl1, hl2⟩ := h.lrow
 have hchn : ∀ p2 c2, (p2, c2) ∈ s.chs ++ [(p, c)] → ChAt (w2.setCell ⟨b.pb, 3, none⟩ v2) p2 (fun k => o' k = 16 + p2) c2 := fun p2 c2 hp2 => by
  rw [hne (16 + p2) (by omega) (by omega)]
  rcases List.mem_append.1 hp2 with h9 | h9
  ·exact (h.chn p2 c2 h9).turns ht (fun k hk => by rw [hk]; omega)
  ·simp only [List.mem_singleton, Prod.mk.injEq] at h9
   obtain ⟨rfl, rfl⟩ := h9
   exact hp.turns ht (fun k hk => by rw [hk]; omega)
 have hb2 : Blk w2 b.pb _ _ := h.blk.turns hs2.t (by rw [h.ob]; omega)
 have hb3 := hb2.put 3 v2
 simp only [List.setIfInBounds_toArray, List.set_cons_zero, List.set_cons_succ] at hb3
 refine ⟨o', { lt := fun k hk => by have := hlt k hk; have h9 := (set1 w2 b.pb 3 v2).size; omega, cnd := by show ((s.chs ++ [(p, c)]).map Prod.fst).Nodup; rw [List.map_append]; exact nodup_snoc h.cnd hnp, blk := hb3, crow := by show Owns pC _ 1 _ v2 ((s.chs ++ [(p, c)]).map Prod.fst); rw [List.map_append]; exact h1.turns (set1 w2 b.pb 3 v2) hpn, co := fun k => (iff_of_eq (congrFun e k)).symm, ob := lab_is (hne 1 (by omega) (by omega)) h.ob, clk := h.clk.turns ht (by rw [h.ok]; omega), ok := lab_is (hne 2 (by omega) (by omega)) h.ok, tab := by rw [hne 3 (by omega) (by omega)]; exact h.tab.turns ht (fun k hk => by rw [hk]; omega), tms := by rw [hne 4 (by omega) (by omega)]; exact h.tms.turns ht (fun k hk => by rw [hk]; omega), dls := ⟨ds, hd1, by rw [hne 5 (by omega) (by omega)]; exact hd2.turns ht (fun k hk => by rw [hk]; omega)⟩, ctx := by rw [hne 6 (by omega) (by omega)]; exact hx.turns _ w _ _ h.ctx ht (fun k hk => by rw [hk]; omega), prs := h.prs.turns ht (fun k hk => by rw [hk]; omega) (fun k hk => lab_is (hne 7 (by omega) (by omega)) hk), lrow := ⟨ls, hl1, hl2.turns ht (fun k hk => by rw [(h.lo k).1 hk]; omega)⟩, lo := fun k => (h.lo k).trans (iff_of_eq (congrFun (hne 9 (by omega) (by omega)) k)).symm, erow := h.erow.turns ht (fun k hk => by rw [(h.eo k).1 hk]; omega), eo := fun k => (h.eo k).trans (iff_of_eq (congrFun (hne 10 (by omega) (by omega)) k)).symm, chn := fun p2 c2 hp2 => hchn p2 c2 hp2 }, ⟨(hst.t).trans ((set1 w2 b.pb 3 v2).mono (fun k _ e => by show o k ≠ 0; rw [e, h.ob]; omega)), hst.f⟩⟩
theorem WAt.newCh (hx : Ext CX) (h : WAt CX w b o ps s vp vc vl ve) {p : Nat} {Fc : Nat → Prop} {c : Chn} (hm : Made w w') (hc : ChAt w' p Fc c) (hf : ∀ k, Fc k → w.heap.size ≤ k) : ∃ o', WAt CX w' b o' ps s vp vc vl ve ∧ (fun k => o' k = 16 + p) = Fc ∧ Stp w w' (Own o) (Own o') ∧ p ∉ s.chs.map Prod.fst := by
 have hs : Stp w w' (fun k => o k = 16 + p) Fc := ⟨hm.mono (fun _ _ h => h.elim), fun k hk => .inr (hf k hk)⟩
 obtain ⟨o', hlt, e, hne, hst⟩ := relabel h.lt (by omega) hs hc.fb
 obtain ⟨ds, hd1, hd2⟩ := h.dls
 obtain ⟨ls, hl1, hl2⟩ := h.lrow
 have hnp : p ∉ s.chs.map Prod.fst := fun hp => by
  obtain ⟨⟨p2, c2⟩, h2, rfl⟩ := List.mem_map.1 hp
  have h3 := h.lt p2 (by have h9 : o p2 = 16 + p2 := (h.chn p2 c2 h2).self; omega)
  have h4 := hf p2 hc.self
  omega
 refine ⟨o', { lt := hlt, cnd := h.cnd, chn := fun p2 c2 hp2 => ?_, blk := h.blk.turns hs.t (by rw [h.ob]; omega), ob := lab_is (hne 1 (by omega) (by omega)) h.ob, clk := h.clk.turns hs.t (by rw [h.ok]; omega), ok := lab_is (hne 2 (by omega) (by omega)) h.ok, tab := by rw [hne 3 (by omega) (by omega)]; exact h.tab.turns hs.t (fun k hk => by rw [hk]; omega), tms := by rw [hne 4 (by omega) (by omega)]; exact h.tms.turns hs.t (fun k hk => by rw [hk]; omega), dls := ⟨ds, hd1, by rw [hne 5 (by omega) (by omega)]; exact hd2.turns hs.t (fun k hk => by rw [hk]; omega)⟩, ctx := by rw [hne 6 (by omega) (by omega)]; exact hx.turns _ w w' _ h.ctx hs.t (fun k hk => by rw [hk]; omega), prs := h.prs.turns hs.t (fun k hk => by rw [hk]; omega) (fun k hk => lab_is (hne 7 (by omega) (by omega)) hk), crow := h.crow.turns hs.t (fun k hk => by rw [(h.co k).1 hk]; omega), co := fun k => (h.co k).trans (iff_of_eq (congrFun (hne 8 (by omega) (by omega)) k)).symm, lrow := ⟨ls, hl1, hl2.turns hs.t (fun k hk => by rw [(h.lo k).1 hk]; omega)⟩, lo := fun k => (h.lo k).trans (iff_of_eq (congrFun (hne 9 (by omega) (by omega)) k)).symm, erow := h.erow.turns hs.t (fun k hk => by rw [(h.eo k).1 hk]; omega), eo := fun k => (h.eo k).trans (iff_of_eq (congrFun (hne 10 (by omega) (by omega)) k)).symm }, e, hst, hnp⟩
 have hpp : p2 ≠ p := fun e => hnp (by rw [← e]; exact List.mem_map.2 ⟨_, hp2, rfl⟩)
 rw [hne (16 + p2) (by omega) (by omega)]
 exact (h.chn p2 c2 hp2).turns hs.t (fun k hk => by rw [hk]; omega)
end
theorem wnow_c {CX : World → (Nat → Prop) → Prop} {w : World} {b : Wp} {o : Nat → Nat} {ps : List (List Ins)} {s : Wst} (h : WW CX w b o ps s) :
  Calls Tryz.prog 44 #[.pointer (some ⟨b.pb, 0, none⟩)] w fun e w' => e = .returned (.int .i64 s.now) ∧ w = w' := by
 obtain ⟨vp, vc, vl, ve, h⟩ := h
 have q1 := h.blk.cell 1
 simp only [zG] at q1
 have k0 := h.clk.cell 0
 simp only [zG] at k0
 clear h
 have H : Calls Tryz.prog 65 #[.pointer (some ⟨b.pk, 0, none⟩)] w fun e w' => e = .returned (.int .i64 s.now) ∧ w = w' := by
  go_enter Tryz.func65, Tryz.ntmps65
  go_wp2_with fail
  go_ret
  exact ⟨rfl, rfl⟩
 have H := zh H
 go_enter Tryz.func44, Tryz.ntmps44
 go_wp2_with fail
 refine H.out.mono ?_
 rintro e w1 ⟨rfl, rfl⟩
 go_wp2_with fail
 go_ret
 exact ⟨rfl, rfl⟩
theorem own_p {w : World} {v : Value} {l : List Nat} {i p : Nat} (h : Owns pC 104 1 w v l) (hp : l[i]? = some p) : ∃ g c, v = .slice (some ⟨g, 0, none⟩) l.length c ∧ w.cell? ⟨g, i, none⟩ = some (.pointer (some ⟨p, 0, none⟩)) := by
 rcases h.form with ⟨_, h0⟩ | ⟨g, c, rfl, _⟩
 ·subst h0; simp at hp
 ·have h1 := Owns.cell pC_len h hp (j := 0) rfl
  exact ⟨g, c, rfl, by simpa using h1⟩
theorem wchannel_c {CX : World → (Nat → Prop) → Prop} {w : World} {b : Wp} {o : Nat → Nat} {ps : List (List Ins)} {s : Wst} {i p : Nat} {c : Chn} (h : WW CX w b o ps s) (hi : s.chs[i]? = some (p, c)) (hn : s.chs.length ≤ 1000) :
  Calls Tryz.prog 123 #[.pointer (some ⟨b.pb, 0, none⟩), .int .i64 i] w fun e w' => e = .returned (.tuple #[.pointer (some ⟨p, 0, none⟩), .bool true]) ∧ w = w' := by
 obtain ⟨vp, vc, vl, ve, h⟩ := h
 have hil := (List.getElem?_eq_some_iff.1 hi).1
 obtain ⟨g, cp, hv, hc⟩ := own_p h.crow (i := i) (p := p) (by rw [List.getElem?_map, hi]; rfl)
 subst hv
 have q3 := h.blk.cell 3
 simp only [zG] at q3
 rw [List.length_map] at q3
 clear h hi
 go_enter Tryz.func123, Tryz.ntmps123
 go_wp2_with fail
 go_ret2
 exact ⟨rfl, rfl⟩
theorem Tryz.infoCh : (Tryz.prog.info? 194).map (fun i => (i.zero, i.size, i.bytes)) = some (some (.agg #[.pointer none, .pointer none, .pointer none, .bool false, .bool false, .bool false]), 6, 32) := by kernel_rfl
theorem pidx_c {w : World} {v : Value} {l : List Nat} {i p : Nat} (hb : ∀ q ∈ l, ∃ cs, Blk w q 194 cs) (h : Owns pC 104 1 w v l) (hp : l[i]? = some p) (hnd : l.Nodup) (hn : l.length ≤ 1000) :
  Calls Tryz.prog 111 #[v, .pointer (some ⟨p, 0, none⟩)] w fun e w' => e = .returned (.int .i64 i) ∧ w = w' := by
 have hi := (List.getElem?_eq_some_iff.1 hp).1
 obtain ⟨g, cp, rfl, _⟩ := own_p h hp
 have HO := zh h
 have HP := zh hp
 have HN := zh hnd
 have HBK := zh hb
 obtain ⟨j0, hj0, hj1, hj2, hj3⟩ := info_parts Tryz.infoCh
 have HEQ := zh (run_eql_ptr_same (P := Tryz.prog) w (tp := 104) ⟨p, 0, none⟩ Tryz.underlying104 hj0)
 clear h hp hnd hb
 go_enter Tryz.func111, Tryz.ntmps111
 go_wp2_with fail
 go_loop [8] (fun v8 => ∃ k : Nat, k ≤ i ∧ v8 = .int .i64 k) (fun v8 => l.length - (intOf v8).toNat)
 case atStart => exact ⟨0, Nat.zero_le _, rfl⟩
 case round =>
  obtain ⟨k, hk, rfl⟩ := hrel
  obtain ⟨y, hy⟩ := get_of_lt (xs := l) (k := k) (by omega)
  obtain ⟨g', cp', hv, hc⟩ := own_p HO.out hy
  simp only [Value.slice.injEq, Option.some.injEq, Addr.mk.injEq, and_true, true_and] at hv
  obtain ⟨rfl, rfl⟩ := hv
  by_cases hlt : k < i
  ·have hne : (p == y) = false := by
    rw [beq_eq_false_iff_ne]
    rintro rfl
    exact nd_ne HN.out hy HP.out hlt rfl
   have hne2 : ¬ p = y := by simpa using hne
   obtain ⟨cp1, hp1⟩ := HBK.out p (List.mem_of_getElem? HP.out)
   obtain ⟨cy1, hy1⟩ := HBK.out y (List.mem_of_getElem? hy)
   have hq := run_eql_ptr_other (P := Tryz.prog) w (tp := 104) (a := ⟨p, 0, none⟩) (b := ⟨y, 0, none⟩) Tryz.underlying104 hj0 (by rw [hj2]; omega) (fun e => hne2 (congrArg Addr.block e)) hp1 hy1
   clear hy hp1 hy1
   go_wp2_with fail
   go_round
   case rel => exact ⟨k + 1, by omega, by go_num⟩
   case measure => simp [intOf]; omega
  ·obtain rfl : i = k := by omega
   have hyp : y = p := by
    have := HP.out
    rw [hy] at this
    simpa using this
   subst hyp
   have hq := HEQ.out
   clear hy
   go_wp2_with fail
   go_ret
   exact ⟨rfl, rfl⟩
theorem whandle_c {CX : World → (Nat → Prop) → Prop} {w : World} {b : Wp} {o : Nat → Nat} {ps : List (List Ins)} {s : Wst} {i p : Nat} {c : Chn} (h : WW CX w b o ps s) (hi : s.chs[i]? = some (p, c)) (hn : s.chs.length ≤ 1000) :
  Calls Tryz.prog 70 #[.pointer (some ⟨b.pb, 0, none⟩), .pointer (some ⟨p, 0, none⟩)] w fun e w' => e = .returned (.int .i64 i) ∧ w = w' := by
 obtain ⟨vp, vc, vl, ve, h⟩ := h
 have H := zh (pidx_c (fun q hq => by
  obtain ⟨⟨q2, c2⟩, h2, rfl⟩ := List.mem_map.1 hq
  obtain ⟨_, _, _, _, h3, _⟩ := h.chn q2 c2 h2
  exact ⟨_, h3.blk⟩) h.crow (i := i) (p := p) (by rw [List.getElem?_map, hi]; rfl) h.cnd (by rw [List.length_map]; exact hn))
 have q3 := h.blk.cell 3
 simp only [zG] at q3
 clear h hi
 go_enter Tryz.func70, Tryz.ntmps70
 go_wp2_with fail
 refine H.out.mono ?_
 rintro e w1 ⟨rfl, rfl⟩
 go_wp2_with fail
 go_ret
 exact ⟨rfl, rfl⟩
theorem Tryz.infoP : (Tryz.prog.info? 104).map (fun i => (i.zero, i.size, i.bytes)) = some (some (.pointer none), 1, 8) := by kernel_rfl
theorem wopen_c {CX : World → (Nat → Prop) → Prop} {w : World} {b : Wp} {o : Nat → Nat} {ps : List (List Ins)} {s : Wst} {p : Nat} {c : Chn} (hx : Ext CX) (h : WW CX w b o ps s) (hp : ChAt w p (fun k => o k = 16 + p) c) (hnp : p ∉ s.chs.map Prod.fst) (hn : s.chs.length ≤ 1000) :
  Calls Tryz.prog 122 #[.pointer (some ⟨b.pb, 0, none⟩), .pointer (some ⟨p, 0, none⟩)] w fun e w' => e = .returned (.int .i64 s.chs.length) ∧ ∃ o', WW CX w' b o' ps { s with chs := s.chs ++ [(p, c)] } ∧ Stp w w' (Own o) (Own o') := by
 obtain ⟨vp, vc, vl, ve, h⟩ := h
 obtain ⟨i0, hi0, hz0, hz1, hz2⟩ := info_parts Tryz.infoP
 have hm := (zT w).alloc (.cells (pC p).toArray 104)
 have HX := zh (Blk.new w 104 (pC p).toArray)
 have HM := zh hm
 have HO := zh (h.crow.made hm)
 have HH := zh (And.intro h (And.intro hp hnp))
 have HXX := zh hx
 have q3 := h.blk.cell 3
 simp only [zG] at q3
 clear h hp hnp hm hx
 go_enter Tryz.func122, Tryz.ntmps122
 go_wp2_with (at_builtin; refine wpList_push rfl (.tmp 9) (.tmp 11) _ rfl i0 _ 8 Tryz.underlying61 hi0 hz0 hz1 hz2 rfl (by omega) pC_len pC_one rfl HO.out p rfl HX.out (by rw [List.length_map]; omega) (by omega) ?_; intro v2 w2 hO2 hT2 hV2; have hb2 := (HH.out.1.blk.turns HM.out (fun h => h)).turns hT2 (fun e => by have h9 := (HH.out.1.co _).1 e; rw [HH.out.1.ob] at h9; omega); have HR := zh (HH.out.1.pushCh HXX.out HH.out.2.1 HH.out.2.2 HM.out hO2 hT2 hV2); obtain ⟨a3, c3, rfl⟩ := owns_slice hO2; have r3 := hb2.cell 3; have f3 := hb2.free 3; simp only [zG] at r3; clear hO2 hT2 hV2 hb2)
 go_ret
 obtain ⟨o', h1, h2⟩ := HR.out
 simp only [List.length_append, List.length_map, List.length_cons, List.length_nil, Nat.zero_add] at h1 h2
 refine ⟨by simp, o', ⟨_, _, _, _, h1⟩, h2⟩
abbrev DlAt (w : World) (p : Nat) (F : Nat → Prop) (ds : List Dl) : Prop := BoxAt dlC 204 95 5 w p F ds
theorem Tryz.infoDl : (Tryz.prog.info? 204).map (fun i => (i.zero, i.size, i.bytes)) = some (some (.agg #[.int .i64 0, .int .i64 0, .int .i64 0, .bool false, .int .i64 0]), 5, 40) := by kernel_rfl
theorem fillDl {i : TypeInfo} (h : i.size = 5) (a b c d e : Value) : Instr.fill (fun k => some (k * i.size, i.size)) ((Array.range (1 * i.size)).map ((Value.agg #[.int .i64 0, .int .i64 0, .int .i64 0, .bool false, .int .i64 0]).cells[· % (Value.agg #[.int .i64 0, .int .i64 0, .int .i64 0, .bool false, .int .i64 0]).cells.size]!)) [(0, .agg #[a, b, c, d, e])] = some #[a, b, c, d, e] := by
 rw [h]
 first | kernel_rfl | simp [Instr.fill]
theorem Tryz.infoEv : (Tryz.prog.info? 45).map (fun i => (i.zero, i.size, i.bytes)) = some (some (.agg #[.int .i64 0, .int .i64 0, .int .i64 0, .int .i64 0, .int .i64 0, .int .i64 0]), 6, 48) := by kernel_rfl
theorem fillEv {i : TypeInfo} (h : i.size = 6) (a b c d e f : Value) : Instr.fill (fun k => some (k * i.size, i.size)) ((Array.range (1 * i.size)).map ((Value.agg #[.int .i64 0, .int .i64 0, .int .i64 0, .int .i64 0, .int .i64 0, .int .i64 0]).cells[· % (Value.agg #[.int .i64 0, .int .i64 0, .int .i64 0, .int .i64 0, .int .i64 0, .int .i64 0]).cells.size]!)) [(0, .agg #[a, b, c, d, e, f])] = some #[a, b, c, d, e, f] := by
 rw [h]
 first | kernel_rfl | simp [Instr.fill]
theorem dlnew_c (w : World) : Calls Tryz.prog 19 #[] w fun e w' => ∃ p F, e = .returned (.pointer (some ⟨p, 0, none⟩)) ∧ DlAt w' p F [] ∧ Made w w' ∧ ∀ k, F k → w.heap.size ≤ k := by
 go_enter Tryz.func19, Tryz.ntmps19
 go_wp2_with fail
 go_ret
 exact ⟨_, fun k => k = w.heap.size, rfl, ⟨.slice none 0 0, ⟨Blk.new w _ _, Owns.nil, fun k hk => by simp [Value.ownBlock] at hk⟩, fun k => by simp [Value.ownBlock]⟩, (Turns.refl _ _).alloc _, fun k hk => by omega⟩
theorem dladd_c {w : World} {p : Nat} {F : Nat → Prop} {ds : List Dl} (x : Dl) (h : DlAt w p F ds) (h1 : 0 ≤ x.ch) (h2 : -1 ≤ x.task) (hn : ds.length < 1000000) :
  Calls Tryz.prog 110 #[.pointer (some ⟨p, 0, none⟩), .agg #[.int .i64 x.ch, .int .i64 x.task, .int .i64 x.value, .bool x.got, .int .i64 x.at_]] w fun e w' => e = .returned (.int .i64 0) ∧ ∃ F', DlAt w' p F' (ds ++ [x]) ∧ Stp w w' F F' := by
 have HM := zh ((zT w).alloc (.cells #[.int .i64 x.ch, .int .i64 x.task, .int .i64 x.value, .bool x.got, .int .i64 x.at_] 204))
 have HX := zh (Blk.new w 204 #[.int .i64 x.ch, .int .i64 x.task, .int .i64 x.value, .bool x.got, .int .i64 x.at_])
 have HFB := zh h.fb
 obtain ⟨v, hin, hf⟩ := h
 have HIN := zh hin
 have HF := zh hf
 have HP := zh (hin.blk.turns HM.out (fun h => h))
 have HO := zh (hin.own.made HM.out)
 have HNP := zh hin.np
 have HNX := zh (show ∀ k, v.ownBlock = some k → k ≠ w.heap.size from fun k hk e => by have := HFB.out k ((hf k).2 (.inr hk)); omega)
 clear hin hf
 have h3 : ¬ x.ch < 0 := by omega
 have h4 : ¬ x.task < -1 := by omega
 obtain ⟨i0, hi0, hz0, hz1, hz2⟩ := info_parts Tryz.infoDl
 go_enter Tryz.func110, Tryz.ntmps110
 go_wp2_with fail
 generalize w.alloc (.cells #[.int .i64 x.ch, .int .i64 x.task, .int .i64 x.value, .bool x.got, .int .i64 x.at_] 204) = W at *
 refine wp_region_z (S := fun w' => Blk w' (p) 95 #[v] ∧ Blk w' (w.heap.size) 204 #[.int .i64 x.ch, .int .i64 x.task, .int .i64 x.value, .bool x.got, .int .i64 x.at_] ∧ Turns (fun k => (v).ownBlock = some k) W w') 10 (by kernel_rfl) ?_ (fun hHeld => ?_)
 ·exact ⟨HP.out, HX.out, (Turns.refl _ W).drew⟩
 refine tZ 0 17 ?_ ?_ ?_;rotate_left
 ·intro w hSw
  go_simp
  try with_reducible rfl
 try simp only [zP]
 refine tZ 1 18 ?_ ?_ ?_;rotate_left
 ·intro w hSw
  go_simp
  try with_reducible rfl
 try simp only [zP]
 refine tZ 2 19 ?_ ?_ ?_;rotate_left
 ·intro w hSw
  go_simp
  try with_reducible rfl
 try simp only [zP]
 refine tZ 3 20 ?_ ?_ ?_;rotate_left
 ·intro w hSw
  go_simp
  try with_reducible rfl
 try simp only [zP]
 refine tZ 4 21 ?_ ?_ ?_;rotate_left
 ·intro w hSw
  have q0_0 := hSw.1.cell 0
  have q1_0 := hSw.2.1.cell 0
  have q1_1 := hSw.2.1.cell 1
  have q1_2 := hSw.2.1.cell 2
  have q1_3 := hSw.2.1.cell 3
  have q1_4 := hSw.2.1.cell 4
  simp only [zG] at q0_0 q1_0 q1_1 q1_2 q1_3 q1_4
  go_simp
  try with_reducible rfl
 try simp only [zP]
 refine tZ 5 22 ?_ ?_ ?_;rotate_left
 ·intro w hSw
  have q0_0 := hSw.1.cell 0
  have q1_0 := hSw.2.1.cell 0
  have q1_1 := hSw.2.1.cell 1
  have q1_2 := hSw.2.1.cell 2
  have q1_3 := hSw.2.1.cell 3
  have q1_4 := hSw.2.1.cell 4
  simp only [zG] at q0_0 q1_0 q1_1 q1_2 q1_3 q1_4
  go_simp
  try with_reducible rfl
 try simp only [zP]
 refine wpAnyZ_ready (rs := [6]) (by kernel_rfl) (by simp) ?_
 refine AllReadyZ.cons rfl (fun K hK => ?_) AllReadyZ.nil
 refine step_single rfl _ (.tmp 22) (by rfl) i0 _ Tryz.underlying93 hi0 hz0 (by rw [hz1]; decide) (by rw [hz1]; decide) #[.int .i64 x.ch, .int .i64 x.task, .int .i64 x.value, .bool x.got, .int .i64 x.at_] (by rfl) (fillDl hz1 _ _ _ _ _) ?_
 intro bX wX hTX hBX hLX
 refine hK.out _ _ ?_ (fun hHeld => ?_)
 ·exact ⟨hHeld.1.turns hTX (fun h => h), hHeld.2.1.turns hTX (fun h => h), (hHeld.2.2).trans (hTX.mono (fun _ _ h => h.elim))⟩
 clear hK K
 try simp only [zP]
 refine wpAnyZ_ready (rs := [7]) (by kernel_rfl) (by simp) ?_
 refine AllReadyZ.cons rfl (fun K hK => ?_) AllReadyZ.nil
 refine step_push rfl _ _ _ (by rfl) i0 _ 40 Tryz.underlying93 hi0 hz0 hz1 hz2 rfl (by omega) dlC_len dlC_one (by rfl) ((HO.out.drew).turns hTX (fun _ _ h => h)) (x) (by rfl) hBX (by omega) (by omega) ?_
 intro v2 w2 hO2 hT2 hV2
 obtain ⟨a3, c3, rfl⟩ := owns_slice hO2
 refine hK.out _ _ ?_ (fun hHeld => ?_)
 ·exact ⟨hHeld.1.turns hT2 (fun e => HNP.out _ e rfl), hHeld.2.1.turns hT2 (fun e => HNX.out _ e rfl), (hHeld.2.2).trans hT2⟩
 clear hK K
 try simp only [zP]
 refine wpAnyZ_ready (rs := [8]) (by kernel_rfl) (by simp) ?_
 refine AllReadyZ.cons rfl (fun K hK => ?_) AllReadyZ.nil
 go_simp
 refine hK.out _ _ hHeld (fun hHeld => ?_)
 clear hK K
 try simp only [zP]
 refine tZ 9 26 ?_ ?_ ?_;rotate_left
 ·intro w hSw
  go_simp
  try with_reducible rfl
 try simp only [zP]
 refine wpAnyZ_ready (rs := [10]) (by kernel_rfl) (by simp) ?_
 refine AllReadyZ.last rfl (fun K hK => ?_) AllReadyZ.nil
 have qz0 := hHeld.1.cell 0
 have qf := hHeld.1.free 0
 simp only [zG] at qz0
 go_simp
 refine hK.out _ _ ?_
 clear hK K
 try simp only [zP]
 refine wpAnyZ_done (by kernel_rfl) ?_ _
 obtain ⟨_, F', hb, hs⟩ := HIN.out.push HF.out ((HM.out.drew).trans hTX) hO2 hT2 hV2
 have HE := zh (And.intro hb hs)
 clear hHeld hO2 hT2 hV2 hTX hBX hLX hb hs
 go_wp2_with fail
 go_ret
 refine ⟨rfl, F', ?_⟩
 simpa using HE.out
theorem wtell_c {CX : World → (Nat → Prop) → Prop} {w : World} {b : Wp} {o : Nat → Nat} {ps : List (List Ins)} {s : Wst} {kind who ea eb ec : Int} (hx : Ext CX) (h : WW CX w b o ps s) (hn : s.ev.length < 1000) :
  Calls Tryz.prog 24 #[.pointer (some ⟨b.pb, 0, none⟩), .int .i64 kind, .int .i64 who, .int .i64 ea, .int .i64 eb, .int .i64 ec] w fun e w' => e = .returned (.tuple #[]) ∧ ∃ o', WW CX w' b o' ps { s with ev := s.ev ++ [⟨s.steps, kind, who, ea, eb, ec⟩] } ∧ Stp w w' (Own o) (Own o') := by
 obtain ⟨vp, vc, vl, ve, h⟩ := h
 have HH := zh h
 have HXX := zh hx
 have HP := zh h.blk
 have HO := zh h.erow
 have HNP := zh (show ∀ k, ve.ownBlock = some k → k ≠ b.pb from fun k hk e => by have h9 := (h.eo k).1 hk; rw [e, h.ob] at h9; omega)
 clear h hx
 obtain ⟨i0, hi0, hz0, hz1, hz2⟩ := info_parts Tryz.infoEv
 go_enter Tryz.func24, Tryz.ntmps24
 go_wp2_with fail
 refine wp_region_z (S := fun w' => Blk w' (b.pb) 65 #[vp, .pointer (some ⟨b.pk, 0, none⟩), .pointer (some ⟨b.pt, 0, none⟩), vc, .int .i64 s.made, .pointer (some ⟨b.pm, 0, none⟩), .pointer (some ⟨b.px, 0, none⟩), .pointer (some ⟨b.pd, 0, none⟩), vl, .int .i64 s.steps, ve] ∧ Turns (fun k => (ve).ownBlock = some k) w w') 19 (by kernel_rfl) ?_ (fun hHeld => ?_)
 ·exact ⟨HP.out, (Turns.refl _ w).drew⟩
 refine tZ 0 12 ?_ ?_ ?_;rotate_left
 ·intro w hSw
  go_simp
  try with_reducible rfl
 try simp only [zP]
 refine tZ 1 13 ?_ ?_ ?_;rotate_left
 ·intro w hSw
  go_simp
  try with_reducible rfl
 try simp only [zP]
 refine tZ 2 14 ?_ ?_ ?_;rotate_left
 ·intro w hSw
  go_simp
  try with_reducible rfl
 try simp only [zP]
 refine tZ 3 15 ?_ ?_ ?_;rotate_left
 ·intro w hSw
  go_simp
  try with_reducible rfl
 try simp only [zP]
 refine tZ 4 16 ?_ ?_ ?_;rotate_left
 ·intro w hSw
  have q0_0 := hSw.1.cell 0
  have q0_1 := hSw.1.cell 1
  have q0_2 := hSw.1.cell 2
  have q0_3 := hSw.1.cell 3
  have q0_4 := hSw.1.cell 4
  have q0_5 := hSw.1.cell 5
  have q0_6 := hSw.1.cell 6
  have q0_7 := hSw.1.cell 7
  have q0_8 := hSw.1.cell 8
  have q0_9 := hSw.1.cell 9
  have q0_10 := hSw.1.cell 10
  simp only [zG] at q0_0 q0_1 q0_2 q0_3 q0_4 q0_5 q0_6 q0_7 q0_8 q0_9 q0_10
  go_simp
  try with_reducible rfl
 try simp only [zP]
 refine tZ 5 17 ?_ ?_ ?_;rotate_left
 ·intro w hSw
  go_simp
  try with_reducible rfl
 try simp only [zP]
 refine tZ 6 18 ?_ ?_ ?_;rotate_left
 ·intro w hSw
  go_simp
  try with_reducible rfl
 try simp only [zP]
 refine tZ 7 19 ?_ ?_ ?_;rotate_left
 ·intro w hSw
  go_simp
  try with_reducible rfl
 try simp only [zP]
 refine tZ 8 20 ?_ ?_ ?_;rotate_left
 ·intro w hSw
  have q0_0 := hSw.1.cell 0
  have q0_1 := hSw.1.cell 1
  have q0_2 := hSw.1.cell 2
  have q0_3 := hSw.1.cell 3
  have q0_4 := hSw.1.cell 4
  have q0_5 := hSw.1.cell 5
  have q0_6 := hSw.1.cell 6
  have q0_7 := hSw.1.cell 7
  have q0_8 := hSw.1.cell 8
  have q0_9 := hSw.1.cell 9
  have q0_10 := hSw.1.cell 10
  simp only [zG] at q0_0 q0_1 q0_2 q0_3 q0_4 q0_5 q0_6 q0_7 q0_8 q0_9 q0_10
  go_simp
  try with_reducible rfl
 try simp only [zP]
 refine tZ 9 21 ?_ ?_ ?_;rotate_left
 ·intro w hSw
  go_simp
  try with_reducible rfl
 try simp only [zP]
 refine tZ 10 22 ?_ ?_ ?_;rotate_left
 ·intro w hSw
  go_simp
  try with_reducible rfl
 try simp only [zP]
 refine tZ 11 23 ?_ ?_ ?_;rotate_left
 ·intro w hSw
  go_simp
  try with_reducible rfl
 try simp only [zP]
 refine tZ 12 24 ?_ ?_ ?_;rotate_left
 ·intro w hSw
  go_simp
  try with_reducible rfl
 try simp only [zP]
 refine tZ 13 25 ?_ ?_ ?_;rotate_left
 ·intro w hSw
  go_simp
  try with_reducible rfl
 try simp only [zP]
 refine tZ 14 26 ?_ ?_ ?_;rotate_left
 ·intro w hSw
  go_simp
  try with_reducible rfl
 try simp only [zP]
 refine wpAnyZ_ready (rs := [15]) (by kernel_rfl) (by simp) ?_
 refine AllReadyZ.cons rfl (fun K hK => ?_) AllReadyZ.nil
 refine step_single rfl _ (.tmp 26) (by rfl) i0 _ Tryz.underlying32 hi0 hz0 (by rw [hz1]; decide) (by rw [hz1]; decide) #[.int .i64 s.steps, .int .i64 kind, .int .i64 who, .int .i64 ea, .int .i64 eb, .int .i64 ec] (by rfl) (fillEv hz1 _ _ _ _ _ _) ?_
 intro bX wX hTX hBX hLX
 refine hK.out _ _ ?_ (fun hHeld => ?_)
 ·exact ⟨hHeld.1.turns hTX (fun h => h), (hHeld.2).trans (hTX.mono (fun _ _ h => h.elim))⟩
 clear hK K
 try simp only [zP]
 refine wpAnyZ_ready (rs := [16]) (by kernel_rfl) (by simp) ?_
 refine AllReadyZ.cons rfl (fun K hK => ?_) AllReadyZ.nil
 refine step_push rfl _ _ _ (by rfl) i0 _ 48 Tryz.underlying32 hi0 hz0 hz1 hz2 rfl (by omega) evC_len evC_one (by rfl) ((HO.out.drew).turns hTX (fun _ _ h => h)) (⟨s.steps, kind, who, ea, eb, ec⟩) (by rfl) hBX (by omega) (by omega) ?_
 intro v2 w2 hO2 hT2 hV2
 obtain ⟨a3, c3, rfl⟩ := owns_slice hO2
 refine hK.out _ _ ?_ (fun hHeld => ?_)
 ·exact ⟨hHeld.1.turns hT2 (fun e => HNP.out _ e rfl), (hHeld.2).trans hT2⟩
 clear hK K
 try simp only [zP]
 refine wpAnyZ_ready (rs := [17]) (by kernel_rfl) (by simp) ?_
 refine AllReadyZ.cons rfl (fun K hK => ?_) AllReadyZ.nil
 go_simp
 refine hK.out _ _ hHeld (fun hHeld => ?_)
 clear hK K
 try simp only [zP]
 refine tZ 18 30 ?_ ?_ ?_;rotate_left
 ·intro w hSw
  go_simp
  try with_reducible rfl
 try simp only [zP]
 refine wpAnyZ_ready (rs := [19]) (by kernel_rfl) (by simp) ?_
 refine AllReadyZ.last rfl (fun K hK => ?_) AllReadyZ.nil
 have qz0 := hHeld.1.cell 10
 have qf := hHeld.1.free 10
 simp only [zG] at qz0
 go_simp
 refine hK.out _ _ ?_
 clear hK K
 try simp only [zP]
 refine wpAnyZ_done (by kernel_rfl) ?_ _
 have HE := zh (HH.out.pushEv HXX.out (((zT w).drew).trans hTX) hO2 hT2 hV2)
 clear hHeld hO2 hT2 hV2 hTX hBX hLX
 go_wp2_with fail
 go_end0
 obtain ⟨o', h1, h2⟩ := HE.out
 simp only [List.length_append, List.length_cons, List.length_nil, Nat.zero_add] at h1 h2
 exact ⟨rfl, o', ⟨_, _, _, _, h1⟩, h2⟩
theorem wwent_c {CX : World → (Nat → Prop) → Prop} {w : World} {b : Wp} {o : Nat → Nat} {ps : List (List Ins)} {s : Wst} {ch who v : Int} {got : Bool} (hx : Ext CX) (h : WW CX w b o ps s) (h1 : 0 ≤ ch) (h2 : -1 ≤ who) (hn : s.nd < 1000000) :
  Calls Tryz.prog 69 #[.pointer (some ⟨b.pb, 0, none⟩), .int .i64 ch, .int .i64 who, .int .i64 v, .bool got] w fun e w' => e = .returned (.tuple #[]) ∧ ∃ o', WW CX w' b o' ps { s with nd := s.nd + 1 } ∧ Stp w w' (Own o) (Own o') := by
 obtain ⟨vp, vc, vl, ve, h⟩ := h
 obtain ⟨ds, hd1, hd2⟩ := h.dls
 have HXX := zh hx
 have HH := zh (h.made hx (zT w).drew)
 have HP := zh h.blk
 have HAD := zh (dladd_c (w := w.drew) ⟨ch, who, v, got, s.steps⟩ (hd2.made (zT w).drew) h1 h2 (by omega))
 have HNB := zh (show ¬ o b.pb = 5 from by rw [h.ob]; omega)
 have HD1 := zh hd1
 clear h hx hd1 hd2
 go_enter Tryz.func69, Tryz.ntmps69
 go_wp2_with fail
 refine wp_region_held_drew (S := fun w' => Blk w' (b.pb) 65 #[vp, .pointer (some ⟨b.pk, 0, none⟩), .pointer (some ⟨b.pt, 0, none⟩), vc, .int .i64 s.made, .pointer (some ⟨b.pm, 0, none⟩), .pointer (some ⟨b.px, 0, none⟩), .pointer (some ⟨b.pd, 0, none⟩), vl, .int .i64 s.steps, ve] ∧ Turns (fun k => o k = 5) w w') (by kernel_rfl) ?_ (fun hHeld => ?_)
 ·exact ⟨HP.out, (Turns.refl _ w).drew⟩
 refine tH 0 10 ?_ ?_ ?_;rotate_left
 ·intro w hSw
  go_simp
  try with_reducible rfl
 try simp only [zP]
 refine tH 1 11 ?_ ?_ ?_;rotate_left
 ·intro w hSw
  go_simp
  try with_reducible rfl
 try simp only [zP]
 refine tH 2 12 ?_ ?_ ?_;rotate_left
 ·intro w hSw
  go_simp
  try with_reducible rfl
 try simp only [zP]
 refine tH 3 13 ?_ ?_ ?_;rotate_left
 ·intro w hSw
  have q0_0 := hSw.1.cell 0
  have q0_1 := hSw.1.cell 1
  have q0_2 := hSw.1.cell 2
  have q0_3 := hSw.1.cell 3
  have q0_4 := hSw.1.cell 4
  have q0_5 := hSw.1.cell 5
  have q0_6 := hSw.1.cell 6
  have q0_7 := hSw.1.cell 7
  have q0_8 := hSw.1.cell 8
  have q0_9 := hSw.1.cell 9
  have q0_10 := hSw.1.cell 10
  simp only [zG] at q0_0 q0_1 q0_2 q0_3 q0_4 q0_5 q0_6 q0_7 q0_8 q0_9 q0_10
  go_simp
  try with_reducible rfl
 try simp only [zP]
 refine tH 4 14 ?_ ?_ ?_;rotate_left
 ·intro w hSw
  go_simp
  try with_reducible rfl
 try simp only [zP]
 refine tH 5 15 ?_ ?_ ?_;rotate_left
 ·intro w hSw
  go_simp
  try with_reducible rfl
 try simp only [zP]
 refine tH 6 16 ?_ ?_ ?_;rotate_left
 ·intro w hSw
  go_simp
  try with_reducible rfl
 try simp only [zP]
 refine tH 7 17 ?_ ?_ ?_;rotate_left
 ·intro w hSw
  go_simp
  try with_reducible rfl
 try simp only [zP]
 refine tH 8 18 ?_ ?_ ?_;rotate_left
 ·intro w hSw
  go_simp
  try with_reducible rfl
 try simp only [zP]
 refine tH 9 19 ?_ ?_ ?_;rotate_left
 ·intro w hSw
  go_simp
  try with_reducible rfl
 try simp only [zP]
 refine tH 10 20 ?_ ?_ ?_;rotate_left
 ·intro w hSw
  go_simp
  try with_reducible rfl
 try simp only [zP]
 refine tH 11 21 ?_ ?_ ?_;rotate_left
 ·intro w hSw
  have q0_0 := hSw.1.cell 0
  have q0_1 := hSw.1.cell 1
  have q0_2 := hSw.1.cell 2
  have q0_3 := hSw.1.cell 3
  have q0_4 := hSw.1.cell 4
  have q0_5 := hSw.1.cell 5
  have q0_6 := hSw.1.cell 6
  have q0_7 := hSw.1.cell 7
  have q0_8 := hSw.1.cell 8
  have q0_9 := hSw.1.cell 9
  have q0_10 := hSw.1.cell 10
  simp only [zG] at q0_0 q0_1 q0_2 q0_3 q0_4 q0_5 q0_6 q0_7 q0_8 q0_9 q0_10
  go_simp
  try with_reducible rfl
 try simp only [zP]
 refine tH 12 22 ?_ ?_ ?_;rotate_left
 ·intro w hSw
  go_simp
  try with_reducible rfl
 try simp only [zP]
 refine zR 13 fun K hK => ?_
 go_simp
 refine HAD.out.mono ?_
 rintro e w2 ⟨rfl, F2, hd2, hs2⟩
 refine hK.out _ _ ?_ (fun hHeld => ?_)
 ·exact ⟨hHeld.1.turns hs2.t HNB.out, hHeld.2.trans hs2.t⟩
 clear hK K
 try simp only [zP]
 refine wpAnyH_done (by kernel_rfl) ?_ _
 have HE := zh (HH.out.stepDls HXX.out hd2 hs2)
 clear hHeld hd2 hs2
 go_wp2_with fail
 go_end0
 obtain ⟨o', h1, _, h2⟩ := HE.out
 rw [List.length_append, HD1.out] at h1
 exact ⟨rfl, o', ⟨_, _, _, _, h1⟩, (Stp.made (zT w).drew).trans h2⟩
theorem wcases_nil {w : World} {x : Ins} {r : Reg} (b0 : Nat) :
  Calls Tryz.prog 114 #[.pointer (some ⟨b0, 0, none⟩), insV x, regV r] w fun e w' => e = .returned (.tuple #[.slice none 0 0, .bool true]) ∧ Made w w' := by
 go_enter Tryz.func114, Tryz.ntmps114
 go_wp2_with fail
 refine wp_loop_rounds 1 ?_
 rw [rounds_succ]
 go_wp2_with fail
 go_ret2
 exact ⟨rfl, ((Turns.refl _ _).alloc _).alloc _⟩
theorem leave_nil (w : World) (t : Int) : Calls Tryz.prog 115 #[.slice none 0 0, .int .i64 t] w fun e w' => e = .returned (.int .i64 0) ∧ w = w' := by
 go_enter Tryz.func115, Tryz.ntmps115
 go_wp2_with fail
 refine wp_loop_rounds 1 ?_
 rw [rounds_succ]
 go_wp2_with fail
 go_ret
 exact ⟨rfl, rfl⟩
theorem wpassed_no {CX : World → (Nat → Prop) → Prop} {w : World} {b : Wp} {o : Nat → Nat} {ps : List (List Ins)} {s : Wst} {a j k : Nat} {pg pc st how tk ks v : Int} {r : Reg} (hx : Ext CX) (h : WW CX w b o ps s) :
  Calls Tryz.prog 113 #[.pointer (some ⟨b.pb, 0, none⟩), .agg (tskA ⟨pg, pc, st, how, r, ⟨11, a, j, k⟩⟩), .agg #[.int .i64 tk, .int .i64 ks, .int .i64 v, .bool false, .bool false]] w fun e w' => e = .returned (.tuple #[]) ∧ Made w w' := by
 have HM := zh ((((zT w).alloc (.cells (tskA ⟨pg, pc, st, how, r, ⟨11, a, j, k⟩⟩) 38)).alloc (.cells #[.int .i64 tk, .int .i64 ks, .int .i64 v, .bool false, .bool false] 207)).alloc (.cells #[.int .i64 11, .int .i64 a, .int .i64 j, .int .i64 k, .slice none 0 0, .bool false] 25))
 have HT := zh (((Blk.new w 38 (tskA ⟨pg, pc, st, how, r, ⟨11, a, j, k⟩⟩)).alloc (.cells #[.int .i64 tk, .int .i64 ks, .int .i64 v, .bool false, .bool false] 207)).alloc (.cells #[.int .i64 11, .int .i64 a, .int .i64 j, .int .i64 k, .slice none 0 0, .bool false] 25))
 have HK := zh ((Blk.new (w.alloc (.cells (tskA ⟨pg, pc, st, how, r, ⟨11, a, j, k⟩⟩) 38)) 207 #[.int .i64 tk, .int .i64 ks, .int .i64 v, .bool false, .bool false]).alloc (.cells #[.int .i64 11, .int .i64 a, .int .i64 j, .int .i64 k, .slice none 0 0, .bool false] 25))
 have HI := zh (Blk.new ((w.alloc (.cells (tskA ⟨pg, pc, st, how, r, ⟨11, a, j, k⟩⟩) 38)).alloc (.cells #[.int .i64 tk, .int .i64 ks, .int .i64 v, .bool false, .bool false] 207)) 25 #[.int .i64 11, .int .i64 a, .int .i64 j, .int .i64 k, .slice none 0 0, .bool false])
 have hs1 : (w.alloc (.cells (tskA ⟨pg, pc, st, how, r, ⟨11, a, j, k⟩⟩) 38)).heap.size = w.heap.size + 1 := by simp
 have hs2 : ((w.alloc (.cells (tskA ⟨pg, pc, st, how, r, ⟨11, a, j, k⟩⟩) 38)).alloc (.cells #[.int .i64 tk, .int .i64 ks, .int .i64 v, .bool false, .bool false] 207)).heap.size = w.heap.size + 2 := by simp
 rw [hs1] at HK
 rw [hs2] at HI
 clear hs1 hs2
 have HH := zh h
 have HXX := zh hx
 have HNO := zh (show ∀ k, w.heap.size ≤ k → ¬ Own o k from fun k hk h0 => by obtain ⟨_, _, _, _, h1⟩ := h; have := h1.lt k h0; omega)
 clear h hx
 go_enter Tryz.func113, Tryz.ntmps113
 go_wp2_with fail
 go_end0
 exact ⟨rfl, HM.out⟩
theorem wpassed_yes {CX : World → (Nat → Prop) → Prop} {w : World} {b : Wp} {o : Nat → Nat} {ps : List (List Ins)} {s : Wst} {a j k : Nat} {pg pc st how tk ks v : Int} {r : Reg} (hx : Ext CX) (h : WW CX w b o ps s) (ha : a < 8) (hg : 0 ≤ r.get a) (ht : -1 ≤ tk) (hn : s.nd < 1000000) :
  Calls Tryz.prog 113 #[.pointer (some ⟨b.pb, 0, none⟩), .agg (tskA ⟨pg, pc, st, how, r, ⟨11, a, j, k⟩⟩), .agg #[.int .i64 tk, .int .i64 ks, .int .i64 v, .bool true, .bool false]] w fun e w' => e = .returned (.tuple #[]) ∧ ∃ o', WW CX w' b o' ps { s with nd := s.nd + 1 } ∧ Stp w w' (Own o) (Own o') := by
 have HM := zh ((((zT w).alloc (.cells (tskA ⟨pg, pc, st, how, r, ⟨11, a, j, k⟩⟩) 38)).alloc (.cells #[.int .i64 tk, .int .i64 ks, .int .i64 v, .bool true, .bool false] 207)).alloc (.cells #[.int .i64 11, .int .i64 a, .int .i64 j, .int .i64 k, .slice none 0 0, .bool false] 25))
 have HT := zh (((Blk.new w 38 (tskA ⟨pg, pc, st, how, r, ⟨11, a, j, k⟩⟩)).alloc (.cells #[.int .i64 tk, .int .i64 ks, .int .i64 v, .bool true, .bool false] 207)).alloc (.cells #[.int .i64 11, .int .i64 a, .int .i64 j, .int .i64 k, .slice none 0 0, .bool false] 25))
 have HK := zh ((Blk.new (w.alloc (.cells (tskA ⟨pg, pc, st, how, r, ⟨11, a, j, k⟩⟩) 38)) 207 #[.int .i64 tk, .int .i64 ks, .int .i64 v, .bool true, .bool false]).alloc (.cells #[.int .i64 11, .int .i64 a, .int .i64 j, .int .i64 k, .slice none 0 0, .bool false] 25))
 have HI := zh (Blk.new ((w.alloc (.cells (tskA ⟨pg, pc, st, how, r, ⟨11, a, j, k⟩⟩) 38)).alloc (.cells #[.int .i64 tk, .int .i64 ks, .int .i64 v, .bool true, .bool false] 207)) 25 #[.int .i64 11, .int .i64 a, .int .i64 j, .int .i64 k, .slice none 0 0, .bool false])
 have hs1 : (w.alloc (.cells (tskA ⟨pg, pc, st, how, r, ⟨11, a, j, k⟩⟩) 38)).heap.size = w.heap.size + 1 := by simp
 have hs2 : ((w.alloc (.cells (tskA ⟨pg, pc, st, how, r, ⟨11, a, j, k⟩⟩) 38)).alloc (.cells #[.int .i64 tk, .int .i64 ks, .int .i64 v, .bool true, .bool false] 207)).heap.size = w.heap.size + 2 := by simp
 rw [hs1] at HK
 rw [hs2] at HI
 clear hs1 hs2
 have HH := zh h
 have HXX := zh hx
 have HNO := zh (show ∀ k, w.heap.size ≤ k → ¬ Own o k from fun k hk h0 => by obtain ⟨_, _, _, _, h1⟩ := h; have := h1.lt k h0; omega)
 clear h hx
 go_enter Tryz.func113, Tryz.ntmps113
 go_upto_region 6 with fail
 generalize ((w.alloc (.cells (tskA ⟨pg, pc, st, how, r, ⟨11, a, j, k⟩⟩) 38)).alloc (.cells #[.int .i64 tk, .int .i64 ks, .int .i64 v, .bool true, .bool false] 207)).alloc (.cells #[.int .i64 11, .int .i64 a, .int .i64 j, .int .i64 k, .slice none 0 0, .bool false] 25) = W at *
 have jb1 : (0 : Int) ≤ (a : Int) := by omega
 have jb2 : (a : Int) < 8 := by omega
 have HWT := zh (wwent_c (w := W.drew) (ch := r.get a) (who := tk) (v := v) (got := true) HXX.out ((HH.out.made HXX.out HM.out).made HXX.out (zT W).drew) hg ht hn)
 refine wp_region_held_drew (S := fun w' => Blk w' (w.heap.size) 38 (tskA ⟨pg, pc, st, how, r, ⟨11, a, j, k⟩⟩) ∧ Blk w' (w.heap.size + 1) 207 #[.int .i64 tk, .int .i64 ks, .int .i64 v, .bool true, .bool false] ∧ Blk w' (w.heap.size + 2) 25 #[.int .i64 11, .int .i64 a, .int .i64 j, .int .i64 k, .slice none 0 0, .bool false] ∧ Turns (Own o) W w') (by kernel_rfl) ?_ (fun hHeld => ?_)
 ·exact ⟨HT.out, HK.out, HI.out, (Turns.refl _ W).drew⟩
 refine tH 0 38 ?_ ?_ ?_;rotate_left
 ·intro w hSw
  go_simp
  try with_reducible rfl
 try simp only [zP]
 refine tH 1 39 ?_ ?_ ?_;rotate_left
 ·intro w hSw
  go_simp
  try with_reducible rfl
 try simp only [zP]
 refine tH 2 40 ?_ ?_ ?_;rotate_left
 ·intro w hSw
  have q1_0 := hSw.2.1.cell 0
  have q1_1 := hSw.2.1.cell 1
  have q1_2 := hSw.2.1.cell 2
  have q1_3 := hSw.2.1.cell 3
  have q1_4 := hSw.2.1.cell 4
  have q2_0 := hSw.2.2.1.cell 0
  have q2_1 := hSw.2.2.1.cell 1
  have q2_2 := hSw.2.2.1.cell 2
  have q2_3 := hSw.2.2.1.cell 3
  simp only [zG] at q1_0 q1_1 q1_2 q1_3 q1_4 q2_0 q2_1 q2_2 q2_3
  go_simp
  try with_reducible rfl
 try simp only [zP]
 refine tH 3 41 ?_ ?_ ?_;rotate_left
 ·intro w hSw
  go_simp
  try with_reducible rfl
 try simp only [zP]
 refine tH 4 42 ?_ ?_ ?_;rotate_left
 ·intro w hSw
  go_simp
  try with_reducible rfl
 try simp only [zP]
 refine tH 5 43 ?_ ?_ ?_;rotate_left
 ·intro w hSw
  have qq := hSw.1.cell (4 + a)
  rw [tsk_get _ ha] at qq
  go_simp
  try with_reducible rfl
 try simp only [zP]
 refine tH 6 44 ?_ ?_ ?_;rotate_left
 ·intro w hSw
  go_simp
  try with_reducible rfl
 try simp only [zP]
 refine tH 7 45 ?_ ?_ ?_;rotate_left
 ·intro w hSw
  have q1_0 := hSw.2.1.cell 0
  have q1_1 := hSw.2.1.cell 1
  have q1_2 := hSw.2.1.cell 2
  have q1_3 := hSw.2.1.cell 3
  have q1_4 := hSw.2.1.cell 4
  have q2_0 := hSw.2.2.1.cell 0
  have q2_1 := hSw.2.2.1.cell 1
  have q2_2 := hSw.2.2.1.cell 2
  have q2_3 := hSw.2.2.1.cell 3
  simp only [zG] at q1_0 q1_1 q1_2 q1_3 q1_4 q2_0 q2_1 q2_2 q2_3
  go_simp
  try with_reducible rfl
 try simp only [zP]
 refine tH 8 46 ?_ ?_ ?_;rotate_left
 ·intro w hSw
  go_simp
  try with_reducible rfl
 try simp only [zP]
 refine tH 9 47 ?_ ?_ ?_;rotate_left
 ·intro w hSw
  have q1_0 := hSw.2.1.cell 0
  have q1_1 := hSw.2.1.cell 1
  have q1_2 := hSw.2.1.cell 2
  have q1_3 := hSw.2.1.cell 3
  have q1_4 := hSw.2.1.cell 4
  have q2_0 := hSw.2.2.1.cell 0
  have q2_1 := hSw.2.2.1.cell 1
  have q2_2 := hSw.2.2.1.cell 2
  have q2_3 := hSw.2.2.1.cell 3
  simp only [zG] at q1_0 q1_1 q1_2 q1_3 q1_4 q2_0 q2_1 q2_2 q2_3
  go_simp
  try with_reducible rfl
 try simp only [zP]
 refine zR 10 fun K hK => ?_
 go_simp
 refine HWT.out.mono ?_
 rintro e w2 ⟨rfl, o2, h2, hs2⟩
 refine hK.out _ _ ?_ (fun hHeld => ?_)
 ·exact ⟨hHeld.1.turns hs2.t (HNO.out _ (by omega)), hHeld.2.1.turns hs2.t (HNO.out _ (by omega)), hHeld.2.2.1.turns hs2.t (HNO.out _ (by omega)), hHeld.2.2.2.trans hs2.t⟩
 clear hK K
 try simp only [zP]
 refine wpAnyH_done (by kernel_rfl) ?_ _
 clear hHeld
 go_wp2_with fail
 go_end0
 exact ⟨rfl, o2, h2, ((Stp.made HM.out).trans (Stp.made (zT W).drew)).trans hs2⟩
def wokeT (t : Tsk) (x : Wk) : Tsk := ⟨t.prog, t.pc + 1, 0, t.how, (t.regs.set t.ins.b.toNat x.val).set t.ins.c.toNat (bitZ x.ok), ⟨0, 0, 0, 0⟩⟩
def wakeS (s : Wst) (x : Wk) : Wst := match s.ts[x.task.toNat]? with
 | some t => { s with ts := s.ts.set x.task.toNat (wokeT t x), rd := s.rd ++ [x.task], nd := if x.ok then s.nd + 1 else s.nd, ev := s.ev ++ [⟨s.steps, 3, x.task, x.kase, x.val, bitZ x.ok⟩] }
 | none => s
def WakeOK (s : Wst) (x : Wk) : Prop := ∃ (i a j k : Nat) (pg pc how : Int) (r : Reg), x.task = i ∧ x.panic = false ∧ s.ts[i]? = some ⟨pg, pc, 1, how, r, ⟨11, a, j, k⟩⟩ ∧ a < 8 ∧ j < 8 ∧ k < 8 ∧ 0 ≤ r.get a ∧ 0 ≤ pc ∧ pc ≤ 1000 ∧ (i : Int) ∉ s.rd ∧ s.rd.length ≤ 1000 ∧ s.ts.length ≤ 64 ∧ s.nd < 1000000 ∧ s.ev.length < 1000
def WakesOK : Wst → List Wk → Prop
 | _, [] => True
 | s, x :: l => WakeOK s x ∧ WakesOK (wakeS s x) l
def wakesS (s : Wst) (l : List Wk) : Wst := l.foldl wakeS s
theorem wakeS_no {s : Wst} {i a j k : Nat} {pg pc how ks v : Int} {r : Reg} (h : s.ts[i]? = some ⟨pg, pc, 1, how, r, ⟨11, a, j, k⟩⟩) : wakeS s ⟨(i : Int), ks, v, false, false⟩ = { { s with ts := s.ts.set i ⟨pg, pc + 1, 0, how, ((r.set j v).set k 0), ⟨0, 0, 0, 0⟩⟩, rd := s.rd ++ [(i : Int)] } with ev := s.ev ++ [⟨s.steps, 3, (i : Int), ks, v, 0⟩] } := by
 unfold wakeS
 simp [h, wokeT, bitZ]
theorem wakeS_yes {s : Wst} {i a j k : Nat} {pg pc how ks v : Int} {r : Reg} (h : s.ts[i]? = some ⟨pg, pc, 1, how, r, ⟨11, a, j, k⟩⟩) : wakeS s ⟨(i : Int), ks, v, true, false⟩ = { { { s with nd := s.nd + 1 } with ts := s.ts.set i ⟨pg, pc + 1, 0, how, ((r.set j v).set k 1), ⟨0, 0, 0, 0⟩⟩, rd := s.rd ++ [(i : Int)] } with ev := s.ev ++ [⟨s.steps, 3, (i : Int), ks, v, 1⟩] } := by
 unfold wakeS
 simp [h, wokeT, bitZ]
def WkRel (CX : World → (Nat → Prop) → Prop) (b : Wp) (ps : List (List Ins)) (w : World) (o : Nat → Nat) (s : Wst) (l : List Wk) (k : Nat) (wr : World) : Prop := ∃ o' s', WW CX wr b o' ps s' ∧ Stp w wr (Own o) (Own o') ∧ wakesS s' (l.drop k) = wakesS s l ∧ WakesOK s' (l.drop k)
theorem wwake_c {CX : World → (Nat → Prop) → Prop} {w : World} {b : Wp} {o : Nat → Nat} {ps : List (List Ins)} {s : Wst} {a : Option Addr} {cap : Nat} {l : List Wk} (hx : Ext CX) (h : WW CX w b o ps s) (hrow : RowIn wkC 5 w a l.length l) (hun : ∀ b' off, a = some ⟨b', off, none⟩ → ¬ Own o b') (hn : l.length ≤ 1000) (hok : WakesOK s l) :
  Calls Tryz.prog 72 #[.pointer (some ⟨b.pb, 0, none⟩), .slice a l.length cap] w fun e w' => e = .returned (.tuple #[]) ∧ ∃ o', WW CX w' b o' ps (wakesS s l) ∧ Stp w w' (Own o) (Own o') := by
 have HXX := zh hx
 have HROW := zh (And.intro hrow hun)
 have H0 := zh (show WkRel CX b ps w o s l 0 w from ⟨o, s, h, Stp.made (Turns.refl _ w), rfl, hok⟩)
 clear h hrow hun hok hx
 go_enter Tryz.func72, Tryz.ntmps72
 go_wp2_with fail
 go_loopw [12] (fun v12 wr => ∃ k : Nat, k ≤ l.length ∧ v12 = .int .i64 k ∧ WkRel CX b ps w o s l k wr) (fun v12 _ => l.length - (intOf v12).toNat)
 case atStart => exact ⟨0, Nat.zero_le _, rfl, H0.out⟩
 case round =>
  obtain ⟨k0, hk, rfl, hrl⟩ := hrel
  by_cases hlt : k0 < l.length
  ·obtain ⟨x, hxk⟩ := get_of_lt (xs := l) (k := k0) hlt
   have hdr : l.drop k0 = x :: l.drop (k0 + 1) := by
    obtain ⟨h1, rfl⟩ := List.getElem?_eq_some_iff.1 hxk
    exact List.drop_eq_getElem_cons h1
   obtain ⟨o1, s1, hw1, hs1, hfold, hoks⟩ := hrl
   rw [hdr] at hfold hoks
   obtain ⟨hok1, hok2⟩ := hoks
   obtain ⟨i, a2, j, k, pg, pc, how, r, hxt, hxp, hts, ha, hj, hkk, hg, hp0, hp1, hni, hrl, hl64, hnd, hev⟩ := hok1
   obtain ⟨xt, ks, v, ok, xp⟩ := x
   simp only at hxt hxp
   subst hxt hxp
   have hrow := HROW.out.1.turns hs1.t HROW.out.2
   rcases hrow.2 with h0 | ⟨rb, off, rfl, hrb, hl⟩
   ·omega
   have c0 : wr.cell? ⟨rb, off + k0 * 5, none⟩ = some (.int .i64 i) := hl k0 _ hxk 0 _ rfl
   have c1 : wr.cell? ⟨rb, off + k0 * 5 + 1, none⟩ = some (.int .i64 ks) := hl k0 _ hxk 1 _ rfl
   have c2 : wr.cell? ⟨rb, off + k0 * 5 + 2, none⟩ = some (.int .i64 v) := hl k0 _ hxk 2 _ rfl
   have c3 : wr.cell? ⟨rb, off + k0 * 5 + 3, none⟩ = some (.bool ok) := hl k0 _ hxk 3 _ rfl
   have c4 : wr.cell? ⟨rb, off + k0 * 5 + 4, none⟩ = some (.bool false) := hl k0 _ hxk 4 _ rfl
   have HTG := zh (fun W2 (h2 : WW CX W2 b o1 ps s1) => (show Calls Tryz.prog 28 #[.pointer (some ⟨b.pt, 0, none⟩), .int .i64 i] W2 (fun e w' => e = .returned (.tuple #[.agg (tskA ⟨pg, pc, 1, how, r, ⟨11, a2, j, k⟩⟩), .bool true]) ∧ Made W2 w') from by obtain ⟨vp, vc, vl, ve, h3⟩ := h2; exact tabget_c h3.tab hts hl64))
   have HW1 := zh hw1
   have HS1 := zh hs1
   have HK1 := zh (And.intro hfold (And.intro hok2 (And.intro hts (And.intro hni (And.intro hxk hdr)))))
   clear hw1 hs1 hfold hok2 hts hni hxk hdr hrow hl
   cases ok with
   | false =>
    go_upto_region 3 with fail
    have HWR := zh ((zT wr).alloc (.cells #[.int .i64 i, .int .i64 ks, .int .i64 v, .bool false, .bool false] 207))
    have HB5 := zh (Blk.new wr 207 #[.int .i64 i, .int .i64 ks, .int .i64 v, .bool false, .bool false])
    have HWLT := zh (show wr.heap.size < (wr.alloc (.cells #[.int .i64 i, .int .i64 ks, .int .i64 v, .bool false, .bool false] 207)).heap.size from by simp)
    have HWW := zh (HW1.out.made HXX.out HWR.out)
    clear c0 c1 c2 c3 c4
    generalize wr.alloc (.cells #[.int .i64 i, .int .i64 ks, .int .i64 v, .bool false, .bool false] 207) = W at *
    go_cut [6, 7] (fun v6 v7 wx => ∃ g6 : Nat, v6 = .pointer (some ⟨g6, 0, none⟩) ∧ v7 = .bool true ∧ Made W wx ∧ Blk wx g6 38 (tskA ⟨pg, pc, 1, how, r, ⟨11, a2, j, k⟩⟩) ∧ W.heap.size ≤ g6)
    case first =>
     obtain ⟨vp, vc, vl, ve, hww⟩ := HWW.out
     have HP := zh hww.blk
     have HPL := zh (show b.pb < W.heap.size from hww.blk.lt)
     clear hww
     refine wp_region_held_drew (S := fun w' => Blk w' b.pb 65 #[vp, .pointer (some ⟨b.pk, 0, none⟩), .pointer (some ⟨b.pt, 0, none⟩), vc, .int .i64 s1.made, .pointer (some ⟨b.pm, 0, none⟩), .pointer (some ⟨b.px, 0, none⟩), .pointer (some ⟨b.pd, 0, none⟩), vl, .int .i64 s1.steps, ve] ∧ Blk w' wr.heap.size 207 #[.int .i64 i, .int .i64 ks, .int .i64 v, .bool false, .bool false] ∧ Made W w') (by kernel_rfl) ?_ (fun hHeld => ?_)
     ·exact ⟨HP.out, HB5.out, (zT W).drew⟩
     refine tH 0 17 ?_ ?_ ?_;rotate_left
     ·intro w hSw
      go_simp
      try with_reducible rfl
     try simp only [zP]
     refine tH 1 18 ?_ ?_ ?_;rotate_left
     ·intro w hSw
      go_simp
      try with_reducible rfl
     try simp only [zP]
     refine tH 2 19 ?_ ?_ ?_;rotate_left
     ·intro w hSw
      go_simp
      try with_reducible rfl
     try simp only [zP]
     refine tH 3 20 ?_ ?_ ?_;rotate_left
     ·intro w hSw
      have q0 := hSw.1.cell 2
      simp only [zG] at q0
      go_simp
      try with_reducible rfl
     try simp only [zP]
     refine tH 4 21 ?_ ?_ ?_;rotate_left
     ·intro w hSw
      go_simp
      try with_reducible rfl
     try simp only [zP]
     refine tH 5 22 ?_ ?_ ?_;rotate_left
     ·intro w hSw
      have q0 := hSw.2.1.cell 0
      simp only [zG] at q0
      go_simp
      try with_reducible rfl
     try simp only [zP]
     refine wpAnyH_ready (rs := [6, 10]) (by kernel_rfl) (by simp) ?_
     refine AllReadyH.cons rfl (fun K hK => ?_) ?_
     ·as_aux_lemma =>
       go_simp
       refine (HTG.out _ (HWW.out.made HXX.out hHeld.2.2)).mono ?_
       rintro e wG ⟨rfl, hmG⟩
       refine hK.out _ _ ?_ (fun hHeld => ?_)
       ·exact ⟨hHeld.1.turns hmG (fun h => h), hHeld.2.1.turns hmG (fun h => h), hHeld.2.2.trans hmG⟩
       clear hK K
       try simp only [zP]
       refine tH 7 16 ?_ ?_ ?_;rotate_left
       ·intro w hSw
        go_simp
        try with_reducible rfl
       try simp only [zP]
       refine tH 8 24 ?_ ?_ ?_;rotate_left
       ·intro w hSw
        go_simp
        try with_reducible rfl
       try simp only [zP]
       refine tH 9 25 ?_ ?_ ?_;rotate_left
       ·intro w hSw
        go_simp
        try with_reducible rfl
       try simp only [zP]
       refine zR 10 fun K hK => ?_
       go_simp
       refine hK.out _ _ ?_ (fun hHeld => ?_)
       ·exact ⟨hHeld.1.alloc _, hHeld.2.1.alloc _, hHeld.2.2.alloc _⟩
       clear hK K
       try simp only [zP]
       have HZ := Blk.new wG 38 tskZ
       have HG6 : W.heap.size ≤ wG.heap.size := hmG.size
       refine zR 11 fun K hK => ?_
       refine step_store_mid rfl rfl _ _ _ (by rfl) (by rfl) (tskC ⟨pg, pc, 1, how, r, ⟨11, a2, j, k⟩⟩) [] [.int .i64 0, .int .i64 0, .int .i64 0, .int .i64 0, .int .i64 0, .int .i64 0, .int .i64 0, .int .i64 0, .int .i64 0, .int .i64 0, .int .i64 0, .int .i64 0, .int .i64 0, .int .i64 0, .int .i64 0, .int .i64 0, .slice none 0 0, .bool false] [] (by rfl) (t := 38) (show Blk _ _ _ _ from by simpa using HZ) (by rfl) (by rfl) (tskC_one _) Tryz.sizeTsk ?_
       intro wS hbS htS
       refine hK.out _ _ ?_ (fun hHeld => ?_)
       ·exact ⟨hHeld.1.turns htS (fun e => by have := HPL.out; omega), hHeld.2.1.turns htS (fun e => by have := HWLT.out; omega), hHeld.2.2.then htS (fun k hk e => by omega)⟩
       clear hK K
       try simp only [zP]
       refine tH 12 7 ?_ ?_ ?_;rotate_left
       ·intro w hSw
        go_simp
        try with_reducible rfl
       try simp only [zP]
       refine wpAnyH_done (by kernel_rfl) ?_ _
       have HS := zh hHeld.2.2
       have HB6 : Hid (Blk wS _ 38 (tskA ⟨pg, pc, 1, how, r, ⟨11, a2, j, k⟩⟩)) := zh (by simpa [tskC] using hbS)
       have HG7 := zh HG6
       clear hHeld hbS htS HZ HG6
       go_wp2_with fail
       go_meet
       exact ⟨_, rfl, rfl, HS.out, HB6.out, HG7.out⟩
     refine AllReadyH.cons rfl (fun K hK => ?_) ?_
     ·as_aux_lemma =>
       go_simp
       refine hK.out _ _ ?_ (fun hHeld => ?_)
       ·exact ⟨hHeld.1.alloc _, hHeld.2.1.alloc _, hHeld.2.2.alloc _⟩
       clear hK K
       try simp only [zP]
       have HZ : Blk (W.drew.alloc (.cells tskZ 38)) W.drew.heap.size 38 tskZ := Blk.new W.drew 38 tskZ
       have HG6 : W.heap.size ≤ W.drew.heap.size := Nat.le_refl _
       refine zR 6 fun K hK => ?_
       go_simp
       refine (HTG.out _ (HWW.out.made HXX.out hHeld.2.2)).mono ?_
       rintro e wG ⟨rfl, hmG⟩
       refine hK.out _ _ ?_ (fun hHeld => ?_)
       ·exact ⟨hHeld.1.turns hmG (fun h => h), hHeld.2.1.turns hmG (fun h => h), hHeld.2.2.trans hmG⟩
       clear hK K
       try simp only [zP]
       replace HZ := HZ.turns hmG (fun h => h)
       refine tH 7 16 ?_ ?_ ?_;rotate_left
       ·intro w hSw
        go_simp
        try with_reducible rfl
       try simp only [zP]
       refine tH 8 24 ?_ ?_ ?_;rotate_left
       ·intro w hSw
        go_simp
        try with_reducible rfl
       try simp only [zP]
       refine tH 9 25 ?_ ?_ ?_;rotate_left
       ·intro w hSw
        go_simp
        try with_reducible rfl
       try simp only [zP]
       refine zR 11 fun K hK => ?_
       refine step_store_mid rfl rfl _ _ _ (by rfl) (by rfl) (tskC ⟨pg, pc, 1, how, r, ⟨11, a2, j, k⟩⟩) [] [.int .i64 0, .int .i64 0, .int .i64 0, .int .i64 0, .int .i64 0, .int .i64 0, .int .i64 0, .int .i64 0, .int .i64 0, .int .i64 0, .int .i64 0, .int .i64 0, .int .i64 0, .int .i64 0, .int .i64 0, .int .i64 0, .slice none 0 0, .bool false] [] (by rfl) (t := 38) (show Blk _ _ _ _ from by simpa using HZ) (by rfl) (by rfl) (tskC_one _) Tryz.sizeTsk ?_
       intro wS hbS htS
       refine hK.out _ _ ?_ (fun hHeld => ?_)
       ·exact ⟨hHeld.1.turns htS (fun e => by have := HPL.out; omega), hHeld.2.1.turns htS (fun e => by have := HWLT.out; omega), hHeld.2.2.then htS (fun k hk e => by omega)⟩
       clear hK K
       try simp only [zP]
       refine tH 12 7 ?_ ?_ ?_;rotate_left
       ·intro w hSw
        go_simp
        try with_reducible rfl
       try simp only [zP]
       refine wpAnyH_done (by kernel_rfl) ?_ _
       have HS := zh hHeld.2.2
       have HB6 : Hid (Blk wS _ 38 (tskA ⟨pg, pc, 1, how, r, ⟨11, a2, j, k⟩⟩)) := zh (by simpa [tskC] using hbS)
       have HG7 := zh HG6
       clear hHeld hbS htS HZ HG6
       go_wp2_with fail
       go_meet
       exact ⟨_, rfl, rfl, HS.out, HB6.out, HG7.out⟩
     exact AllReadyH.nil
    case rest =>
     obtain ⟨g6, rfl, rfl, hmC, hb6, hg6⟩ := hcut
     have HNO := zh (show ∀ q, wr.heap.size ≤ q → ¬ Own o1 q from fun q hq h0 => by obtain ⟨_, _, _, _, h1⟩ := HW1.out; have := h1.lt q h0; omega)
     have HBC := zh (HB5.out.turns hmC (fun h => h))
     have HB6 := zh hb6
     have HC6 := zh (blk_cells (cs := tskC ⟨pg, pc, 1, how, r, ⟨11, a2, j, k⟩⟩) hb6)
     have HWC := zh (HWW.out.made HXX.out hmC)
     have HMC := zh (HWR.out.trans hmC)
     have HGN := zh (show wr.heap.size ≤ g6 from by have := HWLT.out; omega)
     have y2 := hb6.cell 2
     simp only [zG] at y2
     have kk0 := HBC.out.cell 0
     have kk1 := HBC.out.cell 1
     have kk2 := HBC.out.cell 2
     have kk3 := HBC.out.cell 3
     have kk4 := HBC.out.cell 4
     simp only [zG] at kk0 kk1 kk2 kk3 kk4
     clear hmC hb6 hg6
     go_wp2_with (first
      | (refine wpList_load_at (o := ⟨some 30, .load 38 (.tmp 6), _, _, _, _⟩) rfl _ _ rfl _ 0 rfl (tskC ⟨pg, pc, 1, how, r, ⟨11, a2, j, k⟩⟩) _ HC6.out Tryz.underlying38 rfl Tryz.sizeTsk ?_)
      | fail)
     refine (wpassed_no HXX.out HWC.out).mono ?_
     rintro e w2 ⟨rfl, hm2⟩
     have h2 := HWC.out.made HXX.out hm2
     have hs2 : Stp wc w2 (Own o1) (Own o1) := Stp.made hm2
     obtain ⟨o2, ho2⟩ : ∃ o2, o2 = o1 := ⟨_, rfl⟩
     rw [← ho2] at h2
     have hs2 : Stp wc w2 (Own o1) (Own o2) := by rw [ho2]; exact hs2
     have hbk2 := HBC.out.turns hs2.t (HNO.out _ (Nat.le_refl _))
     have hb62 := HB6.out.turns hs2.t (HNO.out _ HGN.out)
     have m0 := hbk2.cell 0
     have m1 := hbk2.cell 1
     have m2 := hbk2.cell 2
     have m3 := hbk2.cell 3
     have m4 := hbk2.cell 4
     simp only [zG] at m0 m1 m2 m3 m4
     have t4 := hb62.cell 4
     have t5 := hb62.cell 5
     have t6 := hb62.cell 6
     have t7 := hb62.cell 7
     have t8 := hb62.cell 8
     have t9 := hb62.cell 9
     have t10 := hb62.cell 10
     have t11 := hb62.cell 11
     have t12 := hb62.cell 12
     have t13 := hb62.cell 13
     have t14 := hb62.cell 14
     have t15 := hb62.cell 15
     have t16 := hb62.cell 16
     have t17 := hb62.cell 17
     simp only [zG] at t4 t5 t6 t7 t8 t9 t10 t11 t12 t13 t14 t15 t16 t17
     have HN2 := zh (show ¬ Own o2 wr.heap.size from fun h0 => by
      rcases hs2.f _ h0 with h4 | h4
      ·exact HNO.out _ (Nat.le_refl _) h4
      ·have := HBC.out.lt; omega)
     have HBK2 := zh hbk2
     have HH2 := zh (And.intro h2 (((Stp.made (F := Own o1) HMC.out)).trans hs2))
     clear hbk2 hb62 h2 hs2 y2
     go_wp2_with fail
     refine (wcases_nil (x := ⟨11, a2, j, k⟩) (r := r) _).mono ?_
     rintro e w3 ⟨rfl, hm3⟩
     have hbk3 := HBK2.out.turns hm3 (fun h => h)
     have HBK3 := zh hbk3
     have n0 := hbk3.cell 0
     simp only [zG] at n0
     have HH3 := zh (And.intro (HH2.out.1.made HXX.out hm3) (HH2.out.2.then_made hm3))
     clear hbk3 hm3 m0 m1 m2 m3 m4 t4 t5 t6 t7 t8 t9 t10 t11 t12 t13 t14 t15 t16 t17
     go_wp2_with fail
     refine (leave_nil _ _).mono ?_
     rintro e w4 ⟨rfl, rfl⟩
     go_upto_region 9 with fail
     clear n0
     obtain ⟨⟨vp3, vc3, vl3, ve3, h3⟩, hs3⟩ := HH3.out
     have HA3 := zh h3
     have HP3 := zh h3.blk
     have HNB := zh (show ¬ o2 b.pb = 3 from by rw [h3.ob]; omega)
     have HNK := zh (show ¬ o2 wr.heap.size = 3 from fun e => HN2.out (by show o2 wr.heap.size ≠ 0; omega))
     have HW3 := zh (show wr.heap.size < w3.heap.size from HBK3.out.lt)
     have HTW := zh (tabwake_no (w := w3.drew) (ks := ks) (v := v) (h3.tab.made (zT w3).drew) HK1.out.2.2.1 hl64 hj hkk ⟨hp0, hp1⟩ HK1.out.2.2.2.1 hrl)
     clear h3 hs3
     refine wp_region_held_drew (S := fun w' => Blk w' (b.pb) 65 #[vp3, .pointer (some ⟨b.pk, 0, none⟩), .pointer (some ⟨b.pt, 0, none⟩), vc3, .int .i64 s1.made, .pointer (some ⟨b.pm, 0, none⟩), .pointer (some ⟨b.px, 0, none⟩), .pointer (some ⟨b.pd, 0, none⟩), vl3, .int .i64 s1.steps, ve3] ∧ Blk w' (wr.heap.size) 207 #[.int .i64 i, .int .i64 ks, .int .i64 v, .bool false, .bool false] ∧ Turns (fun q => o2 q = 3) w3 w') (by kernel_rfl) ?_ (fun hHeld => ?_)
     ·exact ⟨HP3.out, HBK3.out, (Turns.refl _ w3).drew⟩
     refine tH 0 47 ?_ ?_ ?_;rotate_left
     ·intro w hSw
      go_simp
      try with_reducible rfl
     try simp only [zP]
     refine tH 1 48 ?_ ?_ ?_;rotate_left
     ·intro w hSw
      go_simp
      try with_reducible rfl
     try simp only [zP]
     refine tH 2 49 ?_ ?_ ?_;rotate_left
     ·intro w hSw
      go_simp
      try with_reducible rfl
     try simp only [zP]
     refine tH 3 50 ?_ ?_ ?_;rotate_left
     ·intro w hSw
      have q0_0 := hSw.1.cell 0
      have q0_1 := hSw.1.cell 1
      have q0_2 := hSw.1.cell 2
      have q0_3 := hSw.1.cell 3
      have q0_4 := hSw.1.cell 4
      have q0_5 := hSw.1.cell 5
      have q0_6 := hSw.1.cell 6
      have q0_7 := hSw.1.cell 7
      have q0_8 := hSw.1.cell 8
      have q0_9 := hSw.1.cell 9
      have q0_10 := hSw.1.cell 10
      have q1_0 := hSw.2.1.cell 0
      have q1_1 := hSw.2.1.cell 1
      have q1_2 := hSw.2.1.cell 2
      have q1_3 := hSw.2.1.cell 3
      have q1_4 := hSw.2.1.cell 4
      simp only [zG] at q0_0 q0_1 q0_2 q0_3 q0_4 q0_5 q0_6 q0_7 q0_8 q0_9 q0_10 q1_0 q1_1 q1_2 q1_3 q1_4
      go_simp
      try with_reducible rfl
     try simp only [zP]
     refine tH 4 51 ?_ ?_ ?_;rotate_left
     ·intro w hSw
      have q0_0 := hSw.1.cell 0
      have q0_1 := hSw.1.cell 1
      have q0_2 := hSw.1.cell 2
      have q0_3 := hSw.1.cell 3
      have q0_4 := hSw.1.cell 4
      have q0_5 := hSw.1.cell 5
      have q0_6 := hSw.1.cell 6
      have q0_7 := hSw.1.cell 7
      have q0_8 := hSw.1.cell 8
      have q0_9 := hSw.1.cell 9
      have q0_10 := hSw.1.cell 10
      have q1_0 := hSw.2.1.cell 0
      have q1_1 := hSw.2.1.cell 1
      have q1_2 := hSw.2.1.cell 2
      have q1_3 := hSw.2.1.cell 3
      have q1_4 := hSw.2.1.cell 4
      simp only [zG] at q0_0 q0_1 q0_2 q0_3 q0_4 q0_5 q0_6 q0_7 q0_8 q0_9 q0_10 q1_0 q1_1 q1_2 q1_3 q1_4
      go_simp
      try with_reducible rfl
     try simp only [zP]
     refine zR 5 fun K hK => ?_
     go_simp
     refine HTW.out.mono ?_
     rintro e w5 ⟨rfl, F5, h5, hs5⟩
     refine hK.out _ _ ?_ (fun hHeld => ?_)
     ·exact ⟨hHeld.1.turns hs5.t HNB.out, hHeld.2.1.turns hs5.t HNK.out, hHeld.2.2.trans hs5.t⟩
     clear hK K
     try simp only [zP]
     refine wpAnyH_done (by kernel_rfl) ?_ _
     have hbk5 := hHeld.2.1
     obtain ⟨o5, h6, _, hs6⟩ := (HA3.out.made HXX.out (zT w3).drew).stepTab HXX.out h5 hs5
     have HN5 := zh (show ¬ Own o5 wr.heap.size from fun h0 => by
      rcases hs6.f _ h0 with h4 | h4
      ·exact HN2.out h4
      ·have h9 : w3.drew.heap.size = w3.heap.size := rfl
       have := HW3.out; omega)
     have HBK5 := zh hbk5
     have n4 := hbk5.cell 4
     simp only [zG] at n4
     have HH5 := zh (And.intro (show WW CX w5 b o5 ps { s1 with ts := s1.ts.set i ⟨pg, pc + 1, 0, how, ((r.set j v).set k 0), ⟨0, 0, 0, 0⟩⟩, rd := s1.rd ++ [(i : Int)] } from ⟨_, _, _, _, h6⟩) (HH3.out.2.trans ((Stp.made (F := Own o2) (zT w3).drew).trans hs6)))
     clear hHeld hbk5 h5 hs5 h6 hs6
     go_upto_region 12 with fail
     clear n4
     have HTL := zh (fun oo (ww : World) (hh : WW CX ww b oo ps { s1 with ts := s1.ts.set i ⟨pg, pc + 1, 0, how, ((r.set j v).set k 0), ⟨0, 0, 0, 0⟩⟩, rd := s1.rd ++ [(i : Int)] }) => wtell_c (kind := 3) (who := (i : Int)) (ea := ks) (eb := v) (ec := 0) HXX.out hh (by show s1.ev.length < 1000; exact hev))
     have HBT := zh (fun ww => bit_c false ww)
     refine wp_region_held_drew (S := fun w' => Blk w' (wr.heap.size) 207 #[.int .i64 i, .int .i64 ks, .int .i64 v, .bool false, .bool false] ∧ (w' = w5.drew ∨ True)) (by kernel_rfl) ?_ (fun hHeld => ?_)
     ·exact ⟨HBK5.out, .inr trivial⟩
     refine tH 0 59 ?_ ?_ ?_;rotate_left
     ·intro w hSw
      go_simp
      try with_reducible rfl
     try simp only [zP]
     refine tH 1 60 ?_ ?_ ?_;rotate_left
     ·intro w hSw
      go_simp
      try with_reducible rfl
     try simp only [zP]
     refine tH 2 61 ?_ ?_ ?_;rotate_left
     ·intro w hSw
      have q0_0 := hSw.1.cell 0
      have q0_1 := hSw.1.cell 1
      have q0_2 := hSw.1.cell 2
      have q0_3 := hSw.1.cell 3
      have q0_4 := hSw.1.cell 4
      simp only [zG] at q0_0 q0_1 q0_2 q0_3 q0_4
      go_simp
      try with_reducible rfl
     try simp only [zP]
     refine tH 3 62 ?_ ?_ ?_;rotate_left
     ·intro w hSw
      go_simp
      try with_reducible rfl
     try simp only [zP]
     refine tH 4 63 ?_ ?_ ?_;rotate_left
     ·intro w hSw
      have q0_0 := hSw.1.cell 0
      have q0_1 := hSw.1.cell 1
      have q0_2 := hSw.1.cell 2
      have q0_3 := hSw.1.cell 3
      have q0_4 := hSw.1.cell 4
      simp only [zG] at q0_0 q0_1 q0_2 q0_3 q0_4
      go_simp
      try with_reducible rfl
     try simp only [zP]
     refine tH 5 64 ?_ ?_ ?_;rotate_left
     ·intro w hSw
      go_simp
      try with_reducible rfl
     try simp only [zP]
     refine tH 6 65 ?_ ?_ ?_;rotate_left
     ·intro w hSw
      have q0_0 := hSw.1.cell 0
      have q0_1 := hSw.1.cell 1
      have q0_2 := hSw.1.cell 2
      have q0_3 := hSw.1.cell 3
      have q0_4 := hSw.1.cell 4
      simp only [zG] at q0_0 q0_1 q0_2 q0_3 q0_4
      go_simp
      try with_reducible rfl
     try simp only [zP]
     refine tH 7 66 ?_ ?_ ?_;rotate_left
     ·intro w hSw
      go_simp
      try with_reducible rfl
     try simp only [zP]
     refine tH 8 67 ?_ ?_ ?_;rotate_left
     ·intro w hSw
      have q0_0 := hSw.1.cell 0
      have q0_1 := hSw.1.cell 1
      have q0_2 := hSw.1.cell 2
      have q0_3 := hSw.1.cell 3
      have q0_4 := hSw.1.cell 4
      simp only [zG] at q0_0 q0_1 q0_2 q0_3 q0_4
      go_simp
      try with_reducible rfl
     try simp only [zP]
     refine zR 9 fun K hK => ?_
     go_simp
     refine (HBT.out _).mono ?_
     rintro e w6 ⟨rfl, rfl⟩
     refine hK.out _ _ ?_ (fun hHeld => ?_)
     ·exact hHeld
     clear hK K
     try simp only [zP]
     refine zR 10 fun K hK => ?_
     go_simp
     refine (HTL.out o5 w5.drew (HH5.out.1.made HXX.out (zT w5).drew)).mono ?_
     rintro e w6 ⟨rfl, o6, h6, hs6⟩
     refine hK.out _ _ ?_ (fun hHeld => ?_)
     ·exact ⟨hHeld.1.turns hs6.t HN5.out, .inr trivial⟩
     clear hK K
     try simp only [zP]
     refine wpAnyH_done (by kernel_rfl) ?_ _
     have HE := zh (And.intro h6 ((HH5.out.2.trans (Stp.made (F := Own o5) (zT w5).drew)).trans hs6))
     clear hHeld h6 hs6
     go_wp2_with fail
     go_roundw
     case rel =>
      refine ⟨k0 + 1, by omega, by go_num, o6, _, HE.out.1, HS1.out.trans HE.out.2, ?_, ?_⟩
      ·exact (congrArg (fun z => wakesS z (l.drop (k0 + 1))) (wakeS_no HK1.out.2.2.1).symm).trans HK1.out.1
      ·exact (congrArg (fun z => WakesOK z (l.drop (k0 + 1))) (wakeS_no HK1.out.2.2.1)).mp HK1.out.2.1
     case measure => simp [intOf]; omega
   | true =>
    go_upto_region 3 with fail
    have HWR := zh ((zT wr).alloc (.cells #[.int .i64 i, .int .i64 ks, .int .i64 v, .bool true, .bool false] 207))
    have HB5 := zh (Blk.new wr 207 #[.int .i64 i, .int .i64 ks, .int .i64 v, .bool true, .bool false])
    have HWLT := zh (show wr.heap.size < (wr.alloc (.cells #[.int .i64 i, .int .i64 ks, .int .i64 v, .bool true, .bool false] 207)).heap.size from by simp)
    have HWW := zh (HW1.out.made HXX.out HWR.out)
    clear c0 c1 c2 c3 c4
    generalize wr.alloc (.cells #[.int .i64 i, .int .i64 ks, .int .i64 v, .bool true, .bool false] 207) = W at *
    go_cut [6, 7] (fun v6 v7 wx => ∃ g6 : Nat, v6 = .pointer (some ⟨g6, 0, none⟩) ∧ v7 = .bool true ∧ Made W wx ∧ Blk wx g6 38 (tskA ⟨pg, pc, 1, how, r, ⟨11, a2, j, k⟩⟩) ∧ W.heap.size ≤ g6)
    case first =>
     obtain ⟨vp, vc, vl, ve, hww⟩ := HWW.out
     have HP := zh hww.blk
     have HPL := zh (show b.pb < W.heap.size from hww.blk.lt)
     clear hww
     refine wp_region_held_drew (S := fun w' => Blk w' b.pb 65 #[vp, .pointer (some ⟨b.pk, 0, none⟩), .pointer (some ⟨b.pt, 0, none⟩), vc, .int .i64 s1.made, .pointer (some ⟨b.pm, 0, none⟩), .pointer (some ⟨b.px, 0, none⟩), .pointer (some ⟨b.pd, 0, none⟩), vl, .int .i64 s1.steps, ve] ∧ Blk w' wr.heap.size 207 #[.int .i64 i, .int .i64 ks, .int .i64 v, .bool true, .bool false] ∧ Made W w') (by kernel_rfl) ?_ (fun hHeld => ?_)
     ·exact ⟨HP.out, HB5.out, (zT W).drew⟩
     refine tH 0 17 ?_ ?_ ?_;rotate_left
     ·intro w hSw
      go_simp
      try with_reducible rfl
     try simp only [zP]
     refine tH 1 18 ?_ ?_ ?_;rotate_left
     ·intro w hSw
      go_simp
      try with_reducible rfl
     try simp only [zP]
     refine tH 2 19 ?_ ?_ ?_;rotate_left
     ·intro w hSw
      go_simp
      try with_reducible rfl
     try simp only [zP]
     refine tH 3 20 ?_ ?_ ?_;rotate_left
     ·intro w hSw
      have q0 := hSw.1.cell 2
      simp only [zG] at q0
      go_simp
      try with_reducible rfl
     try simp only [zP]
     refine tH 4 21 ?_ ?_ ?_;rotate_left
     ·intro w hSw
      go_simp
      try with_reducible rfl
     try simp only [zP]
     refine tH 5 22 ?_ ?_ ?_;rotate_left
     ·intro w hSw
      have q0 := hSw.2.1.cell 0
      simp only [zG] at q0
      go_simp
      try with_reducible rfl
     try simp only [zP]
     refine wpAnyH_ready (rs := [6, 10]) (by kernel_rfl) (by simp) ?_
     refine AllReadyH.cons rfl (fun K hK => ?_) ?_
     ·as_aux_lemma =>
       go_simp
       refine (HTG.out _ (HWW.out.made HXX.out hHeld.2.2)).mono ?_
       rintro e wG ⟨rfl, hmG⟩
       refine hK.out _ _ ?_ (fun hHeld => ?_)
       ·exact ⟨hHeld.1.turns hmG (fun h => h), hHeld.2.1.turns hmG (fun h => h), hHeld.2.2.trans hmG⟩
       clear hK K
       try simp only [zP]
       refine tH 7 16 ?_ ?_ ?_;rotate_left
       ·intro w hSw
        go_simp
        try with_reducible rfl
       try simp only [zP]
       refine tH 8 24 ?_ ?_ ?_;rotate_left
       ·intro w hSw
        go_simp
        try with_reducible rfl
       try simp only [zP]
       refine tH 9 25 ?_ ?_ ?_;rotate_left
       ·intro w hSw
        go_simp
        try with_reducible rfl
       try simp only [zP]
       refine zR 10 fun K hK => ?_
       go_simp
       refine hK.out _ _ ?_ (fun hHeld => ?_)
       ·exact ⟨hHeld.1.alloc _, hHeld.2.1.alloc _, hHeld.2.2.alloc _⟩
       clear hK K
       try simp only [zP]
       have HZ := Blk.new wG 38 tskZ
       have HG6 : W.heap.size ≤ wG.heap.size := hmG.size
       refine zR 11 fun K hK => ?_
       refine step_store_mid rfl rfl _ _ _ (by rfl) (by rfl) (tskC ⟨pg, pc, 1, how, r, ⟨11, a2, j, k⟩⟩) [] [.int .i64 0, .int .i64 0, .int .i64 0, .int .i64 0, .int .i64 0, .int .i64 0, .int .i64 0, .int .i64 0, .int .i64 0, .int .i64 0, .int .i64 0, .int .i64 0, .int .i64 0, .int .i64 0, .int .i64 0, .int .i64 0, .slice none 0 0, .bool false] [] (by rfl) (t := 38) (show Blk _ _ _ _ from by simpa using HZ) (by rfl) (by rfl) (tskC_one _) Tryz.sizeTsk ?_
       intro wS hbS htS
       refine hK.out _ _ ?_ (fun hHeld => ?_)
       ·exact ⟨hHeld.1.turns htS (fun e => by have := HPL.out; omega), hHeld.2.1.turns htS (fun e => by have := HWLT.out; omega), hHeld.2.2.then htS (fun k hk e => by omega)⟩
       clear hK K
       try simp only [zP]
       refine tH 12 7 ?_ ?_ ?_;rotate_left
       ·intro w hSw
        go_simp
        try with_reducible rfl
       try simp only [zP]
       refine wpAnyH_done (by kernel_rfl) ?_ _
       have HS := zh hHeld.2.2
       have HB6 : Hid (Blk wS _ 38 (tskA ⟨pg, pc, 1, how, r, ⟨11, a2, j, k⟩⟩)) := zh (by simpa [tskC] using hbS)
       have HG7 := zh HG6
       clear hHeld hbS htS HZ HG6
       go_wp2_with fail
       go_meet
       exact ⟨_, rfl, rfl, HS.out, HB6.out, HG7.out⟩
     refine AllReadyH.cons rfl (fun K hK => ?_) ?_
     ·as_aux_lemma =>
       go_simp
       refine hK.out _ _ ?_ (fun hHeld => ?_)
       ·exact ⟨hHeld.1.alloc _, hHeld.2.1.alloc _, hHeld.2.2.alloc _⟩
       clear hK K
       try simp only [zP]
       have HZ : Blk (W.drew.alloc (.cells tskZ 38)) W.drew.heap.size 38 tskZ := Blk.new W.drew 38 tskZ
       have HG6 : W.heap.size ≤ W.drew.heap.size := Nat.le_refl _
       refine zR 6 fun K hK => ?_
       go_simp
       refine (HTG.out _ (HWW.out.made HXX.out hHeld.2.2)).mono ?_
       rintro e wG ⟨rfl, hmG⟩
       refine hK.out _ _ ?_ (fun hHeld => ?_)
       ·exact ⟨hHeld.1.turns hmG (fun h => h), hHeld.2.1.turns hmG (fun h => h), hHeld.2.2.trans hmG⟩
       clear hK K
       try simp only [zP]
       replace HZ := HZ.turns hmG (fun h => h)
       refine tH 7 16 ?_ ?_ ?_;rotate_left
       ·intro w hSw
        go_simp
        try with_reducible rfl
       try simp only [zP]
       refine tH 8 24 ?_ ?_ ?_;rotate_left
       ·intro w hSw
        go_simp
        try with_reducible rfl
       try simp only [zP]
       refine tH 9 25 ?_ ?_ ?_;rotate_left
       ·intro w hSw
        go_simp
        try with_reducible rfl
       try simp only [zP]
       refine zR 11 fun K hK => ?_
       refine step_store_mid rfl rfl _ _ _ (by rfl) (by rfl) (tskC ⟨pg, pc, 1, how, r, ⟨11, a2, j, k⟩⟩) [] [.int .i64 0, .int .i64 0, .int .i64 0, .int .i64 0, .int .i64 0, .int .i64 0, .int .i64 0, .int .i64 0, .int .i64 0, .int .i64 0, .int .i64 0, .int .i64 0, .int .i64 0, .int .i64 0, .int .i64 0, .int .i64 0, .slice none 0 0, .bool false] [] (by rfl) (t := 38) (show Blk _ _ _ _ from by simpa using HZ) (by rfl) (by rfl) (tskC_one _) Tryz.sizeTsk ?_
       intro wS hbS htS
       refine hK.out _ _ ?_ (fun hHeld => ?_)
       ·exact ⟨hHeld.1.turns htS (fun e => by have := HPL.out; omega), hHeld.2.1.turns htS (fun e => by have := HWLT.out; omega), hHeld.2.2.then htS (fun k hk e => by omega)⟩
       clear hK K
       try simp only [zP]
       refine tH 12 7 ?_ ?_ ?_;rotate_left
       ·intro w hSw
        go_simp
        try with_reducible rfl
       try simp only [zP]
       refine wpAnyH_done (by kernel_rfl) ?_ _
       have HS := zh hHeld.2.2
       have HB6 : Hid (Blk wS _ 38 (tskA ⟨pg, pc, 1, how, r, ⟨11, a2, j, k⟩⟩)) := zh (by simpa [tskC] using hbS)
       have HG7 := zh HG6
       clear hHeld hbS htS HZ HG6
       go_wp2_with fail
       go_meet
       exact ⟨_, rfl, rfl, HS.out, HB6.out, HG7.out⟩
     exact AllReadyH.nil
    case rest =>
     obtain ⟨g6, rfl, rfl, hmC, hb6, hg6⟩ := hcut
     have HNO := zh (show ∀ q, wr.heap.size ≤ q → ¬ Own o1 q from fun q hq h0 => by obtain ⟨_, _, _, _, h1⟩ := HW1.out; have := h1.lt q h0; omega)
     have HBC := zh (HB5.out.turns hmC (fun h => h))
     have HB6 := zh hb6
     have HC6 := zh (blk_cells (cs := tskC ⟨pg, pc, 1, how, r, ⟨11, a2, j, k⟩⟩) hb6)
     have HWC := zh (HWW.out.made HXX.out hmC)
     have HMC := zh (HWR.out.trans hmC)
     have HGN := zh (show wr.heap.size ≤ g6 from by have := HWLT.out; omega)
     have y2 := hb6.cell 2
     simp only [zG] at y2
     have kk0 := HBC.out.cell 0
     have kk1 := HBC.out.cell 1
     have kk2 := HBC.out.cell 2
     have kk3 := HBC.out.cell 3
     have kk4 := HBC.out.cell 4
     simp only [zG] at kk0 kk1 kk2 kk3 kk4
     clear hmC hb6 hg6
     go_wp2_with (first
      | (refine wpList_load_at (o := ⟨some 30, .load 38 (.tmp 6), _, _, _, _⟩) rfl _ _ rfl _ 0 rfl (tskC ⟨pg, pc, 1, how, r, ⟨11, a2, j, k⟩⟩) _ HC6.out Tryz.underlying38 rfl Tryz.sizeTsk ?_)
      | fail)
     refine (wpassed_yes HXX.out HWC.out ha hg (by omega) hnd).mono ?_
     rintro e w2 ⟨rfl, o2, h2, hs2⟩
     have hbk2 := HBC.out.turns hs2.t (HNO.out _ (Nat.le_refl _))
     have hb62 := HB6.out.turns hs2.t (HNO.out _ HGN.out)
     have m0 := hbk2.cell 0
     have m1 := hbk2.cell 1
     have m2 := hbk2.cell 2
     have m3 := hbk2.cell 3
     have m4 := hbk2.cell 4
     simp only [zG] at m0 m1 m2 m3 m4
     have t4 := hb62.cell 4
     have t5 := hb62.cell 5
     have t6 := hb62.cell 6
     have t7 := hb62.cell 7
     have t8 := hb62.cell 8
     have t9 := hb62.cell 9
     have t10 := hb62.cell 10
     have t11 := hb62.cell 11
     have t12 := hb62.cell 12
     have t13 := hb62.cell 13
     have t14 := hb62.cell 14
     have t15 := hb62.cell 15
     have t16 := hb62.cell 16
     have t17 := hb62.cell 17
     simp only [zG] at t4 t5 t6 t7 t8 t9 t10 t11 t12 t13 t14 t15 t16 t17
     have HN2 := zh (show ¬ Own o2 wr.heap.size from fun h0 => by
      rcases hs2.f _ h0 with h4 | h4
      ·exact HNO.out _ (Nat.le_refl _) h4
      ·have := HBC.out.lt; omega)
     have HBK2 := zh hbk2
     have HH2 := zh (And.intro h2 (((Stp.made (F := Own o1) HMC.out)).trans hs2))
     clear hbk2 hb62 h2 hs2 y2
     go_wp2_with fail
     refine (wcases_nil (x := ⟨11, a2, j, k⟩) (r := r) _).mono ?_
     rintro e w3 ⟨rfl, hm3⟩
     have hbk3 := HBK2.out.turns hm3 (fun h => h)
     have HBK3 := zh hbk3
     have n0 := hbk3.cell 0
     simp only [zG] at n0
     have HH3 := zh (And.intro (HH2.out.1.made HXX.out hm3) (HH2.out.2.then_made hm3))
     clear hbk3 hm3 m0 m1 m2 m3 m4 t4 t5 t6 t7 t8 t9 t10 t11 t12 t13 t14 t15 t16 t17
     go_wp2_with fail
     refine (leave_nil _ _).mono ?_
     rintro e w4 ⟨rfl, rfl⟩
     go_upto_region 9 with fail
     clear n0
     obtain ⟨⟨vp3, vc3, vl3, ve3, h3⟩, hs3⟩ := HH3.out
     have HA3 := zh h3
     have HP3 := zh h3.blk
     have HNB := zh (show ¬ o2 b.pb = 3 from by rw [h3.ob]; omega)
     have HNK := zh (show ¬ o2 wr.heap.size = 3 from fun e => HN2.out (by show o2 wr.heap.size ≠ 0; omega))
     have HW3 := zh (show wr.heap.size < w3.heap.size from HBK3.out.lt)
     have HTW := zh (tabwake_yes (w := w3.drew) (ks := ks) (v := v) (h3.tab.made (zT w3).drew) HK1.out.2.2.1 hl64 hj hkk ⟨hp0, hp1⟩ HK1.out.2.2.2.1 hrl)
     clear h3 hs3
     refine wp_region_held_drew (S := fun w' => Blk w' (b.pb) 65 #[vp3, .pointer (some ⟨b.pk, 0, none⟩), .pointer (some ⟨b.pt, 0, none⟩), vc3, .int .i64 s1.made, .pointer (some ⟨b.pm, 0, none⟩), .pointer (some ⟨b.px, 0, none⟩), .pointer (some ⟨b.pd, 0, none⟩), vl3, .int .i64 s1.steps, ve3] ∧ Blk w' (wr.heap.size) 207 #[.int .i64 i, .int .i64 ks, .int .i64 v, .bool true, .bool false] ∧ Turns (fun q => o2 q = 3) w3 w') (by kernel_rfl) ?_ (fun hHeld => ?_)
     ·exact ⟨HP3.out, HBK3.out, (Turns.refl _ w3).drew⟩
     refine tH 0 47 ?_ ?_ ?_;rotate_left
     ·intro w hSw
      go_simp
      try with_reducible rfl
     try simp only [zP]
     refine tH 1 48 ?_ ?_ ?_;rotate_left
     ·intro w hSw
      go_simp
      try with_reducible rfl
     try simp only [zP]
     refine tH 2 49 ?_ ?_ ?_;rotate_left
     ·intro w hSw
      go_simp
      try with_reducible rfl
     try simp only [zP]
     refine tH 3 50 ?_ ?_ ?_;rotate_left
     ·intro w hSw
      have q0_0 := hSw.1.cell 0
      have q0_1 := hSw.1.cell 1
      have q0_2 := hSw.1.cell 2
      have q0_3 := hSw.1.cell 3
      have q0_4 := hSw.1.cell 4
      have q0_5 := hSw.1.cell 5
      have q0_6 := hSw.1.cell 6
      have q0_7 := hSw.1.cell 7
      have q0_8 := hSw.1.cell 8
      have q0_9 := hSw.1.cell 9
      have q0_10 := hSw.1.cell 10
      have q1_0 := hSw.2.1.cell 0
      have q1_1 := hSw.2.1.cell 1
      have q1_2 := hSw.2.1.cell 2
      have q1_3 := hSw.2.1.cell 3
      have q1_4 := hSw.2.1.cell 4
      simp only [zG] at q0_0 q0_1 q0_2 q0_3 q0_4 q0_5 q0_6 q0_7 q0_8 q0_9 q0_10 q1_0 q1_1 q1_2 q1_3 q1_4
      go_simp
      try with_reducible rfl
     try simp only [zP]
     refine tH 4 51 ?_ ?_ ?_;rotate_left
     ·intro w hSw
      have q0_0 := hSw.1.cell 0
      have q0_1 := hSw.1.cell 1
      have q0_2 := hSw.1.cell 2
      have q0_3 := hSw.1.cell 3
      have q0_4 := hSw.1.cell 4
      have q0_5 := hSw.1.cell 5
      have q0_6 := hSw.1.cell 6
      have q0_7 := hSw.1.cell 7
      have q0_8 := hSw.1.cell 8
      have q0_9 := hSw.1.cell 9
      have q0_10 := hSw.1.cell 10
      have q1_0 := hSw.2.1.cell 0
      have q1_1 := hSw.2.1.cell 1
      have q1_2 := hSw.2.1.cell 2
      have q1_3 := hSw.2.1.cell 3
      have q1_4 := hSw.2.1.cell 4
      simp only [zG] at q0_0 q0_1 q0_2 q0_3 q0_4 q0_5 q0_6 q0_7 q0_8 q0_9 q0_10 q1_0 q1_1 q1_2 q1_3 q1_4
      go_simp
      try with_reducible rfl
     try simp only [zP]
     refine zR 5 fun K hK => ?_
     go_simp
     refine HTW.out.mono ?_
     rintro e w5 ⟨rfl, F5, h5, hs5⟩
     refine hK.out _ _ ?_ (fun hHeld => ?_)
     ·exact ⟨hHeld.1.turns hs5.t HNB.out, hHeld.2.1.turns hs5.t HNK.out, hHeld.2.2.trans hs5.t⟩
     clear hK K
     try simp only [zP]
     refine wpAnyH_done (by kernel_rfl) ?_ _
     have hbk5 := hHeld.2.1
     obtain ⟨o5, h6, _, hs6⟩ := (HA3.out.made HXX.out (zT w3).drew).stepTab HXX.out h5 hs5
     have HN5 := zh (show ¬ Own o5 wr.heap.size from fun h0 => by
      rcases hs6.f _ h0 with h4 | h4
      ·exact HN2.out h4
      ·have h9 : w3.drew.heap.size = w3.heap.size := rfl
       have := HW3.out; omega)
     have HBK5 := zh hbk5
     have n4 := hbk5.cell 4
     simp only [zG] at n4
     have HH5 := zh (And.intro (show WW CX w5 b o5 ps { { s1 with nd := s1.nd + 1 } with ts := s1.ts.set i ⟨pg, pc + 1, 0, how, ((r.set j v).set k 1), ⟨0, 0, 0, 0⟩⟩, rd := s1.rd ++ [(i : Int)] } from ⟨_, _, _, _, h6⟩) (HH3.out.2.trans ((Stp.made (F := Own o2) (zT w3).drew).trans hs6)))
     clear hHeld hbk5 h5 hs5 h6 hs6
     go_upto_region 12 with fail
     clear n4
     have HTL := zh (fun oo (ww : World) (hh : WW CX ww b oo ps { { s1 with nd := s1.nd + 1 } with ts := s1.ts.set i ⟨pg, pc + 1, 0, how, ((r.set j v).set k 1), ⟨0, 0, 0, 0⟩⟩, rd := s1.rd ++ [(i : Int)] }) => wtell_c (kind := 3) (who := (i : Int)) (ea := ks) (eb := v) (ec := 1) HXX.out hh (by show s1.ev.length < 1000; exact hev))
     have HBT := zh (fun ww => bit_c true ww)
     refine wp_region_held_drew (S := fun w' => Blk w' (wr.heap.size) 207 #[.int .i64 i, .int .i64 ks, .int .i64 v, .bool true, .bool false] ∧ (w' = w5.drew ∨ True)) (by kernel_rfl) ?_ (fun hHeld => ?_)
     ·exact ⟨HBK5.out, .inr trivial⟩
     refine tH 0 59 ?_ ?_ ?_;rotate_left
     ·intro w hSw
      go_simp
      try with_reducible rfl
     try simp only [zP]
     refine tH 1 60 ?_ ?_ ?_;rotate_left
     ·intro w hSw
      go_simp
      try with_reducible rfl
     try simp only [zP]
     refine tH 2 61 ?_ ?_ ?_;rotate_left
     ·intro w hSw
      have q0_0 := hSw.1.cell 0
      have q0_1 := hSw.1.cell 1
      have q0_2 := hSw.1.cell 2
      have q0_3 := hSw.1.cell 3
      have q0_4 := hSw.1.cell 4
      simp only [zG] at q0_0 q0_1 q0_2 q0_3 q0_4
      go_simp
      try with_reducible rfl
     try simp only [zP]
     refine tH 3 62 ?_ ?_ ?_;rotate_left
     ·intro w hSw
      go_simp
      try with_reducible rfl
     try simp only [zP]
     refine tH 4 63 ?_ ?_ ?_;rotate_left
     ·intro w hSw
      have q0_0 := hSw.1.cell 0
      have q0_1 := hSw.1.cell 1
      have q0_2 := hSw.1.cell 2
      have q0_3 := hSw.1.cell 3
      have q0_4 := hSw.1.cell 4
      simp only [zG] at q0_0 q0_1 q0_2 q0_3 q0_4
      go_simp
      try with_reducible rfl
     try simp only [zP]
     refine tH 5 64 ?_ ?_ ?_;rotate_left
     ·intro w hSw
      go_simp
      try with_reducible rfl
     try simp only [zP]
     refine tH 6 65 ?_ ?_ ?_;rotate_left
     ·intro w hSw
      have q0_0 := hSw.1.cell 0
      have q0_1 := hSw.1.cell 1
      have q0_2 := hSw.1.cell 2
      have q0_3 := hSw.1.cell 3
      have q0_4 := hSw.1.cell 4
      simp only [zG] at q0_0 q0_1 q0_2 q0_3 q0_4
      go_simp
      try with_reducible rfl
     try simp only [zP]
     refine tH 7 66 ?_ ?_ ?_;rotate_left
     ·intro w hSw
      go_simp
      try with_reducible rfl
     try simp only [zP]
     refine tH 8 67 ?_ ?_ ?_;rotate_left
     ·intro w hSw
      have q0_0 := hSw.1.cell 0
      have q0_1 := hSw.1.cell 1
      have q0_2 := hSw.1.cell 2
      have q0_3 := hSw.1.cell 3
      have q0_4 := hSw.1.cell 4
      simp only [zG] at q0_0 q0_1 q0_2 q0_3 q0_4
      go_simp
      try with_reducible rfl
     try simp only [zP]
     refine zR 9 fun K hK => ?_
     go_simp
     refine (HBT.out _).mono ?_
     rintro e w6 ⟨rfl, rfl⟩
     refine hK.out _ _ ?_ (fun hHeld => ?_)
     ·exact hHeld
     clear hK K
     try simp only [zP]
     refine zR 10 fun K hK => ?_
     go_simp
     refine (HTL.out o5 w5.drew (HH5.out.1.made HXX.out (zT w5).drew)).mono ?_
     rintro e w6 ⟨rfl, o6, h6, hs6⟩
     refine hK.out _ _ ?_ (fun hHeld => ?_)
     ·exact ⟨hHeld.1.turns hs6.t HN5.out, .inr trivial⟩
     clear hK K
     try simp only [zP]
     refine wpAnyH_done (by kernel_rfl) ?_ _
     have HE := zh (And.intro h6 ((HH5.out.2.trans (Stp.made (F := Own o5) (zT w5).drew)).trans hs6))
     clear hHeld h6 hs6
     go_wp2_with fail
     go_roundw
     case rel =>
      refine ⟨k0 + 1, by omega, by go_num, o6, _, HE.out.1, HS1.out.trans HE.out.2, ?_, ?_⟩
      ·exact (congrArg (fun z => wakesS z (l.drop (k0 + 1))) (wakeS_yes HK1.out.2.2.1).symm).trans HK1.out.1
      ·exact (congrArg (fun z => WakesOK z (l.drop (k0 + 1))) (wakeS_yes HK1.out.2.2.1)).mp HK1.out.2.1
     case measure => simp [intOf]; omega
  ·obtain ⟨o1, s1, hw1, hs1, hfold, hoks⟩ := hrl
   have hk2 : k0 = l.length := by omega
   subst hk2
   rw [List.drop_length] at hfold
   have hfold : s1 = wakesS s l := hfold
   subst hfold
   have HE := zh (And.intro hw1 hs1)
   clear hw1 hs1 hoks
   go_wp2_with fail
   go_end0
   exact ⟨rfl, o1, HE.out.1, HE.out.2⟩
theorem relabel2 {w w' : World} {o : Nat → Nat} {i j : Nat} {F' G' : Nat → Prop} (hlt : ∀ k, o k ≠ 0 → k < w.heap.size) (hi : i ≠ 0) (hj : j ≠ 0) (hij : i ≠ j) (ht : Turns (fun k => o k = i ∨ o k = j) w w') (h1 : ∀ k, F' k → o k = i ∨ w.heap.size ≤ k) (h2 : ∀ k, G' k → o k = j ∨ w.heap.size ≤ k) (hd : ∀ k, G' k → ¬ F' k) (hb1 : ∀ k, F' k → k < w'.heap.size) (hb2 : ∀ k, G' k → k < w'.heap.size) :
  ∃ o', (∀ k, o' k ≠ 0 → k < w'.heap.size) ∧ (fun k => o' k = i) = F' ∧ (fun k => o' k = j) = G' ∧ (∀ n, n ≠ 0 → n ≠ i → n ≠ j → (fun k => o' k = n) = fun k => o k = n) ∧ Stp w w' (Own o) (Own o') := by
 classical
 have hz : ∀ k, w.heap.size ≤ k → o k = 0 := fun k hk => by
  by_cases h : o k = 0
  ·exact h
  ·have := hlt k h; omega
 refine ⟨fun k => if F' k then i else if G' k then j else if o k = i ∨ o k = j then 0 else o k, fun k hk => ?_, ?_, ?_, fun n h0 hn1 hn2 => ?_, ⟨ht.mono fun k _ hk => ?_, fun k hk => ?_⟩⟩
 ·by_cases hf : F' k
  ·exact hb1 k hf
  ·by_cases hg : G' k
   ·exact hb2 k hg
   ·simp only [if_neg hf, if_neg hg] at hk
    by_cases ho : o k = i ∨ o k = j
    ·simp [if_pos ho] at hk
    ·rw [if_neg ho] at hk
     exact Nat.lt_of_lt_of_le (hlt k hk) ht.size
 ·funext k
  by_cases hf : F' k
  ·simp [hf]
  ·by_cases hg : G' k
   ·simp only [if_neg hf, if_pos hg]
    exact propext ⟨fun e => absurd e.symm hij, fun e => absurd e hf⟩
   ·simp only [if_neg hf, if_neg hg]
    by_cases ho : o k = i ∨ o k = j
    ·rw [if_pos ho]
     exact propext ⟨fun e => absurd e.symm hi, fun e => absurd e hf⟩
    ·rw [if_neg ho]
     exact propext ⟨fun e => absurd (Or.inl e) ho, fun e => absurd e hf⟩
 ·funext k
  by_cases hg : G' k
  ·simp [hg, hd k hg]
  ·by_cases hf : F' k
   ·simp only [if_pos hf]
    exact propext ⟨fun e => absurd e hij, fun e => absurd e hg⟩
   ·simp only [if_neg hf, if_neg hg]
    by_cases ho : o k = i ∨ o k = j
    ·rw [if_pos ho]
     exact propext ⟨fun e => absurd e.symm hj, fun e => absurd e hg⟩
    ·rw [if_neg ho]
     exact propext ⟨fun e => absurd (Or.inr e) ho, fun e => absurd e hg⟩
 ·funext k
  by_cases hf : F' k
  ·simp only [if_pos hf]
   refine propext ⟨fun e => absurd e.symm hn1, fun e => ?_⟩
   rcases h1 k hf with h | h
   ·exact absurd (e.symm.trans h) hn1
   ·exact absurd (e.symm.trans (hz k h)) h0
  ·by_cases hg : G' k
   ·simp only [if_neg hf, if_pos hg]
    refine propext ⟨fun e => absurd e.symm hn2, fun e => ?_⟩
    rcases h2 k hg with h | h
    ·exact absurd (e.symm.trans h) hn2
    ·exact absurd (e.symm.trans (hz k h)) h0
   ·simp only [if_neg hf, if_neg hg]
    by_cases ho : o k = i ∨ o k = j
    ·rw [if_pos ho]
     refine propext ⟨fun e => absurd e.symm h0, fun e => ?_⟩
     rcases ho with h | h
     ·exact absurd (e.symm.trans h) hn1
     ·exact absurd (e.symm.trans h) hn2
    ·rw [if_neg ho]
 ·show o k ≠ 0
  rcases hk with h | h
  ·rw [h]; exact hi
  ·rw [h]; exact hj
 ·by_cases hk2 : w.heap.size ≤ k
  ·exact .inr hk2
  ·refine .inl ?_
   by_cases hf : F' k
   ·rcases h1 k hf with h | h
    ·show o k ≠ 0
     rw [h]; exact hi
    ·exact absurd h hk2
   ·by_cases hg : G' k
    ·rcases h2 k hg with h | h
     ·show o k ≠ 0
      rw [h]; exact hj
     ·exact absurd h hk2
    ·have hk : (if F' k then i else if G' k then j else if o k = i ∨ o k = j then 0 else o k) ≠ 0 := hk
     rw [if_neg hf, if_neg hg] at hk
     by_cases ho : o k = i ∨ o k = j
     ·rw [if_pos ho] at hk
      exact absurd rfl hk
     ·rw [if_neg ho] at hk
      exact hk
section
variable {CX : World → (Nat → Prop) → Prop} {w w' : World} {b : Wp} {o o' : Nat → Nat} {ps : List (List Ins)} {s : Wst} {vp vc vl ve : Value}
theorem WAt.stepTC (hx : Ext CX) (h : WAt CX w b o ps s vp vc vl ve) {FT F' : Nat → Prop} {tms' : List Tk} {named' : Int} {L' : List It} {sq' : Int} {i p : Nat} {c c' : Chn} (hi : s.chs[i]? = some (p, c)) (hT : TsAt w' b.pm FT tms' named' L' sq') (ha : ChAt w' p F' c') (ht : Turns (fun k => o k = 4 ∨ o k = 16 + p) w w') (h1 : ∀ k, FT k → o k = 4 ∨ w.heap.size ≤ k) (h2 : ∀ k, F' k → o k = 16 + p ∨ w.heap.size ≤ k) (hd : ∀ k, F' k → ¬ FT k) : ∃ o', WAt CX w' b o' ps { s with tms := tms', named := named', L := L', sq := sq', chs := s.chs.set i (p, c') } vp vc vl ve ∧ (fun k => o' k = 4) = FT ∧ (fun k => o' k = 16 + p) = F' ∧ Stp w w' (Own o) (Own o') ∧ ∀ k, o' k ≠ 0 → FT k ∨ F' k ∨ o k ≠ 0 := by
 obtain ⟨o', hlt, e4, e, hne, hst⟩ := relabel2 h.lt (by omega) (by omega) (by omega) ht h1 h2 hd hT.fb ha.fb
 obtain ⟨ds, hd1, hd2⟩ := h.dls
 obtain ⟨ls, hl1, hl2⟩ := h.lrow
 have hmap : (s.chs.set i (p, c')).map Prod.fst = s.chs.map Prod.fst := by
  rw [List.map_set]
  exact set_same (by rw [List.getElem?_map, hi]; rfl)
 refine ⟨o', { lt := hlt, cnd := by show ((s.chs.set i (p, c')).map Prod.fst).Nodup; rw [hmap]; exact h.cnd, crow := by show Owns pC _ 1 w' vc ((s.chs.set i (p, c')).map Prod.fst); rw [hmap]; exact h.crow.turns ht (fun k hk => by rw [(h.co k).1 hk]; omega), co := fun k => (h.co k).trans (iff_of_eq (congrFun (hne 8 (by omega) (by omega) (by omega)) k)).symm, chn := fun p2 c2 hp => ?_, blk := h.blk.turns ht (by rw [h.ob]; omega), ob := lab_is (hne 1 (by omega) (by omega) (by omega)) h.ob, clk := h.clk.turns ht (by rw [h.ok]; omega), ok := lab_is (hne 2 (by omega) (by omega) (by omega)) h.ok, tab := by rw [hne 3 (by omega) (by omega) (by omega)]; exact h.tab.turns ht (fun k hk => by rw [hk]; omega), tms := by rw [e4]; exact hT, dls := ⟨ds, hd1, by rw [hne 5 (by omega) (by omega) (by omega)]; exact hd2.turns ht (fun k hk => by rw [hk]; omega)⟩, ctx := by rw [hne 6 (by omega) (by omega) (by omega)]; exact hx.turns _ w w' _ h.ctx ht (fun k hk => by rw [hk]; omega), prs := h.prs.turns ht (fun k hk => by rw [hk]; omega) (fun k hk => lab_is (hne 7 (by omega) (by omega) (by omega)) hk), lrow := ⟨ls, hl1, hl2.turns ht (fun k hk => by rw [(h.lo k).1 hk]; omega)⟩, lo := fun k => (h.lo k).trans (iff_of_eq (congrFun (hne 9 (by omega) (by omega) (by omega)) k)).symm, erow := h.erow.turns ht (fun k hk => by rw [(h.eo k).1 hk]; omega), eo := fun k => (h.eo k).trans (iff_of_eq (congrFun (hne 10 (by omega) (by omega) (by omega)) k)).symm }, e4, e, hst, fun k hk => ?_⟩
 rotate_left
 ·by_cases h4 : o' k = 4
  ·exact .inl ((congrFun e4 k).mp h4)
  ·by_cases h5 : o' k = 16 + p
   ·exact .inr (.inl ((congrFun e k).mp h5))
   ·refine .inr (.inr ?_)
    have h6 := (congrFun (hne (o' k) hk h4 h5) k).mp rfl
    have h6 : o k = o' k := h6
    rw [h6]
    exact hk
 obtain ⟨j, hj⟩ := List.getElem?_of_mem hp
 by_cases hij : i = j
 ·subst hij
  have hil : i < s.chs.length := (List.getElem?_eq_some_iff.1 hi).1
  rw [List.getElem?_set_self hil] at hj
  cases hj
  rw [e]
  exact ha
 ·rw [List.getElem?_set_ne hij] at hj
  have hpp : p2 ≠ p := by
   rintro rfl
   have h1 : (s.chs.map Prod.fst)[i]? = some p2 := by rw [List.getElem?_map, hi]; rfl
   have h2 : (s.chs.map Prod.fst)[j]? = some p2 := by rw [List.getElem?_map, hj]; rfl
   rcases Nat.lt_or_gt_of_ne hij with h3 | h3
   ·exact nd_ne h.cnd h1 h2 h3 rfl
   ·exact nd_ne h.cnd h2 h1 h3 rfl
  rw [hne (16 + p2) (by omega) (by omega) (by omega)]
  exact (h.chn p2 c2 (List.mem_of_getElem? hj)).turns ht (fun k hk => by rw [hk]; omega)
theorem WAt.stepClk (hx : Ext CX) (h : WAt CX w b o ps s vp vc vl ve) {n : Int} (hb : Blk w' b.pk 80 #[.int .i64 n]) (ht : Turns (fun k => o k = 2) w w') : ∃ o', WAt CX w' b o' ps { s with now := n } vp vc vl ve ∧ Stp w w' (Own o) (Own o') := by
 obtain ⟨o', hlt, e, hne, hst⟩ := relabel (F' := fun k => o k = 2) h.lt (i := 2) (by omega) ⟨ht, fun k hk => .inl hk⟩ (fun k hk => Nat.lt_of_lt_of_le (h.lt k (by rw [hk]; omega)) ht.size)
 obtain ⟨ds, hd1, hd2⟩ := h.dls
 obtain ⟨ls, hl1, hl2⟩ := h.lrow
 exact ⟨o', { lt := hlt, cnd := h.cnd, blk := h.blk.turns ht (by rw [h.ob]; omega), ob := lab_is (hne 1 (by omega) (by omega)) h.ob, clk := hb, ok := lab_is e h.ok, tab := by rw [hne 3 (by omega) (by omega)]; exact h.tab.turns ht (fun k hk => by rw [hk]; omega), tms := by rw [hne 4 (by omega) (by omega)]; exact h.tms.turns ht (fun k hk => by rw [hk]; omega), dls := ⟨ds, hd1, by rw [hne 5 (by omega) (by omega)]; exact hd2.turns ht (fun k hk => by rw [hk]; omega)⟩, ctx := by rw [hne 6 (by omega) (by omega)]; exact hx.turns _ w w' _ h.ctx ht (fun k hk => by rw [hk]; omega), prs := h.prs.turns ht (fun k hk => by rw [hk]; omega) (fun k hk => lab_is (hne 7 (by omega) (by omega)) hk), crow := h.crow.turns ht (fun k hk => by rw [(h.co k).1 hk]; omega), co := fun k => (h.co k).trans (iff_of_eq (congrFun (hne 8 (by omega) (by omega)) k)).symm, lrow := ⟨ls, hl1, hl2.turns ht (fun k hk => by rw [(h.lo k).1 hk]; omega)⟩, lo := fun k => (h.lo k).trans (iff_of_eq (congrFun (hne 9 (by omega) (by omega)) k)).symm, erow := h.erow.turns ht (fun k hk => by rw [(h.eo k).1 hk]; omega), eo := fun k => (h.eo k).trans (iff_of_eq (congrFun (hne 10 (by omega) (by omega)) k)).symm, chn := fun p c hp => by rw [hne (16 + p) (by omega) (by omega)]; exact (h.chn p c hp).turns ht (fun k hk => by rw [hk]; omega) }, hst⟩
end
theorem advance_c (g : Nat) (n d : Int) (w : World) (hd : 0 ≤ d) (hc : w.cell? ⟨g, 0, none⟩ = some (.int .i64 n)) (hf : w.frozen? ⟨g, 0, none⟩ = false) :
  Calls Tryz.prog 42 #[.pointer (some ⟨g, 0, none⟩), .int .i64 d] w fun e w' => e = .returned (.int .i64 0) ∧ w.setCell ⟨g, 0, none⟩ (.int .i64 (addZ n d)) = w' := by
 go_enter Tryz.func42, Tryz.ntmps42
 go_wp2_with (go_at_call 62; refine (add_c _ _ _).mono ?_; rintro e w' ⟨rfl, rfl⟩)
 go_ret
 exact ⟨rfl, rfl⟩
theorem kadvance_c {w : World} {p : Nat} {n d : Int} (h : Blk w p 80 #[.int .i64 n]) (hd : 0 ≤ d) :
  Calls Tryz.prog 42 #[.pointer (some ⟨p, 0, none⟩), .int .i64 d] w fun e w' => e = .returned (.int .i64 0) ∧ Blk w' p 80 #[.int .i64 (addZ n d)] ∧ Turns (fun k => k = p) w w' := by
 refine (advance_c p n d w hd (h.cell 0) (h.free 0)).mono ?_
 rintro e w1 ⟨rfl, rfl⟩
 exact ⟨rfl, by simpa using h.put 0 (.int .i64 (addZ n d)), (Turns.refl (fun k => k = p) w).setCell (p := ⟨p, 0, none⟩) (fun _ => rfl) _⟩
def fireB (s : Wst) (i : Nat) (wh : Int) : Wst := { s with ev := s.ev ++ [⟨s.steps, 6, -1, i, wh, 0⟩], nd := s.nd + 1 }
theorem wfire_c {CX : World → (Nat → Prop) → Prop} {w : World} {b : Wp} {o : Nat → Nat} {ps : List (List Ins)} {s : Wst} {i ci cp : Nat} {c : Chn} {wh now dt : Int} {a : Option Addr} {l : List Wk} (hx : Ext CX) (h : WW CX w b o ps s) (hts : s.tms[i]? = some ⟨1, dt, some cp⟩) (hch : s.chs[ci]? = some (cp, c)) (hrow : RowIn wkC 5 w a l.length l) (hun : ∀ b' off, a = some ⟨b', off, none⟩ → ¬ Own o b' ∧ b' < w.heap.size) (hn : l.length ≤ 1000) (htl : s.tms.length ≤ 1000) (hcl : s.chs.length ≤ 1000) (hev : s.ev.length < 1000) (hnd : s.nd < 1000000) (hok : WakesOK (fireB s i wh) l) :
  Calls Tryz.prog 45 #[.pointer (some ⟨b.pb, 0, none⟩), .agg #[.int .i64 i, .int .i64 1, .int .i64 wh, .int .i64 now, .int .i64 dt, .slice a l.length l.length, .bool true]] w fun e w' => e = .returned (.tuple #[]) ∧ ∃ o', WW CX w' b o' ps (wakesS (fireB s i wh) l) ∧ Stp w w' (Own o) (Own o') := by
 have HXX := zh hx
 have HM := zh ((zT w).alloc (.cells #[.int .i64 i, .int .i64 1, .int .i64 wh, .int .i64 now, .int .i64 dt, .slice a l.length l.length, .bool true] 114))
 have HF := zh (Blk.new w 114 #[.int .i64 i, .int .i64 1, .int .i64 wh, .int .i64 now, .int .i64 dt, .slice a l.length l.length, .bool true])
 have HNO := zh (show ∀ q, w.heap.size ≤ q → ¬ Own o q from fun q hq h0 => by obtain ⟨_, _, _, _, h1⟩ := h; have := h1.lt q h0; omega)
 have HTL := zh (wtell_c (kind := 6) (who := -1) (ea := (i : Int)) (eb := wh) (ec := 0) hx (h.made hx HM.out) hev)
 have HROW := zh (And.intro hrow hun)
 have HK := zh (And.intro hts (And.intro hch hok))
 clear h hrow hun hts hch hok hx
 go_enter Tryz.func45, Tryz.ntmps45
 go_wp2_with fail
 refine HTL.out.mono ?_
 rintro e w1 ⟨rfl, o1, h1, hs1⟩
 have hb1 := HF.out.turns hs1.t (HNO.out _ (Nat.le_refl _))
 have HW1 := zh h1
 have HF1 := zh hb1
 have HS1 := zh ((Stp.made (F := Own o) HM.out).trans hs1)
 have y1 := hb1.cell 1
 have y6 := hb1.cell 6
 simp only [zG] at y1 y6
 have HN1 := zh (show ¬ Own o1 w.heap.size from fun h0 => by
  rcases hs1.f _ h0 with h4 | h4
  ·exact HNO.out _ (Nat.le_refl _) h4
  ·simp at h4; omega)
 clear h1 hs1 hb1
 go_upto_region 8 with fail
 clear y1 y6
 have HC5 := zh (show w1.cell? ⟨b.pb, 5, none⟩ = some (.pointer (some ⟨b.pm, 0, none⟩)) from by obtain ⟨_, _, _, _, h3⟩ := HW1.out; exact h3.blk.cell 5)
 have HWD := zh (HW1.out.made HXX.out (zT w1).drew)
 have HCH := zh (show Calls Tryz.prog 71 #[.pointer (some ⟨b.pm, 0, none⟩), .int .i64 i] w1.drew fun e w' => e = .returned (.pointer (some ⟨cp, 0, none⟩)) ∧ w1.drew = w' from by obtain ⟨_, _, _, _, h3⟩ := HWD.out; exact tschan_c h3.tms HK.out.1 htl)
 have HHD := zh (whandle_c HWD.out HK.out.2.1 hcl)
 have HWT := zh (wwent_c (ch := (ci : Int)) (who := -1) (v := now) (got := false) HXX.out HWD.out (by omega) (by omega) hnd)
 refine wp_region_held_drew (S := fun w' => Blk w' (w.heap.size) 114 #[.int .i64 i, .int .i64 1, .int .i64 wh, .int .i64 now, .int .i64 dt, .slice a l.length l.length, .bool true] ∧ w'.cell? ⟨b.pb, 5, none⟩ = some (.pointer (some ⟨b.pm, 0, none⟩)) ∧ (w' = w1.drew ∨ True)) (by kernel_rfl) ?_ (fun hHeld => ?_)
 ·exact ⟨HF1.out, HC5.out, .inr trivial⟩
 refine tH 0 41 ?_ ?_ ?_;rotate_left
 ·intro w hSw
  go_simp
  try with_reducible rfl
 try simp only [zP]
 refine tH 1 42 ?_ ?_ ?_;rotate_left
 ·intro w hSw
  go_simp
  try with_reducible rfl
 try simp only [zP]
 refine tH 2 43 ?_ ?_ ?_;rotate_left
 ·intro w hSw
  go_simp
  try with_reducible rfl
 try simp only [zP]
 refine tH 3 44 ?_ ?_ ?_;rotate_left
 ·intro w hSw
  go_simp
  try with_reducible rfl
 try simp only [zP]
 refine tH 4 45 ?_ ?_ ?_;rotate_left
 ·intro w hSw
  go_simp
  try with_reducible rfl
 try simp only [zP]
 refine tH 5 46 ?_ ?_ ?_;rotate_left
 ·intro w hSw
  have q0_0 := hSw.1.cell 0
  have q0_1 := hSw.1.cell 1
  have q0_2 := hSw.1.cell 2
  have q0_3 := hSw.1.cell 3
  have q0_4 := hSw.1.cell 4
  have q0_5 := hSw.1.cell 5
  have q0_6 := hSw.1.cell 6
  simp only [zG] at q0_0 q0_1 q0_2 q0_3 q0_4 q0_5 q0_6
  have qw := hSw.2.1
  go_simp
  try with_reducible rfl
 try simp only [zP]
 refine tH 6 47 ?_ ?_ ?_;rotate_left
 ·intro w hSw
  go_simp
  try with_reducible rfl
 try simp only [zP]
 refine tH 7 48 ?_ ?_ ?_;rotate_left
 ·intro w hSw
  have q0_0 := hSw.1.cell 0
  have q0_1 := hSw.1.cell 1
  have q0_2 := hSw.1.cell 2
  have q0_3 := hSw.1.cell 3
  have q0_4 := hSw.1.cell 4
  have q0_5 := hSw.1.cell 5
  have q0_6 := hSw.1.cell 6
  simp only [zG] at q0_0 q0_1 q0_2 q0_3 q0_4 q0_5 q0_6
  have qw := hSw.2.1
  go_simp
  try with_reducible rfl
 try simp only [zP]
 refine tH 10 51 ?_ ?_ ?_;rotate_left
 ·intro w hSw
  go_simp
  try with_reducible rfl
 try simp only [zP]
 refine tH 11 52 ?_ ?_ ?_;rotate_left
 ·intro w hSw
  have q0_0 := hSw.1.cell 0
  have q0_1 := hSw.1.cell 1
  have q0_2 := hSw.1.cell 2
  have q0_3 := hSw.1.cell 3
  have q0_4 := hSw.1.cell 4
  have q0_5 := hSw.1.cell 5
  have q0_6 := hSw.1.cell 6
  simp only [zG] at q0_0 q0_1 q0_2 q0_3 q0_4 q0_5 q0_6
  have qw := hSw.2.1
  go_simp
  try with_reducible rfl
 try simp only [zP]
 refine zR 8 fun K hK => ?_
 go_simp
 refine HCH.out.mono ?_
 rintro e w2 ⟨rfl, rfl⟩
 refine hK.out _ _ ?_ (fun hHeld => ?_)
 ·exact hHeld
 clear hK K
 try simp only [zP]
 refine zR 9 fun K hK => ?_
 go_simp
 refine HHD.out.mono ?_
 rintro e w2 ⟨rfl, rfl⟩
 refine hK.out _ _ ?_ (fun hHeld => ?_)
 ·exact hHeld
 clear hK K
 try simp only [zP]
 refine zR 12 fun K hK => ?_
 go_simp
 refine HWT.out.mono ?_
 rintro e w2 ⟨rfl, o2, h2, hs2⟩
 refine hK.out _ _ ?_ (fun hHeld => ?_)
 ·exact ⟨hHeld.1.turns hs2.t HN1.out, (by obtain ⟨_, _, _, _, h3⟩ := h2; exact h3.blk.cell 5), .inr trivial⟩
 clear hK K
 try simp only [zP]
 refine wpAnyH_done (by kernel_rfl) ?_ _
 have hbk2 := hHeld.1
 have HH2 := zh (And.intro (show WW CX _ b o2 ps (fireB s i wh) from h2) (HS1.out.trans ((Stp.made (F := Own o1) (zT w1).drew).trans hs2)))
 have z5 := hbk2.cell 5
 simp only [zG] at z5
 clear hHeld hbk2 h2 hs2
 have HWK := zh (wwake_c (a := a) (cap := l.length) (l := l) HXX.out HH2.out.1 (HROW.out.1.turns HH2.out.2.t (fun b' off e => (HROW.out.2 b' off e).1)) (fun b' off e h0 => by
  have h6 := HROW.out.2 b' off e
  rcases HH2.out.2.f _ h0 with h4 | h4
  ·exact h6.1 h4
  ·omega) hn HK.out.2.2)
 go_wp2_with fail
 refine HWK.out.mono ?_
 rintro e w3 ⟨rfl, o3, h3, hs3⟩
 have HE := zh (And.intro h3 hs3)
 clear h3 hs3
 go_wp2_with fail
 go_end0
 exact ⟨rfl, o3, HE.out.1, HH2.out.2.trans HE.out.2⟩
def startS (s : Wst) (pg : Int) (r : Reg) : Wst := { s with ts := s.ts ++ [⟨pg, 0, 0, 0, r, ⟨0, 0, 0, 0⟩⟩], rd := s.rd ++ [(s.ts.length : Int)], ev := s.ev ++ [⟨s.steps, 5, s.ts.length, pg, 0, 0⟩] }
theorem wstart_c {CX : World → (Nat → Prop) → Prop} {w : World} {b : Wp} {o : Nat → Nat} {ps : List (List Ins)} {s : Wst} {pg : Int} {r : Reg} (hx : Ext CX) (h : WW CX w b o ps s) (hl : s.ts.length < 64) (hpg : 0 ≤ pg) (hni : (s.ts.length : Int) ∉ s.rd) (hrl : s.rd.length ≤ 1000) (hev : s.ev.length < 1000) :
  Calls Tryz.prog 68 #[.pointer (some ⟨b.pb, 0, none⟩), .int .i64 pg, regV r] w fun e w' => e = .returned (.tuple #[.int .i64 s.ts.length, .int .i64 0]) ∧ ∃ o', WW CX w' b o' ps (startS s pg r) ∧ Stp w w' (Own o) (Own o') := by
 have HM := zh ((zT w).alloc (.cells #[.int .i64 r.r0, .int .i64 r.r1, .int .i64 r.r2, .int .i64 r.r3, .int .i64 r.r4, .int .i64 r.r5, .int .i64 r.r6, .int .i64 r.r7] 36))
 have HR := zh (Blk.new w 36 #[.int .i64 r.r0, .int .i64 r.r1, .int .i64 r.r2, .int .i64 r.r3, .int .i64 r.r4, .int .i64 r.r5, .int .i64 r.r6, .int .i64 r.r7])
 have HXX := zh hx
 obtain ⟨vp, vc, vl, ve, h⟩ := h
 have HNR := zh (show ¬ o w.heap.size = 3 from fun e => by have := h.lt w.heap.size (by omega); omega)
 have HW := zh (h.made hx HM.out)
 clear h hx
 go_enter Tryz.func68, Tryz.ntmps68
 go_wp2_with fail
 generalize w.alloc (.cells #[.int .i64 r.r0, .int .i64 r.r1, .int .i64 r.r2, .int .i64 r.r3, .int .i64 r.r4, .int .i64 r.r5, .int .i64 r.r6, .int .i64 r.r7] 36) = W at *
 have HQ := zh HW.out.blk
 have HNB := zh (show ¬ o b.pb = 3 from by rw [HW.out.ob]; omega)
 have HWD := zh (HW.out.made HXX.out (zT W).drew)
 have HAD := zh (tabstart_c (r := r) HWD.out.tab hl hpg hni hrl)
 refine wp_region_held_drew (S := fun w' => Blk w' (b.pb) 65 #[vp, .pointer (some ⟨b.pk, 0, none⟩), .pointer (some ⟨b.pt, 0, none⟩), vc, .int .i64 s.made, .pointer (some ⟨b.pm, 0, none⟩), .pointer (some ⟨b.px, 0, none⟩), .pointer (some ⟨b.pd, 0, none⟩), vl, .int .i64 s.steps, ve] ∧ Blk w' (w.heap.size) 36 #[.int .i64 r.r0, .int .i64 r.r1, .int .i64 r.r2, .int .i64 r.r3, .int .i64 r.r4, .int .i64 r.r5, .int .i64 r.r6, .int .i64 r.r7] ∧ Turns (fun k => o k = 3) W w') (by kernel_rfl) ?_ (fun hHeld => ?_)
 ·exact ⟨HQ.out, HR.out, (Turns.refl _ W).drew⟩
 refine tH 0 11 ?_ ?_ ?_;rotate_left
 ·intro w hSw
  go_simp
  try with_reducible rfl
 try simp only [zP]
 refine tH 1 12 ?_ ?_ ?_;rotate_left
 ·intro w hSw
  go_simp
  try with_reducible rfl
 try simp only [zP]
 refine tH 2 13 ?_ ?_ ?_;rotate_left
 ·intro w hSw
  go_simp
  try with_reducible rfl
 try simp only [zP]
 refine tH 3 14 ?_ ?_ ?_;rotate_left
 ·intro w hSw
  have q0_0 := hSw.1.cell 0
  have q0_1 := hSw.1.cell 1
  have q0_2 := hSw.1.cell 2
  have q0_3 := hSw.1.cell 3
  have q0_4 := hSw.1.cell 4
  have q0_5 := hSw.1.cell 5
  have q0_6 := hSw.1.cell 6
  have q0_7 := hSw.1.cell 7
  have q0_8 := hSw.1.cell 8
  have q0_9 := hSw.1.cell 9
  have q0_10 := hSw.1.cell 10
  simp only [zG] at q0_0 q0_1 q0_2 q0_3 q0_4 q0_5 q0_6 q0_7 q0_8 q0_9 q0_10
  go_simp
  try with_reducible rfl
 try simp only [zP]
 refine tH 4 15 ?_ ?_ ?_;rotate_left
 ·intro w hSw
  go_simp
  try with_reducible rfl
 try simp only [zP]
 refine tH 5 16 ?_ ?_ ?_;rotate_left
 ·intro w hSw
  refine exec_load_row (P := Tryz.prog) (x := .tmp 5) ?_ ?_ hSw.2.1 Tryz.underlying36 ?_ Tryz.sizeReg <;> rfl
 try simp only [zP]
 refine zR 6 fun K hK => ?_
 go_simp
 refine HAD.out.mono ?_
 rintro e w2 ⟨rfl, F2, ha2, hs2⟩
 refine hK.out _ _ ?_ (fun hHeld => ?_)
 ·exact ⟨hHeld.1.turns hs2.t HNB.out, hHeld.2.1.turns hs2.t HNR.out, hHeld.2.2.trans hs2.t⟩
 clear hK K
 try simp only [zP]
 refine tH 7 10 ?_ ?_ ?_;rotate_left
 ·intro w hSw
  go_simp
  try with_reducible rfl
 try simp only [zP]
 refine tH 8 18 ?_ ?_ ?_;rotate_left
 ·intro w hSw
  go_simp
  try with_reducible rfl
 try simp only [zP]
 refine tH 9 19 ?_ ?_ ?_;rotate_left
 ·intro w hSw
  go_simp
  try with_reducible rfl
 try simp only [zP]
 refine tH 10 8 ?_ ?_ ?_;rotate_left
 ·intro w hSw
  go_simp
  try with_reducible rfl
 try simp only [zP]
 refine tH 11 9 ?_ ?_ ?_;rotate_left
 ·intro w hSw
  go_simp
  try with_reducible rfl
 try simp only [zP]
 refine wpAnyH_done (by kernel_rfl) ?_ _
 obtain ⟨o2, h3, _, hs3⟩ := HWD.out.stepTab HXX.out ha2 hs2
 have HE := zh (And.intro (show WW CX w2 b o2 ps { s with ts := s.ts ++ [⟨pg, 0, 0, 0, r, ⟨0, 0, 0, 0⟩⟩], rd := s.rd ++ [(s.ts.length : Int)] } from ⟨_, _, _, _, h3⟩) ((Stp.made (F := Own o) (HM.out.trans (zT W).drew)).trans hs3))
 have HTL := zh (wtell_c (kind := 5) (who := (s.ts.length : Int)) (ea := pg) (eb := 0) (ec := 0) HXX.out HE.out.1 hev)
 clear hHeld ha2 hs2 h3 hs3
 go_wp2_with fail
 refine HTL.out.mono ?_
 rintro e w3 ⟨rfl, o3, h4, hs4⟩
 have HE2 := zh (And.intro (show WW CX w3 b o3 ps (startS s pg r) from h4) (HE.out.2.trans hs4))
 clear h4 hs4
 go_wp2_with fail
 go_ret2
 exact ⟨rfl, o3, HE2.out.1, HE2.out.2⟩
structure FirePre (s : Wst) (i : Nat) (wh dt : Int) (ci cp : Nat) (c c' : Chn) (l : List Wk) (ll : List It) : Prop where
 due : ∃ se, s.L = ⟨i, wh, se⟩ :: ll
 wh : wh ≤ s.now
 now : 0 ≤ s.now
 tm : s.tms[i]? = some ⟨1, dt, some cp⟩
 ch : s.chs[ci]? = some (cp, c)
 tl : s.tms.length ≤ 1000
 sq : s.sq < 1000000
 wq : (∃ sg cl, c = ⟨true, sg, cl, true, none, []⟩ ∧ c' = ⟨true, sg, cl, true, some s.now, []⟩ ∧ l = []) ∨ ∃ sg cl v0 x lw, c = ⟨true, sg, cl, true, v0, x :: lw⟩ ∧ c' = ⟨true, sg, cl, true, v0, lw⟩ ∧ lw.length ≤ 1000 ∧ l = [⟨x.task, x.kase, s.now, true, false⟩]
theorem wFire_c {CX : World → (Nat → Prop) → Prop} {w : World} {b : Wp} {o : Nat → Nat} {ps : List (List Ins)} {s : Wst} {i ci cp : Nat} {c c' : Chn} {wh dt : Int} {l : List Wk} {ll : List It} (hx : Ext CX) (h : WW CX w b o ps s) (hp : FirePre s i wh dt ci cp c c' l ll) :
  Calls Tryz.prog 43 #[.pointer (some ⟨b.pm, 0, none⟩), .int .i64 s.now] w fun e w' => ∃ a, e = .returned (.tuple #[.agg #[.int .i64 i, .int .i64 1, .int .i64 wh, .int .i64 s.now, .int .i64 dt, .slice a l.length l.length, .bool true], .bool true]) ∧ ∃ o', WW CX w' b o' ps { s with L := ll, chs := s.chs.set ci (cp, c') } ∧ Stp w w' (Own o) (Own o') ∧ RowIn wkC 5 w' a l.length l ∧ ∀ b' off, a = some ⟨b', off, none⟩ → ¬ Own o' b' ∧ b' < w'.heap.size ∧ w.heap.size ≤ b' := by
 obtain ⟨vp, vc, vl, ve, h⟩ := h
 obtain ⟨se, hL⟩ := hp.due
 have hT := h.tms
 rw [hL] at hT
 have hC := h.chn cp c (List.mem_of_getElem? hp.ch)
 have hdis : ∀ k, o k = 16 + cp → ¬ o k = 4 := fun k hk => by omega
 rcases hp.wq with ⟨sg, cl, rfl, rfl, rfl⟩ | ⟨sg, cl, v0, x, lw, rfl, rfl, hlw, rfl⟩
 ·refine (tsfire_0 (L := ll) hT hp.tm hC hdis hp.tl hp.sq hp.now hp.wh).mono ?_
  rintro e w1 ⟨rfl, F', hT', hC', ht, hf, hd⟩
  obtain ⟨o', h1, _, _, hs, _⟩ := h.stepTC hx hp.ch hT' hC' ht hf (fun k hk => .inl hk) hd
  exact ⟨none, rfl, o', ⟨_, _, _, _, h1⟩, hs, ⟨rfl, .inl (Nat.le_refl _)⟩, fun b' off e => by cases e⟩
 ·refine (tsfire_w (L := ll) hT hp.tm hC hdis hlw hp.tl hp.sq hp.now hp.wh).mono ?_
  rintro e w1 ⟨a, F', Fc', rfl, hrow, hT', hC', ht, hf, hf2, hd⟩
  obtain ⟨o', h1, _, _, hs, hn⟩ := h.stepTC hx hp.ch hT' hC' ht hf hf2 hd
  refine ⟨a, rfl, o', ⟨_, _, _, _, h1⟩, hs, hrow.1, fun b' off e => ⟨fun h0 => ?_, ?_, (hrow.2 b' off e).1⟩⟩
  ·obtain ⟨hb, hnb⟩ := hrow.2 b' off e
   rcases hn b' h0 with h2 | h2 | h2
   ·exact hnb (.inl h2)
   ·exact hnb (.inr h2)
   ·have := h.lt b' h2; omega
  ·rcases hrow.1.2 with h5 | ⟨rb, off2, e2, hrb, _⟩
   ·simp at h5
   ·rw [e2] at e
    cases e
    exact hrb
theorem wFire_none {CX : World → (Nat → Prop) → Prop} {w : World} {b : Wp} {o : Nat → Nat} {ps : List (List Ins)} {s : Wst} (h : WW CX w b o ps s) (hn : ∀ x, s.L[0]? = some x → s.now < 0 ∨ s.now < x.when) :
  Calls Tryz.prog 43 #[.pointer (some ⟨b.pm, 0, none⟩), .int .i64 s.now] w fun e w' => e = .returned (.tuple #[.agg #[.int .i64 0, .int .i64 0, .int .i64 0, .int .i64 0, .int .i64 0, .slice none 0 0, .bool false], .bool false]) ∧ Made w w' := by
 obtain ⟨vp, vc, vl, ve, h⟩ := h
 exact tsfire_none h.tms hn
inductive Fires : Nat → Wst → Wst → Prop
 | done (s : Wst) (h : ∀ x, s.L[0]? = some x → s.now < 0 ∨ s.now < x.when) : Fires 0 s s
 | next {n : Nat} {s s2 : Wst} (i : Nat) (wh dt : Int) (ci cp : Nat) (c c' : Chn) (l : List Wk) (ll : List It) (h : FirePre s i wh dt ci cp c c' l ll) (hl : l.length ≤ 1000) (hc : s.chs.length ≤ 1000) (hev : s.ev.length < 1000) (hnd : s.nd < 1000000) (hok : WakesOK (fireB { s with L := ll, chs := s.chs.set ci (cp, c') } i wh) l) (k : Fires n (wakesS (fireB { s with L := ll, chs := s.chs.set ci (cp, c') } i wh) l) s2) : Fires (n + 1) s s2
def FSt (CX : World → (Nat → Prop) → Prop) (b : Wp) (ps : List (List Ins)) (s2 : Wst) (n lo : Nat) (w' : World) (o' : Nat → Nat) (fc : List Value) (ok : Bool) : Prop :=
 (ok = false ∧ n = 0 ∧ WW CX w' b o' ps s2) ∨
 (ok = true ∧ ∃ (m : Nat) (sm : Wst) (i : Nat) (wh dt : Int) (ci cp : Nat) (c c' : Chn) (l : List Wk) (ll : List It) (a : Option Addr), n = m + 1 ∧ FirePre sm i wh dt ci cp c c' l ll ∧ l.length ≤ 1000 ∧ sm.chs.length ≤ 1000 ∧ sm.ev.length < 1000 ∧ sm.nd < 1000000 ∧ WakesOK (fireB { sm with L := ll, chs := sm.chs.set ci (cp, c') } i wh) l ∧ Fires m (wakesS (fireB { sm with L := ll, chs := sm.chs.set ci (cp, c') } i wh) l) s2 ∧ fc = [.int .i64 i, .int .i64 1, .int .i64 wh, .int .i64 sm.now, .int .i64 dt, .slice a l.length l.length, .bool true] ∧ WW CX w' b o' ps { sm with L := ll, chs := sm.chs.set ci (cp, c') } ∧ RowIn wkC 5 w' a l.length l ∧ ∀ b' off, a = some ⟨b', off, none⟩ → ¬ Own o' b' ∧ b' < w'.heap.size ∧ lo ≤ b')
theorem WW.turns {CX : World → (Nat → Prop) → Prop} {w w' : World} {b : Wp} {o : Nat → Nat} {ps : List (List Ins)} {s : Wst} {S : Nat → Prop} (hx : Ext CX) (h : WW CX w b o ps s) (ht : Turns S w w') (hn : ∀ k, o k ≠ 0 → ¬ S k) : WW CX w' b o ps s := by
 obtain ⟨vp, vc, vl, ve, h⟩ := h
 exact ⟨vp, vc, vl, ve, h.turns hx ht hn⟩
theorem FSt.turns {CX : World → (Nat → Prop) → Prop} {w w' : World} {b : Wp} {o : Nat → Nat} {ps : List (List Ins)} {s2 : Wst} {n lo : Nat} {fc : List Value} {ok : Bool} {S : Nat → Prop} (hx : Ext CX) (h : FSt CX b ps s2 n lo w o fc ok) (ht : Turns S w w') (hn : ∀ k, o k ≠ 0 → ¬ S k) (hr : ∀ k, lo ≤ k → k < w.heap.size → ¬ S k) : FSt CX b ps s2 n lo w' o fc ok := by
 rcases h with ⟨h1, h2, h3⟩ | ⟨h1, m, sm, i, wh, dt, ci, cp, c, c', l, ll, a, e1, e2, e3, e4, e5, e6, e7, e8, e9, e10, e11, e12⟩
 ·exact .inl ⟨h1, h2, h3.turns hx ht hn⟩
 ·exact .inr ⟨h1, m, sm, i, wh, dt, ci, cp, c, c', l, ll, a, e1, e2, e3, e4, e5, e6, e7, e8, e9, e10.turns hx ht hn, e11.turns ht (fun b' off e => hr b' (e12 b' off e).2.2 (e12 b' off e).2.1), fun b' off e => ⟨(e12 b' off e).1, Nat.lt_of_lt_of_le (e12 b' off e).2.1 ht.size, (e12 b' off e).2.2⟩⟩
theorem wFire_any {CX : World → (Nat → Prop) → Prop} {w : World} {b : Wp} {o : Nat → Nat} {ps : List (List Ins)} {s : Wst} {n : Nat} {s2 : Wst} (hx : Ext CX) (h : WW CX w b o ps s) (hf : Fires n s s2) :
  Calls Tryz.prog 43 #[.pointer (some ⟨b.pm, 0, none⟩), .int .i64 s.now] w fun e w' => ∃ fc ok, e = .returned (.tuple #[.agg fc.toArray, .bool ok]) ∧ fc.length = 7 ∧ (∀ u ∈ fc, u.oneCell' = true) ∧ ∃ o', FSt CX b ps s2 n w.heap.size w' o' fc ok ∧ Stp w w' (Own o) (Own o') := by
 cases hf with
 | done _ hn =>
  refine (wFire_none h hn).mono ?_
  rintro e w1 ⟨rfl, hm⟩
  refine ⟨[.int .i64 0, .int .i64 0, .int .i64 0, .int .i64 0, .int .i64 0, .slice none 0 0, .bool false], false, rfl, rfl, ?_, o, .inl ⟨rfl, rfl, h.made hx hm⟩, Stp.made hm⟩
  intro u hu
  simp only [List.mem_cons, List.not_mem_nil, or_false] at hu
  rcases hu with rfl | rfl | rfl | rfl | rfl | rfl | rfl <;> rfl
 | next i wh dt ci cp c c' l ll hp hl hc hev hnd hok k =>
  refine (wFire_c hx h hp).mono ?_
  rintro e w1 ⟨a, rfl, o', h1, hs, hr, hu⟩
  refine ⟨[.int .i64 i, .int .i64 1, .int .i64 wh, .int .i64 s.now, .int .i64 dt, .slice a l.length l.length, .bool true], true, rfl, rfl, ?_, o', .inr ⟨rfl, _, s, i, wh, dt, ci, cp, c, c', l, ll, a, rfl, hp, hl, hc, hev, hnd, hok, k, rfl, h1, hr, hu⟩, hs⟩
  intro u hu
  simp only [List.mem_cons, List.not_mem_nil, or_false] at hu
  rcases hu with rfl | rfl | rfl | rfl | rfl | rfl | rfl <;> rfl
end Go.Proofs.YtjnkphhlkoapbaaGreat
