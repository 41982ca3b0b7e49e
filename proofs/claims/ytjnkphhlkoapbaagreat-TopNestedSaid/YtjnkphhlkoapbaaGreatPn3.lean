/-
  Walks and laws under LawTopNested, part 3.
-/
import Derived.Deep.DeepCutAuto
import Derived.Deep.CutBlock
import Derived.Deep.RegionLaw
import Derived.Handy
import Derived.Carry
import Derived.Laws.ResultCell
import Derived.Test.YtjnkphhlkoapbaaGreatPn2
set_option linter.unusedVariables false
set_option linter.unusedSimpArgs false
set_option maxRecDepth 100000
set_option maxHeartbeats 16000000
namespace Go.Proofs.YtjnkphhlkoapbaaGreat
open Go.RowKit
theorem Lab.stay {w w' : World} {lb lb' : Nat → Nat} {F F' : Nat → Prop} (h : Lab w lb F) (h' : Lab w' lb' F') (hs : Stp w w' F F') {k : Nat} (hk : k < w.heap.size) (h0 : lb k = 0) : lb' k = 0 := by
 by_cases e : lb' k = 0
 ·exact e
 ·rcases hs.f k ((h'.on k).2 e) with h1 | h1
  ·exact absurd h0 ((h.on k).1 h1)
  ·omega
theorem tabwake_no {w : World} {q i j k : Nat} {F : Nat → Prop} {ts : List Tsk} {rd : List Int} {pg pc how ia ks v : Int} {r : Reg} (h : TabAt w q F ts rd) (hx : ts[i]? = some ⟨pg, pc, 1, how, r, ⟨11, ia, j, k⟩⟩) (hl : ts.length ≤ 64) (hj : j < 8) (hk : k < 8) (hpc : 0 ≤ pc ∧ pc ≤ 1000) (hni : (i : Int) ∉ rd) (hrl : rd.length ≤ 1000) :
  Calls Tryz.prog 116 #[.pointer (some ⟨q, 0, none⟩), .agg #[.int .i64 i, .int .i64 ks, .int .i64 v, .bool false, .bool false]] w fun e w' => e = .returned (.int .i64 0) ∧ ∃ F', TabAt w' q F' (ts.set i ⟨pg, pc + 1, 0, how, ((r.set j v).set k 0), ⟨0, 0, 0, 0⟩⟩) (rd ++ [(i : Int)]) ∧ Stp w w' F F' := by
 have hilt := (List.getElem?_eq_some_iff.1 hx).1
 obtain ⟨hpc1, hpc2⟩ := hpc
 have HM := zh ((zT w).alloc (.cells #[.int .i64 i, .int .i64 ks, .int .i64 v, .bool false, .bool false] 207))
 have HK := zh (Blk.new w 207 #[.int .i64 i, .int .i64 ks, .int .i64 v, .bool false, .bool false])
 have HA := zh (tabis_parked (h.made HM.out) hx hl rfl)
 have HT := zh h
 have HNI := zh hni
 clear h hx hni
 go_enter Tryz.func116, Tryz.ntmps116
 go_wp2_with fail
 refine HA.out.mono ?_
 rintro e w1 ⟨rfl, hm1⟩
 have HM1 := zh hm1
 have hlt : w.heap.size < w1.heap.size := (HK.out.turns hm1 (fun h => h)).lt
 clear hm1
 go_wp2_with (first
  | (refine wpList_store_blk (o := ⟨none, .store 38 (.tmp 5) (.tmp 12), _, _, _, _⟩) rfl _ _ _ rfl rfl _ rfl (tskC ⟨pg, pc, 1, how, r, ⟨11, ia, j, k⟩⟩) ([.int .i64 0, .int .i64 0, .int .i64 0, .int .i64 0, .int .i64 0, .int .i64 0, .int .i64 0, .int .i64 0, .int .i64 0, .int .i64 0, .int .i64 0, .int .i64 0, .int .i64 0, .int .i64 0, .int .i64 0, .int .i64 0, .slice none 0 0, .bool false]) 38 rfl (Blk.new _ _ _) rfl (tskC_one ⟨pg, pc, 1, how, r, ⟨11, ia, j, k⟩⟩) Tryz.sizeTsk ?_; intro w2 hb2 ht2; have HB2 := zh hb2; have HT2 := zh ht2; have HK2 := HK.out.turns ((HM1.out.alloc (.cells tskZ 38)).then HT2.out (S := fun _ => False) (fun k hk e => by have := HM1.out.size; omega)) (fun h => h); have i0 := HK2.cell 0; have i1 := HK2.cell 1; have i2 := HK2.cell 2; have i3 := HK2.cell 3; have i4 := HK2.cell 4; simp only [zG] at i0 i1 i2 i3 i4; have HK2 := zh HK2; clear hb2 ht2)
  | fail)
 refine (told_no HB2.out hj hk).mono ?_
 rintro e w3 ⟨rfl, hb3, ht3⟩
 have HB3 := zh hb3
 have HK3 := zh (HK2.out.turns ht3 (fun e => by omega))
 have HM3 := zh (show Made w w3 from (HM.out.trans ((HM1.out.alloc _).then HT2.out (fun k hk e => by have := HM1.out.size; omega))).then ht3 (fun k hk e => by omega))
 have b1 := hb3.cell 1
 have b2 := hb3.cell 2
 have fb1 := hb3.free 1
 have fb2 := hb3.free 2
 simp only [zG] at b1 b2
 clear hb3 ht3
 go_upto_region 9 with fail
 obtain ⟨pa, pl, lb, hin, hlab⟩ := HT.out
 have HLB0 := zh hlab
 have hm4 := (HM3.out.then (set1 w3 w1.heap.size 1 (.int .i64 (pc + 1))) (fun k hk e => by omega)).then (set1 _ w1.heap.size 2 (.int .i64 0)) (fun k hk e => by omega)
 have HIN4 := zh (hin.turns hm4 (fun _ _ h => h))
 have HLB4 := zh (hlab.turns hm4)
 have HB4 := (HB3.out.put 1 (.int .i64 (pc + 1))).put 2 (.int .i64 0)
 simp only [List.setIfInBounds_toArray, List.set_cons_zero, List.set_cons_succ] at HB4
 have HB4 := zh HB4
 have HK4 := zh ((HK3.out.far (p := ⟨w1.heap.size, 1, none⟩) (fun e => by simp only at e; omega) (.int .i64 (pc + 1))).far (p := ⟨w1.heap.size, 2, none⟩) (fun e => by simp only at e; omega) (.int .i64 0))
 have HM4 := zh hm4
 clear hin hlab hm4 b1 b2 fb1 fb2
 generalize (w3.setCell ⟨w1.heap.size, 1, none⟩ (.int .i64 (pc + 1))).setCell ⟨w1.heap.size, 2, none⟩ (.int .i64 0) = V at *
 have HQ4 := zh HIN4.out.blk
 have HAD := zh (rdadd_c (w := V.drew) (i : Int) (HIN4.out.rl.made (zT V).drew) HNI.out (by omega) hrl)
 have hlq := HIN4.out.lq
 have HNQ3 := zh (show ¬ lb q = 3 from by rw [hlq]; omega)
 have HNK3 := zh (show ¬ lb w.heap.size = 3 from fun e => by have := HLB0.out.lt w.heap.size (by omega); omega)
 have HNQ2 := zh (show ¬ lb q = 2 from by rw [hlq]; omega)
 have HNK2 := zh (show ¬ lb w.heap.size = 2 from fun e => by have := HLB0.out.lt w.heap.size (by omega); omega)
 have HNB3 := zh (show ¬ lb w1.heap.size = 3 from fun e => by have := HLB0.out.lt w1.heap.size (by omega); omega)
 have HNB2 := zh (show ¬ lb w1.heap.size = 2 from fun e => by have := HLB0.out.lt w1.heap.size (by omega); omega)
 have HLQ := zh hlq
 clear hlq
 refine wp_region_held_drew (S := fun w' => Blk w' (q) 87 #[.pointer (some ⟨pa, 0, none⟩), .pointer (some ⟨pl, 0, none⟩)] ∧ Blk w' (w.heap.size) 207 #[.int .i64 i, .int .i64 ks, .int .i64 v, .bool false, .bool false] ∧ Turns (fun k => lb k = 3) V w') (by kernel_rfl) ?_ (fun hHeld => ?_)
 ·exact ⟨HQ4.out, HK4.out, (Turns.refl _ V).drew⟩
 refine tH 0 28 ?_ ?_ ?_;rotate_left
 ·intro w hSw
  go_simp
  try with_reducible rfl
 try simp only [zP]
 refine tH 1 29 ?_ ?_ ?_;rotate_left
 ·intro w hSw
  go_simp
  try with_reducible rfl
 try simp only [zP]
 refine tH 2 30 ?_ ?_ ?_;rotate_left
 ·intro w hSw
  go_simp
  try with_reducible rfl
 try simp only [zP]
 refine tH 3 31 ?_ ?_ ?_;rotate_left
 ·intro w hSw
  have q0_0 := hSw.1.cell 0
  have q0_1 := hSw.1.cell 1
  have q1_0 := hSw.2.1.cell 0
  have q1_1 := hSw.2.1.cell 1
  have q1_2 := hSw.2.1.cell 2
  have q1_3 := hSw.2.1.cell 3
  have q1_4 := hSw.2.1.cell 4
  simp only [zG] at q0_0 q0_1 q1_0 q1_1 q1_2 q1_3 q1_4
  go_simp
  try with_reducible rfl
 try simp only [zP]
 refine tH 4 32 ?_ ?_ ?_;rotate_left
 ·intro w hSw
  go_simp
  try with_reducible rfl
 try simp only [zP]
 refine tH 5 33 ?_ ?_ ?_;rotate_left
 ·intro w hSw
  have q0_0 := hSw.1.cell 0
  have q0_1 := hSw.1.cell 1
  have q1_0 := hSw.2.1.cell 0
  have q1_1 := hSw.2.1.cell 1
  have q1_2 := hSw.2.1.cell 2
  have q1_3 := hSw.2.1.cell 3
  have q1_4 := hSw.2.1.cell 4
  simp only [zG] at q0_0 q0_1 q1_0 q1_1 q1_2 q1_3 q1_4
  go_simp
  try with_reducible rfl
 try simp only [zP]
 refine zR 6 fun K hK => ?_
 go_simp
 refine HAD.out.mono ?_
 rintro e w5 ⟨rfl, F5, hr5, hs5⟩
 refine hK.out _ _ ?_ (fun hHeld => ?_)
 ·exact ⟨hHeld.1.turns hs5.t HNQ3.out, hHeld.2.1.turns hs5.t HNK3.out, hHeld.2.2.trans hs5.t⟩
 clear hK K
 try simp only [zP]
 refine wpAnyH_done (by kernel_rfl) ?_ _
 have HB5 := HB4.out.drew.turns hs5.t HNB3.out
 obtain ⟨lb5, FF5, hin5, hlb5, hst5⟩ := (HIN4.out.turns (zT V).drew (fun _ _ h => h)).setRd (HLB4.out.turns (zT V).drew) hr5 hs5
 have HB5 := zh HB5
 have HK5 := zh hHeld.2.1
 have HS5 := zh (((Stp.made (F := F) HM4.out).trans (Stp.made (zT V).drew)).trans hst5)
 have HIN5 := zh hin5
 have HLB5 := zh hlb5
 have hz1 : lb w.heap.size = 0 := by
  by_cases e : lb w.heap.size = 0
  ·exact e
  ·have := HLB0.out.lt _ e; omega
 have hz2 : lb w1.heap.size = 0 := by
  by_cases e : lb w1.heap.size = 0
  ·exact e
  ·have := HLB0.out.lt _ e; omega
 have HZ5 := zh (show lb5 w.heap.size = 0 ∧ lb5 w1.heap.size = 0 from ⟨(HLB4.out.turns (zT V).drew).stay hlb5 hst5 (by have := HK4.out.lt; exact this) hz1, (HLB4.out.turns (zT V).drew).stay hlb5 hst5 (by have := HB4.out.lt; exact this) hz2⟩)
 clear hz1 hz2
 have HN5 := zh (show ¬ lb5 w.heap.size = 2 ∧ ¬ lb5 w1.heap.size = 2 ∧ ¬ lb5 q = 2 from ⟨fun e => by rw [HZ5.out.1] at e; omega, fun e => by rw [HZ5.out.2] at e; omega, by rw [hin5.lq]; omega⟩)
 have HSZ5 := zh (show w1.heap.size < w5.heap.size from by have h1 := (HB5.out).lt; omega)
 clear hHeld hr5 hs5 hin5 hlb5 hst5
 go_wp2_with (first
  | (refine wpList_store_mid (o := ⟨none, .store 25 (.tmp 36) (.tmp 35), _, _, _, _⟩) rfl rfl _ _ _ rfl rfl (insC ⟨0, 0, 0, 0⟩) [.int .i64 pg, .int .i64 (pc + 1), .int .i64 0, .int .i64 how, .int .i64 ((r.set j v).set k 0).r0, .int .i64 ((r.set j v).set k 0).r1, .int .i64 ((r.set j v).set k 0).r2, .int .i64 ((r.set j v).set k 0).r3, .int .i64 ((r.set j v).set k 0).r4, .int .i64 ((r.set j v).set k 0).r5, .int .i64 ((r.set j v).set k 0).r6, .int .i64 ((r.set j v).set k 0).r7] (insC ⟨11, ia, j, k⟩) [] (t := 38) rfl (show Blk w5 w1.heap.size _ _ from by simpa [insC] using HB5.out) rfl rfl (insC_one _) Tryz.sizeIns ?_; intro w6 hb6 ht6; have HB60 := zh hb6; have HT60 := zh ht6; clear hb6 ht6)
  | fail)
 have HB6 : Hid (Blk w6 w1.heap.size 38 (tskA ⟨pg, pc + 1, 0, how, ((r.set j v).set k 0), ⟨0, 0, 0, 0⟩⟩)) := zh (by simpa [insC] using HB60.out)
 have HS6 : Hid (Stp w w6 F FF5) := zh ⟨HS5.out.t.then HT60.out (fun k hk e => by omega), HS5.out.f⟩
 have HIN6 := zh (HIN5.out.turns HT60.out (fun k hk e => by rw [e] at hk; exact hk HZ5.out.2))
 have HLB6 := zh (HLB5.out.turns HT60.out)
 have HK6 := zh (HK5.out.turns HT60.out (fun e => by omega))
 have HAR := zh (arset_c (w := w6.drew) ⟨pg, pc + 1, 0, how, ((r.set j v).set k 0), ⟨0, 0, 0, 0⟩⟩ (HIN6.out.ar.made (zT w6).drew) hilt hl)
 have HQ6 := zh HIN6.out.blk
 refine wp_region_held_drew (S := fun w' => Blk w' (q) 87 #[.pointer (some ⟨pa, 0, none⟩), .pointer (some ⟨pl, 0, none⟩)] ∧ Blk w' (w1.heap.size) 38 (tskA ⟨pg, pc + 1, 0, how, ((r.set j v).set k 0), ⟨0, 0, 0, 0⟩⟩) ∧ Blk w' (w.heap.size) 207 #[.int .i64 i, .int .i64 ks, .int .i64 v, .bool false, .bool false] ∧ Turns (fun k => lb5 k = 2) w6 w') (by kernel_rfl) ?_ (fun hHeld => ?_)
 ·exact ⟨HQ6.out, HB6.out, HK6.out, (Turns.refl _ w6).drew⟩
 refine tH 0 37 ?_ ?_ ?_;rotate_left
 ·intro w hSw
  go_simp
  try with_reducible rfl
 try simp only [zP]
 refine tH 1 38 ?_ ?_ ?_;rotate_left
 ·intro w hSw
  go_simp
  try with_reducible rfl
 try simp only [zP]
 refine tH 2 39 ?_ ?_ ?_;rotate_left
 ·intro w hSw
  go_simp
  try with_reducible rfl
 try simp only [zP]
 refine tH 3 40 ?_ ?_ ?_;rotate_left
 ·intro w hSw
  have q0_0 := hSw.1.cell 0
  have q0_1 := hSw.1.cell 1
  have q2_0 := hSw.2.2.1.cell 0
  have q2_1 := hSw.2.2.1.cell 1
  have q2_2 := hSw.2.2.1.cell 2
  have q2_3 := hSw.2.2.1.cell 3
  have q2_4 := hSw.2.2.1.cell 4
  simp only [zG] at q0_0 q0_1 q2_0 q2_1 q2_2 q2_3 q2_4
  go_simp
  try with_reducible rfl
 try simp only [zP]
 refine tH 4 41 ?_ ?_ ?_;rotate_left
 ·intro w hSw
  go_simp
  try with_reducible rfl
 try simp only [zP]
 refine tH 5 42 ?_ ?_ ?_;rotate_left
 ·intro w hSw
  have q0_0 := hSw.1.cell 0
  have q0_1 := hSw.1.cell 1
  have q2_0 := hSw.2.2.1.cell 0
  have q2_1 := hSw.2.2.1.cell 1
  have q2_2 := hSw.2.2.1.cell 2
  have q2_3 := hSw.2.2.1.cell 3
  have q2_4 := hSw.2.2.1.cell 4
  simp only [zG] at q0_0 q0_1 q2_0 q2_1 q2_2 q2_3 q2_4
  go_simp
  try with_reducible rfl
 try simp only [zP]
 refine tH 6 43 ?_ ?_ ?_;rotate_left
 ·intro w hSw
  refine exec_load_row (P := Tryz.prog) (x := .tmp 5) ?_ ?_ hSw.2.1 Tryz.underlying38 ?_ Tryz.sizeTsk <;> rfl
 try simp only [zP]
 refine zR 7 fun K hK => ?_
 go_simp
 refine HAR.out.mono ?_
 rintro e w7 ⟨rfl, ha7, ht7⟩
 refine hK.out _ _ ?_ (fun hHeld => ?_)
 ·exact ⟨hHeld.1.turns ht7 HN5.out.2.2, hHeld.2.1.turns ht7 HN5.out.2.1, hHeld.2.2.1.turns ht7 HN5.out.1, hHeld.2.2.2.trans ht7⟩
 clear hK K
 try simp only [zP]
 refine wpAnyH_done (by kernel_rfl) ?_ _
 obtain ⟨lb7, F7, hin7, hlb7, hst7⟩ := (HIN6.out.turns (zT w6).drew (fun _ _ h => h)).setAr (HLB6.out.turns (zT w6).drew) ha7 (Stp.same ht7)
 have HE := zh (And.intro hin7 (And.intro hlb7 ((HS6.out.trans (Stp.made (zT w6).drew)).trans hst7)))
 clear hHeld ha7 ht7 hin7 hlb7 hst7
 go_wp2_with fail
 go_ret
 exact ⟨rfl, F7, ⟨pa, pl, lb7, HE.out.1, HE.out.2.1⟩, HE.out.2.2⟩
theorem tabwake_yes {w : World} {q i j k : Nat} {F : Nat → Prop} {ts : List Tsk} {rd : List Int} {pg pc how ia ks v : Int} {r : Reg} (h : TabAt w q F ts rd) (hx : ts[i]? = some ⟨pg, pc, 1, how, r, ⟨11, ia, j, k⟩⟩) (hl : ts.length ≤ 64) (hj : j < 8) (hk : k < 8) (hpc : 0 ≤ pc ∧ pc ≤ 1000) (hni : (i : Int) ∉ rd) (hrl : rd.length ≤ 1000) :
  Calls Tryz.prog 116 #[.pointer (some ⟨q, 0, none⟩), .agg #[.int .i64 i, .int .i64 ks, .int .i64 v, .bool true, .bool false]] w fun e w' => e = .returned (.int .i64 0) ∧ ∃ F', TabAt w' q F' (ts.set i ⟨pg, pc + 1, 0, how, ((r.set j v).set k 1), ⟨0, 0, 0, 0⟩⟩) (rd ++ [(i : Int)]) ∧ Stp w w' F F' := by
 have hilt := (List.getElem?_eq_some_iff.1 hx).1
 obtain ⟨hpc1, hpc2⟩ := hpc
 have HM := zh ((zT w).alloc (.cells #[.int .i64 i, .int .i64 ks, .int .i64 v, .bool true, .bool false] 207))
 have HK := zh (Blk.new w 207 #[.int .i64 i, .int .i64 ks, .int .i64 v, .bool true, .bool false])
 have HA := zh (tabis_parked (h.made HM.out) hx hl rfl)
 have HT := zh h
 have HNI := zh hni
 clear h hx hni
 go_enter Tryz.func116, Tryz.ntmps116
 go_wp2_with fail
 refine HA.out.mono ?_
 rintro e w1 ⟨rfl, hm1⟩
 have HM1 := zh hm1
 have hlt : w.heap.size < w1.heap.size := (HK.out.turns hm1 (fun h => h)).lt
 clear hm1
 go_wp2_with (first
  | (refine wpList_store_blk (o := ⟨none, .store 38 (.tmp 5) (.tmp 12), _, _, _, _⟩) rfl _ _ _ rfl rfl _ rfl (tskC ⟨pg, pc, 1, how, r, ⟨11, ia, j, k⟩⟩) ([.int .i64 0, .int .i64 0, .int .i64 0, .int .i64 0, .int .i64 0, .int .i64 0, .int .i64 0, .int .i64 0, .int .i64 0, .int .i64 0, .int .i64 0, .int .i64 0, .int .i64 0, .int .i64 0, .int .i64 0, .int .i64 0, .slice none 0 0, .bool false]) 38 rfl (Blk.new _ _ _) rfl (tskC_one ⟨pg, pc, 1, how, r, ⟨11, ia, j, k⟩⟩) Tryz.sizeTsk ?_; intro w2 hb2 ht2; have HB2 := zh hb2; have HT2 := zh ht2; have HK2 := HK.out.turns ((HM1.out.alloc (.cells tskZ 38)).then HT2.out (S := fun _ => False) (fun k hk e => by have := HM1.out.size; omega)) (fun h => h); have i0 := HK2.cell 0; have i1 := HK2.cell 1; have i2 := HK2.cell 2; have i3 := HK2.cell 3; have i4 := HK2.cell 4; simp only [zG] at i0 i1 i2 i3 i4; have HK2 := zh HK2; clear hb2 ht2)
  | fail)
 refine (told_yes HB2.out hj hk).mono ?_
 rintro e w3 ⟨rfl, hb3, ht3⟩
 have HB3 := zh hb3
 have HK3 := zh (HK2.out.turns ht3 (fun e => by omega))
 have HM3 := zh (show Made w w3 from (HM.out.trans ((HM1.out.alloc _).then HT2.out (fun k hk e => by have := HM1.out.size; omega))).then ht3 (fun k hk e => by omega))
 have b1 := hb3.cell 1
 have b2 := hb3.cell 2
 have fb1 := hb3.free 1
 have fb2 := hb3.free 2
 simp only [zG] at b1 b2
 clear hb3 ht3
 go_upto_region 9 with fail
 obtain ⟨pa, pl, lb, hin, hlab⟩ := HT.out
 have HLB0 := zh hlab
 have hm4 := (HM3.out.then (set1 w3 w1.heap.size 1 (.int .i64 (pc + 1))) (fun k hk e => by omega)).then (set1 _ w1.heap.size 2 (.int .i64 0)) (fun k hk e => by omega)
 have HIN4 := zh (hin.turns hm4 (fun _ _ h => h))
 have HLB4 := zh (hlab.turns hm4)
 have HB4 := (HB3.out.put 1 (.int .i64 (pc + 1))).put 2 (.int .i64 0)
 simp only [List.setIfInBounds_toArray, List.set_cons_zero, List.set_cons_succ] at HB4
 have HB4 := zh HB4
 have HK4 := zh ((HK3.out.far (p := ⟨w1.heap.size, 1, none⟩) (fun e => by simp only at e; omega) (.int .i64 (pc + 1))).far (p := ⟨w1.heap.size, 2, none⟩) (fun e => by simp only at e; omega) (.int .i64 0))
 have HM4 := zh hm4
 clear hin hlab hm4 b1 b2 fb1 fb2
 generalize (w3.setCell ⟨w1.heap.size, 1, none⟩ (.int .i64 (pc + 1))).setCell ⟨w1.heap.size, 2, none⟩ (.int .i64 0) = V at *
 have HQ4 := zh HIN4.out.blk
 have HAD := zh (rdadd_c (w := V.drew) (i : Int) (HIN4.out.rl.made (zT V).drew) HNI.out (by omega) hrl)
 have hlq := HIN4.out.lq
 have HNQ3 := zh (show ¬ lb q = 3 from by rw [hlq]; omega)
 have HNK3 := zh (show ¬ lb w.heap.size = 3 from fun e => by have := HLB0.out.lt w.heap.size (by omega); omega)
 have HNQ2 := zh (show ¬ lb q = 2 from by rw [hlq]; omega)
 have HNK2 := zh (show ¬ lb w.heap.size = 2 from fun e => by have := HLB0.out.lt w.heap.size (by omega); omega)
 have HNB3 := zh (show ¬ lb w1.heap.size = 3 from fun e => by have := HLB0.out.lt w1.heap.size (by omega); omega)
 have HNB2 := zh (show ¬ lb w1.heap.size = 2 from fun e => by have := HLB0.out.lt w1.heap.size (by omega); omega)
 have HLQ := zh hlq
 clear hlq
 refine wp_region_held_drew (S := fun w' => Blk w' (q) 87 #[.pointer (some ⟨pa, 0, none⟩), .pointer (some ⟨pl, 0, none⟩)] ∧ Blk w' (w.heap.size) 207 #[.int .i64 i, .int .i64 ks, .int .i64 v, .bool true, .bool false] ∧ Turns (fun k => lb k = 3) V w') (by kernel_rfl) ?_ (fun hHeld => ?_)
 ·exact ⟨HQ4.out, HK4.out, (Turns.refl _ V).drew⟩
 refine tH 0 28 ?_ ?_ ?_;rotate_left
 ·intro w hSw
  go_simp
  try with_reducible rfl
 try simp only [zP]
 refine tH 1 29 ?_ ?_ ?_;rotate_left
 ·intro w hSw
  go_simp
  try with_reducible rfl
 try simp only [zP]
 refine tH 2 30 ?_ ?_ ?_;rotate_left
 ·intro w hSw
  go_simp
  try with_reducible rfl
 try simp only [zP]
 refine tH 3 31 ?_ ?_ ?_;rotate_left
 ·intro w hSw
  have q0_0 := hSw.1.cell 0
  have q0_1 := hSw.1.cell 1
  have q1_0 := hSw.2.1.cell 0
  have q1_1 := hSw.2.1.cell 1
  have q1_2 := hSw.2.1.cell 2
  have q1_3 := hSw.2.1.cell 3
  have q1_4 := hSw.2.1.cell 4
  simp only [zG] at q0_0 q0_1 q1_0 q1_1 q1_2 q1_3 q1_4
  go_simp
  try with_reducible rfl
 try simp only [zP]
 refine tH 4 32 ?_ ?_ ?_;rotate_left
 ·intro w hSw
  go_simp
  try with_reducible rfl
 try simp only [zP]
 refine tH 5 33 ?_ ?_ ?_;rotate_left
 ·intro w hSw
  have q0_0 := hSw.1.cell 0
  have q0_1 := hSw.1.cell 1
  have q1_0 := hSw.2.1.cell 0
  have q1_1 := hSw.2.1.cell 1
  have q1_2 := hSw.2.1.cell 2
  have q1_3 := hSw.2.1.cell 3
  have q1_4 := hSw.2.1.cell 4
  simp only [zG] at q0_0 q0_1 q1_0 q1_1 q1_2 q1_3 q1_4
  go_simp
  try with_reducible rfl
 try simp only [zP]
 refine zR 6 fun K hK => ?_
 go_simp
 refine HAD.out.mono ?_
 rintro e w5 ⟨rfl, F5, hr5, hs5⟩
 refine hK.out _ _ ?_ (fun hHeld => ?_)
 ·exact ⟨hHeld.1.turns hs5.t HNQ3.out, hHeld.2.1.turns hs5.t HNK3.out, hHeld.2.2.trans hs5.t⟩
 clear hK K
 try simp only [zP]
 refine wpAnyH_done (by kernel_rfl) ?_ _
 have HB5 := HB4.out.drew.turns hs5.t HNB3.out
 obtain ⟨lb5, FF5, hin5, hlb5, hst5⟩ := (HIN4.out.turns (zT V).drew (fun _ _ h => h)).setRd (HLB4.out.turns (zT V).drew) hr5 hs5
 have HB5 := zh HB5
 have HK5 := zh hHeld.2.1
 have HS5 := zh (((Stp.made (F := F) HM4.out).trans (Stp.made (zT V).drew)).trans hst5)
 have HIN5 := zh hin5
 have HLB5 := zh hlb5
 have hz1 : lb w.heap.size = 0 := by
  by_cases e : lb w.heap.size = 0
  ·exact e
  ·have := HLB0.out.lt _ e; omega
 have hz2 : lb w1.heap.size = 0 := by
  by_cases e : lb w1.heap.size = 0
  ·exact e
  ·have := HLB0.out.lt _ e; omega
 have HZ5 := zh (show lb5 w.heap.size = 0 ∧ lb5 w1.heap.size = 0 from ⟨(HLB4.out.turns (zT V).drew).stay hlb5 hst5 (by have := HK4.out.lt; exact this) hz1, (HLB4.out.turns (zT V).drew).stay hlb5 hst5 (by have := HB4.out.lt; exact this) hz2⟩)
 clear hz1 hz2
 have HN5 := zh (show ¬ lb5 w.heap.size = 2 ∧ ¬ lb5 w1.heap.size = 2 ∧ ¬ lb5 q = 2 from ⟨fun e => by rw [HZ5.out.1] at e; omega, fun e => by rw [HZ5.out.2] at e; omega, by rw [hin5.lq]; omega⟩)
 have HSZ5 := zh (show w1.heap.size < w5.heap.size from by have h1 := (HB5.out).lt; omega)
 clear hHeld hr5 hs5 hin5 hlb5 hst5
 go_wp2_with (first
  | (refine wpList_store_mid (o := ⟨none, .store 25 (.tmp 36) (.tmp 35), _, _, _, _⟩) rfl rfl _ _ _ rfl rfl (insC ⟨0, 0, 0, 0⟩) [.int .i64 pg, .int .i64 (pc + 1), .int .i64 0, .int .i64 how, .int .i64 ((r.set j v).set k 1).r0, .int .i64 ((r.set j v).set k 1).r1, .int .i64 ((r.set j v).set k 1).r2, .int .i64 ((r.set j v).set k 1).r3, .int .i64 ((r.set j v).set k 1).r4, .int .i64 ((r.set j v).set k 1).r5, .int .i64 ((r.set j v).set k 1).r6, .int .i64 ((r.set j v).set k 1).r7] (insC ⟨11, ia, j, k⟩) [] (t := 38) rfl (show Blk w5 w1.heap.size _ _ from by simpa [insC] using HB5.out) rfl rfl (insC_one _) Tryz.sizeIns ?_; intro w6 hb6 ht6; have HB60 := zh hb6; have HT60 := zh ht6; clear hb6 ht6)
  | fail)
 have HB6 : Hid (Blk w6 w1.heap.size 38 (tskA ⟨pg, pc + 1, 0, how, ((r.set j v).set k 1), ⟨0, 0, 0, 0⟩⟩)) := zh (by simpa [insC] using HB60.out)
 have HS6 : Hid (Stp w w6 F FF5) := zh ⟨HS5.out.t.then HT60.out (fun k hk e => by omega), HS5.out.f⟩
 have HIN6 := zh (HIN5.out.turns HT60.out (fun k hk e => by rw [e] at hk; exact hk HZ5.out.2))
 have HLB6 := zh (HLB5.out.turns HT60.out)
 have HK6 := zh (HK5.out.turns HT60.out (fun e => by omega))
 have HAR := zh (arset_c (w := w6.drew) ⟨pg, pc + 1, 0, how, ((r.set j v).set k 1), ⟨0, 0, 0, 0⟩⟩ (HIN6.out.ar.made (zT w6).drew) hilt hl)
 have HQ6 := zh HIN6.out.blk
 refine wp_region_held_drew (S := fun w' => Blk w' (q) 87 #[.pointer (some ⟨pa, 0, none⟩), .pointer (some ⟨pl, 0, none⟩)] ∧ Blk w' (w1.heap.size) 38 (tskA ⟨pg, pc + 1, 0, how, ((r.set j v).set k 1), ⟨0, 0, 0, 0⟩⟩) ∧ Blk w' (w.heap.size) 207 #[.int .i64 i, .int .i64 ks, .int .i64 v, .bool true, .bool false] ∧ Turns (fun k => lb5 k = 2) w6 w') (by kernel_rfl) ?_ (fun hHeld => ?_)
 ·exact ⟨HQ6.out, HB6.out, HK6.out, (Turns.refl _ w6).drew⟩
 refine tH 0 37 ?_ ?_ ?_;rotate_left
 ·intro w hSw
  go_simp
  try with_reducible rfl
 try simp only [zP]
 refine tH 1 38 ?_ ?_ ?_;rotate_left
 ·intro w hSw
  go_simp
  try with_reducible rfl
 try simp only [zP]
 refine tH 2 39 ?_ ?_ ?_;rotate_left
 ·intro w hSw
  go_simp
  try with_reducible rfl
 try simp only [zP]
 refine tH 3 40 ?_ ?_ ?_;rotate_left
 ·intro w hSw
  have q0_0 := hSw.1.cell 0
  have q0_1 := hSw.1.cell 1
  have q2_0 := hSw.2.2.1.cell 0
  have q2_1 := hSw.2.2.1.cell 1
  have q2_2 := hSw.2.2.1.cell 2
  have q2_3 := hSw.2.2.1.cell 3
  have q2_4 := hSw.2.2.1.cell 4
  simp only [zG] at q0_0 q0_1 q2_0 q2_1 q2_2 q2_3 q2_4
  go_simp
  try with_reducible rfl
 try simp only [zP]
 refine tH 4 41 ?_ ?_ ?_;rotate_left
 ·intro w hSw
  go_simp
  try with_reducible rfl
 try simp only [zP]
 refine tH 5 42 ?_ ?_ ?_;rotate_left
 ·intro w hSw
  have q0_0 := hSw.1.cell 0
  have q0_1 := hSw.1.cell 1
  have q2_0 := hSw.2.2.1.cell 0
  have q2_1 := hSw.2.2.1.cell 1
  have q2_2 := hSw.2.2.1.cell 2
  have q2_3 := hSw.2.2.1.cell 3
  have q2_4 := hSw.2.2.1.cell 4
  simp only [zG] at q0_0 q0_1 q2_0 q2_1 q2_2 q2_3 q2_4
  go_simp
  try with_reducible rfl
 try simp only [zP]
 refine tH 6 43 ?_ ?_ ?_;rotate_left
 ·intro w hSw
  refine exec_load_row (P := Tryz.prog) (x := .tmp 5) ?_ ?_ hSw.2.1 Tryz.underlying38 ?_ Tryz.sizeTsk <;> rfl
 try simp only [zP]
 refine zR 7 fun K hK => ?_
 go_simp
 refine HAR.out.mono ?_
 rintro e w7 ⟨rfl, ha7, ht7⟩
 refine hK.out _ _ ?_ (fun hHeld => ?_)
 ·exact ⟨hHeld.1.turns ht7 HN5.out.2.2, hHeld.2.1.turns ht7 HN5.out.2.1, hHeld.2.2.1.turns ht7 HN5.out.1, hHeld.2.2.2.trans ht7⟩
 clear hK K
 try simp only [zP]
 refine wpAnyH_done (by kernel_rfl) ?_ _
 obtain ⟨lb7, F7, hin7, hlb7, hst7⟩ := (HIN6.out.turns (zT w6).drew (fun _ _ h => h)).setAr (HLB6.out.turns (zT w6).drew) ha7 (Stp.same ht7)
 have HE := zh (And.intro hin7 (And.intro hlb7 ((HS6.out.trans (Stp.made (zT w6).drew)).trans hst7)))
 clear hHeld ha7 ht7 hin7 hlb7 hst7
 go_wp2_with fail
 go_ret
 exact ⟨rfl, F7, ⟨pa, pl, lb7, HE.out.1, HE.out.2.1⟩, HE.out.2.2⟩
theorem tabready_c {w : World} {q : Nat} {F : Nat → Prop} {ts : List Tsk} {rd : List Int} (h : TabAt w q F ts rd) (hrl : rd.length ≤ 1000) :
  Calls Tryz.prog 46 #[.pointer (some ⟨q, 0, none⟩)] w fun e w' => ∃ v', e = .returned v' ∧ Owns encI 3 1 w' v' rd ∧ Made w w' ∧ (∀ k, v'.ownBlock = some k → w.heap.size ≤ k) := by
 obtain ⟨pa, pl, lb, hin, hlab⟩ := h
 have q1 := hin.blk.cell 1
 simp only [zG] at q1
 have H := zh (rdall_c hin.rl (by omega))
 clear hin hlab
 go_enter Tryz.func46, Tryz.ntmps46
 go_wp2_with fail
 refine H.out.mono ?_
 rintro e w1 ⟨v', rfl, h1, h2, h3⟩
 have HH := zh (And.intro h1 (And.intro h2 h3))
 clear h1 h2 h3
 go_wp2_with fail
 go_ret
 exact ⟨v', rfl, HH.out⟩
theorem tabpick_none {w : World} {q : Nat} {F : Nat → Prop} {ts : List Tsk} (n : Int) (h : TabAt w q F ts []) :
  Calls Tryz.prog 47 #[.pointer (some ⟨q, 0, none⟩), .int .i64 n] w fun e w' => e = .returned (.tuple #[.int .i64 0, .bool false]) ∧ w = w' := by
 obtain ⟨pa, pl, lb, hin, hlab⟩ := h
 have q1 := hin.blk.cell 1
 simp only [zG] at q1
 have H := zh (rdpick_none n hin.rl)
 clear hin hlab
 go_enter Tryz.func47, Tryz.ntmps47
 go_wp2_with fail
 refine H.out.mono ?_
 rintro e w1 ⟨rfl, rfl⟩
 go_wp2_with fail
 go_ret2
 exact ⟨rfl, rfl⟩
theorem tabpick_c {w : World} {q j : Nat} {F : Nat → Prop} {ts : List Tsk} {rd : List Int} {x : Int} (n : Int) (h : TabAt w q F ts rd) (hj : pickZ n rd.length = j) (hx : rd[j]? = some x) (hrl : rd.length ≤ 1000) :
  Calls Tryz.prog 47 #[.pointer (some ⟨q, 0, none⟩), .int .i64 n] w fun e w' => e = .returned (.tuple #[.int .i64 x, .bool true]) ∧ Made w w' := by
 obtain ⟨pa, pl, lb, hin, hlab⟩ := h
 have q1 := hin.blk.cell 1
 simp only [zG] at q1
 have H := zh (rdpick_c n hin.rl hj hx hrl)
 clear hin hlab hj hx
 go_enter Tryz.func47, Tryz.ntmps47
 go_wp2_with fail
 refine H.out.mono ?_
 rintro e w1 ⟨rfl, hm⟩
 have HM := zh hm
 clear hm
 go_wp2_with fail
 go_ret2
 exact ⟨rfl, HM.out⟩
theorem tabstart_c {w : World} {q : Nat} {F : Nat → Prop} {ts : List Tsk} {rd : List Int} {pg : Int} {r : Reg} (h : TabAt w q F ts rd) (hl : ts.length < 64) (hpg : 0 ≤ pg) (hni : (ts.length : Int) ∉ rd) (hrl : rd.length ≤ 1000) :
  Calls Tryz.prog 22 #[.pointer (some ⟨q, 0, none⟩), .int .i64 pg, regV r] w fun e w' => e = .returned (.tuple #[.int .i64 ts.length, .int .i64 0]) ∧ ∃ F', TabAt w' q F' (ts ++ [⟨pg, 0, 0, 0, r, ⟨0, 0, 0, 0⟩⟩]) (rd ++ [(ts.length : Int)]) ∧ Stp w w' F F' := by
 have HM := zh ((zT w).alloc (.cells #[.int .i64 r.r0, .int .i64 r.r1, .int .i64 r.r2, .int .i64 r.r3, .int .i64 r.r4, .int .i64 r.r5, .int .i64 r.r6, .int .i64 r.r7] 36))
 have HR := zh (Blk.new w 36 #[.int .i64 r.r0, .int .i64 r.r1, .int .i64 r.r2, .int .i64 r.r3, .int .i64 r.r4, .int .i64 r.r5, .int .i64 r.r6, .int .i64 r.r7])
 obtain ⟨pa, pl, lb, hin, hlab⟩ := h
 have HLB0 := zh hlab
 have HIN := zh (hin.turns HM.out (fun _ _ h => h))
 have HLB := zh (hlab.turns HM.out)
 have HNI := zh hni
 have HNR := zh (show ¬ lb w.heap.size = 2 from fun e => by have := hlab.lt w.heap.size (by omega); omega)
 have HNQ := zh (show ¬ lb q = 2 from by rw [hin.lq]; omega)
 clear hin hlab hni
 go_enter Tryz.func22, Tryz.ntmps22
 go_wp2_with fail
 generalize w.alloc (.cells #[.int .i64 r.r0, .int .i64 r.r1, .int .i64 r.r2, .int .i64 r.r3, .int .i64 r.r4, .int .i64 r.r5, .int .i64 r.r6, .int .i64 r.r7] 36) = W at *
 have HQ := zh HIN.out.blk
 have HAD := zh (aradd_c (w := W.drew) ⟨pg, 0, 0, 0, r, ⟨0, 0, 0, 0⟩⟩ (HIN.out.ar.made (zT W).drew) hl)
 refine wp_region_held_drew (S := fun w' => Blk w' (q) 87 #[.pointer (some ⟨pa, 0, none⟩), .pointer (some ⟨pl, 0, none⟩)] ∧ Blk w' (w.heap.size) 36 #[.int .i64 r.r0, .int .i64 r.r1, .int .i64 r.r2, .int .i64 r.r3, .int .i64 r.r4, .int .i64 r.r5, .int .i64 r.r6, .int .i64 r.r7] ∧ Turns (fun k => lb k = 2) W w') (by kernel_rfl) ?_ (fun hHeld => ?_)
 ·exact ⟨HQ.out, HR.out, (Turns.refl _ W).drew⟩
 refine tH 0 17 ?_ ?_ ?_;rotate_left
 ·intro w hSw
  go_simp
  try with_reducible rfl
 try simp only [zP]
 refine tH 1 18 ?_ ?_ ?_;rotate_left
 ·intro w hSw
  go_simp
  try with_reducible rfl
 try simp only [zP]
 refine tH 2 19 ?_ ?_ ?_;rotate_left
 ·intro w hSw
  go_simp
  try with_reducible rfl
 try simp only [zP]
 refine tH 3 20 ?_ ?_ ?_;rotate_left
 ·intro w hSw
  have q0_0 := hSw.1.cell 0
  have q0_1 := hSw.1.cell 1
  simp only [zG] at q0_0 q0_1
  go_simp
  try with_reducible rfl
 try simp only [zP]
 refine tH 4 21 ?_ ?_ ?_;rotate_left
 ·intro w hSw
  go_simp
  try with_reducible rfl
 try simp only [zP]
 refine tH 5 22 ?_ ?_ ?_;rotate_left
 ·intro w hSw
  refine exec_load_row (P := Tryz.prog) (x := .tmp 5) ?_ ?_ hSw.2.1 Tryz.underlying36 ?_ Tryz.sizeReg <;> rfl
 try simp only [zP]
 refine tH 6 23 ?_ ?_ ?_;rotate_left
 ·intro w hSw
  go_simp
  try with_reducible rfl
 try simp only [zP]
 refine zR 7 fun K hK => ?_
 go_simp
 refine HAD.out.mono ?_
 rintro e w2 ⟨rfl, F2, ha2, hs2⟩
 refine hK.out _ _ ?_ (fun hHeld => ?_)
 ·exact ⟨hHeld.1.turns hs2.t HNQ.out, hHeld.2.1.turns hs2.t HNR.out, hHeld.2.2.trans hs2.t⟩
 clear hK K
 try simp only [zP]
 refine tH 8 16 ?_ ?_ ?_;rotate_left
 ·intro w hSw
  go_simp
  try with_reducible rfl
 try simp only [zP]
 refine tH 9 25 ?_ ?_ ?_;rotate_left
 ·intro w hSw
  go_simp
  try with_reducible rfl
 try simp only [zP]
 refine tH 10 26 ?_ ?_ ?_;rotate_left
 ·intro w hSw
  go_simp
  try with_reducible rfl
 try simp only [zP]
 refine tH 11 8 ?_ ?_ ?_;rotate_left
 ·intro w hSw
  go_simp
  try with_reducible rfl
 try simp only [zP]
 refine tH 12 9 ?_ ?_ ?_;rotate_left
 ·intro w hSw
  go_simp
  try with_reducible rfl
 try simp only [zP]
 refine wpAnyH_done (by kernel_rfl) ?_ _
 obtain ⟨lb2, F3, hin2, hlb2, hst2⟩ := (HIN.out.turns (zT W).drew (fun _ _ h => h)).setAr (HLB.out.turns (zT W).drew) ha2 hs2
 have HE := zh (And.intro hin2 (And.intro hlb2 (((Stp.made (F := F) HM.out).trans (Stp.made (zT W).drew)).trans hst2)))
 have q1 := hin2.blk.cell 1
 simp only [zG] at q1
 have HAD2 := zh (rdadd_c (w := w2) (ts.length : Int) hin2.rl HNI.out (by omega) hrl)
 clear hHeld ha2 hs2 hin2 hlb2 hst2
 go_wp2_with fail
 refine HAD2.out.mono ?_
 rintro e w3 ⟨rfl, F4, hr3, hs3⟩
 obtain ⟨lb3, F5, hin3, hlb3, hst3⟩ := HE.out.1.setRd HE.out.2.1 hr3 hs3
 have HE2 := zh (And.intro hin3 (And.intro hlb3 (HE.out.2.2.trans hst3)))
 clear hr3 hs3 hin3 hlb3 hst3 q1
 go_wp2_with fail
 go_ret2
 exact ⟨rfl, F5, ⟨pa, pl, lb3, HE2.out.1, HE2.out.2.1⟩, HE2.out.2.2⟩
theorem rgpush_c {w : World} {p : Nat} {F : Nat → Prop} (v : Int) (h : RIn w p F true none) :
  Calls Tryz.prog 107 #[.pointer (some ⟨p, 0, none⟩), .int .i64 v] w fun e w' => e = .returned (.bool true) ∧ RIn w' p F true (some v) ∧ Turns F w w' := by
 cases h with
 | one g c v0 o h hg hv hne hf =>
  have q0 := h.cell 0
  have q2 := h.cell 2
  have hne2 : p ≠ g := fun e => hne e.symm
  simp only [zG, Option.isSome_none, Bool.false_eq_true, if_false] at q0 q2
  go_enter Tryz.func107, Tryz.ntmps107
  go_wp2_with fail
  go_quiet (fail)
  go_wp2_with fail
  clear q0 q2
  have HP : Hid (Blk (w.drewN nq) p 249 #[.slice (some ⟨g, 0, none⟩) 1 c, .int .i64 0, .int .i64 0]) := zh h
  have HG : Hid (Blk (w.drewN nq) g 3 #[.int .i64 v0]) := zh hg
  have HM : Hid (Made w (w.drewN nq)) := zh ((Turns.refl _ w).drewN _)
  have HF := zh hf
  clear h hg hf hv
  generalize w.drewN nq = W at *
  refine wp_region_z (S := fun w' => Blk w' (p) 249 #[.slice (some ⟨g, 0, none⟩) 1 c, .int .i64 0, .int .i64 0] ∧ Turns (fun k => k = g) W w') 21 (by kernel_rfl) ?_ (fun hHeld => ?_)
  ·exact ⟨HP.out, (Turns.refl _ W).drew⟩
  refine tZ 0 19 ?_ ?_ ?_;rotate_left
  ·intro w hSw
   go_simp
   try with_reducible rfl
  try simp only [zP]
  refine tZ 1 20 ?_ ?_ ?_;rotate_left
  ·intro w hSw
   go_simp
   try with_reducible rfl
  try simp only [zP]
  refine tZ 2 21 ?_ ?_ ?_;rotate_left
  ·intro w hSw
   go_simp
   try with_reducible rfl
  try simp only [zP]
  refine tZ 3 22 ?_ ?_ ?_;rotate_left
  ·intro w hSw
   have q0_0 := hSw.1.cell 0
   have q0_1 := hSw.1.cell 1
   have q0_2 := hSw.1.cell 2
   simp only [zG] at q0_0 q0_1 q0_2
   go_simp
   try with_reducible rfl
  try simp only [zP]
  refine tZ 4 23 ?_ ?_ ?_;rotate_left
  ·intro w hSw
   go_simp
   try with_reducible rfl
  try simp only [zP]
  refine tZ 5 24 ?_ ?_ ?_;rotate_left
  ·intro w hSw
   go_simp
   try with_reducible rfl
  try simp only [zP]
  refine tZ 6 25 ?_ ?_ ?_;rotate_left
  ·intro w hSw
   go_simp
   try with_reducible rfl
  try simp only [zP]
  refine tZ 7 26 ?_ ?_ ?_;rotate_left
  ·intro w hSw
   have q0_0 := hSw.1.cell 0
   have q0_1 := hSw.1.cell 1
   have q0_2 := hSw.1.cell 2
   simp only [zG] at q0_0 q0_1 q0_2
   go_simp
   try with_reducible rfl
  try simp only [zP]
  refine tZ 8 27 ?_ ?_ ?_;rotate_left
  ·intro w hSw
   go_simp
   try with_reducible rfl
  try simp only [zP]
  refine tZ 9 28 ?_ ?_ ?_;rotate_left
  ·intro w hSw
   go_simp
   try with_reducible rfl
  try simp only [zP]
  refine tZ 10 29 ?_ ?_ ?_;rotate_left
  ·intro w hSw
   go_simp
   try with_reducible rfl
  try simp only [zP]
  refine tZ 11 30 ?_ ?_ ?_;rotate_left
  ·intro w hSw
   have q0_0 := hSw.1.cell 0
   have q0_1 := hSw.1.cell 1
   have q0_2 := hSw.1.cell 2
   simp only [zG] at q0_0 q0_1 q0_2
   go_simp
   try with_reducible rfl
  try simp only [zP]
  refine tZ 12 31 ?_ ?_ ?_;rotate_left
  ·intro w hSw
   go_simp
   try with_reducible rfl
  try simp only [zP]
  refine tZ 13 32 ?_ ?_ ?_;rotate_left
  ·intro w hSw
   go_simp
   try with_reducible rfl
  try simp only [zP]
  refine tZ 14 33 ?_ ?_ ?_;rotate_left
  ·intro w hSw
   go_simp
   try with_reducible rfl
  try simp only [zP]
  refine tZ 15 34 ?_ ?_ ?_;rotate_left
  ·intro w hSw
   go_simp
   try with_reducible rfl
  try simp only [zP]
  refine tZ 16 35 ?_ ?_ ?_;rotate_left
  ·intro w hSw
   have q0_0 := hSw.1.cell 0
   have q0_1 := hSw.1.cell 1
   have q0_2 := hSw.1.cell 2
   simp only [zG] at q0_0 q0_1 q0_2
   go_simp
   try with_reducible rfl
  try simp only [zP]
  refine tZ 17 36 ?_ ?_ ?_;rotate_left
  ·intro w hSw
   go_simp
   try with_reducible rfl
  try simp only [zP]
  refine tZ 18 37 ?_ ?_ ?_;rotate_left
  ·intro w hSw
   go_simp
   try with_reducible rfl
  try simp only [zP]
  refine tZ 19 38 ?_ ?_ ?_;rotate_left
  ·intro w hSw
   go_simp
   try with_reducible rfl
  try simp only [zP]
  refine tZ 20 39 ?_ ?_ ?_;rotate_left
  ·intro w hSw
   go_simp
   try with_reducible rfl
  try simp only [zP]
  refine wpAnyZ_ready (rs := [21]) (by kernel_rfl) (by simp) ?_
  refine AllReadyZ.last rfl (fun K hK => ?_) AllReadyZ.nil
  have k1 : W.drew.cell? ⟨g, 0, none⟩ = some (.int .i64 v0) := by have := HG.out.cell 0; simpa using this
  have k0 : W.drew.frozen? ⟨g, 0, none⟩ = false := HG.out.free 0
  simp only [World.cell?_drew, World.frozen?_drew] at k0 k1
  go_simp
  refine hK.out _ _ ?_
  clear hK K
  try simp only [zP]
  refine wpAnyZ_done (by kernel_rfl) ?_ _
  have HP2 : Hid (Blk (W.setCell ⟨g, 0, none⟩ (.int .i64 v)).drew p 249 #[.slice (some ⟨g, 0, none⟩) 1 c, .int .i64 0, .int .i64 0]) := zh (HP.out.far (p := ⟨g, 0, none⟩) hne2 _)
  have HG2 : Hid (Blk (W.setCell ⟨g, 0, none⟩ (.int .i64 v)).drew g 3 #[.int .i64 v]) := zh (by have := HG.out.put 0 (.int .i64 v); simpa using this.drew)
  have HT2 : Hid (Turns (fun k => k = g) w (W.setCell ⟨g, 0, none⟩ (.int .i64 v)).drew) := zh (((HM.out.mono (S' := fun k => k = g) (fun _ _ h => h.elim)).setCell (p := ⟨g, 0, none⟩) (fun _ => rfl) _).drew)
  clear hHeld
  generalize (W.setCell ⟨g, 0, none⟩ (.int .i64 v)).drew = V at *
  have q2 := HP2.out.cell 2
  have f2 := HP2.out.free 2
  simp only [zG] at q2
  go_wp2_with fail
  go_ret
  refine ⟨rfl, .one g c v (some v) (by simpa using HP2.out.put 2 (.int .i64 1)) (HG2.out.far (p := ⟨p, 2, none⟩) hne _) (by simp) hne HF.out, ?_⟩
  exact (HT2.out.mono (S' := F) (fun k _ e => (HF.out k).2 (.inr e))).setCell (p := ⟨p, 2, none⟩) (fun _ => (HF.out p).2 (.inl rfl)) _
structure Wt where
 task : Int
 kase : Int
 val : Int
def pt (o : Option Nat) : Option Addr := o.map fun b => ⟨b, 0, none⟩
structure QIn (w : World) (p : Nat) (bs : List Nat) (l : List Wt) : Prop where
 blk : Blk w p 287 #[.pointer (pt bs[0]?), .pointer (pt bs[bs.length - 1]?), .int .i64 bs.length]
 len : bs.length = l.length
 node : ∀ i b x, bs[i]? = some b → l[i]? = some x → Blk w b 295 #[.int .i64 x.task, .int .i64 x.kase, .int .i64 x.val, .pointer (pt (if i = 0 then none else bs[i - 1]?)), .pointer (pt bs[i + 1]?)]
 nd : bs.Nodup
 np : p ∉ bs
def QAt (w : World) (p : Nat) (F : Nat → Prop) (l : List Wt) : Prop := ∃ bs, QIn w p bs l ∧ ∀ k, F k ↔ k = p ∨ k ∈ bs
theorem QIn.turns {S : Nat → Prop} {w w' : World} {p : Nat} {bs : List Nat} {l : List Wt} (h : QIn w p bs l) (ht : Turns S w w') (h1 : ¬ S p) (h2 : ∀ k ∈ bs, ¬ S k) : QIn w' p bs l :=
 { h with blk := h.blk.turns ht h1, node := fun i b x hb hx => (h.node i b x hb hx).turns ht (h2 b (List.mem_of_getElem? hb)) }
theorem QIn.lt {w : World} {p : Nat} {bs : List Nat} {l : List Wt} (h : QIn w p bs l) : ∀ k ∈ bs, k < w.heap.size := fun k hk => by
 obtain ⟨i, hi, rfl⟩ := List.getElem_of_mem hk
 have hi' : i < l.length := by have := h.len; omega
 exact (h.node i _ l[i] (List.getElem?_eq_getElem hi) (List.getElem?_eq_getElem hi')).lt
theorem QAt.turns {S : Nat → Prop} {w w' : World} {p : Nat} {F : Nat → Prop} {l : List Wt} (h : QAt w p F l) (ht : Turns S w w') (hn : ∀ k, F k → ¬ S k) : QAt w' p F l := by
 obtain ⟨bs, hq, hf⟩ := h
 exact ⟨bs, hq.turns ht (hn p ((hf p).2 (.inl rfl))) (fun k hk => hn k ((hf k).2 (.inr hk))), hf⟩
theorem QAt.made {w w' : World} {p : Nat} {F : Nat → Prop} {l : List Wt} (h : QAt w p F l) (ht : Made w w') : QAt w' p F l := h.turns ht (fun _ _ h => h)
theorem QAt.fb {w : World} {p : Nat} {F : Nat → Prop} {l : List Wt} (h : QAt w p F l) : ∀ k, F k → k < w.heap.size := by
 obtain ⟨bs, hq, hf⟩ := h
 intro k hk
 rcases (hf k).1 hk with rfl | h
 ·exact hq.blk.lt
 ·exact hq.lt k h
theorem wnew_c (w : World) : Calls Tryz.prog 163 #[] w fun e w' => ∃ p, e = .returned (.pointer (some ⟨p, 0, none⟩)) ∧ QAt w' p (fun k => k = p) [] ∧ Made w w' ∧ w.heap.size ≤ p := by
 go_enter Tryz.func163, Tryz.ntmps163
 go_wp2_with fail
 go_ret
 exact ⟨_, rfl, ⟨[], ⟨Blk.new w _ _, rfl, fun i b x hb => by simp at hb, List.nodup_nil, by simp⟩, fun k => by simp⟩, (Turns.refl _ _).alloc _, Nat.le_refl _⟩
theorem QIn.snoc {w w' : World} {p : Nat} {bs : List Nat} {l : List Wt} (h : QIn w p bs l) (x : Wt) (b : Nat) (hb : w.heap.size ≤ b)
  (h1 : Blk w' p 287 #[.pointer (pt (bs ++ [b])[0]?), .pointer (pt (some b)), .int .i64 (bs.length + 1 : Nat)])
  (h2 : Blk w' b 295 #[.int .i64 x.task, .int .i64 x.kase, .int .i64 x.val, .pointer (pt bs[bs.length - 1]?), .pointer (pt none)])
  (h3 : ∀ i c y, i + 1 < bs.length → bs[i]? = some c → l[i]? = some y → Blk w' c 295 #[.int .i64 y.task, .int .i64 y.kase, .int .i64 y.val, .pointer (pt (if i = 0 then none else bs[i - 1]?)), .pointer (pt bs[i + 1]?)])
  (h4 : ∀ i c y, i + 1 = bs.length → bs[i]? = some c → l[i]? = some y → Blk w' c 295 #[.int .i64 y.task, .int .i64 y.kase, .int .i64 y.val, .pointer (pt (if i = 0 then none else bs[i - 1]?)), .pointer (pt (some b))]) :
  QIn w' p (bs ++ [b]) (l ++ [x]) := by
 have hl := h.len
 refine ⟨by simpa using h1, by simp [hl], fun i c y hc hy => ?_, ?_, ?_⟩
 ·rcases Nat.lt_or_ge i bs.length with hi | hi
  ·have e1 : (bs ++ [b])[i]? = bs[i]? := List.getElem?_append_left hi
   have e2 : (l ++ [x])[i]? = l[i]? := List.getElem?_append_left (by omega)
   have e3 : (bs ++ [b])[i - 1]? = bs[i - 1]? := List.getElem?_append_left (by omega)
   rw [e1] at hc
   rw [e2] at hy
   rw [e3]
   rcases Nat.lt_or_ge (i + 1) bs.length with hj | hj
   ·rw [List.getElem?_append_left hj]
    exact h3 i c y hj hc hy
   ·have e4 : i + 1 = bs.length := by omega
    rw [e4, List.getElem?_concat_length]
    exact h4 i c y e4 hc hy
  ·have e0 : i = bs.length := by
    have := (List.getElem?_eq_some_iff.1 hc).1
    simp at this
    omega
   subst e0
   rw [List.getElem?_concat_length] at hc
   cases hc
   rw [hl, List.getElem?_concat_length] at hy
   cases hy
   have e5 : (bs ++ [b])[bs.length + 1]? = none := by simp
   rw [e5]
   rcases Nat.eq_zero_or_pos bs.length with h0 | h0
   ·rw [if_pos h0]
    have : bs[bs.length - 1]? = none := by simp [h0]
    rw [this] at h2
    exact h2
   ·rw [if_neg (by omega), List.getElem?_append_left (by omega)]
    exact h2
 ·rw [List.nodup_append]
  refine ⟨h.nd, by simp, fun a ha c hc e => ?_⟩
  have := h.lt a ha
  simp at hc
  omega
 ·simp only [List.mem_append, List.mem_singleton]
  rintro (h5 | h5)
  ·exact h.np h5
  ·have := h.blk.lt
   omega
theorem wpush_c (x : Wt) {w : World} {p : Nat} {F : Nat → Prop} {l : List Wt} (h : QAt w p F l) (hl : l.length ≤ 1000000) :
  Calls Tryz.prog 199 #[.pointer (some ⟨p, 0, none⟩), .agg #[.int .i64 x.task, .int .i64 x.kase, .int .i64 x.val]] w fun e w' => e = .returned (.int .i64 (l.length + 1 : Nat)) ∧ ∃ F', QAt w' p F' (l ++ [x]) ∧ Stp w w' F F' := by
 obtain ⟨bs, hq, hf⟩ := h
 have HQ := zh hq
 have hbl := hq.len
 have hnp := hq.np
 have hpl := hq.blk.lt
 have hFp : F p := (hf p).2 (.inl rfl)
 clear hq
 rcases hlast : bs[bs.length - 1]? with _ | e
 ·have h0 : bs = [] := by
   cases bs with
   | nil => rfl
   | cons a l => simp at hlast
  subst h0
  go_enter Tryz.func199, Tryz.ntmps199
  go_wp2_with fail
  have HX := zh (Blk.new w 245 #[.int .i64 x.task, .int .i64 x.kase, .int .i64 x.val])
  have HP := zh (HQ.out.blk.alloc (.cells #[.int .i64 x.task, .int .i64 x.kase, .int .i64 x.val] 245))
  have HM := zh ((zT w).alloc (.cells #[.int .i64 x.task, .int .i64 x.kase, .int .i64 x.val] 245))
  generalize w.alloc (.cells #[.int .i64 x.task, .int .i64 x.kase, .int .i64 x.val] 245) = W at *
  refine wp_region_held_drew (S := fun w' => Blk w' w.heap.size 245 #[.int .i64 x.task, .int .i64 x.kase, .int .i64 x.val] ∧ Blk w' p 287 #[.pointer (pt ([] : List Nat)[0]?), .pointer (pt none), .int .i64 ([] : List Nat).length] ∧ Made W w') (by kernel_rfl) ?_ (fun hHeld => ?_)
  ·exact ⟨HX.out.turns (Turns.drew (zT W)) (fun h => h), HP.out.turns (Turns.drew (zT W)) (fun h => h), Turns.drew (Turns.refl _ W)⟩
  refine tH 0 8 ?_ ?_ ?_;rotate_left
  ·intro w hSw
   have q0 := hSw.1.cell 0
   have q1 := hSw.1.cell 1
   have q2 := hSw.1.cell 2
   simp only [zG, pt, Option.map] at q0 q1 q2
   go_simp
   try with_reducible rfl
  try simp only [zP]
  refine tH 1 9 ?_ ?_ ?_;rotate_left
  ·intro w hSw
   go_simp
   try with_reducible rfl
  try simp only [zP]
  refine tH 2 10 ?_ ?_ ?_;rotate_left
  ·intro w hSw
   go_simp
   try with_reducible rfl
  try simp only [zP]
  refine tH 3 11 ?_ ?_ ?_;rotate_left
  ·intro w hSw
   go_simp
   try with_reducible rfl
  try simp only [zP]
  refine tH 4 12 ?_ ?_ ?_;rotate_left
  ·intro w hSw
   have q1 := hSw.2.1.cell 1
   simp only [zG, pt, Option.map] at q1
   go_simp
   try with_reducible rfl
  try simp only [zP]
  refine tH 5 13 ?_ ?_ ?_;rotate_left
  ·intro w hSw
   go_simp
   try with_reducible rfl
  try simp only [zP]
  refine zR 6 fun K hK => ?_
  go_simp
  refine hK.out _ _ ?_ (fun hHeld => ?_)
  ·exact ⟨hHeld.1.alloc _, hHeld.2.1.alloc _, hHeld.2.2.alloc _⟩
  clear hK K
  try simp only [zP]
  refine tH 7 5 ?_ ?_ ?_;rotate_left
  ·intro w hSw
   go_simp
   try with_reducible rfl
  try simp only [zP]
  refine wpAnyH_done (by kernel_rfl) ?_ _
  have HN : Blk (W.alloc (.cells #[.int .i64 x.task, .int .i64 x.kase, .int .i64 x.val, .pointer none, .pointer none] 295)).drew W.heap.size 295 #[.int .i64 x.task, .int .i64 x.kase, .int .i64 x.val, .pointer none, .pointer none] := Blk.new W _ _
  have HM2 := zh (show Made w (W.alloc (.cells #[.int .i64 x.task, .int .i64 x.kase, .int .i64 x.val, .pointer none, .pointer none] 295)).drew from (HM.out.alloc _).drew)
  have HP2 : Blk (W.alloc (.cells #[.int .i64 x.task, .int .i64 x.kase, .int .i64 x.val, .pointer none, .pointer none] 295)).drew p _ _ := HP.out.alloc _
  have hbb : w.heap.size ≤ W.heap.size := HM.out.size
  clear hHeld
  try clear hHeld
  try clear hHeld
  generalize (W.alloc (.cells #[.int .i64 x.task, .int .i64 x.kase, .int .i64 x.val, .pointer none, .pointer none] 295)).drew = V at *
  generalize W.heap.size = b at *
  have q0 := HP2.cell 0
  have q1 := HP2.cell 1
  have q2 := HP2.cell 2
  have f0 := HP2.free 0
  have f1 := HP2.free 1
  have f2 := HP2.free 2
  simp only [zG, pt, Option.map] at q0 q1 q2
  go_wp2_with fail
  go_ret
  have hbp : b ≠ p := by omega
  refine ⟨by simp [← hbl], fun k => k = p ∨ k ∈ ([] ++ [b] : List Nat), ⟨[] ++ [b], HQ.out.snoc x b hbb ?_ ?_ (fun i c y _ hc => by simp at hc) (fun i c y _ hc => by simp at hc), fun k => Iff.rfl⟩, ⟨(((HM2.out.mono (fun _ _ h => h.elim)).setCell (fun _ => hFp) _).setCell (fun _ => hFp) _).setCell (fun _ => hFp) _, fun k hk => ?_⟩⟩
  ·have h := ((HP2.put 0 (.pointer (some ⟨b, 0, none⟩))).put 1 (.pointer (some ⟨b, 0, none⟩))).put 2 (.int .i64 ((l.length : Int) + 1))
   simpa [pt, ← hbl] using h
  ·have h := ((HN.far (p := ⟨p, 0, none⟩) hbp (.pointer (some ⟨b, 0, none⟩))).far (p := ⟨p, 1, none⟩) hbp (.pointer (some ⟨b, 0, none⟩))).far (p := ⟨p, 2, none⟩) hbp (.int .i64 ((l.length : Int) + 1))
   simpa [pt] using h
  ·rcases hk with rfl | hk
   ·exact .inl hFp
   ·simp at hk
    exact .inr (by omega)
 ·go_enter Tryz.func199, Tryz.ntmps199
  go_wp2_with fail
  have HX := zh (Blk.new w 245 #[.int .i64 x.task, .int .i64 x.kase, .int .i64 x.val])
  have hp0 := HQ.out.blk
  rw [hlast] at hp0
  have HP := zh (hp0.alloc (.cells #[.int .i64 x.task, .int .i64 x.kase, .int .i64 x.val] 245))
  have HM := zh ((zT w).alloc (.cells #[.int .i64 x.task, .int .i64 x.kase, .int .i64 x.val] 245))
  clear hp0
  generalize w.alloc (.cells #[.int .i64 x.task, .int .i64 x.kase, .int .i64 x.val] 245) = W at *
  refine wp_region_held_drew (S := fun w' => Blk w' w.heap.size 245 #[.int .i64 x.task, .int .i64 x.kase, .int .i64 x.val] ∧ Blk w' p 287 #[.pointer (pt bs[0]?), .pointer (pt (some e)), .int .i64 bs.length] ∧ Made W w') (by kernel_rfl) ?_ (fun hHeld => ?_)
  ·exact ⟨HX.out.turns (Turns.drew (zT W)) (fun h => h), HP.out.turns (Turns.drew (zT W)) (fun h => h), Turns.drew (Turns.refl _ W)⟩
  refine tH 0 8 ?_ ?_ ?_;rotate_left
  ·intro w hSw
   have q0 := hSw.1.cell 0
   have q1 := hSw.1.cell 1
   have q2 := hSw.1.cell 2
   simp only [zG, pt, Option.map] at q0 q1 q2
   go_simp
   try with_reducible rfl
  try simp only [zP]
  refine tH 1 9 ?_ ?_ ?_;rotate_left
  ·intro w hSw
   go_simp
   try with_reducible rfl
  try simp only [zP]
  refine tH 2 10 ?_ ?_ ?_;rotate_left
  ·intro w hSw
   go_simp
   try with_reducible rfl
  try simp only [zP]
  refine tH 3 11 ?_ ?_ ?_;rotate_left
  ·intro w hSw
   go_simp
   try with_reducible rfl
  try simp only [zP]
  refine tH 4 12 ?_ ?_ ?_;rotate_left
  ·intro w hSw
   have q1 := hSw.2.1.cell 1
   simp only [zG, pt, Option.map] at q1
   go_simp
   try with_reducible rfl
  try simp only [zP]
  refine tH 5 13 ?_ ?_ ?_;rotate_left
  ·intro w hSw
   go_simp
   try with_reducible rfl
  try simp only [zP]
  refine zR 6 fun K hK => ?_
  go_simp
  refine hK.out _ _ ?_ (fun hHeld => ?_)
  ·exact ⟨hHeld.1.alloc _, hHeld.2.1.alloc _, hHeld.2.2.alloc _⟩
  clear hK K
  try simp only [zP]
  refine tH 7 5 ?_ ?_ ?_;rotate_left
  ·intro w hSw
   go_simp
   try with_reducible rfl
  try simp only [zP]
  refine wpAnyH_done (by kernel_rfl) ?_ _
  have HN : Blk (W.alloc (.cells #[.int .i64 x.task, .int .i64 x.kase, .int .i64 x.val, .pointer (some ⟨e, 0, none⟩), .pointer none] 295)).drew W.heap.size 295 #[.int .i64 x.task, .int .i64 x.kase, .int .i64 x.val, .pointer (some ⟨e, 0, none⟩), .pointer none] := Blk.new W _ _
  have HM2 := zh (show Made w (W.alloc (.cells #[.int .i64 x.task, .int .i64 x.kase, .int .i64 x.val, .pointer (some ⟨e, 0, none⟩), .pointer none] 295)).drew from (HM.out.alloc _).drew)
  have HP2 : Blk (W.alloc (.cells #[.int .i64 x.task, .int .i64 x.kase, .int .i64 x.val, .pointer (some ⟨e, 0, none⟩), .pointer none] 295)).drew p _ _ := HP.out.alloc _
  have hbb : w.heap.size ≤ W.heap.size := HM.out.size
  clear hHeld
  try clear hHeld
  try clear hHeld
  generalize (W.alloc (.cells #[.int .i64 x.task, .int .i64 x.kase, .int .i64 x.val, .pointer (some ⟨e, 0, none⟩), .pointer none] 295)).drew = V at *
  generalize W.heap.size = b at *
  have hL : 0 < bs.length := by
   rcases Nat.eq_zero_or_pos bs.length with h | h
   ·have : bs = [] := List.length_eq_zero_iff.1 h
    subst this
    simp at hlast
   ·exact h
  have heb : e ∈ bs := List.mem_of_getElem? hlast
  have hpe : p ≠ e := fun h => hnp (h ▸ heb)
  have hep : e ≠ p := fun h => hpe h.symm
  obtain ⟨y0, hY⟩ : ∃ y, l[bs.length - 1]? = some y := ⟨_, List.getElem?_eq_getElem (by omega)⟩
  have HE := (HQ.out.node _ e y0 hlast hY).turns HM2.out (fun h => h)
  have g4 := HE.free 4
  have g5 := HE.cell 4
  simp only [zG, pt, Option.map] at g5
  have q0 := HP2.cell 0
  have q1 := HP2.cell 1
  have q2 := HP2.cell 2
  have f0 := HP2.free 0
  have f1 := HP2.free 1
  have f2 := HP2.free 2
  simp only [zG, pt, Option.map] at q0 q1 q2
  go_upto_region 7 with fail
  have hbp : b ≠ p := by omega
  have hel := HQ.out.lt e heb
  have hbe : b ≠ e := by omega
  have hFe : F e := (hf e).2 (.inr heb)
  have kp0 := HP2.far (p := ⟨e, 4, none⟩) hpe (.pointer (some ⟨b, 0, none⟩))
  have kb0 := HN.far (p := ⟨e, 4, none⟩) hbe (.pointer (some ⟨b, 0, none⟩))
  have ke0 := HE.put 4 (.pointer (some ⟨b, 0, none⟩))
  have km0 := ((HM2.out.mono (S' := F) (fun _ _ h => h.elim)).setCell (p := ⟨e, 4, none⟩) (fun _ => hFe) (.pointer (some ⟨b, 0, none⟩)))
  have kn0 : ∀ i c y, i + 1 < bs.length → bs[i]? = some c → l[i]? = some y → Blk (V.setCell ⟨e, 4, none⟩ (.pointer (some ⟨b, 0, none⟩))) c 295 #[.int .i64 y.task, .int .i64 y.kase, .int .i64 y.val, .pointer (pt (if i = 0 then none else bs[i - 1]?)), .pointer (pt bs[i + 1]?)] := fun i c y hi hc hy =>
   ((HQ.out.node i c y hc hy).turns HM2.out (fun h => h)).far (p := ⟨e, 4, none⟩) (fun (h : c = e) => by
      subst h
      have h1 := (List.getElem?_eq_some_iff.1 hc)
      have h2 := (List.getElem?_eq_some_iff.1 hlast)
      obtain ⟨a1, b1⟩ := h1
      obtain ⟨a2, b2⟩ := h2
      have hh := (List.pairwise_iff_getElem.1 HQ.out.nd) i (bs.length - 1) a1 a2 (by omega)
      exact hh (b1.trans b2.symm)) _
  have KN := zh kn0
  have KB := zh kb0
  have KE := zh ke0
  have KM := zh km0
  clear HP2 HN HE kn0 kb0 ke0 km0 f0 f1 f2 q0 q1 q2 g4 g5
  generalize V.setCell ⟨e, 4, none⟩ (.pointer (some ⟨b, 0, none⟩)) = V2 at *
  have q0 := kp0.cell 0
  have q1 := kp0.cell 1
  have q2 := kp0.cell 2
  have f0 := kp0.free 0
  have f1 := kp0.free 1
  have f2 := kp0.free 2
  simp only [zG] at q0 q1 q2
  go_wp2_with fail
  go_ret
  have kp := (kp0.put 1 (.pointer (some ⟨b, 0, none⟩))).put 2 (.int .i64 ((l.length : Int) + 1))
  have far2 : ∀ {c : Nat} {t : TypeId} {cs : Array Value}, c ≠ p → Blk V2 c t cs → Blk ((V2.setCell ⟨p, 1, none⟩ (.pointer (some ⟨b, 0, none⟩))).setCell ⟨p, 2, none⟩ (.int .i64 ((l.length : Int) + 1))) c t cs := fun hc h => (h.far (p := ⟨p, 1, none⟩) hc _).far (p := ⟨p, 2, none⟩) hc _
  refine ⟨by simp [← hbl], fun k => k = p ∨ k ∈ bs ++ [b], ⟨bs ++ [b], HQ.out.snoc x b hbb ?_ ?_ (fun i c y hi hc hy => ?_) (fun i c y hi hc hy => ?_), fun k => Iff.rfl⟩, ⟨(KM.out.setCell (fun _ => hFp) _).setCell (fun _ => hFp) _, fun k hk => ?_⟩⟩
  ·have h0 : (bs ++ [b])[0]? = bs[0]? := List.getElem?_append_left hL
   rw [h0]
   simpa [pt, ← hbl] using kp
  ·have h := far2 hbp KB.out
   rw [hlast]
   simpa [pt] using h
  ·exact far2 (fun h => hnp (h ▸ List.mem_of_getElem? hc)) (KN.out i c y hi hc hy)
  ·have hi' : i = bs.length - 1 := by omega
   subst hi'
   rw [hlast] at hc
   cases hc
   have hyy := hY.symm.trans hy
   cases hyy
   have h := far2 hep KE.out
   simpa [pt] using h
  ·rcases hk with rfl | hk
   ·exact .inl hFp
   ·simp at hk
    rcases hk with hk | hk
    ·exact .inl ((hf k).2 (.inr hk))
    ·exact .inr (by omega)
theorem QIn.tail {w w' : World} {p b : Nat} {bs : List Nat} {x : Wt} {l : List Wt} (h : QIn w p (b :: bs) (x :: l))
  (h1 : Blk w' p 287 #[.pointer (pt bs[0]?), .pointer (pt bs[bs.length - 1]?), .int .i64 bs.length])
  (h2 : ∀ c y, bs[0]? = some c → l[0]? = some y → Blk w' c 295 #[.int .i64 y.task, .int .i64 y.kase, .int .i64 y.val, .pointer (pt none), .pointer (pt bs[1]?)])
  (h3 : ∀ i c y, 0 < i → bs[i]? = some c → l[i]? = some y → Blk w c 295 #[.int .i64 y.task, .int .i64 y.kase, .int .i64 y.val, .pointer (pt bs[i - 1]?), .pointer (pt bs[i + 1]?)] → Blk w' c 295 #[.int .i64 y.task, .int .i64 y.kase, .int .i64 y.val, .pointer (pt bs[i - 1]?), .pointer (pt bs[i + 1]?)]) :
  QIn w' p bs l := by
 have hl := h.len
 refine ⟨h1, by simpa using hl, fun i c y hc hy => ?_, (List.nodup_cons.1 h.nd).2, fun hp => h.np (List.mem_cons_of_mem _ hp)⟩
 rcases Nat.eq_zero_or_pos i with h0 | h0
 ·subst h0
  simpa using h2 c y hc hy
 ·rw [if_neg (by omega)]
  refine h3 i c y h0 hc hy ?_
  have hn := h.node (i + 1) c y (by simpa using hc) (by simpa using hy)
  have e1 : (b :: bs)[i + 1 - 1]? = bs[i - 1]? := by
   obtain ⟨j, rfl⟩ : ∃ j, i = j + 1 := ⟨i - 1, by omega⟩
   simp
  rw [e1, if_neg (by omega)] at hn
  simpa using hn
theorem QIn.drew {w : World} {p : Nat} {bs : List Nat} {l : List Wt} (h : QIn w p bs l) : QIn w.drew p bs l := ⟨h.blk, h.len, h.node, h.nd, h.np⟩
theorem nd_ne {bs : List Nat} (h : bs.Nodup) {i j : Nat} {c d : Nat} (hi : bs[i]? = some c) (hj : bs[j]? = some d) (hij : i < j) : d ≠ c := by
 intro e
 subst e
 obtain ⟨a1, b1⟩ := List.getElem?_eq_some_iff.1 hi
 obtain ⟨a2, b2⟩ := List.getElem?_eq_some_iff.1 hj
 exact (List.pairwise_iff_getElem.1 h) i j a1 a2 hij (b1.trans b2.symm)
theorem wdrop_c {w : World} {p b : Nat} {bs : List Nat} {x : Wt} {l : List Wt} (h : QIn w p (b :: bs) (x :: l)) (hlen : l.length ≤ 1000000) :
  Calls Tryz.prog 205 #[.pointer (some ⟨p, 0, none⟩), .pointer (some ⟨b, 0, none⟩)] w fun e w' => e = .returned (.tuple #[]) ∧ QIn w' p bs l ∧ Turns (fun k => k = p ∨ k ∈ bs) w w' := by
 have HQ := zh h
 have HB := h.node 0 b x rfl rfl
 have HP := h.blk
 have hpb : p ≠ b := fun e => h.np (e ▸ List.mem_cons_self ..)
 have hbp : b ≠ p := fun e => hpb e.symm
 have q0 := HP.cell 0
 have q1 := HP.cell 1
 have q2 := HP.cell 2
 have f0 := HP.free 0
 have f1 := HP.free 1
 have f2 := HP.free 2
 have n3 := HB.cell 3
 have n4 := HB.cell 4
 cases bs with
 | nil =>
  simp only [zG, pt, Option.map, List.length_cons, List.length_nil, if_true, Nat.zero_add, Nat.sub_self, List.getElem?_nil, Nat.reduceAdd] at q0 q1 q2 n3 n4
  go_enter Tryz.func205, Tryz.ntmps205
  go_wp2_with fail
  go_end0
  have h0 : l = [] := by
   have := h.len
   simpa using this
  subst h0
  refine ⟨rfl, ⟨?_, rfl, fun i c y hc => by simp at hc, List.nodup_nil, by simp⟩, ((((Turns.refl (fun k => k = p) w).setCell (p := ⟨p, 0, none⟩) (fun _ => rfl) _).setCell (p := ⟨p, 1, none⟩) (fun _ => rfl) _).setCell (p := ⟨p, 2, none⟩) (fun _ => rfl) _)⟩
  ·have k := ((HP.put 0 (.pointer none)).put 1 (.pointer none)).put 2 (.int .i64 0)
   simpa [pt] using k
 | cons c bs =>
  have hpc : p ≠ c := fun e => h.np (by simp [e])
  have hcp : c ≠ p := fun e => hpc e.symm
  have hbc : b ≠ c := fun e => (List.nodup_cons.1 h.nd).1 (by simp [e])
  simp only [zG, pt, Option.map, List.length_cons, if_true, Nat.zero_add] at q0 q1 q2 n3 n4
  obtain ⟨y, l, rfl⟩ : ∃ y l', l = y :: l' := by
   cases l with
   | nil => have := h.len; simp at this
   | cons y l' => exact ⟨y, l', rfl⟩
  have HC := h.node 1 c y rfl rfl
  go_enter Tryz.func205, Tryz.ntmps205
  go_upto_region 5 with fail
  have kp := HP.put 0 (.pointer (some ⟨c, 0, none⟩))
  have kb := HB.far (p := ⟨p, 0, none⟩) hbp (.pointer (some ⟨c, 0, none⟩))
  have kc := HC.far (p := ⟨p, 0, none⟩) hcp (.pointer (some ⟨c, 0, none⟩))
  have KN := zh (fun (d : Nat) (t : TypeId) (cs : Array Value) (hd : d ≠ p) (hh : Blk w d t cs) => hh.far (p := ⟨p, 0, none⟩) hd (.pointer (some ⟨c, 0, none⟩)))
  have KT := zh ((Turns.refl (fun k => k = p ∨ k ∈ c :: bs) w).setCell (p := ⟨p, 0, none⟩) (fun _ => Or.inl rfl) (.pointer (some ⟨c, 0, none⟩)))
  clear q0 q1 q2 f0 f1 f2 n3 n4
  generalize w.setCell ⟨p, 0, none⟩ (.pointer (some ⟨c, 0, none⟩)) = V at *
  have q2 := kp.cell 2
  have f2 := kp.free 2
  have n3 := kb.cell 3
  have n4 := kb.cell 4
  have m3 := kc.cell 3
  have g3 := kc.free 3
  simp only [zG, pt, Option.map, List.length_cons, if_true, Nat.zero_add] at q2 n3 n4 m3
  go_region_law (fail)
  all_goals
   go_wp2_with fail
   go_end0
   have hbl : bs.length = l.length := by simpa using HQ.out.len
   have hlen2 : l.length + 1 ≤ 1000000 := hlen
   have hw : wrap64 ((bs.length : Int) + 1) = (bs.length : Int) + 1 := by unfold wrap64; omega
   rw [hw]
   have kp1 := (kp.far (p := ⟨c, 3, none⟩) hpc (.pointer none)).put 2 (.int .i64 ((bs.length : Int) + 1))
   have kc1 := (kc.put 3 (.pointer none)).far (p := ⟨p, 2, none⟩) hcp (.int .i64 ((bs.length : Int) + 1))
   have hq : QIn ((V.setCell ⟨c, 3, none⟩ (.pointer none)).setCell ⟨p, 2, none⟩ (.int .i64 ((bs.length : Int) + 1))) p (c :: bs) (y :: l) := by
    refine HQ.out.tail ?_ ?_ ?_
    ·simpa [pt] using kp1
    ·intro d y' hd hy'
     cases hd
     cases hy'
     simpa [pt] using kc1
    ·intro i d y' hi hd hy' hb
     have hdp : d ≠ p := fun e => HQ.out.np (e ▸ List.mem_cons_of_mem _ (List.mem_of_getElem? hd))
     have hdc : d ≠ c := nd_ne (List.nodup_cons.1 HQ.out.nd).2 (i := 0) rfl hd hi
     exact ((KN.out d _ _ hdp hb).far (p := ⟨c, 3, none⟩) hdc _).far (p := ⟨p, 2, none⟩) hdp _
   refine ⟨rfl, by first | exact hq | exact hq.drew, ?_⟩
   ·refine Turns.mono (S := fun k => k = p ∨ k ∈ c :: bs) ?_ (fun k _ h => by simpa using h)
    first
    | exact Turns.drew ((KT.out.setCell (p := ⟨c, 3, none⟩) (fun _ => Or.inr (List.mem_cons_self ..)) _).setCell (p := ⟨p, 2, none⟩) (fun _ => Or.inl rfl) _)
    | exact (KT.out.setCell (p := ⟨c, 3, none⟩) (fun _ => Or.inr (List.mem_cons_self ..)) _).setCell (p := ⟨p, 2, none⟩) (fun _ => Or.inl rfl) _
section
theorem Tryz.infoT : (Tryz.prog.info? 186).map (fun i => (i.zero, i.size, i.bytes)) = some (some (.agg #[.int .i64 0, .int .i64 0, .int .i64 0]), 3, 24) := by kernel_rfl
def zeroT : It := ⟨0, 0, 0⟩
def optT (o : Option It) : It := o.getD zeroT
theorem run_mkmap {P : Program} (t : TypeId) (w : World) : (Instr.makeMap t none).run P w = .ok (.map (some w.heap.size)) (w.alloc (.map #[] 0)) := rfl
attribute [local go_sem] run_mkmap
theorem hnew_c (w : World) : Calls Tryz.prog 58 #[] w fun e w' => ∃ (p : Nat) (F : Nat → Prop), e = .returned (.pointer (some ⟨p, 0, none⟩)) ∧ HeapAt w' p F [] 0 ∧ Made w w' ∧ (∀ k, F k → w.heap.size ≤ k) := by
 have hm := MapI.new w
 have hb := Blk.new (w.alloc (.map #[] 0)) 179 #[.slice none 0 0, .map (some w.heap.size), .int .i64 0]
 have hmm := hm.alloc (.cells #[.slice none 0 0, .map (some w.heap.size), .int .i64 0] 179)
 have ht : Made w ((w.alloc (.map #[] 0)).alloc (.cells #[.slice none 0 0, .map (some w.heap.size), .int .i64 0] 179)) := ((Turns.refl _ _).alloc _).alloc _
 have hs : (w.alloc (.map #[] 0)).heap.size = w.heap.size + 1 := by simp
 rw [hs] at hb
 have HM := zh hmm
 have HB := zh hb
 have HT := zh ht
 clear hm hmm hb ht
 go_enter Tryz.func58, Tryz.ntmps58
 go_wp2_with fail
 go_ret
 refine ⟨w.heap.size + 1, fun k => k = w.heap.size + 1 ∨ k = w.heap.size, by simp, ⟨w.heap.size, _, [], _, { raw := ⟨HB.out, ⟨rfl, .inl ⟨rfl, rfl⟩⟩, HM.out, by simp [Value.ownBlock], by simp [Value.ownBlock], by omega⟩, pos := ?_, uniq := ?_, ord := ?_, perm := List.Perm.refl _, rise := List.Pairwise.nil, seqs := ?_, len := by simp, fp := .inl rfl, fm := .inr rfl, fl := ?_, fb := ?_ }⟩, HT.out, ?_⟩
 ·intro id v
  simp
 ·intro a b x y ha; simp at ha
 ·intro k u v _ hu; simp at hu
 ·intro x hx; cases hx
 ·intro k hk; simp [Value.ownBlock] at hk
 ·intro k hk; have := HB.out.lt; rcases hk with rfl | rfl <;> omega
 ·intro k hk; rcases hk with rfl | rfl <;> omega
theorem hlen_raw {p mb : Nat} {lv : Value} {sq : Int} {ys : List It} {f : Int → Option Value} (w : World) (h : HRaw w p mb lv sq ys f) : Calls Tryz.prog 184 #[.pointer (some ⟨p, 0, none⟩)] w fun e w' => e = .returned (.int .i64 ys.length) ∧ w = w' := by
 have c0 := h.blk.cell 0
 simp only [List.getElem?_toArray, List.getElem?_cons_zero] at c0
 rcases h.own.form with ⟨rfl, rfl⟩ | ⟨g, cap, rfl, hg, hl, hm⟩
 all_goals
  clear h
  go_enter Tryz.func184, Tryz.ntmps184
  go_wp2
  go_ret
  exact ⟨by simp, rfl⟩
theorem hmin_raw {p mb : Nat} {lv : Value} {sq : Int} {ys : List It} {f : Int → Option Value} (w : World) (h : HRaw w p mb lv sq ys f) : Calls Tryz.prog 150 #[.pointer (some ⟨p, 0, none⟩)] w fun e w' => e = .returned (.tuple #[aggT (optT ys[0]?), .bool ys[0]?.isSome]) ∧ Made w w' := by
 cases hy : ys with
 | nil =>
  subst hy
  have H := zh (fun (w' : World) (hm : Made w w') => hlen_raw w' (h.made hm))
  have HM := zh (fun (o : Obj) => ((zT w).alloc o))
  clear h
  simp only [List.getElem?_nil, optT, Option.getD_none, zeroT, aggT, Option.isSome_none]
  go_enter Tryz.func150, Tryz.ntmps150
  go_wp2_with fail
  refine (H.out _ (HM.out _)).mono ?_
  rintro e w' ⟨rfl, rfl⟩
  go_wp2_with fail
  go_returns
  exact ⟨by simp, ((Turns.refl _ _).alloc _)⟩
 | cons x l =>
  have hn : ¬ ((ys.length : Int) = 0) := by rw [hy]; simp; omega
  have hn2 : ((ys.length : Int) == 0) = false := beq_eq_false_iff_ne.mpr hn
  rcases h.own.form with ⟨rfl, h0⟩ | ⟨g, cap, rfl, hg, hl, hm⟩
  ·rw [h0] at hy; cases hy
  have hx : ys[0]? = some x := by rw [hy]; rfl
  have H := zh (fun (w' : World) (hm : Made w w') => hlen_raw w' (h.made hm))
  have HM := zh (fun (o : Obj) => ((zT w).alloc o))
  have c0 := h.blk.cell 0
  have e0 : w.cell? ⟨g, 0 * 3, none⟩ = some (.int .i64 x.id) := Owns.cell encT_len h.own hx (j := 0) rfl
  have e1 : w.cell? ⟨g, 0 * 3 + 1, none⟩ = some (.int .i64 x.when) := Owns.cell encT_len h.own hx (j := 1) rfl
  have e2 : w.cell? ⟨g, 0 * 3 + 2, none⟩ = some (.int .i64 x.seq) := Owns.cell encT_len h.own hx (j := 2) rfl
  simp only [List.getElem?_toArray, List.getElem?_cons_zero, Nat.zero_mul, Nat.zero_add] at c0 e0 e1 e2
  have hpl := h.blk.lt
  rw [← hy]
  have hy2 : 0 < ys.length := by rw [hy]; simp
  rw [hx]
  clear hy h
  simp only [optT, Option.getD_some, aggT, Option.isSome_some]
  go_enter Tryz.func150, Tryz.ntmps150
  go_wp2_with fail
  refine (H.out _ (HM.out _)).mono ?_
  rintro e w' ⟨rfl, rfl⟩
  go_wp2_with fail
  go_returns
  exact ⟨by simp, ((Turns.refl _ _).alloc _)⟩
theorem hmin_c {p : Nat} {F : Nat → Prop} {L : List It} {sq : Int} (w : World) (h : HeapAt w p F L sq) : Calls Tryz.prog 150 #[.pointer (some ⟨p, 0, none⟩)] w fun e w' => e = .returned (.tuple #[aggT (optT L[0]?), .bool L[0]?.isSome]) ∧ Made w w' := by
 obtain ⟨mb, lv, ys, f, h⟩ := h
 rw [← h.first]
 exact hmin_raw w h.raw
theorem zero_int (w : World) : (zeroValue 3).run Tryz.prog w = .ok (.int .i64 0) w := by kernel_rfl
theorem hfind_in {p mb : Nat} {lv : Value} {sq : Int} {ys : List It} {f : Int → Option Value} {F : Nat → Prop} {L : List It} (id : Int) (w : World) (h : HeapIn w p mb lv sq ys f F L) : Calls Tryz.prog 185 #[.pointer (some ⟨p, 0, none⟩), .int .i64 id] w fun e w' => e = .returned (.tuple #[aggT (optT (findL id L)), .bool (findL id L).isSome]) ∧ Made w w' := by
 have c0 := h.raw.blk.cell 0
 have c1 := h.raw.blk.cell 1
 simp only [zG] at c0 c1
 have hpl := h.raw.blk.lt
 have H := zh (fun (o : Obj) => (h.raw.map.alloc o).look Tryz.underlying98 Tryz.underlying3 (zero_int _) id true)
 rcases h.find id with ⟨hf, hfi, _⟩ | ⟨k, x, hf, hfi, hk, hid, hx⟩
 ·rw [hf]
  rw [hfi] at H
  clear h hf
  simp only [optT, Option.getD_none, aggT, zeroT, Option.isSome_none] at H ⊢
  go_enter Tryz.func185, Tryz.ntmps185
  go_wp2_with (at_lookup; refine wpList_lookrun _ rfl _ _ 98 true rfl _ _ _ rfl rfl (H.out _) ?_)
  go_returns
  exact ⟨by simp, ((Turns.refl _ _).alloc _)⟩
 ·rw [hf]
  rw [hfi] at H
  rcases h.raw.own.form with ⟨rfl, h0⟩ | ⟨g, cap, rfl, hg, hl, hm⟩
  ·rw [h0] at hk; simp at hk
  have e0 : w.cell? ⟨g, k * 3, none⟩ = some (.int .i64 x.id) := Owns.cell encT_len h.raw.own hk (j := 0) rfl
  have e1 : w.cell? ⟨g, k * 3 + 1, none⟩ = some (.int .i64 x.when) := Owns.cell encT_len h.raw.own hk (j := 1) rfl
  have e2 : w.cell? ⟨g, k * 3 + 2, none⟩ = some (.int .i64 x.seq) := Owns.cell encT_len h.raw.own hk (j := 2) rfl
  have hkl := (List.getElem?_eq_some_iff.1 hk).1
  have i1 : (0 : Int) ≤ (k : Int) := Int.natCast_nonneg _
  have i2 : (k : Int) < (ys.length : Int) := by omega
  clear h hf hk
  simp only [optT, Option.getD_some, aggT, zeroT, Option.isSome_some] at H ⊢
  go_enter Tryz.func185, Tryz.ntmps185
  go_wp2_with (at_lookup; refine wpList_lookrun _ rfl _ _ 98 true rfl _ _ _ rfl rfl (H.out _) ?_)
  go_returns
  exact ⟨by simp [hid], ((Turns.refl _ _).alloc _)⟩
theorem hfind_c {p : Nat} {F : Nat → Prop} {L : List It} {sq : Int} (id : Int) (w : World) (h : HeapAt w p F L sq) : Calls Tryz.prog 185 #[.pointer (some ⟨p, 0, none⟩), .int .i64 id] w fun e w' => e = .returned (.tuple #[aggT (optT (findL id L)), .bool (findL id L).isSome]) ∧ Made w w' := by
 obtain ⟨mb, lv, ys, f, h⟩ := h
 exact hfind_in id w h
end
theorem par_int (j : Nat) (h : 0 < j) : ((j : Int) - 1).tdiv 4 = (par j : Int) := by
 unfold par
 rw [Int.tdiv_eq_ediv_of_nonneg (by omega)]
 omega
theorem wrap_in (n : Int) (h : -9223372036854775808 ≤ n ∧ n ≤ 9223372036854775807) : IntKind.i64.wrap n = n := by rw [IntKind.wrap_i64]; omega
theorem up_c (p mb : Nat) (lv : Value) (sq : Int) (ys : List It) (f : Int → Option Value) (i : Nat) (x : It) (w : World) (h : HRaw w p mb lv sq ys f) (hx : ys[i]? = some x) (hu : Uniq ys) (hp : PosOK (upd f x.id (.int .i64 i)) ys) (hn : ys.length ≤ 1000000) :
  Calls Tryz.prog 187 #[.pointer (some ⟨p, 0, none⟩), .int .i64 i] w fun e w' => (∃ v, e = .returned v) ∧ (∃ f', HRaw w' p mb lv sq (upL ys i) f' ∧ PosOK f' (upL ys i)) ∧ Turns (fun k => lv.ownBlock = some k ∨ k = mb) w w' := by
 have hi := (List.getElem?_eq_some_iff.1 hx).1
 rcases h.own.form with ⟨_, h0⟩ | ⟨g, cap, rfl, hg, hlc, hcm⟩
 ·subst h0; simp at hi
 have c0 := h.blk.cell 0
 simp only [List.getElem?_toArray, List.getElem?_cons_zero] at c0
 have e0 : w.cell? ⟨g, i * 3, none⟩ = some (.int .i64 x.id) := Owns.cell encT_len h.own hx (j := 0) rfl
 have e1 : w.cell? ⟨g, i * 3 + 1, none⟩ = some (.int .i64 x.when) := Owns.cell encT_len h.own hx (j := 1) rfl
 have e2 : w.cell? ⟨g, i * 3 + 2, none⟩ = some (.int .i64 x.seq) := Owns.cell encT_len h.own hx (j := 2) rfl
 have i1 : (0 : Int) ≤ (i : Int) := Int.natCast_nonneg _
 have i2 : (i : Int) < (ys.length : Int) := by omega
 have HH := zh h
 have HX := zh hx
 have HU := zh hu
 have HP := zh hp
 have hpl := h.blk.lt
 have hml := h.map.lt
 clear h hx hu hp
 go_enter Tryz.func187, Tryz.ntmps187
 go_wp2_with fail
 have hB : Blk (w.alloc (.cells (encT x).toArray 186)) w.heap.size 186 (encT x).toArray := Blk.new w _ _
 have hM : Made w (w.alloc (.cells (encT x).toArray 186)) := (Turns.refl _ _).alloc _
 unfold encT at hB hM
 generalize (w.alloc (.cells [.int .i64 x.id, .int .i64 x.when, .int .i64 x.seq].toArray 186)) = W at *
 generalize hbe : w.heap.size = bx at *
 have HB := zh hB
 have HM := zh hM
 have HBE := zh hbe
 clear hB hM hbe c0 e0 e1 e2 i1 i2
 go_loopw [1] (fun v1 wr => ∃ (j : Nat) (yy : List It) (f' : Int → Option Value), v1 = .int .i64 j ∧ HRaw wr p mb (.slice (some ⟨g, 0, none⟩) ys.length cap) sq yy f' ∧ yy.length = ys.length ∧ (yy.set j x)[j]? = some x ∧ Uniq (yy.set j x) ∧ PosOK (upd f' x.id (.int .i64 j)) (yy.set j x) ∧ upL (yy.set j x) j = upL ys i ∧ Blk wr bx 186 (encT x).toArray ∧ Turns (fun k => k = g ∨ k = mb) w wr) (fun v1 _ => (intOf v1).toNat)
 case atStart =>
  have hs : ys.set i x = ys := by
   obtain ⟨_, hh⟩ := List.getElem?_eq_some_iff.1 HX.out
   rw [← hh]; exact List.set_getElem_self hi
  refine ⟨i, ys, f, rfl, HH.out.made HM.out, rfl, ?_, ?_, ?_, ?_, HB.out, HM.out.mono (fun _ _ h => h.elim)⟩
  ·rw [hs]; exact HX.out
  ·rw [hs]; exact HU.out
  ·rw [hs]; exact HP.out
  ·rw [hs]
 case round =>
  obtain ⟨j, yy, f', rfl, hr, hyl, hjx, huj, hpj, hup, hbj, htj⟩ := hrel
  have hjl : j < yy.length := by have := (List.getElem?_eq_some_iff.1 hjx).1; rwa [List.length_set] at this
  have HR := zh hr
  have HYL := zh hyl
  have HJX := zh hjx
  have HUJ := zh huj
  have HPJ := zh hpj
  have HUP := zh hup
  have HBJ := zh hbj
  have HTJ := zh htj
  clear hr hyl hjx huj hpj hup hbj htj HH HX HU HP HB HM
  have i1 : (0 : Int) ≤ (j : Int) := Int.natCast_nonneg _
  have i2 : (j : Int) < (ys.length : Int) := by have := HYL.out; omega
  by_cases hj0 : j = 0
  ·subst hj0
   go_wp2_with fail
   refine wp_region_held_drew (S := (fun w' => Made wr w')) (by kernel_rfl) ?_ (fun hHeld => ?_)
   ·exact (Turns.refl _ _).drew
   refine tH 0 12 ?_ ?_ ?_;rotate_left
   ·intro w hSw
    go_simp
    try with_reducible rfl
   try simp only [zP]
   refine tH 1 13 ?_ ?_ ?_;rotate_left
   ·intro w hSw
    go_simp
    try with_reducible rfl
   try simp only [zP]
   refine tH 2 14 ?_ ?_ ?_;rotate_left
   ·intro w hSw
    go_simp
    try with_reducible rfl
   try simp only [zP]
   refine takeH (i := 3) (d := some 15) (v := undef) rfl rfl (by kernel_rfl) (by kernel_rfl) (by kernel_rfl) (fun _ _ _ h => h) (Or.inr ⟨by rfl, rfl⟩) (by assumption) ?_
   try simp only [zP]
   refine takeH (i := 4) (d := some 16) (v := undef) rfl rfl (by kernel_rfl) (by kernel_rfl) (by kernel_rfl) (fun _ _ _ h => h) (Or.inr ⟨by rfl, rfl⟩) (by assumption) ?_
   try simp only [zP]
   refine takeH (i := 5) (d := some 17) (v := undef) rfl rfl (by kernel_rfl) (by kernel_rfl) (by kernel_rfl) (fun _ _ _ h => h) (Or.inr ⟨by rfl, rfl⟩) (by assumption) ?_
   try simp only [zP]
   refine takeH (i := 6) (d := some 18) (v := undef) rfl rfl (by kernel_rfl) (by kernel_rfl) (by kernel_rfl) (fun _ _ _ h => h) (Or.inr ⟨by rfl, rfl⟩) (by assumption) ?_
   try simp only [zP]
   refine takeH (i := 7) (d := some 19) (v := undef) rfl rfl (by kernel_rfl) (by kernel_rfl) (by kernel_rfl) (fun _ _ _ h => h) (Or.inr ⟨by rfl, rfl⟩) (by assumption) ?_
   try simp only [zP]
   refine takeH (i := 8) (d := some 20) (v := undef) rfl rfl (by kernel_rfl) (by kernel_rfl) (by kernel_rfl) (fun _ _ _ h => h) (Or.inr ⟨by rfl, rfl⟩) (by assumption) ?_
   try simp only [zP]
   refine takeH (i := 9) (d := some 21) (v := undef) rfl rfl (by kernel_rfl) (by kernel_rfl) (by kernel_rfl) (fun _ _ _ h => h) (Or.inr ⟨by rfl, rfl⟩) (by assumption) ?_
   try simp only [zP]
   refine takeH (i := 10) (d := some 22) (v := undef) rfl rfl (by kernel_rfl) (by kernel_rfl) (by kernel_rfl) (fun _ _ _ h => h) (Or.inr ⟨by rfl, rfl⟩) (by assumption) ?_
   try simp only [zP]
   refine takeH (i := 11) (d := some 23) (v := undef) rfl rfl (by kernel_rfl) (by kernel_rfl) (by kernel_rfl) (fun _ _ _ h => h) (Or.inr ⟨by rfl, rfl⟩) (by assumption) ?_
   try simp only [zP]
   refine takeH (i := 12) (d := some 24) (v := undef) rfl rfl (by kernel_rfl) (by kernel_rfl) (by kernel_rfl) (fun _ _ _ h => h) (Or.inr ⟨by rfl, rfl⟩) (by assumption) ?_
   try simp only [zP]
   refine takeH (i := 13) (d := some 25) (v := undef) rfl rfl (by kernel_rfl) (by kernel_rfl) (by kernel_rfl) (fun _ _ _ h => h) (Or.inr ⟨by rfl, rfl⟩) (by assumption) ?_
   try simp only [zP]
   refine takeH (i := 14) (d := some 26) (v := undef) rfl rfl (by kernel_rfl) (by kernel_rfl) (by kernel_rfl) (fun _ _ _ h => h) (Or.inr ⟨by rfl, rfl⟩) (by assumption) ?_
   try simp only [zP]
   refine tH 15 27 ?_ ?_ ?_;rotate_left
   ·intro w hSw
    go_simp
    try with_reducible rfl
   try simp only [zP]
   refine wpAnyH_done (by kernel_rfl) ?_ _
   have hrw := HR.out.made hHeld
   have HT3 := zh (Turns.then HTJ.out hHeld (fun _ _ h => h.elim))
   have HB3 := zh (Blk.turns HBJ.out hHeld (fun h => h))
   have b0 := HB3.out.cell 0
   have b1 := HB3.out.cell 1
   have b2 := HB3.out.cell 2
   simp only [encT, zG] at b0 b1 b2
   have HR3 := zh hrw
   clear hrw hHeld
   try clear hHeld
   go_wp2_with fail
   refine (put_c p mb _ sq yy f' 0 x wr.drew HR3.out hjl).mono ?_
   rintro e w2 ⟨⟨v, rfl⟩, hraw2, ht2⟩
   have HR4 := zh hraw2
   have HT4 := zh ht2
   clear hraw2 ht2 b0 b1 b2
   go_wp2_with fail
   go_end0
   have hst := HUP.out
   rw [upL_zero] at hst
   refine ⟨⟨_, rfl⟩, ⟨_, by rw [← hst]; exact HR4.out, by rw [← hst]; exact HPJ.out⟩, ?_⟩
   refine (HT3.out.mono (fun b _ h => ?_)).then HT4.out (fun b _ h => h)
   rcases h with h | h
   ·exact .inl (by rw [h]; rfl)
   ·exact .inr h
  ·obtain ⟨y, hy⟩ := get_of_lt (xs := yy) (k := par j) (by have := par_lt (i := j) (by omega); omega)
   have hjp : 0 < j := by omega
   have hpl2 := par_lt hjp
   have hq := par_int j hjp
   have hq0 : (0 : Int) < (j : Int) := by omega
   have hw1 : IntKind.i64.wrap ((j : Int) - 1) = (j : Int) - 1 := wrap_in _ (by omega)
   have hw2 : IntKind.i64.wrap (par j : Int) = (par j : Int) := wrap_in _ (by omega)
   have HY := zh hy
   have hyz : (yy.set j x)[par j]? = some y := by rw [List.getElem?_set_ne (by omega)]; exact hy
   have HYZ := zh hyz
   have i3 : (0 : Int) ≤ (par j : Int) := Int.natCast_nonneg _
   have i4 : (par j : Int) < (ys.length : Int) := by omega
   clear hy hyz
   obtain ⟨r, hr⟩ : ∃ r, cmpT x y = r := ⟨_, rfl⟩
   have hrl := cmpT_lt x y
   rw [hr] at hrl
   have HRL := zh hrl
   have HAH := zh (fun (w' : World) => (by have := ahead_c x y w'; rw [hr] at this; exact this : Calls Tryz.prog 204 #[aggT x, aggT y] w' fun e w2 => e = .returned (.int .i64 r) ∧ Made w' w2))
   clear hr hrl
   go_wp2_with fail
   refine wp_region_held_drew (S := (fun w' => Made wr w')) (by kernel_rfl) ?_ (fun hHeld => ?_)
   ·exact (Turns.refl _ _).drew
   refine tH 0 12 ?_ ?_ ?_;rotate_left
   ·intro w hSw
    go_simp
    try with_reducible rfl
   try simp only [zP]
   refine tH 1 13 ?_ ?_ ?_;rotate_left
   ·intro w hSw
    go_simp
    try with_reducible rfl
   try simp only [zP]
   refine tH 2 14 ?_ ?_ ?_;rotate_left
   ·intro w hSw
    go_simp
    try with_reducible rfl
   try simp only [zP]
   refine tH 3 15 ?_ ?_ ?_;rotate_left
   ·intro w hSw
    have hb2 := Blk.turns HBJ.out hSw (fun h => h)
    have d0 := hb2.cell 0
    have d1 := hb2.cell 1
    have d2 := hb2.cell 2
    simp only [encT, zG] at d0 d1 d2
    clear hb2
    go_simp
    try with_reducible rfl
   try simp only [zP]
   refine tH 4 16 ?_ ?_ ?_;rotate_left
   ·intro w hSw
    go_simp
    try with_reducible rfl
   try simp only [zP]
   refine tH 5 17 ?_ ?_ ?_;rotate_left
   ·intro w hSw
    go_simp
    try with_reducible rfl
   try simp only [zP]
   refine tH 6 18 ?_ ?_ ?_;rotate_left
   ·intro w hSw
    go_simp
    try with_reducible rfl
   try simp only [zP]
   refine tH 7 19 ?_ ?_ ?_;rotate_left
   ·intro w hSw
    have hb2 := HR.out.blk.turns hSw (fun h => h)
    have d0 := hb2.cell 0
    simp only [List.getElem?_toArray, List.getElem?_cons_zero] at d0
    clear hb2
    go_simp
    try with_reducible rfl
   try simp only [zP]
   refine tH 8 20 ?_ ?_ ?_;rotate_left
   ·intro w hSw
    go_simp
    try with_reducible rfl
   try simp only [zP]
   refine tH 9 21 ?_ ?_ ?_;rotate_left
   ·intro w hSw
    go_simp
    try with_reducible rfl
   try simp only [zP]
   refine tH 10 22 ?_ ?_ ?_;rotate_left
   ·intro w hSw
    go_simp
    try with_reducible rfl
   try simp only [zP]
   refine tH 11 23 ?_ ?_ ?_;rotate_left
   ·intro w hSw
    go_simp
    try with_reducible rfl
   try simp only [zP]
   refine tH 12 24 ?_ ?_ ?_;rotate_left
   ·intro w hSw
    have hb2 := (HR.out.made hSw).own
    rw [← HYL.out] at hb2
    have d0 := Owns.cell encT_len hb2 HY.out (j := 0) rfl
    have d1 := Owns.cell encT_len hb2 HY.out (j := 1) rfl
    have d2 := Owns.cell encT_len hb2 HY.out (j := 2) rfl
    simp only [Nat.add_zero] at d0
    clear hb2
    go_simp
    try with_reducible rfl
   try simp only [zP]
   refine zR 13 fun K hK => ?_
   go_simp
   refine (HAH.out _).mono ?_
   rintro e w' ⟨rfl, hm'⟩
   go_wp2_with fail
   refine hK.out _ _ ?_ (fun hHeld => ?_)
   ·exact Turns.trans hHeld hm'
   clear hK K
   try simp only [zP]
   refine tH 14 26 ?_ ?_ ?_;rotate_left
   ·intro w hSw
    go_simp
    try with_reducible rfl
   try simp only [zP]
   refine tH 15 27 ?_ ?_ ?_;rotate_left
   ·intro w hSw
    go_simp
    try with_reducible rfl
   try simp only [zP]
   refine wpAnyH_done (by kernel_rfl) ?_ _
   have hrw := HR.out.made hHeld
   have d0 := hrw.blk.cell 0
   simp only [List.getElem?_toArray, List.getElem?_cons_zero] at d0
   have HT3 := zh (Turns.then HTJ.out hHeld (fun _ _ h => h.elim))
   have HB3 := zh (Blk.turns HBJ.out hHeld (fun h => h))
   by_cases hr0 : r < 0
   ·have HLT := zh (HRL.out.mp hr0)
    have hb2 := hrw.own
    rw [← HYL.out] at hb2
    have k0 := Owns.cell encT_len hb2 HY.out (j := 0) rfl
    have k1 := Owns.cell encT_len hb2 HY.out (j := 1) rfl
    have k2 := Owns.cell encT_len hb2 HY.out (j := 2) rfl
    simp only [Nat.add_zero] at k0
    have HR3 := zh hrw
    clear hb2 hrw hHeld
    try clear hHeld
    go_wp2_with fail
    refine (put_c p mb _ sq yy f' j y w' HR3.out hjl).mono ?_
    rintro e w2 ⟨⟨v, rfl⟩, hraw2, ht2⟩
    have HR4 := zh hraw2
    have HT4 := zh ht2
    clear hraw2 ht2 d0 k0 k1 k2
    go_wp2_with fail
    go_roundw
    case rel =>
     have hsw : (yy.set j y).set (par j) x = swp (yy.set j x) j (par j) x y := by unfold swp; rw [List.set_set]
     refine ⟨par j, yy.set j y, _, by first | rfl | go_num, HR4.out, by rw [List.length_set]; exact HYL.out, ?_, ?_, ?_, ?_, HB3.out.turns HT4.out ?_, ?_⟩
     ·rw [hsw, swp_get HJX.out HYZ.out (by omega), if_pos rfl]
     ·rw [hsw]; exact HUJ.out.swp HJX.out HYZ.out (by omega)
     ·rw [hsw]; exact HPJ.out.swp HUJ.out HJX.out HYZ.out (by omega)
     ·rw [hsw, ← upL_go hjp HJX.out HYZ.out HLT.out]; exact HUP.out
     ·rintro (h | h)
      ·simp only [Value.ownBlock, Option.some.injEq] at h; omega
      ·omega
     ·refine HT3.out.then HT4.out (fun b _ h => ?_)
      rcases h with h | h
      ·simp only [Value.ownBlock, Option.some.injEq] at h; exact .inl h.symm
      ·exact .inr h
    case measure => simp [intOf]; omega
   ·have HLT := zh (fun h => hr0 (HRL.out.mpr h))
    have b0 := HB3.out.cell 0
    have b1 := HB3.out.cell 1
    have b2 := HB3.out.cell 2
    simp only [encT, zG] at b0 b1 b2
    have HR3 := zh hrw
    clear hrw hHeld d0
    try clear hHeld
    go_wp2_with fail
    refine (put_c p mb _ sq yy f' j x w' HR3.out hjl).mono ?_
    rintro e w2 ⟨⟨v, rfl⟩, hraw2, ht2⟩
    have HR4 := zh hraw2
    have HT4 := zh ht2
    clear hraw2 ht2 b0 b1 b2
    go_wp2_with fail
    go_end0
    have hst := upL_stop hjp HJX.out HYZ.out HLT.out
    rw [HUP.out] at hst
    refine ⟨⟨_, rfl⟩, ⟨_, by rw [hst]; exact HR4.out, by rw [hst]; exact HPJ.out⟩, ?_⟩
    refine (HT3.out.mono (fun b _ h => ?_)).then HT4.out (fun b _ h => h)
    rcases h with h | h
    ·exact .inl (by rw [h]; rfl)
    ·exact .inr h
theorem heap_added {w W w1 : World} {p mb : Nat} {lv : Value} {sq : Int} {ys : List It} {f : Int → Option Value} {x : It} {o : Obj} {gg cap : Nat} (HR : HRaw W p mb lv sq ys f) (HT : Turns (fun k => k = p) w W)
  (hgrow : (W.alloc o).drew.grownBy w1 lv.ownBlock) (hown : w1.ownsRow 0 186 3 (.slice (some ⟨gg, 0, none⟩) (ys.length + 1) cap) (ys.length + 1) (flat encT ys ++ encT x))
  (hat : lv.ownBlock = some gg ∨ gg = W.heap.size + 1) :
  HRaw (w1.setCell ⟨p, 0, none⟩ (.slice (some ⟨gg, 0, none⟩) (ys.length + 1) cap)) p mb (.slice (some ⟨gg, 0, none⟩) (ys.length + 1) cap) sq (ys ++ [x]) f ∧ Turns (fun k => k = p ∨ lv.ownBlock = some k) w (w1.setCell ⟨p, 0, none⟩ (.slice (some ⟨gg, 0, none⟩) (ys.length + 1) cap)) := by
 have hpl := HR.blk.lt
 have hml := HR.map.lt
 have hg : ¬ gg = p := by
  rcases hat with h | h
  ·intro e; subst e; exact HR.np h
  ·omega
 have hgm : ¬ gg = mb := by
  rcases hat with h | h
  ·intro e; subst e; exact HR.nm h
  ·omega
 have tt : Turns (fun k => lv.ownBlock = some k) W w1 := (((Turns.refl _ W).alloc o).drew).grown hgrow (fun k hk _ => hk)
 have hp1 : Blk w1 p 179 #[lv, .map (some mb), .int .i64 sq] := HR.blk.turns tt HR.np
 have hm1 : MapI w1 mb f := HR.map.turns tt HR.nm
 have ht1 : Turns (fun k => k = p) w1 (w1.setCell ⟨p, 0, none⟩ (.slice (some ⟨gg, 0, none⟩) (ys.length + 1) cap)) := (Turns.refl (fun k => k = p) w1).setCell (p := ⟨p, 0, none⟩) (fun _ => rfl) _
 refine ⟨⟨hp1.put 0 _, ?_, hm1.turns ht1 (fun h => HR.pm h.symm), ?_, ?_, HR.pm⟩, ?_⟩
 ·have := Turns.owns ht1 hown (fun k hk => by
   simp only [Value.ownBlock, Option.some.injEq] at hk
   omega)
  unfold Owns
  rw [flat_append, List.length_append]
  simpa [flat] using this
 ·simp only [Value.ownBlock, ne_eq, Option.some.injEq]
  exact hg
 ·simp only [Value.ownBlock, ne_eq, Option.some.injEq]
  exact hgm
 ·exact ((HT.mono (fun _ _ h => .inl h)).then tt (fun b _ h => .inr h)).setCell (p := ⟨p, 0, none⟩) (fun _ => .inl rfl) _
theorem hadd_raw {p mb : Nat} {lv : Value} {sq : Int} {ys : List It} {f : Int → Option Value} (id when : Int) (w : World) (h : HRaw w p mb lv sq ys f) (hp : PosOK f ys) (hu : Uniq ys) (hnn : ∀ z ∈ ys, z.id ≠ id) (hn : (ys.length : Int) ≤ sq) (hsq : sq < 1000000) :
  Calls Tryz.prog 153 #[.pointer (some ⟨p, 0, none⟩), .int .i64 id, .int .i64 when] w fun e w' => e = .returned (.int .i64 0) ∧ ∃ lv' f', HRaw w' p mb lv' (sq + 1) (upL (ys ++ [⟨id, when, sq + 1⟩]) ys.length) f' ∧ PosOK f' (upL (ys ++ [⟨id, when, sq + 1⟩]) ys.length) ∧
   Turns (fun k => k = p ∨ k = mb ∨ lv.ownBlock = some k) w w' ∧ (∀ k, lv'.ownBlock = some k → lv.ownBlock = some k ∨ w.heap.size ≤ k) := by
 have c1 := h.blk.cell 1
 have c2 := h.blk.cell 2
 simp only [zG] at c1 c2
 have f2 := h.blk.free 2
 have H := zh (h.map.look Tryz.underlying98 Tryz.underlying3 (zero_int _) id true)
 rw [hp.none hnn] at H
 simp only [Option.getD_none, Option.isSome_none] at H
 have hwr : IntKind.i64.wrap (sq + 1) = sq + 1 := wrap_in _ (by omega)
 have hpl := h.blk.lt
 have hml := h.map.lt
 have hlo := fun k (hk : lv.ownBlock = some k) => h.own.lt hk
 have ht0 : Turns (fun k => k = p) w (w.setCell ⟨p, 2, none⟩ (.int .i64 (sq + 1))) := (Turns.refl (fun k => k = p) w).setCell (p := ⟨p, 2, none⟩) (fun _ => rfl) _
 have hr0 : HRaw (w.setCell ⟨p, 2, none⟩ (.int .i64 (sq + 1))) p mb lv (sq + 1) ys f := ⟨h.blk.put 2 _, h.own.turns ht0 (fun k hk e => h.np (by rw [hk, e])), h.map.turns ht0 (fun e => h.pm e.symm), h.np, h.nm, h.pm⟩
 have HR := zh hr0
 have HT := zh ht0
 have HLO := zh hlo
 have HP := zh hp
 have HU := zh hu
 have HNN := zh hnn
 clear h ht0 hr0 hlo hp hu hnn
 obtain ⟨i0, hi0, hz0, hz1, hz2⟩ := info_parts Tryz.infoT
 go_enter Tryz.func153, Tryz.ntmps153
 go_wp2_with (at_lookup; refine wpList_lookrun _ rfl _ _ 98 true rfl _ _ _ rfl rfl H.out ?_)
 clear c1 c2 f2 H
 generalize (w.setCell ⟨p, 2, none⟩ (.int .i64 (sq + 1))) = W at *
 have c0 := HR.out.blk.cell 0
 have c2 := HR.out.blk.cell 2
 simp only [zG] at c0 c2
 have f0 := HR.out.blk.free 0
 have hWp := HR.out.blk.lt
 go_region_law
  ((refine step_append_lies _ (by rfl) _ _ _ (by rfl) 0 186 i0 _ 3 24 Tryz.underlying177 hi0 hz0 hz1 hz2 rfl (by omega) lv ys.length (flat encT ys) (by rfl) (World.ownsRow.drew (World.ownsRow.alloc HR.out.own _))
      ⟨W.heap.size, 0, none⟩ 1 1 (encT ⟨id, when, sq + 1⟩) (by rfl) (by rfl) (World.news_of_block (cs := (encT ⟨id, when, sq + 1⟩).toArray) (t := 186) (fr := (0, 0)) (heap_alloc_new W _)) (by simp [encT, Value.oneCell'])
      (by omega) (by unfold maxLen; omega) (by omega) (by simp) (W.heap.size + 1) (by simp) ?_; intro gg cap w1 hown1 hgrow hat hlt; have hfz1 : w1.frozen? ⟨p, 0, none⟩ = false := (hgrow.frozen_far ⟨p, 0, none⟩ (by simp; omega) (fun e => HR.out.np e.symm)).trans ((HR.out.blk.alloc _).free 0); have hcz1 : w1.cell? ⟨p, 0, none⟩ = some lv := (hgrow.cell_far ⟨p, 0, none⟩ (by simp; omega) (fun e => HR.out.np e.symm)).trans ((HR.out.blk.alloc _).cell 0)))
 all_goals
  have hra := heap_added (x := ⟨id, when, sq + 1⟩) HR.out HT.out hgrow hown1 hat
  clear hgrow hown1 hfz1 hcz1 c0 c2 f0
  generalize w1.setCell _ _ = W1 at *
  have HRA := zh hra.1
  have HTA := zh hra.2
  have HAT := zh hat
  clear hra hat
  have c0 := HRA.out.blk.cell 0
  simp only [zG] at c0
  have hw2 : IntKind.i64.wrap (((ys.length + 1 : Nat) : Int) - 1) = (ys.length : Int) := by rw [show (((ys.length + 1 : Nat) : Int) - 1) = (ys.length : Int) from by omega]; exact wrap_in _ (by omega)
  have hw3 : IntKind.i64.wrap ((ys.length : Int) + 1 - 1) = (ys.length : Int) := by rw [show ((ys.length : Int) + 1 - 1) = (ys.length : Int) from by omega]; exact wrap_in _ (by omega)
  have hw4 : (ys.length : Int) + 1 - 1 = (ys.length : Int) := by omega
  go_wp2_with fail
  refine (up_c p mb _ _ _ f ys.length ⟨id, when, sq + 1⟩ _ HRA.out (by simp) (HU.out.add HNN.out) (HP.out.add HNN.out) (by rw [List.length_append, List.length_singleton]; omega)).mono ?_
  rintro e w2 ⟨⟨v, rfl⟩, ⟨f', hraw2, hpos2⟩, ht2⟩
  have HR2 := zh hraw2
  have HP2 := zh hpos2
  have HT2 := zh ht2
  clear hraw2 hpos2 ht2 c0
  go_wp2_with fail
  go_ret
  refine ⟨rfl, _, f', HR2.out, HP2.out, ?_, ?_⟩
  ·refine (HTA.out.mono (fun b _ h => ?_)).then HT2.out (fun b hb h => ?_)
   ·rcases h with h | h
    ·exact .inl h
    ·exact .inr (.inr h)
   ·rcases h with h | h
    ·simp only [Value.ownBlock, Option.some.injEq] at h
     rcases HAT.out with h2 | h2
     ·exact .inr (.inr (by rw [h2, h]))
     ·have := HT.out.size; omega
    ·exact .inr (.inl h)
  ·intro k hk
   simp only [Value.ownBlock, Option.some.injEq] at hk
   subst hk
   rcases HAT.out with h2 | h2
   ·exact .inl h2
   ·exact .inr (by have := HT.out.size; omega)
theorem hadd_c {p : Nat} {F : Nat → Prop} {L : List It} {sq : Int} (id when : Int) (w : World) (h : HeapAt w p F L sq) (hx : findL id L = none) (hsq : sq < 1000000) :
  Calls Tryz.prog 153 #[.pointer (some ⟨p, 0, none⟩), .int .i64 id, .int .i64 when] w fun e w' => e = .returned (.int .i64 0) ∧ ∃ F', HeapAt w' p F' (insL ⟨id, when, sq + 1⟩ L) (sq + 1) ∧ Stp w w' F F' := by
 obtain ⟨mb, lv, ys, f, h⟩ := h
 have hnL := (findL_none id).1 hx
 have hn : ∀ z ∈ ys, z.id ≠ id := fun z hz => hnL z (h.perm.mem_iff.1 hz)
 have hlen := h.perm.length_eq
 have hl := h.len
 refine (hadd_raw id when w h.raw h.pos h.uniq hn (by omega) hsq).mono ?_
 rintro e w' ⟨rfl, lv', f', hr, hp, ht, hlv⟩
 have hperm : (upL (ys ++ [⟨id, when, sq + 1⟩]) ys.length).Perm (⟨id, when, sq + 1⟩ :: L) := (upL_perm _ _).trans ((List.perm_append_comm).trans (by simpa using h.perm))
 refine ⟨rfl, fun k => F k ∨ lv'.ownBlock = some k, ⟨mb, lv', _, f', { raw := hr, pos := hp, uniq := (h.uniq.add hn).perm (upL_perm _ _), ord := upL_heap _ _ (by simp) (h.ord.add _), perm := hperm.trans (insL_perm _ _).symm, rise := insL_rise h.rise (fun y hy => ?_), seqs := ?_, len := by rw [insL_len]; omega, fp := .inl h.fp, fm := .inl h.fm, fl := fun k hk => .inr hk, fb := ?_ }⟩, ⟨?_, ?_⟩⟩
 ·have := (h.seqs y hy).2
  unfold lt
  simp only
  omega
 ·intro x hx
  rcases (insL_mem _ _ _).1 hx with rfl | hx
  ·exact ⟨by simp only; omega, by simp⟩
  ·have := h.seqs x hx
   exact ⟨this.1, by omega⟩
 ·intro k hk
  rcases hk with hk | hk
  ·exact Nat.lt_of_lt_of_le (h.fb k hk) ht.size
  ·exact hr.own.lt hk
 ·refine ht.mono (fun k _ hk => ?_)
  rcases hk with rfl | rfl | hk
  ·exact h.fp
  ·exact h.fm
  ·exact h.fl k hk
 ·intro k hk
  rcases hk with hk | hk
  ·exact .inl hk
  ·rcases hlv k hk with h2 | h2
   ·exact .inl (h.fl k h2)
   ·exact .inr h2
section
theorem hmn2 (k k' : IntKind) (x y : Int) : Builtin.min2 (.int k x) (.int k' y) = pure (.int k (if y < x then y else x)) := by simp only [Builtin.min2]
theorem hmn_two (ats : Array TypeId) (ty : TypeId) (a b : Value) : Builtin.min_ ats ty #[a, b] = (Builtin.min2 a b >>= fun s => pure s) := by simp only [Builtin.min_, List.foldlM_cons, List.foldlM_nil]
attribute [local go_sem] hmn2 hmn_two
theorem down_c (p mb : Nat) (lv : Value) (sq : Int) (ys : List It) (f : Int → Option Value) (i : Nat) (x : It) (w : World) (h : HRaw w p mb lv sq ys f) (hx : ys[i]? = some x) (hu : Uniq ys) (hp : PosOK (upd f x.id (.int .i64 i)) ys) (hn : ys.length ≤ 1000000) :
  Calls Tryz.prog 188 #[.pointer (some ⟨p, 0, none⟩), .int .i64 i] w fun e w' => (∃ v, e = .returned v) ∧ (∃ f', HRaw w' p mb lv sq (downL ys i) f' ∧ PosOK f' (downL ys i)) ∧ Turns (fun k => lv.ownBlock = some k ∨ k = mb) w w' := by
 have hi := (List.getElem?_eq_some_iff.1 hx).1
 rcases h.own.form with ⟨_, h0⟩ | ⟨g, cap, rfl, hg, hlc, hcm⟩
 ·subst h0; simp at hi
 have c0 := h.blk.cell 0
 simp only [List.getElem?_toArray, List.getElem?_cons_zero] at c0
 have e0 : w.cell? ⟨g, i * 3, none⟩ = some (.int .i64 x.id) := Owns.cell encT_len h.own hx (j := 0) rfl
 have e1 : w.cell? ⟨g, i * 3 + 1, none⟩ = some (.int .i64 x.when) := Owns.cell encT_len h.own hx (j := 1) rfl
 have e2 : w.cell? ⟨g, i * 3 + 2, none⟩ = some (.int .i64 x.seq) := Owns.cell encT_len h.own hx (j := 2) rfl
 have i1 : (0 : Int) ≤ (i : Int) := Int.natCast_nonneg _
 have i2 : (i : Int) < (ys.length : Int) := by omega
 have HH := zh h
 have HX := zh hx
 have HU := zh hu
 have HP := zh hp
 have hpl := h.blk.lt
 have hml := h.map.lt
 clear h hx hu hp
 go_enter Tryz.func188, Tryz.ntmps188
 go_wp2_with fail
 have hB : Blk (w.alloc (.cells (encT x).toArray 186)) w.heap.size 186 (encT x).toArray := Blk.new w _ _
 have hM : Made w (w.alloc (.cells (encT x).toArray 186)) := (Turns.refl _ _).alloc _
 unfold encT at hB hM
 generalize (w.alloc (.cells [.int .i64 x.id, .int .i64 x.when, .int .i64 x.seq].toArray 186)) = W at *
 generalize hbe : w.heap.size = bx at *
 have HB := zh hB
 have HM := zh hM
 have HBE := zh hbe
 clear hB hM hbe c0 e0 e1 e2 i1 i2
 go_loopw [1] (fun v1 wr => ∃ (j : Nat) (yy : List It) (f' : Int → Option Value), v1 = .int .i64 j ∧ HRaw wr p mb (.slice (some ⟨g, 0, none⟩) ys.length cap) sq yy f' ∧ yy.length = ys.length ∧ (yy.set j x)[j]? = some x ∧ Uniq (yy.set j x) ∧ PosOK (upd f' x.id (.int .i64 j)) (yy.set j x) ∧ downL (yy.set j x) j = downL ys i ∧ Blk wr bx 186 (encT x).toArray ∧ Turns (fun k => k = g ∨ k = mb) w wr) (fun v1 _ => ys.length - (intOf v1).toNat)
 case atStart =>
  have hs : ys.set i x = ys := by
   obtain ⟨_, hh⟩ := List.getElem?_eq_some_iff.1 HX.out
   rw [← hh]; exact List.set_getElem_self hi
  refine ⟨i, ys, f, rfl, HH.out.made HM.out, rfl, ?_, ?_, ?_, ?_, HB.out, HM.out.mono (fun _ _ h => h.elim)⟩
  ·rw [hs]; exact HX.out
  ·rw [hs]; exact HU.out
  ·rw [hs]; exact HP.out
  ·rw [hs]
 case round =>
  obtain ⟨j, yy, f', rfl, hr, hyl, hjx, huj, hpj, hup, hbj, htj⟩ := hrel
  have hjl : j < yy.length := by have := (List.getElem?_eq_some_iff.1 hjx).1; rwa [List.length_set] at this
  have c0 := hr.blk.cell 0
  simp only [List.getElem?_toArray, List.getElem?_cons_zero] at c0
  have hsl : (yy.set j x).length = yy.length := List.length_set
  have HR := zh hr
  have HYL := zh hyl
  have HJX := zh hjx
  have HUJ := zh huj
  have HPJ := zh hpj
  have HUP := zh hup
  have HBJ := zh hbj
  have HTJ := zh htj
  have HSL := zh hsl
  clear hr hyl hjx huj hpj hup hbj htj HH HX HU HP HB HM hsl
  have i1 : (0 : Int) ≤ (j : Int) := Int.natCast_nonneg _
  have hjy : j < ys.length := by have := HYL.out; omega
  have i2 : (j : Int) < (ys.length : Int) := by omega
  have i3 : (j : Int) ≤ 1000000 := by omega
  by_cases hend : ¬ 4 * j + 1 < ys.length
  ·have hq : (ys.length : Int) ≤ 4 * (j : Int) + 1 := by omega
   have b0 := HBJ.out.cell 0
   have b1 := HBJ.out.cell 1
   have b2 := HBJ.out.cell 2
   simp only [encT, zG] at b0 b1 b2
   go_wp2_with fail
   refine (put_c p mb _ sq yy f' j x wr HR.out hjl).mono ?_
   rintro e w2 ⟨⟨v, rfl⟩, hraw2, ht2⟩
   have HR4 := zh hraw2
   have HT4 := zh ht2
   clear hraw2 ht2 b0 b1 b2 c0
   go_wp2_with fail
   go_end0
   have hst := downL_end (zs := yy.set j x) (i := j) (by rw [HSL.out, HYL.out]; exact hend)
   rw [HUP.out] at hst
   refine ⟨⟨_, rfl⟩, ⟨_, by rw [hst]; exact HR4.out, by rw [hst]; exact HPJ.out⟩, ?_⟩
   refine (HTJ.out.mono (fun b _ h => ?_)).then HT4.out (fun b _ h => h)
   rcases h with h | h
   ·exact .inl (by rw [h]; rfl)
   ·exact .inr h
  ·have hend' : 4 * j + 1 < ys.length := by omega
   have hq : 4 * (j : Int) + 1 < (ys.length : Int) := by omega
   clear hend
   have hkd : kids ys.length j = min (4 * j + 5) ys.length - (4 * j + 2) := rfl
   obtain ⟨kd, hkd0⟩ : ∃ kd, kids ys.length j = kd := ⟨_, rfl⟩
   rw [hkd0] at hkd
   have HKD := zh hkd0
   have HKE := zh hkd
   have hkd1 : kd ≤ 3 := by omega
   have hkd2 : 4 * j + 1 + kd < ys.length := by omega
   clear hkd hkd0
   go_wp2_with fail
   generalize hww : wr = w1 at *
   clear hww
   go_loopw [6, 7] (fun v6 v7 wx => ∃ m : Nat, m ≤ kd ∧ v7 = .int .i64 ((4 * j + 2 + m : Nat) : Int) ∧ v6 = .int .i64 ((leastC yy (4 * j + 1) m : Nat) : Int) ∧ Made w1 wx) (fun _ v7 _ => 4 * j + 2 + kd - (intOf v7).toNat)
   case atStart => exact ⟨0, Nat.zero_le _, by go_num, by simp [leastC], Turns.refl _ _⟩
   case round =>
    obtain ⟨m, hm, rfl, rfl, hmw⟩ := hrel
    have hin := leastC_in yy (4 * j + 1) m
    have HRw := zh (HR.out.made hmw)
    have HMW := zh hmw
    have c1 := HRw.out.blk.cell 0
    simp only [List.getElem?_toArray, List.getElem?_cons_zero] at c1
    clear hmw c0
    obtain ⟨K, hK⟩ : ∃ K, 4 * j + 2 + m = K := ⟨_, rfl⟩
    rw [hK]
    by_cases hmk : m < kd
    ·have hKn : K < ys.length := by omega
     have hK5 : K < 4 * j + 5 := by have := HKE.out; omega
     obtain ⟨u, hu⟩ := get_of_lt (xs := yy) (k := K) (by have := HYL.out; omega)
     obtain ⟨v, hv⟩ := get_of_lt (xs := yy) (k := leastC yy (4 * j + 1) m) (by have := HYL.out; omega)
     have hls := leastC_succ (zs := yy) (first := 4 * j + 1) (m := m) (u := u) (v := v) (by rw [show 4 * j + 1 + 1 + m = K from by omega]; exact hu) hv
     rw [show 4 * j + 1 + 1 + m = K from by omega] at hls
     generalize hL : leastC yy (4 * j + 1) m = L at *
     generalize hL' : leastC yy (4 * j + 1) (m + 1) = L' at *
     have HL' := zh hL'
     have HLS := zh hls
     have HKK := zh hK
     have HUU := zh hu
     have HVV := zh hv
     have hL5 : L < ys.length := by omega
     clear hL hL' hls hK hu hv
     have k1 : (0 : Int) ≤ (K : Int) := Int.natCast_nonneg _
     have k2 : (K : Int) < (ys.length : Int) := by omega
     have k3 : (K : Int) < 4 * (j : Int) + 1 + 4 := by omega
     have k4 : (0 : Int) ≤ (L : Int) := Int.natCast_nonneg _
     have k5 : (L : Int) < (ys.length : Int) := by omega
     obtain ⟨r, hr⟩ : ∃ r, cmpT u v = r := ⟨_, rfl⟩
     have hrl := cmpT_lt u v
     rw [hr] at hrl
     have HRL := zh hrl
     have HAH := zh (fun (w' : World) => (by have := ahead_c u v w'; rw [hr] at this; exact this : Calls Tryz.prog 204 #[aggT u, aggT v] w' fun e w2 => e = .returned (.int .i64 r) ∧ Made w' w2))
     clear hr hrl
     by_cases hsm : (ys.length : Int) < 4 * (j : Int) + 1 + 4
     all_goals
      go_wp2_with fail
      refine wp_region_held_drew (S := (fun w' => Made wr w')) (by kernel_rfl) ?_ (fun hHeld => ?_)
      ·exact (Turns.refl _ _).drew
      refine tH 0 40 ?_ ?_ ?_;rotate_left
      ·intro w hSw
       go_simp
       try with_reducible rfl
      try simp only [zP]
      refine tH 1 41 ?_ ?_ ?_;rotate_left
      ·intro w hSw
       go_simp
       try with_reducible rfl
      try simp only [zP]
      refine tH 2 42 ?_ ?_ ?_;rotate_left
      ·intro w hSw
       go_simp
       try with_reducible rfl
      try simp only [zP]
      refine tH 3 43 ?_ ?_ ?_;rotate_left
      ·intro w hSw
       have hb2 := HRw.out.blk.turns hSw (fun h => h)
       have d0 := hb2.cell 0
       simp only [List.getElem?_toArray, List.getElem?_cons_zero] at d0
       clear hb2
       go_simp
       try with_reducible rfl
      try simp only [zP]
      refine tH 4 44 ?_ ?_ ?_;rotate_left
      ·intro w hSw
       go_simp
       try with_reducible rfl
      try simp only [zP]
      refine tH 5 45 ?_ ?_ ?_;rotate_left
      ·intro w hSw
       go_simp
       try with_reducible rfl
      try simp only [zP]
      refine tH 6 46 ?_ ?_ ?_;rotate_left
      ·intro w hSw
       have hb2 := (HRw.out.made hSw).own
       rw [← HYL.out] at hb2
       have d0 := Owns.cell encT_len hb2 HUU.out (j := 0) rfl
       have d1 := Owns.cell encT_len hb2 HUU.out (j := 1) rfl
       have d2 := Owns.cell encT_len hb2 HUU.out (j := 2) rfl
       simp only [Nat.add_zero] at d0
       clear hb2
       go_simp
       try with_reducible rfl
      try simp only [zP]
      refine tH 7 47 ?_ ?_ ?_;rotate_left
      ·intro w hSw
       go_simp
       try with_reducible rfl
      try simp only [zP]
      refine tH 8 48 ?_ ?_ ?_;rotate_left
      ·intro w hSw
       go_simp
       try with_reducible rfl
      try simp only [zP]
      refine tH 9 49 ?_ ?_ ?_;rotate_left
      ·intro w hSw
       go_simp
       try with_reducible rfl
      try simp only [zP]
      refine tH 10 50 ?_ ?_ ?_;rotate_left
      ·intro w hSw
       have hb2 := HRw.out.blk.turns hSw (fun h => h)
       have d0 := hb2.cell 0
       simp only [List.getElem?_toArray, List.getElem?_cons_zero] at d0
       clear hb2
       go_simp
       try with_reducible rfl
      try simp only [zP]
      refine tH 11 51 ?_ ?_ ?_;rotate_left
      ·intro w hSw
       go_simp
       try with_reducible rfl
      try simp only [zP]
      refine tH 12 52 ?_ ?_ ?_;rotate_left
      ·intro w hSw
       go_simp
       try with_reducible rfl
      try simp only [zP]
      refine tH 13 53 ?_ ?_ ?_;rotate_left
      ·intro w hSw
       have hb2 := (HRw.out.made hSw).own
       rw [← HYL.out] at hb2
       have d0 := Owns.cell encT_len hb2 HVV.out (j := 0) rfl
       have d1 := Owns.cell encT_len hb2 HVV.out (j := 1) rfl
       have d2 := Owns.cell encT_len hb2 HVV.out (j := 2) rfl
       simp only [Nat.add_zero] at d0
       clear hb2
       go_simp
       try with_reducible rfl
      try simp only [zP]
      refine zR 14 fun K hK => ?_
      go_simp
      refine (HAH.out _).mono ?_
      rintro e w' ⟨rfl, hm'⟩
      go_wp2_with fail
      refine hK.out _ _ ?_ (fun hHeld => ?_)
      ·exact Turns.trans hHeld hm'
      clear hK K
      try simp only [zP]
      refine tH 15 55 ?_ ?_ ?_;rotate_left
      ·intro w hSw
       go_simp
       try with_reducible rfl
      try simp only [zP]
      refine wpAnyH_done (by kernel_rfl) ?_ _
      have HMX := zh (Turns.trans HMW.out hHeld)
      clear hHeld
      try clear hHeld
      by_cases hr0 : r < 0
      ·have hlt := HRL.out.mp hr0
       have hL2 : L' = K := by rw [HLS.out, if_pos hlt]
       clear hlt
       go_wp2_with fail
       go_roundw
       case rel => exact ⟨m + 1, by omega, by have := HKK.out; go_num, by rw [HL'.out, hL2], HMX.out⟩
       case measure => have := HKK.out; simp [intOf]; omega
      ·have hlt := fun h => hr0 (HRL.out.mpr h)
       have hL2 : L' = L := by rw [HLS.out, if_neg hlt]
       clear hlt
       go_wp2_with fail
       go_roundw
       case rel => exact ⟨m + 1, by omega, by have := HKK.out; go_num, by rw [HL'.out, hL2], HMX.out⟩
       case measure => have := HKK.out; simp [intOf]; omega
    ·obtain rfl : m = kd := by omega
     have hL1 : leastC yy (4 * j + 1) m = leastK (yy.set j x) j := by
      unfold leastK
      rw [HSL.out, HYL.out, HKD.out, leastC_set _ _ _ _ (by omega)]
     rw [hL1]
     have hLin := leastK_in (zs := yy.set j x) (i := j) (by rw [HSL.out, HYL.out]; exact hend')
     rw [HSL.out, HYL.out] at hLin
     generalize hL : leastK (yy.set j x) j = L at *
     have HLL := zh hL
     clear hL hL1 hin
     obtain ⟨hLa, hLb, hLc⟩ := hLin
     obtain ⟨y, hy⟩ := get_of_lt (xs := yy) (k := L) (by have := HYL.out; omega)
     have hyz : (yy.set j x)[L]? = some y := by rw [List.getElem?_set_ne (by omega)]; exact hy
     have HY := zh hy
     have HYZ := zh hyz
     clear hy hyz
     have hKv : K = 4 * j + 2 + m := hK.symm
     have hKe : K = min (4 * j + 5) ys.length := by have := HKE.out; omega
     clear hK
     have k1 : (0 : Int) ≤ (L : Int) := Int.natCast_nonneg _
     have k2 : (L : Int) < (ys.length : Int) := by omega
     obtain ⟨r, hr⟩ : ∃ r, cmpT x y = r := ⟨_, rfl⟩
     have hrl := cmpT_lt x y
     rw [hr] at hrl
     have HRL := zh hrl
     have HAH := zh (fun (w' : World) => (by have := ahead_c x y w'; rw [hr] at this; exact this : Calls Tryz.prog 204 #[aggT x, aggT y] w' fun e w2 => e = .returned (.int .i64 r) ∧ Made w' w2))
     clear hr hrl
     have HBW := zh (Blk.turns HBJ.out HMW.out (fun h => h))
     have hsm' : ¬ ((K : Int) < if (ys.length : Int) < 4 * (j : Int) + 1 + 4 then (ys.length : Int) else 4 * (j : Int) + 1 + 4) := by
      split <;> omega
     by_cases hsm : (ys.length : Int) < 4 * (j : Int) + 1 + 4
     all_goals
      go_wp2_with fail
      refine wp_region_held_drew (S := (fun w' => Made wr w')) (by kernel_rfl) ?_ (fun hHeld => ?_)
      ·exact (Turns.refl _ _).drew
      refine tH 0 57 ?_ ?_ ?_;rotate_left
      ·intro w hSw
       have hb2 := Blk.turns HBW.out hSw (fun h => h)
       have d0 := hb2.cell 0
       have d1 := hb2.cell 1
       have d2 := hb2.cell 2
       simp only [encT, zG] at d0 d1 d2
       clear hb2
       go_simp
       try with_reducible rfl
      try simp only [zP]
      refine tH 1 58 ?_ ?_ ?_;rotate_left
      ·intro w hSw
       go_simp
       try with_reducible rfl
      try simp only [zP]
      refine tH 2 59 ?_ ?_ ?_;rotate_left
      ·intro w hSw
       go_simp
       try with_reducible rfl
      try simp only [zP]
      refine tH 3 60 ?_ ?_ ?_;rotate_left
      ·intro w hSw
       go_simp
       try with_reducible rfl
      try simp only [zP]
      refine tH 4 61 ?_ ?_ ?_;rotate_left
      ·intro w hSw
       have hb2 := HRw.out.blk.turns hSw (fun h => h)
       have d0 := hb2.cell 0
       simp only [List.getElem?_toArray, List.getElem?_cons_zero] at d0
       clear hb2
       go_simp
       try with_reducible rfl
      try simp only [zP]
      refine tH 5 62 ?_ ?_ ?_;rotate_left
      ·intro w hSw
       go_simp
       try with_reducible rfl
      try simp only [zP]
      refine tH 6 63 ?_ ?_ ?_;rotate_left
      ·intro w hSw
       go_simp
       try with_reducible rfl
      try simp only [zP]
      refine tH 7 64 ?_ ?_ ?_;rotate_left
      ·intro w hSw
       have hb2 := (HRw.out.made hSw).own
       rw [← HYL.out] at hb2
       have d0 := Owns.cell encT_len hb2 HY.out (j := 0) rfl
       have d1 := Owns.cell encT_len hb2 HY.out (j := 1) rfl
       have d2 := Owns.cell encT_len hb2 HY.out (j := 2) rfl
       simp only [Nat.add_zero] at d0
       clear hb2
       go_simp
       try with_reducible rfl
      try simp only [zP]
      refine zR 8 fun K hK => ?_
      go_simp
      refine (HAH.out _).mono ?_
      rintro e w' ⟨rfl, hm'⟩
      go_wp2_with fail
      refine hK.out _ _ ?_ (fun hHeld => ?_)
      ·exact Turns.trans hHeld hm'
      clear hK K
      try simp only [zP]
      refine tH 9 66 ?_ ?_ ?_;rotate_left
      ·intro w hSw
       go_simp
       try with_reducible rfl
      try simp only [zP]
      refine wpAnyH_done (by kernel_rfl) ?_ _
      have hrw := HRw.out.made hHeld
      have d0 := hrw.blk.cell 0
      simp only [List.getElem?_toArray, List.getElem?_cons_zero] at d0
      have HT3 := zh (Turns.then (Turns.then HTJ.out HMW.out (fun _ _ h => h.elim)) hHeld (fun _ _ h => h.elim))
      have HB3 := zh (Blk.turns HBW.out hHeld (fun h => h))
      by_cases hr0 : r < 0
      ·have HLT := zh (HRL.out.mp hr0)
       have b0 := HB3.out.cell 0
       have b1 := HB3.out.cell 1
       have b2 := HB3.out.cell 2
       simp only [encT, zG] at b0 b1 b2
       have HR3 := zh hrw
       clear hrw hHeld d0
       try clear hHeld
       go_wp2_with fail
       refine (put_c p mb _ sq yy f' j x w' HR3.out hjl).mono ?_
       rintro e w2 ⟨⟨v, rfl⟩, hraw2, ht2⟩
       have HR4 := zh hraw2
       have HT4 := zh ht2
       clear hraw2 ht2 b0 b1 b2
       go_wp2_with fail
       go_end0
       have hst := downL_stop (zs := yy.set j x) (i := j) (by rw [HSL.out, HYL.out]; exact hend') HJX.out (by rw [HLL.out]; exact HYZ.out) HLT.out
       rw [HUP.out] at hst
       refine ⟨⟨_, rfl⟩, ⟨_, by rw [hst]; exact HR4.out, by rw [hst]; exact HPJ.out⟩, ?_⟩
       refine (HT3.out.mono (fun b _ h => ?_)).then HT4.out (fun b _ h => h)
       rcases h with h | h
       ·exact .inl (by rw [h]; rfl)
       ·exact .inr h
      ·have HLT := zh (fun h => hr0 (HRL.out.mpr h))
       have hb2 := hrw.own
       rw [← HYL.out] at hb2
       have k0 := Owns.cell encT_len hb2 HY.out (j := 0) rfl
       have k1 := Owns.cell encT_len hb2 HY.out (j := 1) rfl
       have k2 := Owns.cell encT_len hb2 HY.out (j := 2) rfl
       simp only [Nat.add_zero] at k0
       have HR3 := zh hrw
       clear hb2 hrw hHeld
       try clear hHeld
       have k4 : (0 : Int) ≤ (L : Int) := Int.natCast_nonneg _
       have k5 : (L : Int) < (ys.length : Int) := by omega
       go_wp2_with fail
       refine (put_c p mb _ sq yy f' j y w' HR3.out hjl).mono ?_
       rintro e w2 ⟨⟨v, rfl⟩, hraw2, ht2⟩
       have HR4 := zh hraw2
       have HT4 := zh ht2
       clear hraw2 ht2 d0 k0 k1 k2
       go_wp2_with fail
       go_roundw
       case rel =>
        have hsw : (yy.set j y).set L x = swp (yy.set j x) j L x y := by unfold swp; rw [List.set_set]
        refine ⟨L, yy.set j y, _, by first | rfl | go_num, HR4.out, by rw [List.length_set]; exact HYL.out, ?_, ?_, ?_, ?_, HB3.out.turns HT4.out ?_, ?_⟩
        ·rw [hsw, swp_get HJX.out HYZ.out (by omega), if_pos rfl]
        ·rw [hsw]; exact HUJ.out.swp HJX.out HYZ.out (by omega)
        ·rw [hsw]; exact HPJ.out.swp HUJ.out HJX.out HYZ.out (by omega)
        ·have hgo := downL_go (zs := yy.set j x) (i := j) (by rw [HSL.out, HYL.out]; exact hend') HJX.out (by rw [HLL.out]; exact HYZ.out) HLT.out
         rw [HLL.out] at hgo
         rw [hsw, ← hgo]; exact HUP.out
        ·rintro (h | h)
         ·simp only [Value.ownBlock, Option.some.injEq] at h; omega
         ·omega
        ·refine HT3.out.then HT4.out (fun b _ h => ?_)
         rcases h with h | h
         ·simp only [Value.ownBlock, Option.some.injEq] at h; exact .inl h.symm
         ·exact .inr h
       case measure => simp [intOf]; omega
end
theorem Blk.put3 {w : World} {g : Nat} {t : TypeId} {a b c : Value} (h : Blk w g t #[a, b, c]) (x y z : Value) : Blk (((w.setCell ⟨g, 0, none⟩ x).setCell ⟨g, 1, none⟩ y).setCell ⟨g, 2, none⟩ z) g t #[x, y, z] := ((h.put 0 x).put 1 y).put 2 z
theorem set3 (w : World) (g : Nat) {x y z : Value} : Turns (fun k => k = g) w (((w.setCell ⟨g, 0, none⟩ x).setCell ⟨g, 1, none⟩ y).setCell ⟨g, 2, none⟩ z) :=
 (((Turns.refl (fun k => k = g) w).setCell (p := ⟨g, 0, none⟩) (fun _ => rfl) _).setCell (p := ⟨g, 1, none⟩) (fun _ => rfl) _).setCell (p := ⟨g, 2, none⟩) (fun _ => rfl) _
theorem own3 {g n cap mb b p : Nat} (h : (Value.slice (some ⟨g, 0, none⟩) n cap).ownBlock = some b ∨ b = mb) : b = p ∨ b = mb ∨ b = g := by
 simp only [Value.ownBlock, Option.some.injEq] at h
 omega
theorem res_box {fn : Func} {p u : Tmp} (hr : fn.results = #[.cell p 186, .tmp u]) {tmps : Array Value} {w : World} {g : Nat} {a b c v : Value} (hb : Blk w g 186 #[a, b, c]) (hp : tmps.getD p undef = .pointer (some ⟨g, 0, none⟩)) (hv : tmps.getD u undef = v) :
  (results fn tmps).run Tryz.prog w = .ok (.tuple #[.agg #[a, b, c], v]) w := by
 have c0 := hb.cell 0
 have c1 := hb.cell 1
 have c2 := hb.cell 2
 simp only [zG] at c0 c1 c2
 rw [results_cell_tmp hr, hp, hv]
 go_simp
theorem hrem_none {p : Nat} {F : Nat → Prop} {L : List It} {sq : Int} (id : Int) (w : World) (h : HeapAt w p F L sq) (hx : findL id L = none) : Calls Tryz.prog 151 #[.pointer (some ⟨p, 0, none⟩), .int .i64 id] w fun e w' => e = .returned (.tuple #[aggT zeroT, .bool false]) ∧ Made w w' := by
 have H := zh (fun (w' : World) (hm : Made w w') => hfind_c id w' (h.made hm))
 rw [hx] at H
 have HM := zh (fun (o : Obj) => ((zT w).alloc o))
 clear h hx
 simp only [optT, Option.getD_none, zeroT, Option.isSome_none, aggT] at H ⊢
 go_enter Tryz.func151, Tryz.ntmps151
 go_wp2_with fail
 refine (H.out _ (HM.out _)).mono ?_
 rintro e w' ⟨rfl, hm⟩
 have hB1 := (Blk.new w 186 #[.int .i64 0, .int .i64 0, .int .i64 0]).turns hm (fun h => h)
 have b0 := hB1.cell 0
 have b1 := hB1.cell 1
 have b2 := hB1.cell 2
 have g0 := hB1.free 0
 have g1 := hB1.free 1
 have g2 := hB1.free 2
 have hb4 := hB1.lt
 simp only [zG] at b0 b1 b2
 have HMA := zh ((HM.out _).trans hm)
 have HB := zh hB1
 clear hm hB1 HM
 go_wp2_with fail
 refine bodyPost_ret (res_box rfl ((HB.out.put3 _ _ _).alloc _) rfl rfl) rfl ?_
 exact ⟨rfl, ((((HMA.out.setCell (p := ⟨w.heap.size, 0, none⟩) (fun h => absurd h (Nat.lt_irrefl _)) _).setCell (p := ⟨w.heap.size, 1, none⟩) (fun h => absurd h (Nat.lt_irrefl _)) _).setCell (p := ⟨w.heap.size, 2, none⟩) (fun h => absurd h (Nat.lt_irrefl _)) _).alloc _)⟩
theorem Owns.cut {w : World} {g cap n : Nat} {ys : List It} (h : Owns encT 186 3 w (.slice (some ⟨g, 0, none⟩) (n + 1) cap) ys) (hn : ys.length = n + 1) : Owns encT 186 3 w (.slice (some ⟨g, 0, none⟩) n cap) ys.dropLast := by
 have hl : ys.dropLast.length = n := by rw [List.length_dropLast]; omega
 unfold Owns at h ⊢
 rw [hl]
 refine ⟨by rw [flat_length encT_len, hl], ?_⟩
 rcases h.2 with ⟨h0, _⟩ | ⟨g', cap', cur, hv, hb, hg, h1, h2, h3, h4⟩
 ·cases h0
 ·simp only [Value.slice.injEq, Option.some.injEq, Addr.mk.injEq, and_true, true_and] at hv
  obtain ⟨rfl, _, rfl⟩ := hv
  refine .inr ⟨g, cap, cur, rfl, hb, hg, by omega, h2, h3, ?_⟩
  obtain ⟨z, hz⟩ := get_of_lt (xs := ys) (k := n) (by omega)
  have e := cut_end hn hz
  have e2 : flat encT ys = flat encT ys.dropLast ++ encT z := by
   conv => lhs; rw [e]
   rw [flat_append]
   simp [flat]
  rw [hn, e2] at h4
  have : cur.toList.take (n * 3) = (cur.toList.take ((n + 1) * 3)).take (n * 3) := by rw [List.take_take]; congr 1; omega
  rw [this, h4, List.take_left' (by rw [flat_length encT_len, hl])]
theorem hrem_in {p mb : Nat} {lv : Value} {sq : Int} {ys : List It} {f : Int → Option Value} {F : Nat → Prop} {L : List It} (id : Int) (w : World) (h : HeapIn w p mb lv sq ys f F L) (hsq : sq ≤ 1000000) {k : Nat} {x : It} (hf : findL id L = some x) (hk : ys[k]? = some x) (hid : x.id = id) :
  Calls Tryz.prog 151 #[.pointer (some ⟨p, 0, none⟩), .int .i64 id] w fun e w' => e = .returned (.tuple #[aggT x, .bool true]) ∧ ∃ lv' ys' f', HRaw w' p mb lv' sq ys' f' ∧ PosOK f' ys' ∧ HOrd ys' ∧ (x :: ys').Perm ys ∧ lv'.ownBlock = lv.ownBlock ∧ Turns (fun k => k = p ∨ k = mb ∨ lv.ownBlock = some k) w w' := by
 rcases h.raw.own.form with ⟨rfl, h0⟩ | ⟨g, cap, rfl, hg, hl, hm⟩
 ·rw [h0] at hk; simp at hk
 have hkl := (List.getElem?_eq_some_iff.1 hk).1
 obtain ⟨n, hn⟩ : ∃ n, ys.length = n + 1 := ⟨ys.length - 1, by omega⟩
 have hsz : (ys.length : Int) ≤ sq := by have := h.len; have := h.perm.length_eq; omega
 obtain ⟨z, hz⟩ := get_of_lt (xs := ys) (k := n) (by omega)
 have hfk : f id = some (.int .i64 k) := by rw [← hid]; exact h.pos.get hk
 have H := zh (fun (w' : World) (hm : Made w w') => hfind_in id w' (h.turns hm (fun _ _ h => h)))
 rw [hf] at H
 simp only [optT, Option.getD_some, Option.isSome_some, aggT] at H ⊢
 have HM := zh (fun (o : Obj) => ((zT w).alloc o))
 have HR := zh h.raw
 have HO := zh h.ord
 have HU := zh h.uniq
 have HP := zh h.pos
 have HK := zh hk
 have HZ := zh hz
 have HFK := zh hfk
 have HID := zh hid
 have HN := zh hn
 have hpl := h.raw.blk.lt
 have hml := h.raw.map.lt
 have hB := Blk.new w 186 #[.int .i64 0, .int .i64 0, .int .i64 0]
 clear h hf hk hid hfk hz
 go_enter Tryz.func151, Tryz.ntmps151
 go_wp2_with fail
 refine (H.out _ (HM.out _)).mono ?_
 rintro e w1 ⟨rfl, hm⟩
 have hB1 := hB.turns hm (fun h => h)
 have HMA := zh ((HM.out _).trans hm)
 have hX := Blk.new w1 186 (encT x).toArray
 unfold encT at hX
 have hb4 := hB1.lt
 have HR1 := zh ((HR.out.made HMA.out).made ((zT w1).alloc (.cells #[.int .i64 x.id, .int .i64 x.when, .int .i64 x.seq] 186)))
 have HB4 := zh (hB1.alloc (.cells #[.int .i64 x.id, .int .i64 x.when, .int .i64 x.seq] 186))
 have HB6 := zh hX
 have HMB := zh (HMA.out.alloc (.cells #[.int .i64 x.id, .int .i64 x.when, .int .i64 x.seq] 186))
 clear H HM hB hm hB1 hX HR HMA
 go_wp2_with fail
 generalize w1.alloc (.cells #[.int .i64 x.id, .int .i64 x.when, .int .i64 x.seq] 186) = W1 at *
 generalize hb6 : w1.heap.size = q6 at *
 clear hb6 w1
 have hwn : IntKind.i64.wrap ((ys.length : Int) - 1) = (n : Int) := by rw [show (ys.length : Int) - 1 = (n : Int) from by omega]; exact wrap_in _ (by omega)
 have hwn3 : (ys.length : Int) - 1 = (n : Int) := by omega
 refine wp_region_held_drew (S := (fun w' => Made W1 w')) (by kernel_rfl) ?_ (fun hHeld => ?_)
 ·exact (Turns.refl _ _).drew
 refine tH 0 20 ?_ ?_ ?_;rotate_left
 ·intro w hSw
  go_simp
  try with_reducible rfl
 try simp only [zP]
 refine tH 1 21 ?_ ?_ ?_;rotate_left
 ·intro w hSw
  go_simp
  try with_reducible rfl
 try simp only [zP]
 refine tH 2 22 ?_ ?_ ?_;rotate_left
 ·intro w hSw
  go_simp
  try with_reducible rfl
 try simp only [zP]
 refine tH 3 23 ?_ ?_ ?_;rotate_left
 ·intro w hSw
  have hb2 := HR1.out.blk.turns hSw (fun h => h)
  have d0 := hb2.cell 1
  simp only [zG] at d0
  clear hb2
  go_simp
  try with_reducible rfl
 try simp only [zP]
 refine tH 4 24 ?_ ?_ ?_;rotate_left
 ·intro w hSw
  go_simp
  try with_reducible rfl
 try simp only [zP]
 refine tH 5 25 ?_ ?_ ?_;rotate_left
 ·intro w hSw
  have hlk := (HR1.out.map.turns hSw (fun h => h)).look Tryz.underlying98 Tryz.underlying3 (zero_int _) id false
  rw [HFK.out] at hlk
  simp only [Option.getD_some, Bool.false_eq_true, if_false] at hlk
  go_simp
  try with_reducible rfl
 try simp only [zP]
 refine tH 6 26 ?_ ?_ ?_;rotate_left
 ·intro w hSw
  go_simp
  try with_reducible rfl
 try simp only [zP]
 refine tH 7 27 ?_ ?_ ?_;rotate_left
 ·intro w hSw
  go_simp
  try with_reducible rfl
 try simp only [zP]
 refine tH 8 28 ?_ ?_ ?_;rotate_left
 ·intro w hSw
  go_simp
  try with_reducible rfl
 try simp only [zP]
 refine tH 9 29 ?_ ?_ ?_;rotate_left
 ·intro w hSw
  have hb2 := HR1.out.blk.turns hSw (fun h => h)
  have d0 := hb2.cell 0
  simp only [zG] at d0
  clear hb2
  go_simp
  try with_reducible rfl
 try simp only [zP]
 refine tH 10 30 ?_ ?_ ?_;rotate_left
 ·intro w hSw
  go_simp
  try with_reducible rfl
 try simp only [zP]
 refine tH 11 31 ?_ ?_ ?_;rotate_left
 ·intro w hSw
  go_simp
  try with_reducible rfl
 try simp only [zP]
 refine tH 12 8 ?_ ?_ ?_;rotate_left
 ·intro w hSw
  go_simp
  try with_reducible rfl
 try simp only [zP]
 refine tH 13 9 ?_ ?_ ?_;rotate_left
 ·intro w hSw
  go_simp
  try with_reducible rfl
 try simp only [zP]
 refine wpAnyH_done (by kernel_rfl) ?_ _
 have HR2 := zh (HR1.out.made hHeld)
 have HC4 := zh (HB4.out.turns hHeld (fun h => h))
 have HC6 := zh (HB6.out.turns hHeld (fun h => h))
 have HMC := zh (HMB.out.trans hHeld)
 clear hHeld HR1 HB4 HB6 HMB
 try clear hHeld
 generalize W1.drew = W2 at *
 clear W1
 have c0 := HR2.out.blk.cell 0
 have c1 := HR2.out.blk.cell 1
 simp only [zG] at c0 c1
 have f0 := HR2.out.blk.free 0
 have e0 : W2.cell? ⟨g, n * 3, none⟩ = some (.int .i64 z.id) := Owns.cell encT_len HR2.out.own HZ.out (j := 0) rfl
 have e1 : W2.cell? ⟨g, n * 3 + 1, none⟩ = some (.int .i64 z.when) := Owns.cell encT_len HR2.out.own HZ.out (j := 1) rfl
 have e2 : W2.cell? ⟨g, n * 3 + 2, none⟩ = some (.int .i64 z.seq) := Owns.cell encT_len HR2.out.own HZ.out (j := 2) rfl
 have hp2 := HR2.out.blk.lt
 have hm2 := HR2.out.map.lt
 have hg2 : g < W2.heap.size := HR2.out.own.lt rfl
 have i1 : (0 : Int) ≤ (n : Int) := Int.natCast_nonneg _
 have i2 : (n : Int) < (ys.length : Int) := by omega
 have i3 : (n : Int) ≤ (ys.length : Int) := by omega
 have i4 : (n : Int) ≤ (cap : Int) := by omega
 have hcut := Owns.cut (by have := HR2.out.own; rwa [hn] at this) hn
 have hr3 : HRaw ((W2.setCell ⟨p, 0, none⟩ (.slice (some ⟨g, 0, none⟩) n cap)).alloc (.cells #[.int .i64 z.id, .int .i64 z.when, .int .i64 z.seq] 186)) p mb (.slice (some ⟨g, 0, none⟩) n cap) sq ys.dropLast f := by
  have ht3 : Turns (fun k => k = p) W2 ((W2.setCell ⟨p, 0, none⟩ (.slice (some ⟨g, 0, none⟩) n cap)).alloc (.cells #[.int .i64 z.id, .int .i64 z.when, .int .i64 z.seq] 186)) := ((Turns.refl (fun k => k = p) W2).setCell (p := ⟨p, 0, none⟩) (fun _ => rfl) _).alloc _
  refine ⟨(HR2.out.blk.put 0 _).alloc _, hcut.turns ht3 (fun k hk e => HR2.out.np (by rw [e] at hk; exact hk)), HR2.out.map.turns ht3 (fun e => HR2.out.pm e.symm), fun e => HR2.out.np e, fun e => HR2.out.nm e, HR2.out.pm⟩
 have ht3 : Turns (fun k => k = p ∨ k = mb ∨ k = g) W2 ((W2.setCell ⟨p, 0, none⟩ (.slice (some ⟨g, 0, none⟩) n cap)).alloc (.cells #[.int .i64 z.id, .int .i64 z.when, .int .i64 z.seq] 186)) := ((Turns.refl _ W2).setCell (p := ⟨p, 0, none⟩) (fun _ => .inl rfl) _).alloc _
 have hb10 := Blk.new (W2.setCell ⟨p, 0, none⟩ (.slice (some ⟨g, 0, none⟩) n cap)) 186 #[.int .i64 z.id, .int .i64 z.when, .int .i64 z.seq]
 have hs3 : (W2.setCell ⟨p, 0, none⟩ (.slice (some ⟨g, 0, none⟩) n cap)).heap.size = W2.heap.size := by simp [World.setCell]
 rw [hs3] at hb10
 have hq4 := HC4.out.lt
 have hq6 := HC6.out.lt
 have HR3 := zh hr3
 have HT3 := zh ht3
 have HB10 := zh hb10
 have HD4 := zh (HC4.out.turns ht3 (by omega))
 have HD6 := zh (HC6.out.turns ht3 (by omega))
 clear hcut hr3 ht3 hb10 hs3
 obtain ⟨w4, hrun, hmap4, ht4, hsz4⟩ := HR3.out.map.drop (P := Tryz.prog) Tryz.underlying98 Tryz.underlying3 id 0
 have hgm : ¬ g = mb := fun e => HR3.out.nm (by rw [← e]; rfl)
 have hr4 : HRaw w4 p mb (.slice (some ⟨g, 0, none⟩) n cap) sq ys.dropLast (del f id) := ⟨HR3.out.blk.turns ht4 (fun e => HR3.out.pm e), HR3.out.own.turns ht4 (fun k hk e => HR3.out.nm (by rw [hk, e])), hmap4, HR3.out.np, HR3.out.nm, HR3.out.pm⟩
 have HR4 := zh hr4
 have HE4' := zh (HD4.out.turns ht4 (by omega))
 have HE6' := zh (HD6.out.turns ht4 (by omega))
 have HE10 := zh (HB10.out.turns ht4 (by omega))
 have HTD := zh (((HMC.out.mono (S' := fun k => k = p ∨ k = mb ∨ k = g) (fun _ _ h => h.elim)).then HT3.out (fun _ _ h => h)).then ht4 (fun _ _ h => .inr (.inl h)))
 clear hmap4 ht4 hsz4 hr4 HR3 HT3 HB10 HD4 HD6 HR2 HC4 HC6 HMC
 have c0' := HR4.out.blk.cell 0
 have c1' := HR4.out.blk.cell 1
 have d0 := HE10.out.cell 0
 have d1 := HE10.out.cell 1
 have d2 := HE10.out.cell 2
 simp only [zG] at c0' c1' d0 d1 d2
 by_cases hkn : k < n
 ·have hkn2 : (k : Int) < (n : Int) := by omega
  have hkd : k < ys.dropLast.length := by rw [List.length_dropLast]; omega
  have hzs : (ys.dropLast.set k z)[k]? = some z := List.getElem?_set_self hkd
  have hpm := cut_mid HN.out hkn HK.out HZ.out
  have hps := PosOK.cut_mid HU.out HP.out HN.out hkn HK.out HZ.out
  rw [HID.out] at hps
  have huz : Uniq (ys.dropLast.set k z) := by
   have h1 := HU.out.perm hpm
   rw [Uniq.iff, List.map_cons, List.nodup_cons] at h1
   exact (Uniq.iff _).2 h1.2
  have hga := HO.out.cut.set_GA k z
  have hlz : (ys.dropLast.set k z).length = n := by rw [List.length_set, List.length_dropLast]; omega
  have HZS := zh hzs
  have HPM := zh hpm
  have HPS := zh hps
  have HUZ := zh huz
  have HGA := zh hga
  have HLZ := zh hlz
  have HPUT := zh (put_c p mb _ sq ys.dropLast (del f id) k z w4 HR4.out hkd)
  clear hzs hpm hps huz hga hlz
  unfold aggT at HPUT
  go_wp2_with fail
  clear hrun c0 c1 f0 e0 e1 e2
  refine HPUT.out.mono ?_
  rintro e w5 ⟨⟨v, rfl⟩, hraw5, ht5⟩
  generalize ys.dropLast.set k z = zs at *
  have HR5 := zh hraw5
  have HT5 := zh ht5
  clear hraw5 ht5 HPUT c0' c1' d0 d1 d2
  go_wp2_with fail
  refine (up_c p mb _ sq zs _ k z w5 HR5.out HZS.out HUZ.out (by rw [upd_idem]; exact HPS.out) (by have := HLZ.out; omega)).mono ?_
  rintro e w6 ⟨⟨v6, rfl⟩, ⟨f6, hraw6, hpos6⟩, ht6⟩
  have hpu := upL_perm k zs
  have hdn := upL_dnA HUZ.out HZS.out HGA.out
  have hu6 := HUZ.out.perm hpu
  obtain ⟨j, hj⟩ := List.getElem?_of_mem (hpu.mem_iff.2 (List.mem_of_getElem? HZS.out))
  have hfj := hpos6.get hj
  have hdnj := hdn j z hj rfl
  have hl6 : (upL zs k).length = n := by rw [hpu.length_eq]; exact HLZ.out
  generalize upL zs k = us at *
  have HR6 := zh hraw6
  have HP6 := zh hpos6
  have HT6 := zh ht6
  have HPU := zh hpu
  have HU6 := zh hu6
  have HJ := zh hj
  have HFJ := zh hfj
  have HDN := zh hdnj
  have HL6 := zh hl6
  have hF10 := zh ((HE10.out.turns HT5.out (by simp [Value.ownBlock]; omega)).turns HT6.out (by simp [Value.ownBlock]; omega))
  have hF4 := zh ((HE4'.out.turns HT5.out (by simp [Value.ownBlock]; omega)).turns HT6.out (by simp [Value.ownBlock]; omega))
  have hF6 := zh ((HE6'.out.turns HT5.out (by simp [Value.ownBlock]; omega)).turns HT6.out (by simp [Value.ownBlock]; omega))
  have hp6 := HR6.out.blk.lt
  clear hraw6 hpos6 ht6 hpu hdn hu6 hj hfj hdnj hl6
  go_wp2_with fail
  refine wp_region_held_drew (S := (fun w' => Blk w' p 179 #[.slice (some ⟨g, 0, none⟩) n cap, .map (some mb), .int .i64 sq] ∧ Blk w' W2.heap.size 186 #[.int .i64 z.id, .int .i64 z.when, .int .i64 z.seq])) (by kernel_rfl) ?_ (fun hHeld => ?_)
  ·exact ⟨HR6.out.blk.turns ((zT _).drew) (fun h => h), hF10.out.turns ((zT _).drew) (fun h => h)⟩
  refine tH 0 63 ?_ ?_ ?_;rotate_left
  ·intro w hSw
   go_simp
   try with_reducible rfl
  try simp only [zP]
  refine tH 1 64 ?_ ?_ ?_;rotate_left
  ·intro w hSw
   go_simp
   try with_reducible rfl
  try simp only [zP]
  refine tH 2 65 ?_ ?_ ?_;rotate_left
  ·intro w hSw
   go_simp
   try with_reducible rfl
  try simp only [zP]
  refine tH 3 66 ?_ ?_ ?_;rotate_left
  ·intro w hSw
   go_simp
   try with_reducible rfl
  try simp only [zP]
  refine tH 4 67 ?_ ?_ ?_;rotate_left
  ·intro w hSw
   have d0 := hSw.1.cell 1
   simp only [zG] at d0
   go_simp
   try with_reducible rfl
  try simp only [zP]
  refine tH 5 68 ?_ ?_ ?_;rotate_left
  ·intro w hSw
   go_simp
   try with_reducible rfl
  try simp only [zP]
  refine tH 6 69 ?_ ?_ ?_;rotate_left
  ·intro w hSw
   have d0 := hSw.2.cell 0
   simp only [zG] at d0
   go_simp
   try with_reducible rfl
  try simp only [zP]
  refine zR 7 fun K hK => ?_
  have hlk := (HR6.out.made ((zT w6).drew)).map.look (P := Tryz.prog) Tryz.underlying98 Tryz.underlying3 (zero_int _) z.id false
  rw [HFJ.out] at hlk
  simp only [Option.getD_some, Bool.false_eq_true, if_false] at hlk
  go_simp
  refine hK.out _ _ ?_ (fun hHeld => ?_)
  ·exact hHeld
  clear hK K
  try simp only [zP]
  refine zR 8 fun K hK => ?_
  go_simp
  refine (down_c p mb _ sq us f6 j z _ (HR6.out.made ((zT w6).drew)) HJ.out HU6.out (by rw [upd_self HFJ.out]; exact HP6.out) (by have := HL6.out; omega)).mono ?_
  rintro e w7 ⟨⟨v7, rfl⟩, ⟨f7, hraw7, hpos7⟩, ht7⟩
  go_wp2_with fail
  refine hK.out _ _ ?_ (fun hHeld => ?_)
  ·exact ⟨hraw7.blk, hF10.out.turns (((zT w6).drew.mono (S' := fun k => k = p ∨ k = mb ∨ k = g) (fun _ _ h => h.elim)).then ht7 (fun b _ h => own3 h)) (by omega)⟩
  clear hK K
  try simp only [zP]
  refine wpAnyH_done (by kernel_rfl) ?_ _
  have ht7' : Turns (fun k => k = p ∨ k = mb ∨ k = g) w6 w7 := ((zT w6).drew.mono (S' := fun k => k = p ∨ k = mb ∨ k = g) (fun _ _ h => h.elim)).then ht7 (fun b _ h => by
   rcases h with h | h
   ·simp only [Value.ownBlock, Option.some.injEq] at h; exact .inr (.inr h.symm)
   ·exact .inr (.inl h))
  have HT7 := zh (((HTD.out.then HT5.out (fun b _ h => by
   rcases h with h | h
   ·simp only [Value.ownBlock, Option.some.injEq] at h; exact .inr (.inr h.symm)
   ·exact .inr (.inl h))).then HT6.out (fun b _ h => by
   rcases h with h | h
   ·simp only [Value.ownBlock, Option.some.injEq] at h; exact .inr (.inr h.symm)
   ·exact .inr (.inl h))).then ht7' (fun _ _ h => h))
  have HG4 := zh (hF4.out.turns ht7' (by omega))
  have HG6 := zh (hF6.out.turns ht7' (by omega))
  have HR7 := zh hraw7
  have HP7 := zh hpos7
  clear hHeld hraw7 hpos7 ht7 ht7'
  try clear hHeld
  have b0 := HG4.out.cell 0
  have b1 := HG4.out.cell 1
  have b2 := HG4.out.cell 2
  have g0 := HG4.out.free 0
  have g1 := HG4.out.free 1
  have g2 := HG4.out.free 2
  have k0 := HG6.out.cell 0
  have k1 := HG6.out.cell 1
  have k2 := HG6.out.cell 2
  simp only [zG] at b0 b1 b2 k0 k1 k2
  go_wp2_with fail
  refine bodyPost_ret (res_box rfl (HG4.out.put3 _ _ _) rfl rfl) rfl ?_
  have hdp := downL_perm (us.length - j) j us (Nat.le_refl _)
  refine ⟨rfl, _, _, _, HR7.out.turns (set3 _ (w.heap.size)) (by omega) (by omega) (by simp [Value.ownBlock]; omega), HP7.out, downL_heap _ j us (Nat.le_refl _) (List.getElem?_eq_some_iff.1 HJ.out).1 HDN.out, ((hdp.trans HPU.out).cons x).trans HPM.out, rfl, ?_⟩
  refine (HT7.out.mono (fun b _ h => ?_)).then (set3 _ (w.heap.size)) (fun b hb e => by omega)
  rcases h with h | h | h
  ·exact .inl h
  ·exact .inr (.inl h)
  ·exact .inr (.inr (by rw [h]; rfl))
 ·have hkn2 : ¬ (k : Int) < (n : Int) := by omega
  obtain rfl : k = n := by omega
  have hxz : z = x := by have h1 := HK.out; rw [HZ.out] at h1; cases h1; rfl
  subst hxz
  have b0 := HE4'.out.cell 0
  have b1 := HE4'.out.cell 1
  have b2 := HE4'.out.cell 2
  have g0 := HE4'.out.free 0
  have g1 := HE4'.out.free 1
  have g2 := HE4'.out.free 2
  have k0 := HE6'.out.cell 0
  have k1 := HE6'.out.cell 1
  have k2 := HE6'.out.cell 2
  simp only [zG] at b0 b1 b2 k0 k1 k2
  go_wp2_with fail
  refine bodyPost_ret (res_box rfl (HE4'.out.put3 _ _ _) rfl rfl) rfl ?_
  refine ⟨rfl, _, _, _, HR4.out.turns (set3 _ (w.heap.size)) (by omega) (by omega) (by simp [Value.ownBlock]; omega), ?_, HO.out.cut, ?_, rfl, ?_⟩
  ·have := PosOK.cut_end HU.out HP.out HN.out HZ.out
   rw [HID.out] at this
   exact this
  ·have h1 := cut_end HN.out HZ.out
   have h2 := List.perm_append_comm (l₁ := [z]) (l₂ := ys.dropLast)
   rw [← h1] at h2
   exact h2
  ·refine (HTD.out.mono (fun b _ h => ?_)).then (set3 _ (w.heap.size)) (fun b hb e => by omega)
   rcases h with h | h | h
   ·exact .inl h
   ·exact .inr (.inl h)
   ·exact .inr (.inr (by rw [h]; rfl))
theorem wyes_c (x : Wt) (w : World) : Calls Tryz.prog 190 #[.agg #[.int .i64 x.task, .int .i64 x.kase, .int .i64 x.val]] w fun e w' => e = .returned (.bool true) ∧ Made w w' := by
 go_enter Tryz.func190, Tryz.ntmps190
 go_wp2_with fail
 go_ret
 first
 | exact ⟨rfl, Turns.refl _ _⟩
 | exact ⟨rfl, (Turns.refl _ _).alloc _⟩
theorem res_boxW {fn : Func} {p u : Tmp} (hr : fn.results = #[.cell p 245, .tmp u]) {tmps : Array Value} {w : World} {g : Nat} {a b c v : Value} (hb : Blk w g 245 #[a, b, c]) (hp : tmps.getD p undef = .pointer (some ⟨g, 0, none⟩)) (hv : tmps.getD u undef = v) :
  (results fn tmps).run Tryz.prog w = .ok (.tuple #[.agg #[a, b, c], v]) w := by
 have c0 := hb.cell 0
 have c1 := hb.cell 1
 have c2 := hb.cell 2
 simp only [zG] at c0 c1 c2
 rw [results_cell_tmp hr, hp, hv]
 go_simp
theorem wtake_nil {w : World} {p : Nat} {F : Nat → Prop} (h : QAt w p F []) :
  Calls Tryz.prog 189 #[.pointer (some ⟨p, 0, none⟩), .func (.func 190) #[] #[]] w fun e w' => e = .returned (.tuple #[.agg #[.int .i64 0, .int .i64 0, .int .i64 0], .bool false]) ∧ Made w w' := by
 obtain ⟨bs, hq, hf⟩ := h
 have h0 : bs = [] := List.length_eq_zero_iff.1 hq.len
 subst h0
 have q0 := (hq.blk.alloc (.cells #[.int .i64 0, .int .i64 0, .int .i64 0] 245)).cell 0
 simp only [zG, pt, Option.map, List.getElem?_nil] at q0
 go_enter Tryz.func189, Tryz.ntmps189
 go_wp2_with fail
 have HM := zh ((zT w).alloc (.cells #[.int .i64 0, .int .i64 0, .int .i64 0] 245))
 have HB := zh (Blk.new w 245 #[.int .i64 0, .int .i64 0, .int .i64 0])
 generalize w.alloc (.cells #[.int .i64 0, .int .i64 0, .int .i64 0] 245) = W at *
 have g0 := HB.out.free 0
 have g1 := HB.out.free 1
 have g2 := HB.out.free 2
 have z0 := HB.out.cell 0
 have z1 := HB.out.cell 1
 have z2 := HB.out.cell 2
 simp only [zG] at z0 z1 z2
 go_loopw [5, 6] (fun v5 v6 wr => v5 = .bool false ∧ v6 = .pointer none ∧ wr = W) (fun v5 v6 _ => 0)
 case atStart => exact ⟨rfl, rfl, rfl⟩
 case round =>
  obtain ⟨rfl, rfl, rfl⟩ := hrel
  go_wp2_with fail
  first
  | (refine bodyPost_ret (res_boxW rfl (HB.out.put3 _ _ _) rfl rfl) rfl ?_; exact ⟨rfl, HM.out.then (set3 _ _) (fun k hk (e : k = w.heap.size) => by omega)⟩)
  | (refine bodyPost_ret (res_boxW rfl HB.out rfl rfl) rfl ?_; exact ⟨rfl, HM.out⟩)
theorem wtake_c {w : World} {p : Nat} {F : Nat → Prop} {x : Wt} {l : List Wt} (h : QAt w p F (x :: l)) (hlen : l.length ≤ 1000000) :
  Calls Tryz.prog 189 #[.pointer (some ⟨p, 0, none⟩), .func (.func 190) #[] #[]] w fun e w' => e = .returned (.tuple #[.agg #[.int .i64 x.task, .int .i64 x.kase, .int .i64 x.val], .bool true]) ∧ ∃ F', QAt w' p F' l ∧ Stp w w' F F' := by
 obtain ⟨bs, hq, hf⟩ := h
 obtain ⟨b, bs, rfl⟩ : ∃ b bs', bs = b :: bs' := by
  cases bs with
  | nil => have := hq.len; simp at this
  | cons b bs => exact ⟨b, bs, rfl⟩
 have q0 := (hq.blk.alloc (.cells #[.int .i64 0, .int .i64 0, .int .i64 0] 245)).cell 0
 have HQ := zh hq
 simp only [zG, pt, Option.map] at q0
 clear hq
 go_enter Tryz.func189, Tryz.ntmps189
 go_wp2_with fail
 have HM := zh ((zT w).alloc (.cells #[.int .i64 0, .int .i64 0, .int .i64 0] 245))
 have HR := zh (Blk.new w 245 #[.int .i64 0, .int .i64 0, .int .i64 0])
 have hrb : ∀ k ∈ b :: bs, k < w.heap.size := HQ.out.lt
 have hrp := HQ.out.blk.lt
 have HQ1 := zh (HQ.out.turns HM.out (fun h => h) (fun _ _ h => h))
 generalize w.alloc (.cells #[.int .i64 0, .int .i64 0, .int .i64 0] 245) = W at *
 clear q0
 go_loopw [6] (fun v6 wr => v6 = .pointer (some ⟨b, 0, none⟩) ∧ wr = W) (fun v6 _ => 0)
 case atStart => exact ⟨rfl, rfl⟩
 case round =>
  obtain ⟨rfl, rfl⟩ := hrel
  have HB := HQ1.out.node 0 b x rfl rfl
  have n0 := HB.cell 0
  have n1 := HB.cell 1
  have n2 := HB.cell 2
  simp only [zG] at n0 n1 n2
  go_wp2_with fail
  refine (wyes_c x _).mono ?_
  rintro e w2 ⟨rfl, hm⟩
  have HQ2 := zh (HQ1.out.turns hm (fun h => h) (fun _ _ h => h))
  have HM2 := zh (HM.out.trans hm)
  have HR2 := zh (HR.out.turns hm (fun h => h))
  clear hm n0 n1 n2 HB
  go_wp2_with fail
  refine (wdrop_c HQ2.out hlen).mono ?_
  rintro e w3 ⟨rfl, hq3, ht3⟩
  have hbn : ¬ (b = p ∨ b ∈ bs) := by
   rintro (h | h)
   ·exact HQ2.out.np (by rw [← h]; exact List.mem_cons_self ..)
   ·exact (List.nodup_cons.1 HQ2.out.nd).1 h
  have hrn : ¬ (w.heap.size = p ∨ w.heap.size ∈ bs) := by
   rintro (h | h)
   ·omega
   ·have := hrb _ (List.mem_cons_of_mem _ h); omega
  have HB := (HQ2.out.node 0 b x rfl rfl).turns ht3 hbn
  have HR3 := HR2.out.turns ht3 hrn
  have n0 := HB.cell 0
  have n1 := HB.cell 1
  have n2 := HB.cell 2
  have r0 := HR3.cell 0
  have r1 := HR3.cell 1
  have r2 := HR3.cell 2
  have g0 := HR3.free 0
  have g1 := HR3.free 1
  have g2 := HR3.free 2
  simp only [zG] at n0 n1 n2 r0 r1 r2
  have HQ3 := zh hq3
  have HT3 := zh ((HM2.out.mono (S' := F) (fun _ _ h => h.elim)).then ht3 (fun k _ h => (hf k).2 (h.elim Or.inl (fun h => Or.inr (List.mem_cons_of_mem _ h)))))
  clear hq3 ht3
  go_wp2_with fail
  refine bodyPost_ret (res_boxW rfl (HR3.put3 _ _ _) rfl rfl) rfl ?_
  refine ⟨rfl, fun k => k = p ∨ k ∈ bs, ⟨bs, HQ3.out.turns (set3 _ _) (fun e => by omega) (fun k hk e => by have := hrb k (List.mem_cons_of_mem _ hk); omega), fun k => Iff.rfl⟩, HT3.out.then (set3 _ _) (fun k hk e => by subst e; omega), fun k hk => .inl ((hf k).2 (hk.elim Or.inl (fun h => Or.inr (List.mem_cons_of_mem _ h))))⟩
theorem wpop_nil {w : World} {p : Nat} {F : Nat → Prop} (h : QAt w p F []) :
  Calls Tryz.prog 154 #[.pointer (some ⟨p, 0, none⟩)] w fun e w' => e = .returned (.tuple #[.agg #[.int .i64 0, .int .i64 0, .int .i64 0], .bool false]) ∧ Made w w' := by
 have HM := zh ((zT w).alloc (.cells #[.int .i64 0, .int .i64 0, .int .i64 0] 245))
 have HR := zh (Blk.new w 245 #[.int .i64 0, .int .i64 0, .int .i64 0])
 have HT := zh (wtake_nil (h.made HM.out))
 clear h
 go_enter Tryz.func154, Tryz.ntmps154
 go_wp2_with fail
 refine HT.out.mono ?_
 rintro e w1 ⟨rfl, hm⟩
 have HR1 := HR.out.turns hm (fun h => h)
 have HM1 := zh (HM.out.trans hm)
 have r0 := HR1.cell 0
 have r1 := HR1.cell 1
 have r2 := HR1.cell 2
 have g0 := HR1.free 0
 have g1 := HR1.free 1
 have g2 := HR1.free 2
 simp only [zG] at r0 r1 r2
 clear hm
 go_wp2_with fail
 refine bodyPost_ret (res_boxW rfl (HR1.put3 _ _ _) rfl rfl) rfl ?_
 exact ⟨rfl, HM1.out.then (set3 _ _) (fun k hk (e : k = w.heap.size) => by omega)⟩
theorem wpop_c {w : World} {p : Nat} {F : Nat → Prop} {x : Wt} {l : List Wt} (h : QAt w p F (x :: l)) (hlen : l.length ≤ 1000000) :
  Calls Tryz.prog 154 #[.pointer (some ⟨p, 0, none⟩)] w fun e w' => e = .returned (.tuple #[.agg #[.int .i64 x.task, .int .i64 x.kase, .int .i64 x.val], .bool true]) ∧ ∃ F', QAt w' p F' l ∧ Stp w w' F F' := by
 have HM := zh ((zT w).alloc (.cells #[.int .i64 0, .int .i64 0, .int .i64 0] 245))
 have HR := zh (Blk.new w 245 #[.int .i64 0, .int .i64 0, .int .i64 0])
 have HT := zh (wtake_c (h.made HM.out) hlen)
 have hfb := h.fb
 clear h
 go_enter Tryz.func154, Tryz.ntmps154
 go_wp2_with fail
 refine HT.out.mono ?_
 rintro e w1 ⟨rfl, F', hq, hs⟩
 have hrF : ¬ F w.heap.size := fun hk => by have := hfb _ hk; omega
 have HR1 := HR.out.turns hs.t hrF
 have hrF' : ∀ k, F' k → k ≠ w.heap.size := fun k hk e => by
  subst e
  rcases hs.f _ hk with h1 | h1
  ·exact hrF h1
  ·have := HR.out.lt; omega
 have HS := zh ((Stp.made (F := F) HM.out).trans hs)
 have HQ := zh hq
 have r0 := HR1.cell 0
 have r1 := HR1.cell 1
 have r2 := HR1.cell 2
 have g0 := HR1.free 0
 have g1 := HR1.free 1
 have g2 := HR1.free 2
 simp only [zG] at r0 r1 r2
 clear hs hq
 go_wp2_with fail
 refine bodyPost_ret (res_boxW rfl (HR1.put3 _ _ _) rfl rfl) rfl ?_
 exact ⟨rfl, F', HQ.out.turns (set3 _ _) (fun k hk (e : k = w.heap.size) => hrF' k hk e), HS.out.t.then (set3 _ _) (fun k hk (e : k = w.heap.size) => by omega), HS.out.f⟩
structure Chn where
 timed : Bool
 signal : Bool
 closed : Bool
 room : Bool
 val : Option Int
 recvs : List Wt
structure ChIn (w : World) (p r q1 q2 : Nat) (lb : Nat → Nat) (c : Chn) : Prop where
 blk : Blk w p 194 #[.pointer (some ⟨r, 0, none⟩), .pointer (some ⟨q1, 0, none⟩), .pointer (some ⟨q2, 0, none⟩), .bool c.timed, .bool c.signal, .bool c.closed]
 lp : lb p = 1
 ring : RIn w r (fun k => lb k = 2) c.room c.val
 qr : QAt w q1 (fun k => lb k = 3) c.recvs
 qs : QAt w q2 (fun k => lb k = 4) []
def ChAt (w : World) (p : Nat) (F : Nat → Prop) (c : Chn) : Prop := ∃ r q1 q2 lb, ChIn w p r q1 q2 lb c ∧ Lab w lb F
theorem ChIn.turns {S : Nat → Prop} {w w' : World} {p r q1 q2 : Nat} {lb : Nat → Nat} {c : Chn} (h : ChIn w p r q1 q2 lb c) (ht : Turns S w w') (hn : ∀ k, lb k ≠ 0 → ¬ S k) : ChIn w' p r q1 q2 lb c :=
 ⟨h.blk.turns ht (hn p (by rw [h.lp]; omega)), h.lp, h.ring.turns ht (fun k hk => hn k (by rw [hk]; omega)), h.qr.turns ht (fun k hk => hn k (by rw [hk]; omega)), h.qs.turns ht (fun k hk => hn k (by rw [hk]; omega))⟩
theorem ChIn.made {w w' : World} {p r q1 q2 : Nat} {lb : Nat → Nat} {c : Chn} (h : ChIn w p r q1 q2 lb c) (ht : Made w w') : ChIn w' p r q1 q2 lb c := h.turns ht (fun _ _ h => h)
theorem ChAt.turns {S : Nat → Prop} {w w' : World} {p : Nat} {F : Nat → Prop} {c : Chn} (h : ChAt w p F c) (ht : Turns S w w') (hn : ∀ k, F k → ¬ S k) : ChAt w' p F c := by
 obtain ⟨r, q1, q2, lb, h, hl⟩ := h
 exact ⟨r, q1, q2, lb, h.turns ht (fun k hk => hn k ((hl.on k).2 hk)), hl.turns ht⟩
theorem ChAt.made {w w' : World} {p : Nat} {F : Nat → Prop} {c : Chn} (h : ChAt w p F c) (ht : Made w w') : ChAt w' p F c := h.turns ht (fun _ _ h => h)
theorem ChAt.fb {w : World} {p : Nat} {F : Nat → Prop} {c : Chn} (h : ChAt w p F c) : ∀ k, F k → k < w.heap.size := by
 obtain ⟨r, q1, q2, lb, h, hl⟩ := h
 exact fun k hk => hl.lt k ((hl.on k).1 hk)
theorem ChAt.self {w : World} {p : Nat} {F : Nat → Prop} {c : Chn} (h : ChAt w p F c) : F p := by
 obtain ⟨r, q1, q2, lb, h, hl⟩ := h
 exact (hl.on p).2 (by rw [h.lp]; omega)
theorem ChIn.setRing {w w' : World} {p r q1 q2 : Nat} {lb : Nat → Nat} {F : Nat → Prop} {t s cl rm : Bool} {v v' : Option Int} {l : List Wt} (h : ChIn w p r q1 q2 lb ⟨t, s, cl, rm, v, l⟩) (hl : Lab w lb F) (hr : RIn w' r (fun k => lb k = 2) rm v') (ht : Turns (fun k => lb k = 2) w w') : ChIn w' p r q1 q2 lb ⟨t, s, cl, rm, v', l⟩ ∧ Lab w' lb F ∧ Turns F w w' :=
 ⟨⟨h.blk.turns ht (by rw [h.lp]; omega), h.lp, hr, h.qr.turns ht (fun k hk => by rw [hk]; omega), h.qs.turns ht (fun k hk => by rw [hk]; omega)⟩, hl.turns ht, ht.mono (fun k _ hk => (hl.on k).2 (by rw [hk]; omega))⟩
theorem ChIn.setQr {w w' : World} {p r q1 q2 : Nat} {lb : Nat → Nat} {F F' : Nat → Prop} {t s cl rm : Bool} {v : Option Int} {l l' : List Wt} (h : ChIn w p r q1 q2 lb ⟨t, s, cl, rm, v, l⟩) (hl : Lab w lb F) (hq : QAt w' q1 F' l') (hs : Stp w w' (fun k => lb k = 3) F') : ∃ lb' FF, ChIn w' p r q1 q2 lb' ⟨t, s, cl, rm, v, l'⟩ ∧ Lab w' lb' FF ∧ Stp w w' F FF := by
 obtain ⟨lb', FF, hl', e3, hne, hst⟩ := hl.step 3 (by omega) hs hq.fb
 refine ⟨lb', FF, ⟨h.blk.turns hs.t (by rw [h.lp]; omega), lab_is (hne 1 (by omega) (by omega)) h.lp, ?_, by rw [e3]; exact hq, ?_⟩, hl', hst⟩
 ·rw [hne 2 (by omega) (by omega)]
  exact h.ring.turns hs.t (fun k hk => by rw [hk]; omega)
 ·rw [hne 4 (by omega) (by omega)]
  exact h.qs.turns hs.t (fun k hk => by rw [hk]; omega)
theorem ch_new {w w1 w2 w3 : World} {r q1 q2 : Nat} {Fr F1 F2 : Nat → Prop} {rm : Bool} (hr : RIn w1 r Fr rm none) (m1 : Made w w1) (f1 : ∀ k, Fr k → w.heap.size ≤ k) (h1 : QAt w2 q1 F1 []) (m2 : Made w1 w2) (f2 : ∀ k, F1 k → w1.heap.size ≤ k) (h2 : QAt w3 q2 F2 []) (m3 : Made w2 w3) (f3 : ∀ k, F2 k → w2.heap.size ≤ k) :
  ∃ lb F, ChIn (w3.alloc (.cells #[.pointer (some ⟨r, 0, none⟩), .pointer (some ⟨q1, 0, none⟩), .pointer (some ⟨q2, 0, none⟩), .bool false, .bool false, .bool false] 194)) w3.heap.size r q1 q2 lb ⟨false, false, false, rm, none, []⟩ ∧ Lab (w3.alloc (.cells #[.pointer (some ⟨r, 0, none⟩), .pointer (some ⟨q1, 0, none⟩), .pointer (some ⟨q2, 0, none⟩), .bool false, .bool false, .bool false] 194)) lb F ∧ Made w (w3.alloc (.cells #[.pointer (some ⟨r, 0, none⟩), .pointer (some ⟨q1, 0, none⟩), .pointer (some ⟨q2, 0, none⟩), .bool false, .bool false, .bool false] 194)) ∧ ∀ k, F k → w.heap.size ≤ k := by
 have s1 := m1.size
 have s2 := m2.size
 have s3 := m3.size
 have m4 := (zT w3).alloc (.cells #[.pointer (some ⟨r, 0, none⟩), .pointer (some ⟨q1, 0, none⟩), .pointer (some ⟨q2, 0, none⟩), .bool false, .bool false, .bool false] 194)
 obtain ⟨l1, hl1, e1, n1⟩ := (Lab.nil w).add (w' := w1) 2 (by omega) m1.size hr.fb (fun _ _ h => h) (fun _ => by omega)
 obtain ⟨l2, hl2, e2, n2⟩ := hl1.add (w' := w2) 3 (by omega) m2.size h1.fb (fun k hk h => by
  have := f2 k hk
  have := hl1.lt k ((hl1.on k).1 h)
  omega) (lab_no (n1 3 (by omega) (by omega)) (fun _ => by omega))
 obtain ⟨l3, hl3, e3, n3⟩ := hl2.add (w' := w3) 4 (by omega) m3.size h2.fb (fun k hk h => by
  have := f3 k hk
  have := hl2.lt k ((hl2.on k).1 h)
  omega) (lab_no (n2 4 (by omega) (by omega)) (lab_no (n1 4 (by omega) (by omega)) (fun _ => by omega)))
 obtain ⟨l4, hl4, e4, n4⟩ := hl3.add (w' := w3.alloc (.cells #[.pointer (some ⟨r, 0, none⟩), .pointer (some ⟨q1, 0, none⟩), .pointer (some ⟨q2, 0, none⟩), .bool false, .bool false, .bool false] 194)) 1 (by omega) m4.size (G := fun k => k = w3.heap.size) (fun k hk => by simp; omega) (fun k hk h => by
  have := hl3.lt k ((hl3.on k).1 h)
  omega) (lab_no (n3 1 (by omega) (by omega)) (lab_no (n2 1 (by omega) (by omega)) (lab_no (n1 1 (by omega) (by omega)) (fun _ => by omega))))
 refine ⟨l4, _, ⟨Blk.new w3 _ _, ?_, ?_, ?_, ?_⟩, hl4, (((m1.trans m2).trans m3).trans m4), fun k hk => ?_⟩
 ·have := congrFun e4 w3.heap.size
  simpa using this
 ·rw [n4 2 (by omega) (by omega), n3 2 (by omega) (by omega), n2 2 (by omega) (by omega), e1]
  exact ((hr.made m2).made m3).made m4
 ·rw [n4 3 (by omega) (by omega), n3 3 (by omega) (by omega), e2]
  exact (h1.made m3).made m4
 ·rw [n4 4 (by omega) (by omega), e3]
  exact h2.made m4
 ·rcases hk with ((((hk | hk) | hk) | hk) | hk)
  ·exact hk.elim
  ·exact f1 k hk
  ·have := f2 k hk; omega
  ·have := f3 k hk; omega
  ·omega
theorem chnew0_c (w : World) : Calls Tryz.prog 121 #[.int .i64 0] w fun e w' => ∃ p r q1 q2 lb F, e = .returned (.tuple #[.pointer (some ⟨p, 0, none⟩), .int .i64 0]) ∧ ChIn w' p r q1 q2 lb ⟨false, false, false, false, none, []⟩ ∧ Lab w' lb F ∧ Made w w' ∧ ∀ k, F k → w.heap.size ≤ k := by
 go_enter Tryz.func121, Tryz.ntmps121
 go_wp2_with fail
 refine (rgnew0_c w).mono ?_
 rintro e w1 ⟨r, Fr, rfl, hr, m1, f1⟩
 have H1 := zh (And.intro hr (And.intro m1 f1))
 clear hr m1 f1
 go_wp2_with fail
 refine (wnew_c w1).mono ?_
 rintro e w2 ⟨q1, rfl, h1, m2, f2⟩
 have H2 := zh (And.intro h1 (And.intro m2 f2))
 clear h1 m2 f2
 go_wp2_with fail
 refine (wnew_c w2).mono ?_
 rintro e w3 ⟨q2, rfl, h2, m3, f3⟩
 have H3 := zh (And.intro h2 (And.intro m3 f3))
 clear h2 m3 f3
 go_wp2_with fail
 go_ret2
 obtain ⟨lb, F, h4, h5, h6, h7⟩ := ch_new H1.out.1 H1.out.2.1 H1.out.2.2 H2.out.1 H2.out.2.1 (fun k hk => by have := H2.out.2.2; omega) H3.out.1 H3.out.2.1 (fun k hk => by have := H3.out.2.2; omega)
 exact ⟨_, r, q1, q2, lb, F, rfl, h4, h5, h6, h7⟩
theorem chnew1_c (w : World) : Calls Tryz.prog 121 #[.int .i64 1] w fun e w' => ∃ p r q1 q2 lb F, e = .returned (.tuple #[.pointer (some ⟨p, 0, none⟩), .int .i64 0]) ∧ ChIn w' p r q1 q2 lb ⟨false, false, false, true, none, []⟩ ∧ Lab w' lb F ∧ Made w w' ∧ ∀ k, F k → w.heap.size ≤ k := by
 go_enter Tryz.func121, Tryz.ntmps121
 go_wp2_with fail
 refine (rgnew1_c w).mono ?_
 rintro e w1 ⟨r, Fr, rfl, hr, m1, f1⟩
 have H1 := zh (And.intro hr (And.intro m1 f1))
 clear hr m1 f1
 go_wp2_with fail
 refine (wnew_c w1).mono ?_
 rintro e w2 ⟨q1, rfl, h1, m2, f2⟩
 have H2 := zh (And.intro h1 (And.intro m2 f2))
 clear h1 m2 f2
 go_wp2_with fail
 refine (wnew_c w2).mono ?_
 rintro e w3 ⟨q2, rfl, h2, m3, f3⟩
 have H3 := zh (And.intro h2 (And.intro m3 f3))
 clear h2 m3 f3
 go_wp2_with fail
 go_ret2
 obtain ⟨lb, F, h4, h5, h6, h7⟩ := ch_new H1.out.1 H1.out.2.1 H1.out.2.2 H2.out.1 H2.out.2.1 (fun k hk => by have := H2.out.2.2; omega) H3.out.1 H3.out.2.1 (fun k hk => by have := H3.out.2.2; omega)
 exact ⟨_, r, q1, q2, lb, F, rfl, h4, h5, h6, h7⟩
theorem chtimed_c (w : World) : Calls Tryz.prog 202 #[] w fun e w' => ∃ p F, e = .returned (.pointer (some ⟨p, 0, none⟩)) ∧ ChAt w' p F ⟨true, false, false, true, none, []⟩ ∧ Made w w' ∧ ∀ k, F k → w.heap.size ≤ k := by
 go_enter Tryz.func202, Tryz.ntmps202
 go_wp2_with fail
 refine (chnew1_c w).mono ?_
 rintro e w1 ⟨p, r, q1, q2, lb, F, rfl, h1, h2, h3, h4⟩
 have c3 := h1.blk.cell 3
 have f3 := h1.blk.free 3
 simp only [zG] at c3
 have HC := zh h1
 have HL := zh h2
 have HM := zh h3
 have HF := zh h4
 clear h1 h2 h3 h4
 go_wp2_with fail
 go_ret
 have hlp := HC.out.lp
 have ht := set1 w1 p 3 (.bool true)
 have hn : ∀ k, lb k = 2 ∨ lb k = 3 ∨ lb k = 4 → ¬ k = p := fun k hk e => by rw [e, hlp] at hk; omega
 refine ⟨p, F, rfl, ⟨r, q1, q2, lb, ⟨by simpa using HC.out.blk.put 3 (.bool true), hlp, HC.out.ring.turns ht (fun k hk => hn k (.inl hk)), HC.out.qr.turns ht (fun k hk => hn k (.inr (.inl hk))), HC.out.qs.turns ht (fun k hk => hn k (.inr (.inr hk)))⟩, HL.out.turns ht⟩, HM.out.then ht (fun k hk e => ?_), HF.out⟩
 have := HF.out p ((HL.out.on p).2 (by rw [hlp]; omega))
 omega
theorem chsignal_c (w : World) : Calls Tryz.prog 181 #[] w fun e w' => ∃ p F, e = .returned (.pointer (some ⟨p, 0, none⟩)) ∧ ChAt w' p F ⟨false, true, false, false, none, []⟩ ∧ Made w w' ∧ ∀ k, F k → w.heap.size ≤ k := by
 go_enter Tryz.func181, Tryz.ntmps181
 go_wp2_with fail
 refine (chnew0_c w).mono ?_
 rintro e w1 ⟨p, r, q1, q2, lb, F, rfl, h1, h2, h3, h4⟩
 have c3 := h1.blk.cell 4
 have f3 := h1.blk.free 4
 simp only [zG] at c3
 have HC := zh h1
 have HL := zh h2
 have HM := zh h3
 have HF := zh h4
 clear h1 h2 h3 h4
 go_wp2_with fail
 go_ret
 have hlp := HC.out.lp
 have ht := set1 w1 p 4 (.bool true)
 have hn : ∀ k, lb k = 2 ∨ lb k = 3 ∨ lb k = 4 → ¬ k = p := fun k hk e => by rw [e, hlp] at hk; omega
 refine ⟨p, F, rfl, ⟨r, q1, q2, lb, ⟨by simpa using HC.out.blk.put 4 (.bool true), hlp, HC.out.ring.turns ht (fun k hk => hn k (.inl hk)), HC.out.qr.turns ht (fun k hk => hn k (.inr (.inl hk))), HC.out.qs.turns ht (fun k hk => hn k (.inr (.inr hk)))⟩, HL.out.turns ht⟩, HM.out.then ht (fun k hk e => ?_), HF.out⟩
 have := HF.out p ((HL.out.on p).2 (by rw [hlp]; omega))
 omega
theorem chmute_c {w : World} {p : Nat} {F : Nat → Prop} {t s cl rm : Bool} {v : Option Int} {l : List Wt} (h : ChAt w p F ⟨t, s, cl, rm, v, l⟩) :
  Calls Tryz.prog 172 #[.pointer (some ⟨p, 0, none⟩)] w fun e w' => e = .returned (.bool (t || s)) ∧ w = w' := by
 obtain ⟨r, q1, q2, lb, h, hl⟩ := h
 have c3 := h.blk.cell 3
 have c4 := h.blk.cell 4
 simp only [zG] at c3 c4
 clear h hl
 cases t
 all_goals
  cases s
  all_goals
   go_enter Tryz.func172, Tryz.ntmps172
   go_wp2_with fail
   go_ret
   exact ⟨rfl, rfl⟩
theorem chqueue_s {w : World} {p r q1 q2 : Nat} {lb : Nat → Nat} {c : Chn} (h : ChIn w p r q1 q2 lb c) :
  Calls Tryz.prog 192 #[.pointer (some ⟨p, 0, none⟩), .bool true] w fun e w' => e = .returned (.pointer (some ⟨q2, 0, none⟩)) ∧ w = w' := by
 have c2 := h.blk.cell 2
 simp only [zG] at c2
 clear h
 go_enter Tryz.func192, Tryz.ntmps192
 go_wp2_with fail
 go_ret
 exact ⟨rfl, rfl⟩
theorem chqueue_r {w : World} {p r q1 q2 : Nat} {lb : Nat → Nat} {c : Chn} (h : ChIn w p r q1 q2 lb c) :
  Calls Tryz.prog 192 #[.pointer (some ⟨p, 0, none⟩), .bool false] w fun e w' => e = .returned (.pointer (some ⟨q1, 0, none⟩)) ∧ w = w' := by
 have c1 := h.blk.cell 1
 simp only [zG] at c1
 clear h
 go_enter Tryz.func192, Tryz.ntmps192
 go_wp2_with fail
 go_ret
 exact ⟨rfl, rfl⟩
theorem wall_nil {w : World} {p : Nat} {F : Nat → Prop} (h : QAt w p F []) :
  Calls Tryz.prog 210 #[.pointer (some ⟨p, 0, none⟩)] w fun e w' => e = .returned (.slice none 0 0) ∧ w = w' := by
 obtain ⟨bs, hq, hf⟩ := h
 have h0 : bs = [] := List.length_eq_zero_iff.1 hq.len
 subst h0
 have q0 := hq.blk.cell 0
 simp only [zG, pt, Option.map, List.getElem?_nil] at q0
 clear hq hf
 go_enter Tryz.func210, Tryz.ntmps210
 go_wp2_with fail
 refine wp_loop_rounds 1 ?_
 rw [rounds_succ]
 go_wp2_with fail
 go_ret
 exact ⟨rfl, rfl⟩
theorem chwaiting_s {w : World} {p r q1 q2 : Nat} {lb : Nat → Nat} {c : Chn} (h : ChIn w p r q1 q2 lb c) :
  Calls Tryz.prog 198 #[.pointer (some ⟨p, 0, none⟩), .bool true] w fun e w' => e = .returned (.slice none 0 0) ∧ w = w' := by
 have H := zh (chqueue_s h)
 have H2 := zh (wall_nil h.qs)
 clear h
 go_enter Tryz.func198, Tryz.ntmps198
 go_wp2_with fail
 refine H.out.mono ?_
 rintro e w1 ⟨rfl, rfl⟩
 go_wp2_with fail
 refine H2.out.mono ?_
 rintro e w1 ⟨rfl, rfl⟩
 go_wp2_with fail
 go_ret
 exact ⟨rfl, rfl⟩
theorem chfree_r {w : World} {p r q1 q2 : Nat} {lb : Nat → Nat} {t s cl rm : Bool} {l : List Wt} (h : ChIn w p r q1 q2 lb ⟨t, s, cl, rm, none, l⟩) :
  Calls Tryz.prog 196 #[.pointer (some ⟨p, 0, none⟩), .bool false] w fun e w' => e = .returned (.bool false) ∧ w = w' := by
 have c0 := h.blk.cell 0
 simp only [zG] at c0
 have H := zh (rglen_c h.ring)
 clear h
 go_enter Tryz.func196, Tryz.ntmps196
 go_wp2_with fail
 refine H.out.mono ?_
 rintro e w1 ⟨rfl, rfl⟩
 go_wp2_with fail
 go_ret
 exact ⟨rfl, rfl⟩
end Go.Proofs.YtjnkphhlkoapbaaGreat
