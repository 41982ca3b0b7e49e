/-
  Walks and laws under LawTopCancels, part 11.
-/
import Derived.Test.YtjnkphhlkoapbaaGreatPc10
set_option linter.unusedVariables false
set_option linter.unusedSimpArgs false
set_option maxRecDepth 100000
set_option maxHeartbeats 16000000
namespace Go.Proofs.YtjnkphhlkoapbaaGreat
open Go.RowKit
def tcPre (tm : Bool) (d : Int) (i : Nat) : List Ins := ⟨1, 4, d, 0⟩ :: tcO tm :: ⟨2, 2, 1, 0⟩ :: List.replicate (i - 1) ⟨22, 2, 2, 0⟩
theorem tcPre_succ (tm : Bool) (d : Int) {i : Nat} (h : 1 ≤ i) : tcPre tm d (i + 1) = tcPre tm d i ++ [⟨22, 2, 2, 0⟩] := by
 unfold tcPre
 rw [show i + 1 - 1 = i - 1 + 1 from by omega, List.replicate_succ', List.cons_append, List.cons_append, List.cons_append]
theorem tcPre_len (tm : Bool) (d : Int) {i : Nat} (h : 1 ≤ i) : (tcPre tm d i).length = i + 2 := by
 simp only [tcPre, List.length_cons, List.length_replicate]
 omega
theorem tcE_len : tcE.length = 5 := rfl
theorem tcProgs (tm : Bool) {n : Nat} (d at_ : Int) (hn : n ≤ 9) : ProgsC [tcP tm d n, tcQ at_] := by
 refine ⟨by simp, by simp, ?_, fun p hp x hx => ?_, fun p hp x hx => ?_⟩
 ·intro p hp
  simp only [List.mem_cons, List.not_mem_nil, or_false] at hp
  rcases hp with rfl | rfl
  ·rw [tcP_len]; omega
  ·simp [tcQ]
 ·simp only [List.mem_cons, List.not_mem_nil, or_false] at hp
  rcases hp with rfl | rfl
  ·simp only [tcP, tcE, List.mem_cons, List.mem_append, List.mem_replicate, List.not_mem_nil, or_false] at hx
   rcases hx with rfl | rfl | rfl | ⟨-, rfl⟩ | rfl | rfl | rfl | rfl | rfl
   ·exact good_1 _ _ _ _ (by omega) rfl
   ·cases tm
    ·exact good_22 _ _ _ _ (by omega) (by omega) rfl
    ·exact good_24 _ _ _ _ (by omega) (by omega) (by omega)
   ·exact good_2 _ _ _ _ (by omega) (by omega) rfl
   ·exact good_22 _ _ _ _ (by omega) (by omega) rfl
   ·exact good_29 _ _ _ _ (by omega) (by omega) rfl
   ·exact good_8 _ _ _ _ (by omega) (by omega) rfl
   ·exact good_11 _ _ _ _ (by omega) (by omega) (by omega)
   ·exact good_27 _ _ _ _ (by omega) (by omega) rfl
   ·exact good_6 _ _ _ _ (by omega) rfl rfl
  ·simp only [tcQ, List.mem_cons, List.not_mem_nil, or_false] at hx
   rcases hx with rfl | rfl | rfl | rfl | rfl
   ·exact good_1 _ _ _ _ (by omega) rfl
   ·exact good_17 _ _ _ _ (by omega) (by omega) (by omega)
   ·exact good_11 _ _ _ _ (by omega) (by omega) (by omega)
   ·exact good_1 _ _ _ _ (by omega) rfl
   ·exact good_26 _ _ _ _ (by omega) (by omega) rfl
 ·simp only [List.mem_cons, List.not_mem_nil, or_false] at hp
  rcases hp with rfl | rfl
  ·simp only [tcP, tcE, List.mem_cons, List.mem_append, List.mem_replicate, List.not_mem_nil, or_false] at hx
   rcases hx with rfl | rfl | rfl | ⟨-, rfl⟩ | rfl | rfl | rfl | rfl | rfl
   ·exact .inr ⟨by simp, by simp, by simp, by simp⟩
   ·cases tm
    ·exact .inr ⟨by simp [tcO], by simp [tcO], by simp [tcO], by simp [tcO]⟩
    ·exact .inr ⟨by simp [tcO], by simp [tcO], by simp [tcO], by simp [tcO]⟩
   ·exact .inr ⟨by simp, by simp, by simp, by simp⟩
   ·exact .inr ⟨by simp, by simp, by simp, by simp⟩
   ·exact .inr ⟨by simp, by simp, by simp, by simp⟩
   ·exact .inl ⟨rfl, by simp⟩
   ·exact .inr ⟨by simp, by simp, by simp, by simp⟩
   ·exact .inr ⟨by simp, by simp, by simp, by simp⟩
   ·exact .inr ⟨by simp, by simp, by simp, by simp⟩
  ·simp only [tcQ, List.mem_cons, List.not_mem_nil, or_false] at hx
   rcases hx with rfl | rfl | rfl | rfl | rfl
   ·exact .inr ⟨by simp, by simp, by simp, by simp⟩
   ·exact .inr ⟨by simp, by simp, by simp, by simp⟩
   ·exact .inr ⟨by simp, by simp, by simp, by simp⟩
   ·exact .inr ⟨by simp, by simp, by simp, by simp⟩
   ·exact .inr ⟨by simp, by simp, by simp, by simp⟩
theorem repl_take {j n : Nat} (h : j < n) : List.replicate (n - j) R0 = R0 :: List.replicate (n - (j + 1)) R0 := by
 rw [show n - j = (n - (j + 1)) + 1 from by omega, List.replicate_succ]
theorem cancels_w (dep d at_ : Int) (tm : Bool) (w : World) : Calls Tryz.prog 3 #[.int .i64 dep, .int .i64 d, .int .i64 at_, .bool tm] w fun e w' => e = .returned (.bool true) ∧ Made w w' := by
 go_enter Tryz.func3, Tryz.ntmps3
 by_cases h1 : dep < 1
 ·go_wp2_with fail
  refine (awake_x _).mono ?_
  rintro e w1 ⟨rfl, hm⟩
  have HM := zh hm
  clear hm
  go_wp2_with fail
  go_returns
  exact ⟨rfl, HM.out⟩
 by_cases h2 : 10 < dep
 ·go_wp2_with fail
  refine (awake_x _).mono ?_
  rintro e w1 ⟨rfl, hm⟩
  have HM := zh hm
  clear hm
  go_wp2_with fail
  go_returns
  exact ⟨rfl, HM.out⟩
 by_cases h3 : d < 1
 ·go_wp2_with fail
  refine (awake_x _).mono ?_
  rintro e w1 ⟨rfl, hm⟩
  have HM := zh hm
  clear hm
  go_wp2_with fail
  go_returns
  exact ⟨rfl, HM.out⟩
 by_cases h4 : 1000 < d
 ·go_wp2_with fail
  refine (awake_x _).mono ?_
  rintro e w1 ⟨rfl, hm⟩
  have HM := zh hm
  clear hm
  go_wp2_with fail
  go_returns
  exact ⟨rfl, HM.out⟩
 by_cases h5 : at_ < 0
 ·go_wp2_with fail
  refine (awake_x _).mono ?_
  rintro e w1 ⟨rfl, hm⟩
  have HM := zh hm
  clear hm
  go_wp2_with fail
  go_returns
  exact ⟨rfl, HM.out⟩
 by_cases h6 : 2000 < at_
 ·go_wp2_with fail
  refine (awake_x _).mono ?_
  rintro e w1 ⟨rfl, hm⟩
  have HM := zh hm
  clear hm
  go_wp2_with fail
  go_returns
  exact ⟨rfl, HM.out⟩
 obtain ⟨m, rfl⟩ : ∃ m : Nat, dep = m := ⟨dep.toNat, by omega⟩
 have HB : Hid ((1 ≤ m ∧ m ≤ 10) ∧ (1 ≤ d ∧ d ≤ 1000) ∧ (0 ≤ at_ ∧ at_ ≤ 2000)) := zh ⟨by omega, by omega, by omega⟩
 have hG0 : Grow insC 25 6 w (w.alloc (.cells #[.int .i64 1, .int .i64 4, .int .i64 d, .int .i64 0, .slice none 0 0, .bool false] 25)) (.slice (some ⟨w.heap.size, 0, none⟩) 1 1) [⟨1, 4, d, 0⟩] := ⟨(zT w).alloc _, owns_blk insC_len (Blk.new w 25 #[.int .i64 1, .int .i64 4, .int .i64 d, .int .i64 0, .slice none 0 0, .bool false]) rfl rfl (by unfold maxLen; omega), fun c hc => by
  simp only [Value.ownBlock, Option.some.injEq] at hc
  omega⟩
 have HGZ := zh hG0
 clear hG0
 obtain ⟨i1, hi1, hy0, hy1, hy2⟩ := info_parts Tryz.infoIns6
 go_upto_if 49 with fail
 generalize w.alloc (.cells #[.int .i64 1, .int .i64 4, .int .i64 d, .int .i64 0, .slice none 0 0, .bool false] 25) = W0 at *
 generalize Value.slice (some ⟨w.heap.size, 0, none⟩) 1 1 = v0 at *
 go_cut [9] (fun v9 wx => ∃ u, u = v9 ∧ Grow insC 25 6 w wx u [⟨1, 4, d, 0⟩, tcO tm])
 case first =>
  cases tm
  ·have HGA := zh (HGZ.out.alloc (.cells #[.int .i64 22, .int .i64 1, .int .i64 0, .int .i64 0, .slice none 0 0, .bool false] 25))
   have HS := zh (SrcAt.block (enc := insC) (N := [⟨22, 1, 0, 0⟩]) (n := 1) (c := 1) (Blk.new W0 25 #[.int .i64 22, .int .i64 1, .int .i64 0, .int .i64 0, .slice none 0 0, .bool false]) rfl rfl)
   go_wp2_with (at_builtin; refine wpList_grow rfl (.tmp 54) (.tmp 56) 26 rfl i1 _ 64 Tryz.underlying26 hi1 hy0 hy1 hy2 rfl (by omega) insC_len insC_one rfl HGA.out rfl HS.out (by simp only [List.length_append, List.length_cons, List.length_nil] <;> (unfold maxLen; omega)) (by simp only [List.length_append, List.length_cons, List.length_nil] <;> omega) ?_; intro v3 w3 hg3 hF3 hS3 hO3; have HG3 := zh hg3; clear hg3 hF3 hS3 hO3)
   go_meet
   exact ⟨_, rfl, HG3.out⟩
  ·have HGA := zh (HGZ.out.alloc (.cells #[.int .i64 24, .int .i64 1, .int .i64 0, .int .i64 4, .slice none 0 0, .bool false] 25))
   have HS := zh (SrcAt.block (enc := insC) (N := [⟨24, 1, 0, 4⟩]) (n := 1) (c := 1) (Blk.new W0 25 #[.int .i64 24, .int .i64 1, .int .i64 0, .int .i64 4, .slice none 0 0, .bool false]) rfl rfl)
   go_wp2_with (at_builtin; refine wpList_grow rfl (.tmp 50) (.tmp 52) 26 rfl i1 _ 64 Tryz.underlying26 hi1 hy0 hy1 hy2 rfl (by omega) insC_len insC_one rfl HGA.out rfl HS.out (by simp only [List.length_append, List.length_cons, List.length_nil] <;> (unfold maxLen; omega)) (by simp only [List.length_append, List.length_cons, List.length_nil] <;> omega) ?_; intro v3 w3 hg3 hF3 hS3 hO3; have HG3 := zh hg3; clear hg3 hF3 hS3 hO3)
   go_meet
   exact ⟨_, rfl, HG3.out⟩
 obtain ⟨v3, rfl, hg3⟩ := hcut
 have HG3 := zh hg3
 clear hg3 HGZ
 have HGB := zh (HG3.out.alloc (.cells #[.int .i64 2, .int .i64 2, .int .i64 1, .int .i64 0, .slice none 0 0, .bool false] 25))
 have HSB := zh (SrcAt.block (enc := insC) (N := [⟨2, 2, 1, 0⟩]) (n := 1) (c := 1) (Blk.new wc 25 #[.int .i64 2, .int .i64 2, .int .i64 1, .int .i64 0, .slice none 0 0, .bool false]) rfl rfl)
 go_upto_region 8 with (at_builtin; refine wpList_grow rfl (.tmp 58) (.tmp 60) 26 rfl i1 _ 64 Tryz.underlying26 hi1 hy0 hy1 hy2 rfl (by omega) insC_len insC_one rfl HGB.out rfl HSB.out (by simp only [List.length_append, List.length_cons, List.length_nil] <;> (unfold maxLen; omega)) (by simp only [List.length_append, List.length_cons, List.length_nil] <;> omega) ?_; intro v4 w4 hg4 hF4 hS4 hO4; have HG4 := zh hg4; clear hg4 hF4 hS4 hO4)
 have HG0 := zh (show Grow insC 25 6 w w4 v4 (tcPre tm d 1) from HG4.out)
 clear HG3 HGB HSB HG4
 go_wp2_with fail
 go_loopw [9, 10] (fun v9 v10 wr => ∃ i : Nat, 1 ≤ i ∧ i ≤ m ∧ v10 = .int .i64 i ∧ Grow insC 25 6 w wr v9 (tcPre tm d i)) (fun _ v10 _ => m - (intOf v10).toNat)
 case atStart => exact ⟨1, by omega, by omega, rfl, HG0.out⟩
 case round =>
  obtain ⟨i, hi0, hi, rfl, hg⟩ := hrel
  have HG := zh hg
  clear hg
  have j1 : (0 : Int) ≤ (i : Int) := Int.natCast_nonneg _
  by_cases him : i < m
  ·have j2 : (i : Int) < (m : Int) := by omega
   have HGA := zh (HG.out.alloc (.cells #[.int .i64 22, .int .i64 2, .int .i64 2, .int .i64 0, .slice none 0 0, .bool false] 25))
   have HS := zh (SrcAt.block (enc := insC) (N := [⟨22, 2, 2, 0⟩]) (n := 1) (c := 1) (Blk.new wr 25 #[.int .i64 22, .int .i64 2, .int .i64 2, .int .i64 0, .slice none 0 0, .bool false]) rfl rfl)
   go_wp2_with (at_builtin; refine wpList_grow rfl (.tmp 67) (.tmp 69) 26 rfl i1 _ 64 Tryz.underlying26 hi1 hy0 hy1 hy2 rfl (by omega) insC_len insC_one rfl HGA.out rfl HS.out (by have := HB.out.1.2; rw [tcPre_len tm d hi0]; simp only [List.length_append, List.length_cons, List.length_nil] <;> (unfold maxLen; omega)) (by have := HB.out.1.2; rw [tcPre_len tm d hi0]; simp only [List.length_append, List.length_cons, List.length_nil] <;> omega) ?_; intro v5 w5 hg5 hF5 hS5 hO5; have HG5 := zh hg5; clear hg5 hF5 hS5 hO5)
   have HG6 := zh (show Grow insC 25 6 w w5 v5 (tcPre tm d (i + 1)) from by rw [tcPre_succ tm d hi0]; exact HG5.out)
   go_wp2_with fail
   go_roundw
   case rel => exact ⟨i + 1, by omega, by omega, by go_num, HG6.out⟩
   case measure => simp [intOf]; omega
  ·have j2 : ¬ (i : Int) < (m : Int) := by omega
   obtain rfl : i = m := by omega
   have HGA := zh (HG.out.alloc (.cells #[.int .i64 29, .int .i64 2, .int .i64 3, .int .i64 0, .slice none 0 0, .bool false, .int .i64 8, .int .i64 5, .int .i64 1, .int .i64 0, .slice none 0 0, .bool false, .int .i64 11, .int .i64 3, .int .i64 6, .int .i64 7, .slice none 0 0, .bool false, .int .i64 27, .int .i64 2, .int .i64 6, .int .i64 0, .slice none 0 0, .bool false, .int .i64 6, .int .i64 6, .int .i64 0, .int .i64 0, .slice none 0 0, .bool false] 25))
   have HS := zh (SrcAt.block (enc := insC) (N := tcE) (n := 5) (c := 5) (Blk.new wr 25 #[.int .i64 29, .int .i64 2, .int .i64 3, .int .i64 0, .slice none 0 0, .bool false, .int .i64 8, .int .i64 5, .int .i64 1, .int .i64 0, .slice none 0 0, .bool false, .int .i64 11, .int .i64 3, .int .i64 6, .int .i64 7, .slice none 0 0, .bool false, .int .i64 27, .int .i64 2, .int .i64 6, .int .i64 0, .slice none 0 0, .bool false, .int .i64 6, .int .i64 6, .int .i64 0, .int .i64 0, .slice none 0 0, .bool false]) rfl rfl)
   clear him hi
   go_wp2_with (at_builtin; refine wpList_grow rfl (.tmp 71) (.tmp 77) 26 rfl i1 _ 64 Tryz.underlying26 hi1 hy0 hy1 hy2 rfl (by omega) insC_len insC_one rfl HGA.out rfl HS.out (by have := HB.out.1.2; rw [tcPre_len tm d hi0, tcE_len] <;> (unfold maxLen; omega)) (by have := HB.out.1.2; rw [tcPre_len tm d hi0, tcE_len] <;> omega) ?_; intro v7 w7 hg7 hF7 hS7 hO7; have hg8 : Grow insC 25 6 w w7 v7 (tcP tm d (i - 1)) := hg7; obtain ⟨ap, np, cp, hnp, rfl⟩ : ∃ a n c, n = (tcP tm d (i - 1)).length ∧ v7 = .slice a n c := (by obtain ⟨a, c, h⟩ := owns_slice hg8.own; exact ⟨a, _, c, rfl, h⟩); have HG7 := zh (And.intro hnp hg8); clear hnp hg8 hg7 hF7 hS7 hO7)
   obtain ⟨hnp, hg3⟩ := HG7.out
   clear HG7 HGA HS HG HG0 hy0 hy1 hy2 hi1 j1 j2 hi0
   obtain ⟨ap', cp', heq, hrp, -⟩ := hg3.own.rowIn insC_len
   simp only [Value.slice.injEq] at heq
   obtain ⟨rfl, -, rfl⟩ := heq
   have hmq := (zT w7).alloc (.cells #[.int .i64 1, .int .i64 4, .int .i64 at_, .int .i64 0, .slice none 0 0, .bool false, .int .i64 17, .int .i64 6, .int .i64 4, .int .i64 7, .slice none 0 0, .bool false, .int .i64 11, .int .i64 7, .int .i64 6, .int .i64 4, .slice none 0 0, .bool false, .int .i64 1, .int .i64 4, .int .i64 9, .int .i64 0, .slice none 0 0, .bool false, .int .i64 26, .int .i64 1, .int .i64 4, .int .i64 0, .slice none 0 0, .bool false] 25)
   have hsz : (w7.alloc (.cells #[.int .i64 1, .int .i64 4, .int .i64 at_, .int .i64 0, .slice none 0 0, .bool false, .int .i64 17, .int .i64 6, .int .i64 4, .int .i64 7, .slice none 0 0, .bool false, .int .i64 11, .int .i64 7, .int .i64 6, .int .i64 4, .slice none 0 0, .bool false, .int .i64 1, .int .i64 4, .int .i64 9, .int .i64 0, .slice none 0 0, .bool false, .int .i64 26, .int .i64 1, .int .i64 4, .int .i64 0, .slice none 0 0, .bool false] 25)).heap.size = w7.heap.size + 1 := by simp
   have hq0 := Blk.new w7 25 #[.int .i64 1, .int .i64 4, .int .i64 at_, .int .i64 0, .slice none 0 0, .bool false, .int .i64 17, .int .i64 6, .int .i64 4, .int .i64 7, .slice none 0 0, .bool false, .int .i64 11, .int .i64 7, .int .i64 6, .int .i64 4, .slice none 0 0, .bool false, .int .i64 1, .int .i64 4, .int .i64 9, .int .i64 0, .slice none 0 0, .bool false, .int .i64 26, .int .i64 1, .int .i64 4, .int .i64 0, .slice none 0 0, .bool false]
   have hbr := Blk.new (w7.alloc (.cells #[.int .i64 1, .int .i64 4, .int .i64 at_, .int .i64 0, .slice none 0 0, .bool false, .int .i64 17, .int .i64 6, .int .i64 4, .int .i64 7, .slice none 0 0, .bool false, .int .i64 11, .int .i64 7, .int .i64 6, .int .i64 4, .slice none 0 0, .bool false, .int .i64 1, .int .i64 4, .int .i64 9, .int .i64 0, .slice none 0 0, .bool false, .int .i64 26, .int .i64 1, .int .i64 4, .int .i64 0, .slice none 0 0, .bool false] 25)) 26 #[.slice ap np cp, .slice (some ⟨w7.heap.size, 0, none⟩) 5 5]
   have hmr := hmq.alloc (.cells #[.slice ap np cp, .slice (some ⟨w7.heap.size, 0, none⟩) 5 5] 26)
   have hmr1 := (zT (w7.alloc (.cells #[.int .i64 1, .int .i64 4, .int .i64 at_, .int .i64 0, .slice none 0 0, .bool false, .int .i64 17, .int .i64 6, .int .i64 4, .int .i64 7, .slice none 0 0, .bool false, .int .i64 11, .int .i64 7, .int .i64 6, .int .i64 4, .slice none 0 0, .bool false, .int .i64 1, .int .i64 4, .int .i64 9, .int .i64 0, .slice none 0 0, .bool false, .int .i64 26, .int .i64 1, .int .i64 4, .int .i64 0, .slice none 0 0, .bool false] 25))).alloc (.cells #[.slice ap np cp, .slice (some ⟨w7.heap.size, 0, none⟩) 5 5] 26)
   have hrs : RowsIn ((w7.alloc (.cells #[.int .i64 1, .int .i64 4, .int .i64 at_, .int .i64 0, .slice none 0 0, .bool false, .int .i64 17, .int .i64 6, .int .i64 4, .int .i64 7, .slice none 0 0, .bool false, .int .i64 11, .int .i64 7, .int .i64 6, .int .i64 4, .slice none 0 0, .bool false, .int .i64 1, .int .i64 4, .int .i64 9, .int .i64 0, .slice none 0 0, .bool false, .int .i64 26, .int .i64 1, .int .i64 4, .int .i64 0, .slice none 0 0, .bool false] 25)).alloc (.cells #[.slice ap np cp, .slice (some ⟨w7.heap.size, 0, none⟩) 5 5] 26)) (w7.alloc (.cells #[.int .i64 1, .int .i64 4, .int .i64 at_, .int .i64 0, .slice none 0 0, .bool false, .int .i64 17, .int .i64 6, .int .i64 4, .int .i64 7, .slice none 0 0, .bool false, .int .i64 11, .int .i64 7, .int .i64 6, .int .i64 4, .slice none 0 0, .bool false, .int .i64 1, .int .i64 4, .int .i64 9, .int .i64 0, .slice none 0 0, .bool false, .int .i64 26, .int .i64 1, .int .i64 4, .int .i64 0, .slice none 0 0, .bool false] 25)).heap.size 0 [tcP tm d (i - 1), tcQ at_] := ⟨hbr.lt, fun k p hp => by
    cases k with
    | zero =>
     cases hp
     exact ⟨ap, cp, by rw [← hnp]; exact hbr.cell 0, hrp.made hmr⟩
    | succ k =>
     cases k with
     | zero =>
      cases hp
      exact ⟨_, 5, hbr.cell 1, RowIn.ofBlk insC_len (show Blk _ _ 25 (flat insC (tcQ at_)).toArray from hq0.turns hmr1 (fun h => h))⟩
     | succ k => simp at hp⟩
   rw [hsz] at hrs
   have HNW := zh (worldnew_x (cap := 2) _ (tcProgs tm d at_ (n := i - 1) (by have := HB.out.1.2; omega)) (by simp [tcP_len, tcQ]) hrs)
   have HMR := zh (hg3.made.trans hmr)
   clear hbr hmr hmr1 hmq hsz hq0 hrs hrp hg3
   have HPS := zh (tcProgs tm d at_ (n := i - 1) (by have := HB.out.1.2; omega)).ok
   go_wp2_with fail
   refine HNW.out.mono ?_
   rintro e w1 ⟨b, o0, rfl, hw, hmw, hlo⟩
   have HW := zh (And.intro hw (And.intro (HMR.out.trans hmw) hlo))
   clear hw hmw hlo hnp
   go_upto_region 19 with fail
   go_cut [105] (fun v105 wx => ∃ z : Bool, v105 = .bool z ∧ (z = true ↔ tm = true ∧ d ≤ at_) ∧ w1 = wx)
   case first =>
    cases tm
    ·go_wp2_with fail
     go_meet
     exact ⟨false, rfl, by simp, rfl⟩
    ·by_cases hda : d ≤ at_
     ·go_wp2_with fail
      go_meet
      exact ⟨true, rfl, by simp [hda], rfl⟩
     ·go_wp2_with fail
      go_meet
      exact ⟨false, rfl, by simp [hda], rfl⟩
   obtain ⟨z, rfl, hz, rfl⟩ := hcut
   go_upto_if 105 with fail
   go_cut [14, 15] (fun v14 v15 wx => ∃ first err : Int, v14 = .int .i64 first ∧ v15 = .int .i64 err ∧ ((tm = true ∧ d ≤ at_ ∧ first = d ∧ err = 2) ∨ ((tm = true → at_ < d) ∧ first = at_ ∧ err = 1)) ∧ w1 = wx)
   case first =>
    have HZ := zh hz
    clear hz
    cases z
    ·go_wp2_with fail
     go_meet
     exact ⟨at_, 1, rfl, rfl, .inr ⟨fun h => by have := HZ.out.2; simp [h] at this; omega, rfl, rfl⟩, rfl⟩
    ·go_wp2_with fail
     go_meet
     exact ⟨d, 2, rfl, rfl, .inl ⟨(HZ.out.1 trivial).1, (HZ.out.1 trivial).2, rfl, rfl⟩, rfl⟩
   obtain ⟨first, err, rfl, rfl, hf, rfl⟩ := hcut
   have HFB : Hid (0 ≤ first ∧ first ≤ 2000) := zh (by have := HB.out; rcases hf with ⟨_, _, rfl, _⟩ | ⟨_, rfl, _⟩ <;> omega)
   obtain ⟨e1, s1, k1, hx1, hpo, hze⟩ := tc_all (tm := tm) (n := i - 1) (by have := HB.out.1.2; omega) HB.out.2.1 HB.out.2.2 hf
   have H0 := zh (show SRel b [tcP tm d (i - 1), tcQ at_] w (List.replicate (60 - 0) R0) s1 k1 w1 from ⟨o0, initS, k0, e1, HW.out.1, hx1, HW.out.2.1, fun q hq => Nat.le_trans HMR.out.size (HW.out.2.2 q hq)⟩)
   have HPO := zh hpo
   have HZE := zh hze
   clear hx1 hpo hze hf
   go_wp2_with fail
   go_loopw [16] (fun vi wr => ∃ j : Nat, j ≤ 60 ∧ vi = .int .i64 j ∧ SRel b [tcP tm d (i - 1), tcQ at_] w (List.replicate (60 - j) R0) s1 k1 wr) (fun vi _ => 60 - (intOf vi).toNat)
   case atStart => exact ⟨0, Nat.zero_le _, rfl, H0.out⟩
   case round =>
    obtain ⟨j, hj, rfl, hrl⟩ := hrel
    have j1 : (0 : Int) ≤ (j : Int) := Int.natCast_nonneg _
    by_cases hjl : j < 60
    ·have j2 : (j : Int) < 60 := by omega
     rw [repl_take hjl] at hrl
     have HC : Hid (Calls Tryz.prog 9 #[.pointer (some ⟨b.pb, 0, none⟩), .agg #[.int .i64 1, .int .i64 0, .int .i64 0]] wr _) := zh (SRel.step (e := R0) HPS.out hrl)
     clear hrl
     go_wp2_with fail
     refine HC.out.mono ?_
     rintro e w3 ⟨vx, rfl, h01⟩
     have HR := zh h01
     clear h01
     go_wp2_with fail
     go_roundw
     case rel => exact ⟨j + 1, by omega, by go_num, HR.out⟩
     case measure => simp [intOf]; omega
    ·have j2 : ¬ (j : Int) < 60 := by omega
     obtain rfl : j = 60 := by omega
     have hrl : SRel b [tcP tm d (i - 1), tcQ at_] w [] s1 k1 wr := hrl
     have HRF := zh hrl
     clear hrl
     go_upto_if 115 with fail
     go_cut [16] (fun v16 wx => ∃ s5 k5, SRel b [tcP tm d (i - 1), tcQ at_] w (List.replicate (60 - 0) R0) s5 k5 wx ∧ FinT err s5)
     case first =>
      by_cases hp : 0 < first
      ·obtain ⟨e2, s2, k2, e3, s3, k3, e4, s4, k4, e5, s5, k5, hx2, hx3, hwt, hx4, hx5, hfi⟩ := HPO.out hp
       have HFI := zh hfi
       have HWT := zh hwt
       have HX := zh (And.intro hx3 (And.intro hx4 hx5))
       have HC : Hid (Calls Tryz.prog 9 #[.pointer (some ⟨b.pb, 0, none⟩), .agg #[.int .i64 2, .int .i64 (first - 1), .int .i64 0]] wr _) := zh (SRel.step (e := .adv (first - 1)) HPS.out (HRF.out.more hx2))
       have hi1w := IntWalk.i64_in (first - 1) (by have := HFB.out; omega)
       clear hx2 hx3 hwt hx4 hx5 hfi
       go_wp2_with fail
       refine HC.out.mono ?_
       rintro e w3 ⟨vx, rfl, h01⟩
       have HD := zh (show SRel b [tcP tm d (i - 1), tcQ at_] w (List.replicate (20 - 0) R0) s3 k3 w3 from h01.more HX.out.1)
       clear h01 hi1w
       go_wp2_with fail
       go_loopw [17] (fun vi wr => ∃ j : Nat, j ≤ 20 ∧ vi = .int .i64 j ∧ SRel b [tcP tm d (i - 1), tcQ at_] w (List.replicate (20 - j) R0) s3 k3 wr) (fun vi _ => 20 - (intOf vi).toNat)
       case atStart => exact ⟨0, Nat.zero_le _, rfl, HD.out⟩
       case round =>
        obtain ⟨j, hj, rfl, hrl⟩ := hrel
        have j1 : (0 : Int) ≤ (j : Int) := Int.natCast_nonneg _
        by_cases hjl : j < 20
        ·have j2 : (j : Int) < 20 := by omega
         rw [repl_take hjl] at hrl
         have HC : Hid (Calls Tryz.prog 9 #[.pointer (some ⟨b.pb, 0, none⟩), .agg #[.int .i64 1, .int .i64 0, .int .i64 0]] wr _) := zh (SRel.step (e := R0) HPS.out hrl)
         clear hrl
         go_wp2_with fail
         refine HC.out.mono ?_
         rintro e w3 ⟨vx, rfl, h01⟩
         have HR := zh h01
         clear h01
         go_wp2_with fail
         go_roundw
         case rel => exact ⟨j + 1, by omega, by go_num, HR.out⟩
         case measure => simp [intOf]; omega
        ·have j2 : ¬ (j : Int) < 20 := by omega
         obtain rfl : j = 20 := by omega
         have hrl : SRel b [tcP tm d (i - 1), tcQ at_] w [] s3 k3 wr := hrl
         obtain ⟨⟨pg, pc, how, r, ins, hx⟩, hfew⟩ := HWT.out
         have HT : Hid _ := zh (hrl.task hx hfew)
         have HRL := zh hrl
         clear hrl hx hfew
         go_wp2_with fail
         refine HT.out.mono ?_
         rintro e w4 ⟨rfl, hm4⟩
         have HR4 := zh (HRL.out.kept hm4)
         clear hm4
         go_upto_region 32 with (first | (refine wpList_store_blk (o := ⟨none, .store 38 (.tmp 18) (.tmp 131), _, _, _, _⟩) rfl _ _ _ rfl rfl _ rfl (tskC ⟨pg, pc, 1, how, r, ins⟩) ([.int .i64 0, .int .i64 0, .int .i64 0, .int .i64 0, .int .i64 0, .int .i64 0, .int .i64 0, .int .i64 0, .int .i64 0, .int .i64 0, .int .i64 0, .int .i64 0, .int .i64 0, .int .i64 0, .int .i64 0, .int .i64 0, .slice none 0 0, .bool false]) 38 rfl (Blk.new _ _ _) rfl (tskC_one ⟨pg, pc, 1, how, r, ins⟩) Tryz.sizeTsk ?_; intro w5 hb5 ht5; have HB5 := zh hb5; have HT5 := zh ht5; clear hb5 ht5) | fail)
         have HM5 := zh (show Made w4 w5 from ((zT w4).alloc _).then HT5.out (fun b hb e => by omega))
         have y2 : w5.cell? ⟨w4.heap.size, 2, none⟩ = some (.int .i64 1) := HB5.out.cell 2
         have HC : Hid (Calls Tryz.prog 9 #[.pointer (some ⟨b.pb, 0, none⟩), .agg #[.int .i64 2, .int .i64 1, .int .i64 0]] w5 _) := zh (SRel.step (e := .adv 1) HPS.out ((HR4.out.kept HM5.out).more HX.out.2.1))
         go_wp2_with fail
         refine HC.out.mono ?_
         rintro e w3 ⟨vx, rfl, h01⟩
         have HE := zh (show SRel b [tcP tm d (i - 1), tcQ at_] w (List.replicate (60 - 0) R0) s5 k5 w3 from h01.more HX.out.2.2)
         clear h01 y2
         go_wp2_with fail
         go_meet
         exact ⟨s5, k5, HE.out, HFI.out⟩
      ·have hz : first = 0 := by have := HFB.out; omega
       obtain ⟨e4, s4, k4, e5, s5, k5, hx4, hx5, hfi⟩ := HZE.out hz
       have HFI := zh hfi
       have HX := zh hx5
       have HC : Hid (Calls Tryz.prog 9 #[.pointer (some ⟨b.pb, 0, none⟩), .agg #[.int .i64 2, .int .i64 0, .int .i64 0]] wr _) := zh (SRel.step (e := .adv 0) HPS.out (HRF.out.more hx4))
       clear hx4 hx5 hfi hz
       go_wp2_with fail
       refine HC.out.mono ?_
       rintro e w3 ⟨vx, rfl, h01⟩
       have HE := zh (show SRel b [tcP tm d (i - 1), tcQ at_] w (List.replicate (60 - 0) R0) s5 k5 w3 from h01.more HX.out)
       clear h01
       go_wp2_with fail
       go_meet
       exact ⟨s5, k5, HE.out, HFI.out⟩
     case rest =>
      obtain ⟨s5, k5, h1, h2⟩ := hcut
      have HE := zh h1
      have HFI := zh h2
      clear h1 h2
      go_wp2_with fail
      go_loopw [20] (fun vi wr => ∃ j : Nat, j ≤ 60 ∧ vi = .int .i64 j ∧ SRel b [tcP tm d (i - 1), tcQ at_] w (List.replicate (60 - j) R0) s5 k5 wr) (fun vi _ => 60 - (intOf vi).toNat)
      case atStart => exact ⟨0, Nat.zero_le _, rfl, HE.out⟩
      case round =>
       obtain ⟨j, hj, rfl, hrl⟩ := hrel
       have j1 : (0 : Int) ≤ (j : Int) := Int.natCast_nonneg _
       by_cases hjl : j < 60
       ·have j2 : (j : Int) < 60 := by omega
        rw [repl_take hjl] at hrl
        have HC : Hid (Calls Tryz.prog 9 #[.pointer (some ⟨b.pb, 0, none⟩), .agg #[.int .i64 1, .int .i64 0, .int .i64 0]] wr _) := zh (SRel.step (e := R0) HPS.out hrl)
        clear hrl
        go_wp2_with fail
        refine HC.out.mono ?_
        rintro e w3 ⟨vx, rfl, h01⟩
        have HR := zh h01
        clear h01
        go_wp2_with fail
        go_roundw
        case rel => exact ⟨j + 1, by omega, by go_num, HR.out⟩
        case measure => simp [intOf]; omega
       ·have j2 : ¬ (j : Int) < 60 := by omega
        obtain rfl : j = 60 := by omega
        have hrl : SRel b [tcP tm d (i - 1), tcQ at_] w [] s5 k5 wr := hrl
        obtain ⟨⟨pg, pc, r, ins, hx, hr6, hr7⟩, hfew⟩ := HFI.out
        have HT : Hid _ := zh (hrl.task hx hfew)
        have HRL := zh hrl
        have HR67 := zh (And.intro hr6 hr7)
        clear hrl hx hr6 hr7 hfew
        go_wp2_with fail
        refine HT.out.mono ?_
        rintro e w6 ⟨rfl, hm6⟩
        have HM6 := zh (HRL.out.turned.trans hm6)
        clear hm6
        go_upto_region 41 with (first | (refine wpList_store_blk (o := ⟨none, .store 38 (.tmp 21) (.tmp 156), _, _, _, _⟩) rfl _ _ _ rfl rfl _ rfl (tskC ⟨pg, pc, 2, 0, r, ins⟩) ([.int .i64 0, .int .i64 0, .int .i64 0, .int .i64 0, .int .i64 0, .int .i64 0, .int .i64 0, .int .i64 0, .int .i64 0, .int .i64 0, .int .i64 0, .int .i64 0, .int .i64 0, .int .i64 0, .int .i64 0, .int .i64 0, .slice none 0 0, .bool false]) 38 rfl (Blk.new _ _ _) rfl (tskC_one ⟨pg, pc, 2, 0, r, ins⟩) Tryz.sizeTsk ?_; intro w7 hb7 ht7; have HB7 := zh hb7; have HT7 := zh ht7; clear hb7 ht7) | fail)
        have HM7 := zh (show Made w6 w7 from ((zT w6).alloc _).then HT7.out (fun b hb e => by omega))
        have y2 : w7.cell? ⟨w6.heap.size, 2, none⟩ = some (.int .i64 2) := HB7.out.cell 2
        have y3 : w7.cell? ⟨w6.heap.size, 3, none⟩ = some (.int .i64 0) := HB7.out.cell 3
        have y10 : w7.cell? ⟨w6.heap.size, 10, none⟩ = some (.int .i64 r.r6) := HB7.out.cell 10
        have y11 : w7.cell? ⟨w6.heap.size, 11, none⟩ = some (.int .i64 r.r7) := HB7.out.cell 11
        rw [HR67.out.1] at y10
        rw [HR67.out.2] at y11
        go_wp2_with fail
        refine (awake_x _).mono ?_
        rintro e w8 ⟨rfl, hm8⟩
        have HM8 := zh ((HM6.out.trans HM7.out).trans hm8)
        clear hm8
        go_wp2_with fail
        go_returns
        exact ⟨rfl, HM8.out⟩
end Go.Proofs.YtjnkphhlkoapbaaGreat
