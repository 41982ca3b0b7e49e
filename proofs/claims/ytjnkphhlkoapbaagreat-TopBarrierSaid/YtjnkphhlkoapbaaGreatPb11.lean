/-
  Walks and laws under LawTopBarrier, part 11.
-/
import Derived.Test.YtjnkphhlkoapbaaGreatPb10
namespace Go.Proofs.YtjnkphhlkoapbaaGreat
open Go.RowKit
set_option linter.unusedVariables false
set_option linter.unusedSimpArgs false
def tbPre (k : Nat) : List Ins := ⟨9, 0, 0, 0⟩ :: List.replicate k ⟨8, 7, 1, 0⟩
theorem tbPre_succ (k : Nat) : tbPre (k + 1) = tbPre k ++ [⟨8, 7, 1, 0⟩] := by
 unfold tbPre
 rw [List.replicate_succ', List.cons_append]
theorem tbPre_len (k : Nat) : (tbPre k).length = k + 1 := by simp [tbPre]
def tbEnd (d : Int) : List Ins := [⟨1, 1, d, 0⟩, ⟨17, 2, 1, 3⟩, ⟨11, 3, 4, 5⟩, ⟨12, 0, 0, 0⟩]
theorem tbProgs {m : Nat} (d : Int) (hm : m ≤ 8) : ProgsC [tbP m d, tbQ] := by
 refine ⟨by simp, by simp, ?_, fun p hp x hx => ?_, fun p hp x hx => ?_⟩
 ·intro p hp
  simp only [List.mem_cons, List.not_mem_nil, or_false] at hp
  rcases hp with rfl | rfl
  ·simp [tbP]; omega
  ·simp [tbQ]
 ·simp only [List.mem_cons, List.not_mem_nil, or_false] at hp
  rcases hp with rfl | rfl
  ·simp only [tbP, List.mem_cons, List.mem_append, List.mem_replicate, List.not_mem_nil, or_false] at hx
   rcases hx with rfl | ⟨-, rfl⟩ | rfl | rfl | rfl | rfl
   ·exact good_9 _ _ _ _ (by omega) rfl
   ·exact good_8 _ _ _ _ (by omega) (by omega) rfl
   ·exact good_1 _ _ _ _ (by omega) rfl
   ·exact good_17 _ _ _ _ (by omega) (by omega) (by omega)
   ·exact good_11 _ _ _ _ (by omega) (by omega) (by omega)
   ·exact good_12 _ _ _ _ (by omega) rfl rfl
  ·simp only [tbQ, List.mem_cons, List.not_mem_nil, or_false] at hx
   rcases hx with rfl | rfl | rfl
   ·exact good_11 _ _ _ _ (by omega) (by omega) (by omega)
   ·exact good_16 _ _ _ _ (by omega) rfl rfl
   ·exact good_6 _ _ _ _ (by omega) rfl rfl
 ·simp only [List.mem_cons, List.not_mem_nil, or_false] at hp
  rcases hp with rfl | rfl
  ·simp only [tbP, List.mem_cons, List.mem_append, List.mem_replicate, List.not_mem_nil, or_false] at hx
   rcases hx with rfl | ⟨-, rfl⟩ | rfl | rfl | rfl | rfl
   ·exact .inr ⟨by simp, by simp, by simp, by simp⟩
   ·exact .inl ⟨rfl, by simp⟩
   ·exact .inr ⟨by simp, by simp, by simp, by simp⟩
   ·exact .inr ⟨by simp, by simp, by simp, by simp⟩
   ·exact .inr ⟨by simp, by simp, by simp, by simp⟩
   ·exact .inr ⟨by simp, by simp, by simp, by simp⟩
  ·simp only [tbQ, List.mem_cons, List.not_mem_nil, or_false] at hx
   rcases hx with rfl | rfl | rfl
   ·exact .inr ⟨by simp, by simp, by simp, by simp⟩
   ·exact .inr ⟨by simp, by simp, by simp, by simp⟩
   ·exact .inr ⟨by simp, by simp, by simp, by simp⟩
def LRel (b : Wp) (ps : List (List Ins)) (w : World) (L : List Ent) (evs : List Ev) (s' : Wst) (v : Value) (wr : World) : Prop := ∃ o1 s1 e1 e2, WA CX0 wr b o1 ps s1 ∧ Ex ps s1 L e2 s' ∧ evs = e1 ++ e2 ∧ Owns evC 45 6 wr v e1 ∧ (∀ k, v.ownBlock = some k → ¬ Own o1 k ∧ w.heap.size ≤ k) ∧ Made w wr ∧ ∀ k, Own o1 k → w.heap.size ≤ k
def LNext (b : Wp) (ps : List (List Ins)) (w : World) (L : List Ent) (evs : List Ev) (s' : Wst) (v : Value) (M : List Ev) (e : Ending) (w3 : World) : Prop := ∃ vx, e = .returned vx ∧ ∃ N, Owns evC 45 6 w3 v M ∧ SrcAt evC w3 vx N ∧ M.length + N.length ≤ 1000 ∧ ∀ v4 w4, Owns evC 45 6 w4 v4 (M ++ N) → Turns (fun k => v.ownBlock = some k) w3 w4 → (∀ k, v4.ownBlock = some k → v.ownBlock = some k ∨ w3.heap.size ≤ k) → LRel b ps w L evs s' v4 w4
section
variable {b : Wp} {ps : List (List Ins)} {w wr : World} {L : List Ent} {evs : List Ev} {s' : Wst} {v : Value}
theorem LRel.next {o1 : Nat → Nat} {s2 : Wst} {M N f3 : List Ev} {w3 : World} {o2 : Nat → Nat} {vx : Value} (hw : WA CX0 w3 b o2 ps s2) (hex : Ex ps s2 L f3 s') (he : evs = (M ++ N) ++ f3) (ho : Owns evC 45 6 wr v M) (hf : ∀ k, v.ownBlock = some k → ¬ Own o1 k ∧ w.heap.size ≤ k) (hm : Made w wr) (hlo : ∀ k, Own o1 k → w.heap.size ≤ k) (hox : Owns evC 45 6 w3 vx N) (hs : Stp wr w3 (Own o1) (Own o2)) (hlen : evs.length ≤ 1000) : LNext b ps w L evs s' v M (.returned vx) w3 := by
 refine ⟨vx, rfl, N, ho.turns hs.t (fun k hk => (hf k hk).1), SrcAt.ofOwns evC_len hox, ?_, fun v4 w4 h4 t4 f4 => ?_⟩
 ·rw [he] at hlen
  simp only [List.length_append] at hlen
  omega
 ·have hn : ∀ k, v.ownBlock = some k → ¬ Own o2 k := fun k hk h0 => (hs.f k h0).elim (hf k hk).1 (fun h1 => absurd (ho.lt hk) (Nat.not_lt.2 h1))
  have hm3 : Made w w3 := hm.then hs.t (fun k hk h => absurd (hlo k h) (by omega))
  refine ⟨o2, s2, M ++ N, f3, hw.turns CX0.ext t4 (fun j hj hk => hn j hk hj), hex, he, h4, fun j hj => ?_, hm3.then t4 (fun k hk h => absurd (hf k h).2 (by omega)), fun k hk => (hs.f k hk).elim (hlo k) (fun h => Nat.le_trans hm.size h)⟩
  rcases f4 j hj with h1 | h1
  ·exact ⟨hn j h1, (hf j h1).2⟩
  ·exact ⟨fun h0 => absurd (hw.lt j h0) (Nat.not_lt.2 h1), Nat.le_trans hm3.size h1⟩
theorem LRel.step {e : Ent} (hps : PsOK ps) (hlen : evs.length ≤ 1000) (h : LRel b ps w (e :: L) evs s' v wr) : ∃ M, Calls Tryz.prog 9 #[.pointer (some ⟨b.pb, 0, none⟩), entV e] wr (LNext b ps w L evs s' v M) := by
 obtain ⟨o1, s1, f1, f2, hw1, ⟨s2, f3, hst, hex2, he2⟩, he, ho1, hf1, hm1, hlo1⟩ := h
 refine ⟨f1, (step_F CX0.ext hps hw1 hst).mono ?_⟩
 rintro e w3 ⟨vx, rfl, o2, hw2, hox, hfx, hs2⟩
 exact LRel.next hw2 hex2 (by rw [he, he2, List.append_assoc]) ho1 hf1 hm1 hlo1 hox hs2 hlen
theorem LRel.many {n : Nat} (hps : PsOK ps) (hn : n ≤ 10000) (hlen : evs.length ≤ 1000) (h : LRel b ps w (manyE 0 n) evs s' v wr) : ∃ M, Calls Tryz.prog 11 #[.pointer (some ⟨b.pb, 0, none⟩), .int .i64 n] wr (LNext b ps w [] evs s' v M) := by
 obtain ⟨o1, s1, f1, f2, hw1, hex, he, ho1, hf1, hm1, hlo1⟩ := h
 refine ⟨f1, (many_c CX0.ext hps hn hw1 hex (by rw [he, List.length_append] at hlen; omega)).mono ?_⟩
 rintro e w3 ⟨vx, rfl, o2, hw2, hox, hfx, hs2⟩
 exact LRel.next hw2 (show Ex ps s' [] [] s' from ⟨rfl, rfl⟩) (by rw [he, List.append_nil]) ho1 hf1 hm1 hlo1 hox hs2 hlen
theorem LRel.done (h : LRel b ps w [] evs s' v wr) : ∃ o1, WA CX0 wr b o1 ps s' ∧ Owns evC 45 6 wr v evs ∧ (∀ k, v.ownBlock = some k → ¬ Own o1 k ∧ w.heap.size ≤ k) ∧ Made w wr ∧ ∀ k, Own o1 k → w.heap.size ≤ k := by
 obtain ⟨o1, s1, f1, f2, hw1, ⟨rfl, rfl⟩, he, ho1, hf1, hm1, hlo1⟩ := h
 rw [List.append_nil] at he
 subst he
 exact ⟨o1, hw1, ho1, hf1, hm1, hlo1⟩
theorem LRel.more {e : List Ev} {s2 : Wst} (h : LRel b ps w [] evs s' v wr) (hx : Ex ps s' L e s2) : LRel b ps w L (evs ++ e) s2 v wr := by
 obtain ⟨o1, hw1, ho1, hf1, hm1, hlo1⟩ := h.done
 exact ⟨o1, s', evs, e, hw1, hx, rfl, ho1, hf1, hm1, hlo1⟩
theorem LRel.turned (h : LRel b ps w L evs s' v wr) : Made w wr := by
 obtain ⟨o1, s1, f1, f2, hw1, hex, he, ho1, hf1, hm1, hlo1⟩ := h
 exact hm1
theorem LRel.adv {d : Int} {s2 : Wst} (hps : PsOK ps) (hst : stepF ps s' (.adv d) = some s2) (h : LRel b ps w [] evs s' v wr) : Calls Tryz.prog 9 #[.pointer (some ⟨b.pb, 0, none⟩), .agg #[.int .i64 2, .int .i64 d, .int .i64 0]] wr (fun e w3 => ∃ vx, e = .returned vx ∧ ∀ L e3 s4, Ex ps s2 L e3 s4 → LRel b ps w L (evs ++ e3) s4 v w3) := by
 obtain ⟨o1, hw1, ho1, hf1, hm1, hlo1⟩ := h.done
 refine (step_F (e := .adv d) CX0.ext hps hw1 hst).mono ?_
 rintro e w3 ⟨vx, rfl, o2, hw2, hox, hfx, hs2⟩
 refine ⟨vx, rfl, fun L e3 s4 hx => ⟨o2, s2, evs, e3, hw2, hx, rfl, ho1.turns hs2.t (fun k hk => (hf1 k hk).1), fun k hk => ⟨fun h0 => (hs2.f k h0).elim (hf1 k hk).1 (fun h1 => absurd (ho1.lt hk) (Nat.not_lt.2 h1)), (hf1 k hk).2⟩, hm1.then hs2.t (fun k hk h => absurd (hlo1 k h) (by omega)), fun k hk => (hs2.f k hk).elim (hlo1 k) (fun h => Nat.le_trans hm1.size h)⟩⟩
theorem LRel.kept {w' : World} (h : LRel b ps w L evs s' v wr) (hm : Made wr w') : LRel b ps w L evs s' v w' := by
 obtain ⟨o1, s1, f1, f2, hw1, hex, he, ho1, hf1, hm1, hlo1⟩ := h
 exact ⟨o1, s1, f1, f2, hw1.turns CX0.ext hm (fun _ _ h => h), hex, he, ho1.made hm, hf1, hm1.trans hm, hlo1⟩
end
theorem pick_cons {z : List Int} {k : Nat} {x : Int} (h : z[k]? = some x) : pickE (z.drop k) = .run x :: pickE (z.drop (k + 1)) := by
 obtain ⟨hl, rfl⟩ := List.getElem?_eq_some_iff.1 h
 unfold pickE
 rw [List.drop_eq_getElem_cons hl, List.map_cons]
theorem pick_end {z : List Int} {k : Nat} (h : z.length ≤ k) : pickE (z.drop k) = [] := by
 unfold pickE
 rw [List.drop_eq_nil_of_le h, List.map_nil]
theorem tb_all2 {n : Nat} {d : Int} {picks : List Int} (hn : 1 ≤ n ∧ n ≤ 8) (hd : 1 ≤ d ∧ d ≤ 100) (hp : picks.length ≤ 200) :
  ∃ e1 s1 e2 s2 s3 e3 s4 e4 s5, ∃ E F G : List Ev, (E = e1 ++ e2 ∧ F = E ++ e3 ∧ G = F ++ e4) ∧ Ex [tbP n d, tbQ] initS (manyE 0 (20 * (n + 2))) e1 s1 ∧ Ex [tbP n d, tbQ] s1 (pickE picks) e2 s2 ∧ stepF [tbP n d, tbQ] s2 (.adv d) = some s3 ∧ Ex [tbP n d, tbQ] s3 (pickE picks) e3 s4 ∧ Ex [tbP n d, tbQ] s4 (manyE 0 (20 * (n + 2))) e4 s5 ∧ (∀ e ∈ E, e.kind ≠ 1) ∧ (E.length ≤ 1000 ∧ F.length ≤ 1000 ∧ G.length ≤ 1000 ∧ e1.length ≤ 1000) ∧ ∀ j : Nat, j < n → toldM G ((j : Int) + 1) = [d] := by
 obtain ⟨e1, s1, e2, s2, s3, e3, s4, e4, s5, hx1, hx2, hxs, hx3, hx4, hke, hle, htl⟩ := tb_all hn hd hp
 exact ⟨e1, s1, e2, s2, s3, e3, s4, e4, s5, _, _, _, ⟨rfl, rfl, rfl⟩, hx1, hx2, hxs, hx3, hx4, hke, by simp only [List.length_append]; omega, htl⟩
set_option maxRecDepth 100000 in
set_option maxHeartbeats 16000000 in
theorem barrier_w (n d : Int) (a2 : Option Addr) (len2 cap2 : Nat) (z2 : List Int) (w : World) (hz2r : RowIn encI 1 w a2 len2 z2) (hcap : len2 ≤ cap2) : Calls Tryz.prog 4 #[.int .i64 n, .int .i64 d, .slice a2 len2 cap2] w fun e w' => e = .returned (.bool true) ∧ Made w w' := by
 have HZ := Lib.hid hz2r
 clear hz2r
 go_enter Tryz.func4, Tryz.ntmps4
 by_cases h1 : n < 1
 ·go_wp2_with fail
  refine (awake_c _).mono ?_
  rintro e w1 ⟨rfl, hm⟩
  have HM := Lib.hid hm
  clear hm
  go_wp2_with fail
  go_returns
  exact ⟨rfl, HM.out⟩
 by_cases h2 : 8 < n
 ·go_wp2_with fail
  refine (awake_c _).mono ?_
  rintro e w1 ⟨rfl, hm⟩
  have HM := Lib.hid hm
  clear hm
  go_wp2_with fail
  go_returns
  exact ⟨rfl, HM.out⟩
 by_cases h3 : d < 1
 ·go_wp2_with fail
  refine (awake_c _).mono ?_
  rintro e w1 ⟨rfl, hm⟩
  have HM := Lib.hid hm
  clear hm
  go_wp2_with fail
  go_returns
  exact ⟨rfl, HM.out⟩
 by_cases h4 : 100 < d
 ·go_wp2_with fail
  refine (awake_c _).mono ?_
  rintro e w1 ⟨rfl, hm⟩
  have HM := Lib.hid hm
  clear hm
  go_wp2_with fail
  go_returns
  exact ⟨rfl, HM.out⟩
 by_cases h5 : 200 < (len2 : Int)
 ·go_wp2_with fail
  refine (awake_c _).mono ?_
  rintro e w1 ⟨rfl, hm⟩
  have HM := Lib.hid hm
  clear hm
  go_wp2_with fail
  go_returns
  exact ⟨rfl, HM.out⟩
 obtain ⟨m, rfl⟩ : ∃ m : Nat, n = m := ⟨n.toNat, by omega⟩
 have HB : Hid ((1 ≤ m ∧ m ≤ 8) ∧ (1 ≤ d ∧ d ≤ 100) ∧ z2.length = len2 ∧ len2 ≤ 200) := Lib.hid ⟨by omega, by omega, HZ.out.1, by omega⟩
 have hG0 : Grow insC 25 6 w (w.alloc (.cells #[.int .i64 9, .int .i64 0, .int .i64 0, .int .i64 0, .slice none 0 0, .bool false] 25)) (.slice (some ⟨w.heap.size, 0, none⟩) 1 1) (tbPre 0) := ⟨(Turns.refl (fun _ => False) w).alloc _, owns_blk insC_len (Blk.new w 25 #[.int .i64 9, .int .i64 0, .int .i64 0, .int .i64 0, .slice none 0 0, .bool false]) rfl rfl (by unfold maxLen; omega), fun c hc => by
  simp only [Value.ownBlock, Option.some.injEq] at hc
  omega⟩
 have HG0 := Lib.hid hG0
 clear hG0
 obtain ⟨i1, hi1, hy0, hy1, hy2⟩ := info_parts Tryz.infoIns6
 go_wp2_with fail
 go_loopw [7, 8] (fun v7 v8 wr => ∃ k : Nat, k ≤ m ∧ v8 = .int .i64 k ∧ Grow insC 25 6 w wr v7 (tbPre k)) (fun _ v8 _ => m - (intOf v8).toNat)
 case atStart => exact ⟨0, by omega, rfl, HG0.out⟩
 case round =>
  obtain ⟨k, hk, rfl, hg⟩ := hrel
  have HG := Lib.hid hg
  clear hg
  have j1 : (0 : Int) ≤ (k : Int) := Int.natCast_nonneg _
  by_cases hkm : k < m
  ·have j2 : (k : Int) < (m : Int) := by omega
   have HGA := Lib.hid (HG.out.alloc (.cells #[.int .i64 8, .int .i64 7, .int .i64 1, .int .i64 0, .slice none 0 0, .bool false] 25))
   have HS := Lib.hid (SrcAt.block (enc := insC) (N := [⟨8, 7, 1, 0⟩]) (n := 1) (c := 1) (Blk.new wr 25 #[.int .i64 8, .int .i64 7, .int .i64 1, .int .i64 0, .slice none 0 0, .bool false]) rfl rfl)
   go_wp2_with (at_builtin; refine wpList_grow rfl (.tmp 44) (.tmp 46) 26 rfl i1 _ 64 Tryz.underlying26 hi1 hy0 hy1 hy2 rfl (by omega) insC_len insC_one rfl HGA.out rfl HS.out (by simp only [tbPre_len, List.length_cons, List.length_nil, tbEnd]; unfold maxLen; omega) (by simp only [tbPre_len, List.length_cons, List.length_nil, tbEnd]; omega) ?_; intro v3 w3 hg3 hF3 hS3 hO3; have HG3 := Lib.hid hg3; clear hg3 hF3 hS3 hO3)
   have HG4 := Lib.hid (show Grow insC 25 6 w w3 v3 (tbPre (k + 1)) from by rw [tbPre_succ]; exact HG3.out)
   go_wp2_with fail
   go_roundw
   case rel => exact ⟨k + 1, by omega, by go_num, HG4.out⟩
   case measure => simp [intOf]; omega
  ·have j2 : ¬ (k : Int) < (m : Int) := by omega
   obtain rfl : k = m := by omega
   have HGA := Lib.hid (HG.out.alloc (.cells #[.int .i64 1, .int .i64 1, .int .i64 d, .int .i64 0, .slice none 0 0, .bool false, .int .i64 17, .int .i64 2, .int .i64 1, .int .i64 3, .slice none 0 0, .bool false, .int .i64 11, .int .i64 3, .int .i64 4, .int .i64 5, .slice none 0 0, .bool false, .int .i64 12, .int .i64 0, .int .i64 0, .int .i64 0, .slice none 0 0, .bool false] 25))
   have HS := Lib.hid (SrcAt.block (enc := insC) (N := tbEnd d) (n := 4) (c := 4) (Blk.new wr 25 #[.int .i64 1, .int .i64 1, .int .i64 d, .int .i64 0, .slice none 0 0, .bool false, .int .i64 17, .int .i64 2, .int .i64 1, .int .i64 3, .slice none 0 0, .bool false, .int .i64 11, .int .i64 3, .int .i64 4, .int .i64 5, .slice none 0 0, .bool false, .int .i64 12, .int .i64 0, .int .i64 0, .int .i64 0, .slice none 0 0, .bool false]) rfl rfl)
   clear hkm j2 j1 hk
   go_wp2_with (at_builtin; refine wpList_grow rfl (.tmp 48) (.tmp 54) 26 rfl i1 _ 64 Tryz.underlying26 hi1 hy0 hy1 hy2 rfl (by omega) insC_len insC_one rfl HGA.out rfl HS.out (by simp only [tbPre_len, List.length_cons, List.length_nil, tbEnd]; unfold maxLen; omega) (by simp only [tbPre_len, List.length_cons, List.length_nil, tbEnd]; omega) ?_; intro v3 w3 hg3 hF3 hS3 hO3; have hg5 : Grow insC 25 6 w w3 v3 (tbP k d) := hg3; obtain ⟨ap, np, cp, hnp, rfl⟩ : ∃ a n c, n = (tbP k d).length ∧ v3 = .slice a n c := (by obtain ⟨a, c, h⟩ := owns_slice hg5.own; exact ⟨a, _, c, rfl, h⟩); have HG3 := Lib.hid (And.intro hnp hg5); clear hnp hg5 hg3 hF3 hS3 hO3)
   obtain ⟨hnp, hg3⟩ := HG3.out
   clear HG3 HGA HS HG HG0 hy0 hy1 hy2 hi1
   obtain ⟨ap', cp', heq, hrp, -⟩ := hg3.own.rowIn insC_len
   simp only [Value.slice.injEq] at heq
   obtain ⟨rfl, -, rfl⟩ := heq
   have hmq := (Turns.refl (fun _ => False) w3).alloc (.cells #[.int .i64 11, .int .i64 0, .int .i64 4, .int .i64 5, .slice none 0 0, .bool false, .int .i64 16, .int .i64 6, .int .i64 0, .int .i64 0, .slice none 0 0, .bool false, .int .i64 6, .int .i64 6, .int .i64 0, .int .i64 0, .slice none 0 0, .bool false] 25)
   have hsz : (w3.alloc (.cells #[.int .i64 11, .int .i64 0, .int .i64 4, .int .i64 5, .slice none 0 0, .bool false, .int .i64 16, .int .i64 6, .int .i64 0, .int .i64 0, .slice none 0 0, .bool false, .int .i64 6, .int .i64 6, .int .i64 0, .int .i64 0, .slice none 0 0, .bool false] 25)).heap.size = w3.heap.size + 1 := by simp
   have hq0 := Blk.new w3 25 #[.int .i64 11, .int .i64 0, .int .i64 4, .int .i64 5, .slice none 0 0, .bool false, .int .i64 16, .int .i64 6, .int .i64 0, .int .i64 0, .slice none 0 0, .bool false, .int .i64 6, .int .i64 6, .int .i64 0, .int .i64 0, .slice none 0 0, .bool false]
   have hbr := Blk.new (w3.alloc (.cells #[.int .i64 11, .int .i64 0, .int .i64 4, .int .i64 5, .slice none 0 0, .bool false, .int .i64 16, .int .i64 6, .int .i64 0, .int .i64 0, .slice none 0 0, .bool false, .int .i64 6, .int .i64 6, .int .i64 0, .int .i64 0, .slice none 0 0, .bool false] 25)) 26 #[.slice ap np cp, .slice (some ⟨w3.heap.size, 0, none⟩) 3 3]
   have hmr := hmq.alloc (.cells #[.slice ap np cp, .slice (some ⟨w3.heap.size, 0, none⟩) 3 3] 26)
   have hmr1 := (Turns.refl (fun _ => False) (w3.alloc (.cells #[.int .i64 11, .int .i64 0, .int .i64 4, .int .i64 5, .slice none 0 0, .bool false, .int .i64 16, .int .i64 6, .int .i64 0, .int .i64 0, .slice none 0 0, .bool false, .int .i64 6, .int .i64 6, .int .i64 0, .int .i64 0, .slice none 0 0, .bool false] 25))).alloc (.cells #[.slice ap np cp, .slice (some ⟨w3.heap.size, 0, none⟩) 3 3] 26)
   have hrs : RowsIn ((w3.alloc (.cells #[.int .i64 11, .int .i64 0, .int .i64 4, .int .i64 5, .slice none 0 0, .bool false, .int .i64 16, .int .i64 6, .int .i64 0, .int .i64 0, .slice none 0 0, .bool false, .int .i64 6, .int .i64 6, .int .i64 0, .int .i64 0, .slice none 0 0, .bool false] 25)).alloc (.cells #[.slice ap np cp, .slice (some ⟨w3.heap.size, 0, none⟩) 3 3] 26)) (w3.alloc (.cells #[.int .i64 11, .int .i64 0, .int .i64 4, .int .i64 5, .slice none 0 0, .bool false, .int .i64 16, .int .i64 6, .int .i64 0, .int .i64 0, .slice none 0 0, .bool false, .int .i64 6, .int .i64 6, .int .i64 0, .int .i64 0, .slice none 0 0, .bool false] 25)).heap.size 0 [tbP k d, tbQ] := ⟨hbr.lt, fun i p hp => by
    cases i with
    | zero =>
     cases hp
     exact ⟨ap, cp, by rw [← hnp]; exact hbr.cell 0, hrp.made hmr⟩
    | succ i =>
     cases i with
     | zero =>
      cases hp
      exact ⟨_, 3, hbr.cell 1, RowIn.ofBlk insC_len (show Blk _ _ 25 (flat insC tbQ).toArray from hq0.turns hmr1 (fun h => h))⟩
     | succ i => simp at hp⟩
   rw [hsz] at hrs
   have HNW := Lib.hid (worldnew_c (cap := 2) _ (tbProgs d HB.out.1.2) (by simp [tbP, tbQ]) hrs)
   have HMR := Lib.hid (hg3.made.trans hmr)
   clear hbr hmr hmr1 hmq hsz hq0 hrs hrp hg3
   obtain ⟨e1, s1, e2, s2, s3, e3, s4, e4, s5, E, F, G, heq, hx1, hx2, hxs, hx3, hx4, hke, hle, htl⟩ := tb_all2 (picks := z2) HB.out.1 HB.out.2.1 (by have := HB.out.2.2; omega)
   have HEQ := Lib.hid heq
   have HEX := Lib.hid (And.intro hx1 (And.intro hx2 (And.intro hxs (And.intro hx3 hx4))))
   have HTL := Lib.hid (And.intro hke htl)
   have HLN := Lib.hid hle
   clear heq hx1 hx2 hxs hx3 hx4 hke hle htl
   have HPS := Lib.hid (tbProgs d HB.out.1.2).ok
   go_wp2_with fail
   refine HNW.out.mono ?_
   rintro e w1 ⟨b, o0, rfl, hw, hmw, hlo⟩
   have HMW := Lib.hid (HMR.out.trans hmw)
   have HLO := Lib.hid (show ∀ k, Own o0 k → w.heap.size ≤ k from fun k hk => Nat.le_trans HMR.out.size (hlo k hk))
   have hmc : ((20 * (k + 2) : Nat) : Int) = 20 * ((k : Int) + 2) := by omega
   have hmy := many_c (n := 20 * (k + 2)) CX0.ext HPS.out (by have := HB.out.1.2; omega) hw HEX.out.1 (by have := HLN.out.2.2.2; omega)
   rw [hmc] at hmy
   have HMY := Lib.hid hmy
   have hi1w := IntWalk.i64_in ((k : Int) + 2) (by have := HB.out.1.2; omega)
   have hi2w := IntWalk.i64_in (20 * ((k : Int) + 2)) (by have := HB.out.1.2; omega)
   clear hw hmw hlo hmc hmy
   go_wp2_with fail
   refine HMY.out.mono ?_
   rintro e w2 ⟨v1, rfl, o1, hw1, ho1, hf1, hs1⟩
   have H0 := Lib.hid (show LRel b [tbP k d, tbQ] w (pickE (z2.drop 0)) E s2 v1 w2 from ⟨o1, s1, e1, e2, hw1, HEX.out.2.1, HEQ.out.1, ho1, fun k hk => ⟨(hf1 k hk).1, Nat.le_trans HMW.out.size (hf1 k hk).2⟩, HMW.out.then hs1.t (fun k hk h => absurd (HLO.out k h) (by omega)), fun k hk => (hs1.f k hk).elim (HLO.out k) (fun h => Nat.le_trans HMW.out.size h)⟩)
   clear hw1 ho1 hf1 hs1
   obtain ⟨i0, hi0, hz0, hz1, hz2⟩ := info_parts Tryz.infoEv
   go_wp2_with fail
   go_loopw [12, 13] (fun vl vi wr => ∃ j : Nat, j ≤ len2 ∧ vi = .int .i64 j ∧ LRel b [tbP k d, tbQ] w (pickE (z2.drop j)) E s2 vl wr) (fun _ vi _ => len2 - (intOf vi).toNat)
   case atStart => exact ⟨0, Nat.zero_le _, rfl, H0.out⟩
   case round =>
    obtain ⟨j, hj, rfl, hrl⟩ := hrel
    have j1 : (0 : Int) ≤ (j : Int) := Int.natCast_nonneg _
    by_cases hjl : j < len2
    ·have j2 : (j : Int) < (len2 : Int) := by omega
     obtain ⟨x, hx⟩ := get_of_lt (xs := z2) (k := j) (by have := HB.out.2.2.1; omega)
     rw [pick_cons hx] at hrl
     obtain ⟨M, hc⟩ := hrl.step HPS.out HLN.out.1
     obtain ⟨-, hl0 | ⟨bb, off, rfl, hbb, hlies⟩⟩ := HZ.out.made hrl.turned
     ·omega
     have hcell := hlies j x hx 0 (.int .i64 x) rfl
     simp only [Nat.mul_one, Nat.add_zero] at hcell
     have HC := Lib.hid hc
     clear hc hrl hlies hbb hx
     go_wp2_with fail
     refine HC.out.mono ?_
     rintro e w3 ⟨vx, rfl, N, h01, h02, h03, h04⟩
     have HO := Lib.hid (And.intro h01 (And.intro h02 (And.intro h03 h04)))
     clear h01 h02 h03 h04
     go_wp2_with (at_builtin; refine wpList_cat rfl (.tmp 84) (.tmp 91) 32 rfl i0 _ 48 Tryz.underlying32 hi0 hz0 hz1 hz2 rfl (by omega) evC_len evC_one rfl HO.out.1 rfl HO.out.2.1 (by have := HO.out.2.2.1; unfold maxLen; omega) (by have := HO.out.2.2.1; omega) ?_; intro v4 w4 ho4 ht4 hv4; have HR := Lib.hid (HO.out.2.2.2 v4 w4 ho4 ht4 hv4); clear ho4 ht4 hv4)
     go_wp2_with fail
     go_roundw
     case rel => exact ⟨j + 1, by omega, by go_num, HR.out⟩
     case measure => simp [intOf]; omega
    ·have j2 : ¬ (j : Int) < (len2 : Int) := by omega
     rw [pick_end (by have := HB.out.2.2.1; omega)] at hrl
     have HR0 := Lib.hid hrl
     obtain ⟨o1, hw1, ho1, hf1, hm1, hlo1⟩ := hrl.done
     obtain ⟨ae, ce, rfl, hre, -⟩ := ho1.rowIn evC_len
     have HRE := Lib.hid hre
     clear hw1 ho1 hf1 hm1 hlo1 hre hrl H0
     go_wp2_with fail
     go_loopw [14] (fun vi w4 => ∃ i : Nat, i ≤ E.length ∧ vi = .int .i64 i ∧ Made wr w4) (fun vi _ => E.length - (intOf vi).toNat)
     case atStart => exact ⟨0, Nat.zero_le _, rfl, Turns.refl _ _⟩
     case round =>
      obtain ⟨i, hi, rfl, hmi⟩ := hrel
      have HMI := Lib.hid hmi
      clear hmi
      have j3 : (0 : Int) ≤ (i : Int) := Int.natCast_nonneg _
      by_cases hil : i < E.length
      ·have j4 : (i : Int) < (E.length : Int) := by omega
       have j5 : (i : Int) ≤ 1000 := by have := HLN.out.1; omega
       obtain ⟨y, hy⟩ := get_of_lt (xs := E) (k := i) hil
       obtain ⟨-, hl0 | ⟨bb, off, rfl, hbb, hlies⟩⟩ := HRE.out.made HMI.out
       ·omega
       obtain ⟨c0, c1, c2, c3, c4, c5⟩ := ev_cells hlies hy
       have hkd := HTL.out.1 y (List.mem_of_getElem? hy)
       have b1 : (y.kind == 1) = false := by simp [hkd]
       clear hlies hbb hy hkd
       go_wp2_with fail
       go_roundw
       case rel => exact ⟨i + 1, by omega, by go_num, HMI.out⟩
       case measure => simp [intOf]; omega
      ·have j4 : ¬ (i : Int) < (E.length : Int) := by omega
       have HA := Lib.hid ((HR0.out.kept HMI.out).adv HPS.out HEX.out.2.2.1)
       clear hi hil j3
       go_wp2_with fail
       refine HA.out.mono ?_
       rintro e w5 ⟨vx, rfl, hnext⟩
       have hn0 := hnext _ _ _ HEX.out.2.2.2.1
       rw [← HEQ.out.2.1] at hn0
       have H0 := Lib.hid (show LRel b [tbP k d, tbQ] w (pickE (z2.drop 0)) F s4 _ w5 from hn0)
       clear hn0
       clear hnext j4 j1 j2 hj hjl HR0 HRE HMI HA
       go_wp2_with fail
       go_loopw [12, 15] (fun vl vi wr => ∃ j : Nat, j ≤ len2 ∧ vi = .int .i64 j ∧ LRel b [tbP k d, tbQ] w (pickE (z2.drop j)) F s4 vl wr) (fun _ vi _ => len2 - (intOf vi).toNat)
       case atStart => exact ⟨0, Nat.zero_le _, rfl, H0.out⟩
       case round =>
        obtain ⟨j, hj, rfl, hrl⟩ := hrel
        have j1 : (0 : Int) ≤ (j : Int) := Int.natCast_nonneg _
        by_cases hjl : j < len2
        ·have j2 : (j : Int) < (len2 : Int) := by omega
         obtain ⟨x, hx⟩ := get_of_lt (xs := z2) (k := j) (by have := HB.out.2.2.1; omega)
         rw [pick_cons hx] at hrl
         obtain ⟨M, hc⟩ := hrl.step HPS.out HLN.out.2.1
         obtain ⟨-, hl0 | ⟨bb, off, rfl, hbb, hlies⟩⟩ := HZ.out.made hrl.turned
         ·omega
         have hcell := hlies j x hx 0 (.int .i64 x) rfl
         simp only [Nat.mul_one, Nat.add_zero] at hcell
         have HC := Lib.hid hc
         clear hc hrl hlies hbb hx
         go_wp2_with fail
         refine HC.out.mono ?_
         rintro e w3 ⟨vx, rfl, N, h01, h02, h03, h04⟩
         have HO := Lib.hid (And.intro h01 (And.intro h02 (And.intro h03 h04)))
         clear h01 h02 h03 h04
         go_wp2_with (at_builtin; refine wpList_cat rfl (.tmp 115) (.tmp 122) 32 rfl i0 _ 48 Tryz.underlying32 hi0 hz0 hz1 hz2 rfl (by omega) evC_len evC_one rfl HO.out.1 rfl HO.out.2.1 (by have := HO.out.2.2.1; unfold maxLen; omega) (by have := HO.out.2.2.1; omega) ?_; intro v4 w4 ho4 ht4 hv4; have HR := Lib.hid (HO.out.2.2.2 v4 w4 ho4 ht4 hv4); clear ho4 ht4 hv4)
         go_wp2_with fail
         go_roundw
         case rel => exact ⟨j + 1, by omega, by go_num, HR.out⟩
         case measure => simp [intOf]; omega
        ·have j2 : ¬ (j : Int) < (len2 : Int) := by omega
         rw [pick_end (by have := HB.out.2.2.1; omega)] at hrl
         have hln := (hrl.more HEX.out.2.2.2.2)
         rw [← HEQ.out.2.2] at hln
         have hmc : ((20 * (k + 2) : Nat) : Int) = 20 * ((k : Int) + 2) := by omega
         obtain ⟨M, hc⟩ := hln.many HPS.out (by have := HB.out.1.2; omega) HLN.out.2.2.1
         rw [hmc] at hc
         have HC := Lib.hid hc
         have hi1w := IntWalk.i64_in ((k : Int) + 2) (by have := HB.out.1.2; omega)
         have hi2w := IntWalk.i64_in (20 * ((k : Int) + 2)) (by have := HB.out.1.2; omega)
         clear hc hln hrl hmc
         go_wp2_with fail
         refine HC.out.mono ?_
         rintro e w3 ⟨vx, rfl, N, h01, h02, h03, h04⟩
         have HO := Lib.hid (And.intro h01 (And.intro h02 (And.intro h03 h04)))
         clear h01 h02 h03 h04
         go_wp2_with (at_builtin; refine wpList_cat rfl (.tmp 124) (.tmp 129) 32 rfl i0 _ 48 Tryz.underlying32 hi0 hz0 hz1 hz2 rfl (by omega) evC_len evC_one rfl HO.out.1 rfl HO.out.2.1 (by have := HO.out.2.2.1; unfold maxLen; omega) (by have := HO.out.2.2.1; omega) ?_; intro v4 w4 ho4 ht4 hv4; have HR := Lib.hid (HO.out.2.2.2 v4 w4 ho4 ht4 hv4); clear ho4 ht4 hv4)
         obtain ⟨o1, hw1, ho1, hf1, hm1, hlo1⟩ := HR.out.done
         obtain ⟨ae, ce, rfl, hre, -⟩ := ho1.rowIn evC_len
         have H0 := Lib.hid (And.intro hm1 hre)
         have HTT : Hid (∀ j : Nat, j < k → toldM G ((j : Int) + 1) = [d]) := Lib.hid HTL.out.2
         have HLF := Lib.hid HLN.out.2.2.1
         clear hw1 ho1 hf1 hm1 hlo1 hre HR HO HC
         go_wp2_with fail
         go_loopw [16] (fun vi w4 => ∃ i : Nat, 1 ≤ i ∧ i ≤ k + 1 ∧ vi = .int .i64 i ∧ Made w w4 ∧ RowIn evC 6 w4 ae G.length G) (fun vi _ => k + 1 - (intOf vi).toNat)
         case atStart => exact ⟨1, Nat.le_refl _, by omega, rfl, H0.out.1, H0.out.2⟩
         case round =>
          obtain ⟨i, hi1, hi, rfl, hmi, hri⟩ := hrel
          have HMI := Lib.hid (And.intro hmi hri)
          clear hmi hri
          have j3 : (0 : Int) ≤ (i : Int) := Int.natCast_nonneg _
          by_cases hil : i ≤ k
          ·have j4 : (i : Int) ≤ (k : Int) := by omega
           have htd : toldM G (i : Int) = [d] := by
            have h7 := HTT.out (i - 1) (by omega)
            rwa [show ((i - 1 : Nat) : Int) + 1 = (i : Int) from by omega] at h7
           have HTD := Lib.hid htd
           have HT1 := Lib.hid (told_c ae G.length ce G i _ HMI.out.2 (by have := HLF.out; omega))
           clear htd
           go_wp2_with fail
           refine HT1.out.mono ?_
           rintro e w7 ⟨v7, rfl, hg7⟩
           have hl1 := HTD.out
           have hm8 := (Turns.refl (fun _ => False) w7).alloc (.cells #[.int .i64 d] 3)
           have hn8 : Owns encI 3 1 (w7.alloc (.cells #[.int .i64 d] 3)) (.slice (some ⟨w7.heap.size, 0, none⟩) 1 1) [d] := owns_blk encI_len (Blk.new w7 3 #[.int .i64 d]) rfl rfl (by unfold maxLen; omega)
           have hv8 : Owns encI 3 1 (w7.alloc (.cells #[.int .i64 d] 3)) v7 [d] := by rw [← hl1]; exact hg7.own.made hm8
           have HIN := Lib.hid (ints_c v7 _ [d] _ hv8 hn8 (by simp))
           have HM8 := Lib.hid (hg7.made.trans hm8)
           clear hg7 hl1 hm8 hn8 hv8
           go_wp2_with fail
           refine HIN.out.mono ?_
           rintro e w9 ⟨rfl, hm9⟩
           have HM9 := Lib.hid (HM8.out.trans hm9)
           clear hm9
           go_wp2_with fail
           go_roundw
           case rel => exact ⟨i + 1, by omega, by omega, by go_num, HMI.out.1.trans HM9.out, HMI.out.2.made HM9.out⟩
           case measure => simp [intOf]; omega
          ·have j4 : ¬ (i : Int) ≤ (k : Int) := by omega
           go_wp2_with fail
           refine (awake_c _).mono ?_
           rintro e w13 ⟨rfl, hm13⟩
           have HM13 := Lib.hid (HMI.out.1.trans hm13)
           clear hm13
           go_wp2_with fail
           go_returns
           exact ⟨rfl, HM13.out⟩
end Go.Proofs.YtjnkphhlkoapbaaGreat
