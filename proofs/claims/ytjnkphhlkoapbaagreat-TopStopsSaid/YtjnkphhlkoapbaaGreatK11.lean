/-
  Walks and laws under LawTopStops, part 11.
-/
import Derived.Test.YtjnkphhlkoapbaaGreatK10
namespace Go.Proofs.YtjnkphhlkoapbaaGreat
open Go.RowKit
set_option linter.unusedVariables false
set_option linter.unusedSimpArgs false
theorem owns_blk {α : Type} {enc : α → List Value} {size : Nat} {w : World} {b n : Nat} {T : TypeId} {cs : Array Value} {l : List α} (he : ∀ x, (enc x).length = size) (h : Blk w b T cs) (hc : cs = (flat enc l).toArray) (hn : l.length = n) (hm : n ≤ maxLen) : Owns enc T size w (.slice (some ⟨b, 0, none⟩) n n) l := by
  subst hn
  have hs : cs.size = l.length * size := by rw [hc]; simp [flat_length he]
  exact ⟨flat_length he l, .inr ⟨b, l.length, cs, rfl, Nat.zero_le _, h, Nat.le_refl _, hm, hs, by rw [hc, ← flat_length he l]; simp⟩⟩
theorem tsProgs (d at_ anew : Int) : ProgsC [tsP d, tsQ at_ anew (tsX anew)] := by
  refine ⟨by simp, by simp, by simp [tsP, tsQ], fun p hp x hx => ?_, fun p hp x hx => ?_⟩
  · simp only [List.mem_cons, List.not_mem_nil, or_false] at hp
    rcases hp with rfl | rfl
    · simp only [tsP, List.mem_cons, List.not_mem_nil, or_false] at hx
      rcases hx with rfl | rfl | rfl | rfl | rfl
      · exact good_1 _ _ _ _ (by omega) rfl
      · exact good_17 _ _ _ _ (by omega) (by omega) (by omega)
      · exact good_8 _ _ _ _ (by omega) (by omega) rfl
      · exact good_11 _ _ _ _ (by omega) (by omega) (by omega)
      · exact good_6 _ _ _ _ (by omega) rfl rfl
    · simp only [tsQ, List.mem_cons, List.not_mem_nil, or_false] at hx
      rcases hx with rfl | rfl | rfl | rfl | rfl | rfl
      · exact good_1 _ _ _ _ (by omega) rfl
      · exact good_17 _ _ _ _ (by omega) (by omega) (by omega)
      · exact good_11 _ _ _ _ (by omega) (by omega) (by omega)
      · exact good_1 _ _ _ _ (by omega) rfl
      · unfold tsX
        split
        · exact good_20 _ _ _ _ (by omega) (by omega) rfl
        · exact good_21 _ _ _ _ (by omega) (by omega) (by omega)
      · exact good_6 _ _ _ _ (by omega) rfl rfl
  · simp only [List.mem_cons, List.not_mem_nil, or_false] at hp
    rcases hp with rfl | rfl
    · simp only [tsP, List.mem_cons, List.not_mem_nil, or_false] at hx
      rcases hx with rfl | rfl | rfl | rfl | rfl
      · exact .inr ⟨by simp, by simp, by simp, by simp⟩
      · exact .inr ⟨by simp, by simp, by simp, by simp⟩
      · exact .inl ⟨rfl, by simp⟩
      · exact .inr ⟨by simp, by simp, by simp, by simp⟩
      · exact .inr ⟨by simp, by simp, by simp, by simp⟩
    · simp only [tsQ, List.mem_cons, List.not_mem_nil, or_false] at hx
      rcases hx with rfl | rfl | rfl | rfl | rfl | rfl
      · exact .inr ⟨by simp, by simp, by simp, by simp⟩
      · exact .inr ⟨by simp, by simp, by simp, by simp⟩
      · exact .inr ⟨by simp, by simp, by simp, by simp⟩
      · exact .inr ⟨by simp, by simp, by simp, by simp⟩
      · unfold tsX
        split
        · exact .inr ⟨by simp, by simp, by simp, by simp⟩
        · exact .inr ⟨by simp, by simp, by simp, by simp⟩
      · exact .inr ⟨by simp, by simp, by simp, by simp⟩
def TRel (b : Wp) (ps : List (List Ins)) (w : World) (evs : List Ev) (s' : Wst) (k : Nat) (v : Value) (wr : World) : Prop := ∃ o1 s1 e1 e2, WA CX0 wr b o1 ps s1 ∧ Ex ps s1 (roundsE k (211 - k)) e2 s' ∧ evs = e1 ++ e2 ∧ Owns evC 45 6 wr v e1 ∧ (∀ k, v.ownBlock = some k → ¬ Own o1 k ∧ w.heap.size ≤ k) ∧ Made w wr ∧ ∀ k, Own o1 k → w.heap.size ≤ k
set_option maxRecDepth 100000 in
set_option maxHeartbeats 8000000 in
theorem stops_w (d at_ anew : Int) (w : World) : Calls Tryz.prog 5 #[.int .i64 d, .int .i64 at_, .int .i64 anew] w fun e w' => e = .returned (.bool true) ∧ Made w w' := by
  go_enter Tryz.func5, Tryz.ntmps5
  by_cases h1 : d < 1
  · go_wp2_with fail
    refine (awake_c _).mono ?_
    rintro e w1 ⟨rfl, hm⟩
    have HM := Lib.hid hm
    clear hm
    go_wp2_with fail
    go_returns
    exact ⟨rfl, HM.out⟩
  by_cases h2 : 100 < d
  · go_wp2_with fail
    refine (awake_c _).mono ?_
    rintro e w1 ⟨rfl, hm⟩
    have HM := Lib.hid hm
    clear hm
    go_wp2_with fail
    go_returns
    exact ⟨rfl, HM.out⟩
  by_cases h3 : at_ < 0
  · go_wp2_with fail
    refine (awake_c _).mono ?_
    rintro e w1 ⟨rfl, hm⟩
    have HM := Lib.hid hm
    clear hm
    go_wp2_with fail
    go_returns
    exact ⟨rfl, HM.out⟩
  by_cases h4 : d ≤ at_
  · go_wp2_with fail
    refine (awake_c _).mono ?_
    rintro e w1 ⟨rfl, hm⟩
    have HM := Lib.hid hm
    clear hm
    go_wp2_with fail
    go_returns
    exact ⟨rfl, HM.out⟩
  by_cases h5 : anew < 0
  · go_wp2_with fail
    refine (awake_c _).mono ?_
    rintro e w1 ⟨rfl, hm⟩
    have HM := Lib.hid hm
    clear hm
    go_wp2_with fail
    go_returns
    exact ⟨rfl, HM.out⟩
  by_cases h6 : 100 < anew
  · go_wp2_with fail
    refine (awake_c _).mono ?_
    rintro e w1 ⟨rfl, hm⟩
    have HM := Lib.hid hm
    clear hm
    go_wp2_with fail
    go_returns
    exact ⟨rfl, HM.out⟩
  have HB : Hid ((1 ≤ d ∧ d ≤ 100) ∧ (0 ≤ at_ ∧ at_ < d) ∧ (0 ≤ anew ∧ anew ≤ 100)) := Lib.hid ⟨by omega, by omega, by omega⟩
  have hsz : (w.alloc (.cells #[.int .i64 1, .int .i64 1, .int .i64 d, .int .i64 0, .slice none 0 0, .bool false, .int .i64 17, .int .i64 2, .int .i64 1, .int .i64 3, .slice none 0 0, .bool false, .int .i64 8, .int .i64 7, .int .i64 1, .int .i64 0, .slice none 0 0, .bool false, .int .i64 11, .int .i64 3, .int .i64 4, .int .i64 5, .slice none 0 0, .bool false, .int .i64 6, .int .i64 4, .int .i64 0, .int .i64 0, .slice none 0 0, .bool false] 25)).heap.size = w.heap.size + 1 := by simp
  have hm1 := (Turns.refl (fun _ => False) w).alloc (.cells #[.int .i64 1, .int .i64 1, .int .i64 d, .int .i64 0, .slice none 0 0, .bool false, .int .i64 17, .int .i64 2, .int .i64 1, .int .i64 3, .slice none 0 0, .bool false, .int .i64 8, .int .i64 7, .int .i64 1, .int .i64 0, .slice none 0 0, .bool false, .int .i64 11, .int .i64 3, .int .i64 4, .int .i64 5, .slice none 0 0, .bool false, .int .i64 6, .int .i64 4, .int .i64 0, .int .i64 0, .slice none 0 0, .bool false] 25)
  have hm2 := hm1.alloc (.cells #[.int .i64 1, .int .i64 1, .int .i64 at_, .int .i64 0, .slice none 0 0, .bool false, .int .i64 17, .int .i64 6, .int .i64 1, .int .i64 4, .slice none 0 0, .bool false, .int .i64 11, .int .i64 4, .int .i64 5, .int .i64 7, .slice none 0 0, .bool false, .int .i64 1, .int .i64 1, .int .i64 anew, .int .i64 0, .slice none 0 0, .bool false, .int .i64 21, .int .i64 2, .int .i64 1, .int .i64 4, .slice none 0 0, .bool false, .int .i64 6, .int .i64 4, .int .i64 0, .int .i64 0, .slice none 0 0, .bool false] 25)
  have hb1 := (Blk.new w 25 #[.int .i64 1, .int .i64 1, .int .i64 d, .int .i64 0, .slice none 0 0, .bool false, .int .i64 17, .int .i64 2, .int .i64 1, .int .i64 3, .slice none 0 0, .bool false, .int .i64 8, .int .i64 7, .int .i64 1, .int .i64 0, .slice none 0 0, .bool false, .int .i64 11, .int .i64 3, .int .i64 4, .int .i64 5, .slice none 0 0, .bool false, .int .i64 6, .int .i64 4, .int .i64 0, .int .i64 0, .slice none 0 0, .bool false]).alloc (.cells #[.int .i64 1, .int .i64 1, .int .i64 at_, .int .i64 0, .slice none 0 0, .bool false, .int .i64 17, .int .i64 6, .int .i64 1, .int .i64 4, .slice none 0 0, .bool false, .int .i64 11, .int .i64 4, .int .i64 5, .int .i64 7, .slice none 0 0, .bool false, .int .i64 1, .int .i64 1, .int .i64 anew, .int .i64 0, .slice none 0 0, .bool false, .int .i64 21, .int .i64 2, .int .i64 1, .int .i64 4, .slice none 0 0, .bool false, .int .i64 6, .int .i64 4, .int .i64 0, .int .i64 0, .slice none 0 0, .bool false] 25)
  have hb2 := Blk.new (w.alloc (.cells #[.int .i64 1, .int .i64 1, .int .i64 d, .int .i64 0, .slice none 0 0, .bool false, .int .i64 17, .int .i64 2, .int .i64 1, .int .i64 3, .slice none 0 0, .bool false, .int .i64 8, .int .i64 7, .int .i64 1, .int .i64 0, .slice none 0 0, .bool false, .int .i64 11, .int .i64 3, .int .i64 4, .int .i64 5, .slice none 0 0, .bool false, .int .i64 6, .int .i64 4, .int .i64 0, .int .i64 0, .slice none 0 0, .bool false] 25)) 25 #[.int .i64 1, .int .i64 1, .int .i64 at_, .int .i64 0, .slice none 0 0, .bool false, .int .i64 17, .int .i64 6, .int .i64 1, .int .i64 4, .slice none 0 0, .bool false, .int .i64 11, .int .i64 4, .int .i64 5, .int .i64 7, .slice none 0 0, .bool false, .int .i64 1, .int .i64 1, .int .i64 anew, .int .i64 0, .slice none 0 0, .bool false, .int .i64 21, .int .i64 2, .int .i64 1, .int .i64 4, .slice none 0 0, .bool false, .int .i64 6, .int .i64 4, .int .i64 0, .int .i64 0, .slice none 0 0, .bool false]
  rw [hsz] at hb2
  have HM2 := Lib.hid hm2
  have HB1 := Lib.hid hb1
  have HB2 := Lib.hid hb2
  clear hm1 hm2 hb1 hb2 hsz
  go_upto_if 55 with fail
  generalize (w.alloc (.cells #[.int .i64 1, .int .i64 1, .int .i64 d, .int .i64 0, .slice none 0 0, .bool false, .int .i64 17, .int .i64 2, .int .i64 1, .int .i64 3, .slice none 0 0, .bool false, .int .i64 8, .int .i64 7, .int .i64 1, .int .i64 0, .slice none 0 0, .bool false, .int .i64 11, .int .i64 3, .int .i64 4, .int .i64 5, .slice none 0 0, .bool false, .int .i64 6, .int .i64 4, .int .i64 0, .int .i64 0, .slice none 0 0, .bool false] 25)).alloc (.cells #[.int .i64 1, .int .i64 1, .int .i64 at_, .int .i64 0, .slice none 0 0, .bool false, .int .i64 17, .int .i64 6, .int .i64 1, .int .i64 4, .slice none 0 0, .bool false, .int .i64 11, .int .i64 4, .int .i64 5, .int .i64 7, .slice none 0 0, .bool false, .int .i64 1, .int .i64 1, .int .i64 anew, .int .i64 0, .slice none 0 0, .bool false, .int .i64 21, .int .i64 2, .int .i64 1, .int .i64 4, .slice none 0 0, .bool false, .int .i64 6, .int .i64 4, .int .i64 0, .int .i64 0, .slice none 0 0, .bool false] 25) = W at *
  go_cut [7, 8] (fun v7 v8 wx => ∃ g1 g2 : Nat, v7 = .slice (some ⟨g1, 0, none⟩) 5 5 ∧ v8 = .slice (some ⟨g2, 0, none⟩) 6 6 ∧ RowIn insC 6 wx (some ⟨g1, 0, none⟩) 5 (tsP d) ∧ RowIn insC 6 wx (some ⟨g2, 0, none⟩) 6 (tsQ at_ anew (tsX anew)) ∧ Made w wx)
  case first =>
    by_cases h0 : anew = 0
    · have hX : tsX anew = ⟨20, 2, 4, 0⟩ := by unfold tsX; rw [if_pos h0]
      have HX := Lib.hid hX
      have HBQ : Hid (Blk W (w.heap.size + 1) 25 ((flat insC [⟨1, 1, at_, 0⟩, ⟨17, 6, 1, 4⟩, ⟨11, 4, 5, 7⟩, ⟨1, 1, anew, 0⟩]) ++ insC ⟨21, 2, 1, 4⟩ ++ insC ⟨6, 4, 0, 0⟩).toArray) := Lib.hid HB2.out
      have b1 : (anew == 0) = true := by simp [h0]
      clear hX h0
      go_wp2_with (first
        | (refine wpList_store_mid (o := ⟨none, .store 25 (.tmp 58) (.tmp 57), _, _, _, _⟩) rfl rfl _ _ _ rfl rfl (insC ⟨20, 2, 4, 0⟩) (flat insC [⟨1, 1, at_, 0⟩, ⟨17, 6, 1, 4⟩, ⟨11, 4, 5, 7⟩, ⟨1, 1, anew, 0⟩]) (insC ⟨21, 2, 1, 4⟩) (insC ⟨6, 4, 0, 0⟩) (by rfl) HBQ.out rfl rfl (insC_one _) Tryz.sizeIns ?_; intro w2 hb2 ht2; have HQ2 := Lib.hid hb2; have HT2 := Lib.hid ht2; clear hb2 ht2)
        | fail)
      go_meet
      refine ⟨w.heap.size, w.heap.size + 1, rfl, rfl, RowIn.ofBlk insC_len (show Blk _ _ 25 (flat insC (tsP d)).toArray from HB1.out.turns HT2.out (by omega)), ?_, HM2.out.then HT2.out (fun k hk e => by omega)⟩
      rw [HX.out]
      exact RowIn.ofBlk insC_len (show Blk _ _ 25 (flat insC (tsQ at_ anew ⟨20, 2, 4, 0⟩)).toArray from HQ2.out)
    · have hX : tsX anew = ⟨21, 2, 1, 4⟩ := by unfold tsX; rw [if_neg h0]
      have HX := Lib.hid hX
      have b1 : (anew == 0) = false := by simp [h0]
      clear hX h0
      go_wp2_with fail
      go_meet
      refine ⟨w.heap.size, w.heap.size + 1, rfl, rfl, RowIn.ofBlk insC_len (show Blk _ _ 25 (flat insC (tsP d)).toArray from HB1.out), ?_, HM2.out⟩
      rw [HX.out]
      exact RowIn.ofBlk insC_len (show Blk _ _ 25 (flat insC (tsQ at_ anew ⟨21, 2, 1, 4⟩)).toArray from HB2.out)
  case rest =>
    obtain ⟨g1, g2, rfl, rfl, hr1, hr2, hmC⟩ := hcut
    have hbr := Blk.new wc 26 #[.slice (some ⟨g1, 0, none⟩) 5 5, .slice (some ⟨g2, 0, none⟩) 6 6]
    have hmr := (Turns.refl (fun _ => False) wc).alloc (.cells #[.slice (some ⟨g1, 0, none⟩) 5 5, .slice (some ⟨g2, 0, none⟩) 6 6] 26)
    have hrs : RowsIn (wc.alloc (.cells #[.slice (some ⟨g1, 0, none⟩) 5 5, .slice (some ⟨g2, 0, none⟩) 6 6] 26)) wc.heap.size 0 [tsP d, tsQ at_ anew (tsX anew)] := ⟨hbr.lt, fun i p hp => by
      cases i with
      | zero =>
        cases hp
        exact ⟨_, 5, hbr.cell 0, hr1.turns hmr (fun _ _ _ h => h)⟩
      | succ i =>
        cases i with
        | zero =>
          cases hp
          exact ⟨_, 6, hbr.cell 1, hr2.turns hmr (fun _ _ _ h => h)⟩
        | succ i => simp at hp⟩
    have HNW := Lib.hid (worldnew_c (cap := 2) _ (tsProgs d at_ anew) (by simp [tsP, tsQ]) hrs)
    have HMR := Lib.hid (hmC.trans hmr)
    clear hbr hmr hrs hr1 hr2 hmC
    obtain ⟨e1, s1, e2, s2, hx1, hx2, hel, ht1, ht0⟩ := ts_all HB.out.1 HB.out.2.1 HB.out.2.2
    have HEX := Lib.hid (And.intro hx1 hx2)
    have HTL := Lib.hid (And.intro hel (And.intro ht1 ht0))
    clear hx1 hx2 hel ht1 ht0
    go_wp2_with fail
    refine HNW.out.mono ?_
    rintro e w1 ⟨b, o0, rfl, hw, hmw, hlo⟩
    have HPS := Lib.hid (tsProgs d at_ anew).ok
    have HMW := Lib.hid (HMR.out.trans hmw)
    have HLO := Lib.hid (show ∀ k, Own o0 k → w.heap.size ≤ k from fun k hk => Nat.le_trans HMR.out.size (hlo k hk))
    have HMY : Hid (Calls Tryz.prog 11 #[.pointer (some ⟨b.pb, 0, none⟩), .int .i64 30] w1 _) := Lib.hid (many_c (n := 30) CX0.ext HPS.out (by omega) hw HEX.out.1 (by have := HTL.out.1; omega))
    clear hw hmw hlo
    go_wp2_with fail
    refine HMY.out.mono ?_
    rintro e w2 ⟨v1, rfl, o1, hw1, ho1, hf1, hs1⟩
    have H0 := Lib.hid (show TRel b [tsP d, tsQ at_ anew (tsX anew)] w (e1 ++ e2) s2 0 v1 w2 from ⟨o1, s1, e1, e2, hw1, HEX.out.2, rfl, ho1, fun k hk => ⟨(hf1 k hk).1, Nat.le_trans HMW.out.size (hf1 k hk).2⟩, HMW.out.then hs1.t (fun k hk h => absurd (HLO.out k h) (by omega)), fun k hk => (hs1.f k hk).elim (HLO.out k) (fun h => Nat.le_trans HMW.out.size h)⟩)
    clear hw1 ho1 hf1 hs1
    obtain ⟨i0, hi0, hz0, hz1, hz2⟩ := info_parts Tryz.infoEv
    go_wp2_with fail
    go_loopw [11, 12] (fun v11 v12 wr => ∃ k : Nat, k ≤ 211 ∧ v12 = .int .i64 k ∧ TRel b [tsP d, tsQ at_ anew (tsX anew)] w (e1 ++ e2) s2 k v11 wr) (fun _ v12 _ => 211 - (intOf v12).toNat)
    case atStart => exact ⟨0, by omega, rfl, H0.out⟩
    case round =>
      obtain ⟨k, hk, rfl, hrl⟩ := hrel
      have HE0 := Lib.hid hrl
      clear hrl
      obtain ⟨j1, j2, hd0, hd1⟩ : (0 : Int) ≤ (k : Int) ∧ True ∧ True ∧ True := ⟨Int.natCast_nonneg _, trivial, trivial, trivial⟩
      by_cases hkn : k < 211
      · have j2 : (k : Int) ≤ 210 := by omega
        by_cases hk0 : k = 0
        · have b1 : ((k : Int) == 0) = true := by simp [hk0]
          have HK0 := Lib.hid hk0
          clear hk0
          obtain ⟨o1, s1, f1, f2, hw1, hex1, he, ho1, hf1, hm1, hlo1⟩ := HE0.out
          have hsp : roundsE k (211 - k) = (.adv 0 :: manyE 0 10) ++ roundsE (k + 1) (211 - (k + 1)) := by
            rw [show 211 - k = (211 - (k + 1)) + 1 from by omega]
            show roundE k ++ _ = _
            unfold roundE
            rw [if_pos HK0.out]
          rw [hsp] at hex1
          obtain ⟨g1e, g2e, s4, hx4, hx5, he5⟩ := Ex.split hex1
          obtain ⟨s3, g3e, hst, hx6, he6⟩ := hx4
          have HST : Hid (Calls Tryz.prog 9 #[.pointer (some ⟨b.pb, 0, none⟩), .agg #[.int .i64 2, .int .i64 0, .int .i64 0]] wr _) := Lib.hid (step_F (e := .adv 0) CX0.ext HPS.out hw1 hst)
          have HX := Lib.hid (And.intro hx5 (And.intro hx6 (And.intro he5 (And.intro he6 he))))
          have HO := Lib.hid (And.intro ho1 hf1)
          have HMX := Lib.hid (And.intro hm1 hlo1)
          have hlen : f1.length + s3.ev.length + g3e.length + g2e.length ≤ 100 := by
            have h1 := HTL.out.1
            rw [← List.length_append, he, he5, he6] at h1
            simp only [List.length_append] at h1
            omega
          have HLN := Lib.hid hlen
          clear hw1 hex1 he ho1 hf1 hm1 hlo1 hsp hx5 he5 hst hx6 he6 hlen
          go_wp2_with fail
          refine HST.out.mono ?_
          rintro e w3 ⟨vx, rfl, o3, hw3, hox, hfx, hs3⟩
          have HO3 := Lib.hid (HO.out.1.turns hs3.t (fun k hk => (HO.out.2 k hk).1))
          have HN3 := Lib.hid (show ∀ k, u11.ownBlock = some k → ¬ Own o3 k from fun k hk h0 => (hs3.f k h0).elim (HO.out.2 k hk).1 (fun h1 => absurd (HO.out.1.lt hk) (Nat.not_lt.2 h1)))
          have HS3 := Lib.hid (SrcAt.ofOwns evC_len hox)
          have HW3 := Lib.hid (And.intro hw3 (And.intro (HMX.out.1.then hs3.t (fun k hk h => absurd (HMX.out.2 k h) (by omega))) (show ∀ k, Own o3 k → w.heap.size ≤ k from fun k hk => (hs3.f k hk).elim (HMX.out.2 k) (fun h => Nat.le_trans HMX.out.1.size h))))
          clear hw3 hox hfx hs3
          go_wp2_with (at_builtin; refine wpList_cat rfl (.tmp 80) (.tmp 84) 32 rfl i0 _ 48 Tryz.underlying32 hi0 hz0 hz1 hz2 rfl (by omega) evC_len evC_one rfl HO3.out rfl HS3.out (by have := HLN.out; unfold maxLen; omega) (by have := HLN.out; omega) ?_; intro v4 w4 ho4 ht4 hv4; have HO4 := Lib.hid (And.intro ho4 (And.intro ht4 hv4)); clear ho4 ht4 hv4)
          have hw4 := HW3.out.1.turns CX0.ext HO4.out.2.1 (fun j hj hk => HN3.out j hk hj)
          have HMY : Hid (Calls Tryz.prog 11 #[.pointer (some ⟨b.pb, 0, none⟩), .int .i64 10] w4 _) := Lib.hid (many_c (n := 10) CX0.ext HPS.out (by omega) hw4 HX.out.2.1 (by have := HLN.out; omega))
          have HN4 := Lib.hid (show ∀ k, v4.ownBlock = some k → ¬ Own o3 k ∧ w.heap.size ≤ k from fun k hk => by
            rcases HO4.out.2.2 k hk with h1 | h1
            · exact ⟨HN3.out k h1, (HO.out.2 k h1).2⟩
            · exact ⟨fun h0 => absurd (HW3.out.1.lt k h0) (Nat.not_lt.2 h1), Nat.le_trans HW3.out.2.1.size h1⟩)
          have HM4 := Lib.hid (show Made w w4 from HW3.out.2.1.then HO4.out.2.1 (fun k hk h => absurd (HO.out.2 k h).2 (by omega)))
          clear hw4
          go_wp2_with fail
          refine HMY.out.mono ?_
          rintro e w5 ⟨vy, rfl, o5, hw5, hoy, hfy, hs5⟩
          have HO5 := Lib.hid (HO4.out.1.turns hs5.t (fun k hk => (HN4.out k hk).1))
          have HN5 := Lib.hid (show ∀ k, v4.ownBlock = some k → ¬ Own o5 k from fun k hk h0 => (hs5.f k h0).elim (HN4.out k hk).1 (fun h1 => absurd (HO4.out.1.lt hk) (Nat.not_lt.2 h1)))
          have HS5 := Lib.hid (SrcAt.ofOwns evC_len hoy)
          have HW5 := Lib.hid (And.intro hw5 (And.intro (HM4.out.then hs5.t (fun k hk h => absurd (HW3.out.2.2 k h) (by omega))) (show ∀ k, Own o5 k → w.heap.size ≤ k from fun k hk => (hs5.f k hk).elim (HW3.out.2.2 k) (fun h => Nat.le_trans HM4.out.size h))))
          clear hw5 hoy hfy hs5
          go_wp2_with (at_builtin; refine wpList_cat rfl (.tmp 86) (.tmp 88) 32 rfl i0 _ 48 Tryz.underlying32 hi0 hz0 hz1 hz2 rfl (by omega) evC_len evC_one rfl HO5.out rfl HS5.out (by have := HLN.out; simp only [List.length_append]; unfold maxLen; omega) (by have := HLN.out; simp only [List.length_append]; omega) ?_; intro v6 w6 ho6 ht6 hv6; have HO6 := Lib.hid (And.intro ho6 (And.intro ht6 hv6)); clear ho6 ht6 hv6)
          have HR := Lib.hid (show TRel b [tsP d, tsQ at_ anew (tsX anew)] w (e1 ++ e2) s2 (k + 1) v6 w6 from ⟨o5, s4, (f1 ++ s3.ev) ++ g3e, g2e, HW5.out.1.turns CX0.ext HO6.out.2.1 (fun j hj hk => HN5.out j hk hj), HX.out.1, by rw [HX.out.2.2.2.2, HX.out.2.2.1, HX.out.2.2.2.1]; simp only [List.append_assoc], HO6.out.1, fun j hj => by
            rcases HO6.out.2.2 j hj with h1 | h1
            · exact ⟨HN5.out j h1, (HN4.out j h1).2⟩
            · exact ⟨fun h0 => absurd (HW5.out.1.lt j h0) (Nat.not_lt.2 h1), Nat.le_trans HW5.out.2.1.size h1⟩, HW5.out.2.1.then HO6.out.2.1 (fun j hj h => absurd (HN4.out j h).2 (by omega)), HW5.out.2.2⟩)
          go_wp2_with fail
          go_roundw
          case rel => exact ⟨k + 1, by omega, by go_num, HR.out⟩
          case measure => simp [intOf]; omega
        · have b1 : ((k : Int) == 0) = false := by simp [hk0]
          have HK0 := Lib.hid hk0
          clear hk0
          obtain ⟨o1, s1, f1, f2, hw1, hex1, he, ho1, hf1, hm1, hlo1⟩ := HE0.out
          have hsp : roundsE k (211 - k) = (.adv 1 :: manyE 0 10) ++ roundsE (k + 1) (211 - (k + 1)) := by
            rw [show 211 - k = (211 - (k + 1)) + 1 from by omega]
            show roundE k ++ _ = _
            unfold roundE
            rw [if_neg HK0.out]
          rw [hsp] at hex1
          obtain ⟨g1e, g2e, s4, hx4, hx5, he5⟩ := Ex.split hex1
          obtain ⟨s3, g3e, hst, hx6, he6⟩ := hx4
          have HST : Hid (Calls Tryz.prog 9 #[.pointer (some ⟨b.pb, 0, none⟩), .agg #[.int .i64 2, .int .i64 1, .int .i64 0]] wr _) := Lib.hid (step_F (e := .adv 1) CX0.ext HPS.out hw1 hst)
          have HX := Lib.hid (And.intro hx5 (And.intro hx6 (And.intro he5 (And.intro he6 he))))
          have HO := Lib.hid (And.intro ho1 hf1)
          have HMX := Lib.hid (And.intro hm1 hlo1)
          have hlen : f1.length + s3.ev.length + g3e.length + g2e.length ≤ 100 := by
            have h1 := HTL.out.1
            rw [← List.length_append, he, he5, he6] at h1
            simp only [List.length_append] at h1
            omega
          have HLN := Lib.hid hlen
          clear hw1 hex1 he ho1 hf1 hm1 hlo1 hsp hx5 he5 hst hx6 he6 hlen
          go_wp2_with fail
          refine HST.out.mono ?_
          rintro e w3 ⟨vx, rfl, o3, hw3, hox, hfx, hs3⟩
          have HO3 := Lib.hid (HO.out.1.turns hs3.t (fun k hk => (HO.out.2 k hk).1))
          have HN3 := Lib.hid (show ∀ k, u11.ownBlock = some k → ¬ Own o3 k from fun k hk h0 => (hs3.f k h0).elim (HO.out.2 k hk).1 (fun h1 => absurd (HO.out.1.lt hk) (Nat.not_lt.2 h1)))
          have HS3 := Lib.hid (SrcAt.ofOwns evC_len hox)
          have HW3 := Lib.hid (And.intro hw3 (And.intro (HMX.out.1.then hs3.t (fun k hk h => absurd (HMX.out.2 k h) (by omega))) (show ∀ k, Own o3 k → w.heap.size ≤ k from fun k hk => (hs3.f k hk).elim (HMX.out.2 k) (fun h => Nat.le_trans HMX.out.1.size h))))
          clear hw3 hox hfx hs3
          go_wp2_with (at_builtin; refine wpList_cat rfl (.tmp 80) (.tmp 84) 32 rfl i0 _ 48 Tryz.underlying32 hi0 hz0 hz1 hz2 rfl (by omega) evC_len evC_one rfl HO3.out rfl HS3.out (by have := HLN.out; unfold maxLen; omega) (by have := HLN.out; omega) ?_; intro v4 w4 ho4 ht4 hv4; have HO4 := Lib.hid (And.intro ho4 (And.intro ht4 hv4)); clear ho4 ht4 hv4)
          have hw4 := HW3.out.1.turns CX0.ext HO4.out.2.1 (fun j hj hk => HN3.out j hk hj)
          have HMY : Hid (Calls Tryz.prog 11 #[.pointer (some ⟨b.pb, 0, none⟩), .int .i64 10] w4 _) := Lib.hid (many_c (n := 10) CX0.ext HPS.out (by omega) hw4 HX.out.2.1 (by have := HLN.out; omega))
          have HN4 := Lib.hid (show ∀ k, v4.ownBlock = some k → ¬ Own o3 k ∧ w.heap.size ≤ k from fun k hk => by
            rcases HO4.out.2.2 k hk with h1 | h1
            · exact ⟨HN3.out k h1, (HO.out.2 k h1).2⟩
            · exact ⟨fun h0 => absurd (HW3.out.1.lt k h0) (Nat.not_lt.2 h1), Nat.le_trans HW3.out.2.1.size h1⟩)
          have HM4 := Lib.hid (show Made w w4 from HW3.out.2.1.then HO4.out.2.1 (fun k hk h => absurd (HO.out.2 k h).2 (by omega)))
          clear hw4
          go_wp2_with fail
          refine HMY.out.mono ?_
          rintro e w5 ⟨vy, rfl, o5, hw5, hoy, hfy, hs5⟩
          have HO5 := Lib.hid (HO4.out.1.turns hs5.t (fun k hk => (HN4.out k hk).1))
          have HN5 := Lib.hid (show ∀ k, v4.ownBlock = some k → ¬ Own o5 k from fun k hk h0 => (hs5.f k h0).elim (HN4.out k hk).1 (fun h1 => absurd (HO4.out.1.lt hk) (Nat.not_lt.2 h1)))
          have HS5 := Lib.hid (SrcAt.ofOwns evC_len hoy)
          have HW5 := Lib.hid (And.intro hw5 (And.intro (HM4.out.then hs5.t (fun k hk h => absurd (HW3.out.2.2 k h) (by omega))) (show ∀ k, Own o5 k → w.heap.size ≤ k from fun k hk => (hs5.f k hk).elim (HW3.out.2.2 k) (fun h => Nat.le_trans HM4.out.size h))))
          clear hw5 hoy hfy hs5
          go_wp2_with (at_builtin; refine wpList_cat rfl (.tmp 86) (.tmp 88) 32 rfl i0 _ 48 Tryz.underlying32 hi0 hz0 hz1 hz2 rfl (by omega) evC_len evC_one rfl HO5.out rfl HS5.out (by have := HLN.out; simp only [List.length_append]; unfold maxLen; omega) (by have := HLN.out; simp only [List.length_append]; omega) ?_; intro v6 w6 ho6 ht6 hv6; have HO6 := Lib.hid (And.intro ho6 (And.intro ht6 hv6)); clear ho6 ht6 hv6)
          have HR := Lib.hid (show TRel b [tsP d, tsQ at_ anew (tsX anew)] w (e1 ++ e2) s2 (k + 1) v6 w6 from ⟨o5, s4, (f1 ++ s3.ev) ++ g3e, g2e, HW5.out.1.turns CX0.ext HO6.out.2.1 (fun j hj hk => HN5.out j hk hj), HX.out.1, by rw [HX.out.2.2.2.2, HX.out.2.2.1, HX.out.2.2.2.1]; simp only [List.append_assoc], HO6.out.1, fun j hj => by
            rcases HO6.out.2.2 j hj with h1 | h1
            · exact ⟨HN5.out j h1, (HN4.out j h1).2⟩
            · exact ⟨fun h0 => absurd (HW5.out.1.lt j h0) (Nat.not_lt.2 h1), Nat.le_trans HW5.out.2.1.size h1⟩, HW5.out.2.1.then HO6.out.2.1 (fun j hj h => absurd (HN4.out j h).2 (by omega)), HW5.out.2.2⟩)
          go_wp2_with fail
          go_roundw
          case rel => exact ⟨k + 1, by omega, by go_num, HR.out⟩
          case measure => simp [intOf]; omega
      · have hk2 : k = 211 := by omega
        obtain ⟨o1, s1, f1, f2, hw1, hex1, he, ho1, hf1, hm1, hlo1⟩ := HE0.out
        have hex2 : Ex [tsP d, tsQ at_ anew (tsX anew)] s1 (roundsE k 0) f2 s2 := by rw [hk2] at hex1 ⊢; exact hex1
        obtain ⟨rfl, rfl⟩ := hex2
        rw [List.append_nil] at he
        have HE := Lib.hid (And.intro ho1 (And.intro hm1 he))
        have j2 : ¬ (k : Int) ≤ 210 := by omega
        clear hw1 hex1 ho1 hf1 hm1 hlo1 hk2
        obtain ⟨ae, ce, rfl, hrow, -⟩ := HE.out.1.rowIn evC_len
        have HRW := Lib.hid hrow
        have HFL := Lib.hid (show f1.length ≤ 100 from by have h1 := HTL.out.1; rw [← List.length_append, HE.out.2.2] at h1; exact h1)
        have HT1 := Lib.hid (told_c ae f1.length ce f1 1 wr hrow (by have := HFL.out; omega))
        clear hrow
        go_wp2_with fail
        refine HT1.out.mono ?_
        rintro e w7 ⟨v7, rfl, hg7⟩
        have HG7 := Lib.hid hg7
        have hl1 : toldM f1 1 = [1] := by rw [← HE.out.2.2]; exact HTL.out.2.1
        have hm8 := (Turns.refl (fun _ => False) w7).alloc (.cells #[.int .i64 1] 3)
        have hn8 : Owns encI 3 1 (w7.alloc (.cells #[.int .i64 1] 3)) (.slice (some ⟨w7.heap.size, 0, none⟩) 1 1) [1] := owns_blk encI_len (Blk.new w7 3 #[.int .i64 1]) rfl rfl (by unfold maxLen; omega)
        have hv8 : Owns encI 3 1 (w7.alloc (.cells #[.int .i64 1] 3)) v7 [1] := by rw [← hl1]; exact hg7.own.made hm8
        have HIN := Lib.hid (ints_c v7 _ [1] _ hv8 hn8 (by simp))
        have HM8 := Lib.hid ((HE.out.2.1.trans hg7.made).trans hm8)
        have HR8 := Lib.hid (HRW.out.turns (hg7.made.trans hm8) (fun _ _ _ h => h))
        clear hg7 hl1 hm8 hn8 hv8
        go_wp2_with fail
        refine HIN.out.mono ?_
        rintro e w9 ⟨rfl, hm9⟩
        have HM9 := Lib.hid (HM8.out.trans hm9)
        have HR9 := Lib.hid (HR8.out.turns hm9 (fun _ _ _ h => h))
        have HT2 := Lib.hid (told_c ae f1.length ce f1 0 w9 HR9.out (by have := HFL.out; omega))
        clear hm9
        by_cases h0 : anew = 0
        · have hl0 : toldM f1 0 = [] := by rw [← HE.out.2.2, HTL.out.2.2, if_pos h0]
          have HL0 := Lib.hid hl0
          have b1 : (anew == 0) = true := by simp [h0]
          clear h0 hl0
          go_wp2_with fail
          refine HT2.out.mono ?_
          rintro e w10 ⟨v10, rfl, hg10⟩
          obtain ⟨a10, c10, rfl⟩ := owns_slice hg10.own
          have HM10 := Lib.hid (HM9.out.trans hg10.made)
          rw [HL0.out]
          clear hg10
          simp only [List.length_nil]
          go_wp2_with fail
          refine (awake_c _).mono ?_
          rintro e w11 ⟨rfl, hm11⟩
          have HM11 := Lib.hid (HM10.out.trans hm11)
          clear hm11
          go_wp2_with fail
          go_returns
          exact ⟨rfl, HM11.out⟩
        · have hl0 : toldM f1 0 = [at_ + anew] := by rw [← HE.out.2.2, HTL.out.2.2, if_neg h0]
          have HL0 := Lib.hid hl0
          have b1 : (anew == 0) = false := by simp [h0]
          clear h0 hl0
          go_wp2_with fail
          refine HT2.out.mono ?_
          rintro e w10 ⟨v10, rfl, hg10⟩
          have hl1 := HL0.out
          have hm11 := (Turns.refl (fun _ => False) w10).alloc (.cells #[.int .i64 (at_ + anew)] 3)
          have hn11 : Owns encI 3 1 (w10.alloc (.cells #[.int .i64 (at_ + anew)] 3)) (.slice (some ⟨w10.heap.size, 0, none⟩) 1 1) [at_ + anew] := owns_blk encI_len (Blk.new w10 3 #[.int .i64 (at_ + anew)]) rfl rfl (by unfold maxLen; omega)
          have hv11 : Owns encI 3 1 (w10.alloc (.cells #[.int .i64 (at_ + anew)] 3)) v10 [at_ + anew] := by rw [← hl1]; exact hg10.own.made hm11
          have HIN2 := Lib.hid (ints_c v10 _ [at_ + anew] _ hv11 hn11 (by simp))
          have HM11 := Lib.hid ((HM9.out.trans hg10.made).trans hm11)
          have hwi := IntWalk.i64_in (at_ + anew) (by have := HB.out; omega)
          clear hg10 hl1 hm11 hn11 hv11
          go_wp2_with fail
          refine HIN2.out.mono ?_
          rintro e w12 ⟨rfl, hm12⟩
          have HM12 := Lib.hid (HM11.out.trans hm12)
          clear hm12
          go_wp2_with fail
          refine (awake_c _).mono ?_
          rintro e w13 ⟨rfl, hm13⟩
          have HM13 := Lib.hid (HM12.out.trans hm13)
          clear hm13
          go_wp2_with fail
          go_returns
          exact ⟨rfl, HM13.out⟩
end Go.Proofs.YtjnkphhlkoapbaaGreat
