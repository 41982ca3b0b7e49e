/-
  Walks and laws under LawTopBarrier, part 9.
-/
import Derived.Test.YtjnkphhlkoapbaaGreatPb8
namespace Go.Proofs.YtjnkphhlkoapbaaGreat
open Go.RowKit
set_option linter.unusedVariables false
set_option linter.unusedSimpArgs false
theorem evRow_one (ds : List Ev) : ∀ u ∈ flat evC ds, u.oneCell' = true := by
 intro u hu
 obtain ⟨d, _, hd⟩ := List.mem_flatMap.1 hu
 exact evC_one d u hd
set_option maxHeartbeats 400000 in
theorem clone_ev (v : Value) (ds : List Ev) (w : World) (ho : Owns evC 45 6 w v ds) (hn : ds.length ≤ 1000000) :
  Calls Tryz.prog 27 #[v] w fun e w' => ∃ v', e = .returned v' ∧ Owns evC 45 6 w' v' ds ∧ Made w w' ∧ (∀ k, v'.ownBlock = some k → w.heap.size ≤ k) := by
 rcases ho.form with ⟨rfl, rfl⟩ | ⟨g, cap, rfl, hg, hl, hm⟩
 ·have hnil := Lib.run_eql_slice_nil (P := Tryz.prog)
  go_enter Tryz.func27, Tryz.ntmps27
  go_wp2
  go_ret
  exact ⟨_, rfl, ho, Turns.refl _ _, fun k hk => by simp [Value.ownBlock] at hk⟩
 ·obtain ⟨i0, hi0, hz0, hz1, hz2⟩ := info_parts Tryz.infoEv
  have hnil := Lib.run_eql_slice_nil (P := Tryz.prog)
  have HO := Lib.hid ho
  clear ho
  go_enter Tryz.func27, Tryz.ntmps27
  go_wp2_with (at_builtin; refine wpList_append_own _ rfl (.tmp 5) (.tmp 6) 32 rfl w.heap.size 45 i0 _ 6 48 Tryz.underlying32 hi0 hz0 hz1 hz2 rfl (by omega) _ 0 [] rfl ?own ⟨g, 0, none⟩ ds.length cap (flat evC ds) rfl ?len ?cells ?one ?b1 ?b2 ?b3 ?_)
  case own => exact World.ownsRow_made w #[] 0 (Nat.le_refl _) (Nat.zero_le _) rfl
  case len => exact flat_length evC_len ds
  case cells =>
   intro j u hu
   rw [Addr.add_lit]
   have h0 := World.ownsRow.cells (g := g) HO.out rfl j u hu
   rw [Addr.add_lit] at h0
   exact ((Below.refl w.heap.size w).alloc (Nat.le_refl _) _).cell (p := ⟨g, 0 + j, none⟩) hg |>.trans h0
  case one => exact evRow_one ds
  case b1 => unfold maxLen; omega
  case b2 => omega
  case b3 => simp
  intro v' w1 hown hgrow _
  have hf := hown
  go_wp2
  go_ret
  refine ⟨v', rfl, ?_, ?_, ?_⟩
  ·unfold Owns; simpa using owns_zero hown
  ·exact ((Turns.refl _ _).alloc _).grown hgrow (fun k hk hlt => by simp [Value.ownBlock] at hk; omega)
  ·exact fun k hk => (World.ownsRow.lt hown k hk).1
section
variable {CX : World → (Nat → Prop) → Prop} {w w' : World} {b : Wp} {o o' : Nat → Nat} {ps : List (List Ins)} {s : Wst} {vp vc vl ve : Value}
theorem WAt.clearEv (hx : Ext CX) (h : WAt CX w b o ps s vp vc vl ve) : ∃ o', WAt CX (w.setCell ⟨b.pb, 10, none⟩ (.slice none 0 0)) b o' ps { s with ev := [] } vp vc vl (.slice none 0 0) ∧ Stp w (w.setCell ⟨b.pb, 10, none⟩ (.slice none 0 0)) (Own o) (Own o') := by
 have ht : Turns (fun k => o k = 1) w (w.setCell ⟨b.pb, 10, none⟩ (.slice none 0 0)) := (set1 w b.pb 10 _).mono (fun k _ e => by rw [e]; exact h.ob)
 obtain ⟨ds, hd1, hd2⟩ := h.dls
 obtain ⟨ls, hl1, hl2⟩ := h.lrow
 have hb3 := h.blk.put 10 (.slice none 0 0)
 simp only [List.setIfInBounds_toArray, List.set_cons_zero, List.set_cons_succ] at hb3
 obtain ⟨o', hne, hz, h10⟩ : ∃ o' : Nat → Nat, (∀ j, j ≠ 0 → j ≠ 10 → (fun k => o' k = j) = fun k => o k = j) ∧ (∀ k, o' k ≠ 0 → o k ≠ 0) ∧ ∀ k, o' k ≠ 10 := by
  refine ⟨fun k => if o k = 10 then 0 else o k, fun j h0 h1 => ?_, fun k hk e => hk (by simp [e]), fun k e => ?_⟩
  ·funext k
   by_cases hk : o k = 10
   ·simp only [hk, if_true]
    exact propext ⟨fun e => absurd e.symm h0, fun e => absurd e.symm h1⟩
   ·simp only [hk, if_false]
  ·by_cases hk : o k = 10
   ·simp [hk] at e
   ·simp [hk] at e
 refine ⟨o', { lt := fun k hk => Nat.lt_of_lt_of_le (h.lt k (hz k hk)) ht.size, cnd := h.cnd, blk := hb3, erow := Owns.nil, eo := fun k => ⟨fun e => (by cases e), fun e => absurd e (h10 k)⟩, ob := lab_is (hne 1 (by omega) (by omega)) h.ob, clk := h.clk.turns ht (by rw [h.ok]; omega), ok := lab_is (hne 2 (by omega) (by omega)) h.ok, tab := by rw [hne 3 (by omega) (by omega)]; exact h.tab.turns ht (fun k hk => by rw [hk]; omega), tms := by rw [hne 4 (by omega) (by omega)]; exact h.tms.turns ht (fun k hk => by rw [hk]; omega), dls := ⟨ds, hd1, by rw [hne 5 (by omega) (by omega)]; exact hd2.turns ht (fun k hk => by rw [hk]; omega)⟩, ctx := by rw [hne 6 (by omega) (by omega)]; exact hx.turns _ w _ _ h.ctx ht (fun k hk => by rw [hk]; omega), prs := h.prs.turns ht (fun k hk => by rw [hk]; omega) (fun k hk => lab_is (hne 7 (by omega) (by omega)) hk), crow := h.crow.turns ht (fun k hk => by rw [(h.co k).1 hk]; omega), co := fun k => (h.co k).trans (iff_of_eq (congrFun (hne 8 (by omega) (by omega)) k)).symm, lrow := ⟨ls, hl1, hl2.turns ht (fun k hk => by rw [(h.lo k).1 hk]; omega)⟩, lo := fun k => (h.lo k).trans (iff_of_eq (congrFun (hne 9 (by omega) (by omega)) k)).symm, chn := fun p c hp => by rw [hne (16 + p) (by omega) (by omega)]; exact (h.chn p c hp).turns ht (fun k hk => by rw [hk]; omega) }, ?_⟩
 exact ⟨ht.mono (fun k _ e => by show o k ≠ 0; rw [e]; omega), fun k hk => .inl (hz k hk)⟩
theorem WAt.incStep (hx : Ext CX) (h : WAt CX w b o ps s vp vc vl ve) (n : Int) : WAt CX (w.setCell ⟨b.pb, 9, none⟩ (.int .i64 n)) b o ps { s with steps := n } vp vc vl ve ∧ Stp w (w.setCell ⟨b.pb, 9, none⟩ (.int .i64 n)) (Own o) (Own o) := by
 have ht : Turns (fun k => o k = 1) w (w.setCell ⟨b.pb, 9, none⟩ (.int .i64 n)) := (set1 w b.pb 9 _).mono (fun k _ e => by rw [e]; exact h.ob)
 obtain ⟨ds, hd1, hd2⟩ := h.dls
 obtain ⟨ls, hl1, hl2⟩ := h.lrow
 have hb3 := h.blk.put 9 (.int .i64 n)
 simp only [List.setIfInBounds_toArray, List.set_cons_zero, List.set_cons_succ] at hb3
 have hne : ∀ j, j ≠ 0 → j ≠ 1 → (fun k => o k = j) = fun k => o k = j := fun j _ _ => rfl
 exact ⟨{ lt := fun k hk => Nat.lt_of_lt_of_le (h.lt k hk) ht.size, cnd := h.cnd, blk := hb3, ob := h.ob, erow := h.erow.turns ht (fun k hk => by rw [(h.eo k).1 hk]; omega), eo := h.eo, clk := h.clk.turns ht (by rw [h.ok]; omega), ok := lab_is (hne 2 (by omega) (by omega)) h.ok, tab := by rw [hne 3 (by omega) (by omega)]; exact h.tab.turns ht (fun k hk => by rw [hk]; omega), tms := by rw [hne 4 (by omega) (by omega)]; exact h.tms.turns ht (fun k hk => by rw [hk]; omega), dls := ⟨ds, hd1, by rw [hne 5 (by omega) (by omega)]; exact hd2.turns ht (fun k hk => by rw [hk]; omega)⟩, ctx := by rw [hne 6 (by omega) (by omega)]; exact hx.turns _ w _ _ h.ctx ht (fun k hk => by rw [hk]; omega), prs := h.prs.turns ht (fun k hk => by rw [hk]; omega) (fun k hk => lab_is (hne 7 (by omega) (by omega)) hk), crow := h.crow.turns ht (fun k hk => by rw [(h.co k).1 hk]; omega), co := fun k => (h.co k).trans (iff_of_eq (congrFun (hne 8 (by omega) (by omega)) k)).symm, lrow := ⟨ls, hl1, hl2.turns ht (fun k hk => by rw [(h.lo k).1 hk]; omega)⟩, lo := fun k => (h.lo k).trans (iff_of_eq (congrFun (hne 9 (by omega) (by omega)) k)).symm, chn := fun p c hp => by rw [hne (16 + p) (by omega) (by omega)]; exact (h.chn p c hp).turns ht (fun k hk => by rw [hk]; omega) }, ⟨ht.mono (fun k _ e => by show o k ≠ 0; rw [e]; omega), fun k hk => .inl hk⟩⟩
end
set_option maxRecDepth 100000 in
set_option maxHeartbeats 1000000 in
theorem wstep_run {CX : World → (Nat → Prop) → Prop} {w : World} {b : Wp} {o : Nat → Nat} {ps : List (List Ins)} {s : Wst} {n d : Int} {R : Wst → Prop} (hx : Ext CX) (h : WW CX w b o ps s)
  (hr : ∀ (w1 : World) (o1 : Nat → Nat), WW CX w1 b o1 ps { s with ev := [] } → Calls Tryz.prog 26 #[.pointer (some ⟨b.pb, 0, none⟩), .int .i64 n, .int .i64 d] w1 fun e w' => e = .returned (.tuple #[]) ∧ ∃ o' s2, R s2 ∧ WW CX w' b o' ps s2 ∧ Stp w1 w' (Own o1) (Own o'))
  (hR : ∀ s2, R s2 → 0 ≤ s2.steps ∧ s2.steps < 1000000 ∧ s2.ev.length ≤ 1000000) :
  Calls Tryz.prog 9 #[.pointer (some ⟨b.pb, 0, none⟩), .agg #[.int .i64 1, .int .i64 n, .int .i64 d]] w fun e w' => ∃ v, e = .returned v ∧ ∃ o' s2, R s2 ∧ WW CX w' b o' ps { s2 with steps := s2.steps + 1 } ∧ Owns evC 45 6 w' v s2.ev ∧ (∀ k, v.ownBlock = some k → ¬ Own o' k ∧ w.heap.size ≤ k) ∧ Stp w w' (Own o) (Own o') := by
 have HXX := Lib.hid hx
 have HRR := Lib.hid (And.intro hr hR)
 have hm0 := (Turns.refl (fun _ => False) w).alloc (.cells #[.int .i64 1, .int .i64 n, .int .i64 d] 35)
 have HB0 := Lib.hid (Blk.new w 35 #[.int .i64 1, .int .i64 n, .int .i64 d])
 have HM0 := Lib.hid hm0
 obtain ⟨vp, vc, vl, ve, h0⟩ := h
 have HH := Lib.hid (h0.made hx hm0)
 have q10 := (h0.made hx hm0).blk.cell 10
 have f10 := (h0.made hx hm0).blk.free 10
 simp only [List.getElem?_toArray, List.getElem?_cons_zero, List.getElem?_cons_succ] at q10
 have HNE := Lib.hid (show ¬ Own o w.heap.size from fun e => absurd (h0.lt _ e) (Nat.lt_irrefl _))
 clear h0 hx hr hR hm0
 go_enter Tryz.func9, Tryz.ntmps9
 go_upto_region 5 with fail
 obtain ⟨o1, h1, hs1⟩ := HH.out.clearEv HXX.out
 have HW1 := Lib.hid (show WW CX _ b o1 ps { s with ev := [] } from ⟨_, _, _, _, h1⟩)
 have HS1 := Lib.hid ((Stp.made (F := Own o) HM0.out).trans hs1)
 have HPL := Lib.hid (show b.pb ≠ w.heap.size from fun e => HNE.out (by show o w.heap.size ≠ 0; rw [← e, HH.out.ob]; omega))
 have HB1 := Lib.hid (HB0.out.turns (set1 _ b.pb 10 (.slice none 0 0)) (fun e => HPL.out e.symm))
 clear h1 hs1 q10 f10
 generalize (w.alloc (.cells #[.int .i64 1, .int .i64 n, .int .i64 d] 35)).setCell ⟨b.pb, 10, none⟩ (.slice none 0 0) = W1 at *
 have e0 := HB1.out.cell 0
 have e1 := HB1.out.cell 1
 have e2 := HB1.out.cell 2
 simp only [List.getElem?_toArray, List.getElem?_cons_zero, List.getElem?_cons_succ] at e0 e1 e2
 go_wp2_with fail
 refine (scheck_run n d _).mono ?_
 rintro e w1 ⟨rfl, hm1⟩
 have HM1 := Lib.hid hm1
 have e0 := (HB1.out.turns hm1 (fun h => h)).cell 0
 have e1 := (HB1.out.turns hm1 (fun h => h)).cell 1
 have e2 := (HB1.out.turns hm1 (fun h => h)).cell 2
 simp only [List.getElem?_toArray, List.getElem?_cons_zero, List.getElem?_cons_succ] at e0 e1 e2
 clear hm1
 go_wp2_with fail
 refine (HRR.out.1 w1 o1 (HW1.out.made HXX.out HM1.out)).mono ?_
 rintro e w2 ⟨rfl, o2, s2, hr2, hw2, hs2⟩
 obtain ⟨hb0, hb1, hb2⟩ := HRR.out.2 s2 hr2
 have HR2 := Lib.hid hr2
 have HS2 := Lib.hid ((HS1.out.then_made HM1.out).trans hs2)
 have HL2 := Lib.hid hb2
 obtain ⟨vp2, vc2, vl2, ve2, hw2⟩ := hw2
 have HW2 := Lib.hid hw2
 have q9 := hw2.blk.cell 9
 have q10 := hw2.blk.cell 10
 have f9 := hw2.blk.free 9
 simp only [List.getElem?_toArray, List.getElem?_cons_zero, List.getElem?_cons_succ] at q9 q10
 have hwi := IntWalk.i64_in (s2.steps + 1) (by omega)
 clear hr2 hs2 hw2 hb2 e0 e1 e2
 go_upto_region 10 with fail
 obtain ⟨h3, hs3⟩ := HW2.out.incStep HXX.out (s2.steps + 1)
 have HW3 := Lib.hid h3
 have HS3 := Lib.hid (HS2.out.trans hs3)
 have q10 : (w2.setCell ⟨b.pb, 9, none⟩ (.int .i64 (s2.steps + 1))).cell? ⟨b.pb, 10, none⟩ = some ve2 := h3.blk.cell 10
 have HC := Lib.hid (clone_ev ve2 s2.ev _ h3.erow HL2.out)
 clear h3 hs3 q9 f9 hwi
 generalize w2.setCell ⟨b.pb, 9, none⟩ (.int .i64 (s2.steps + 1)) = W3 at *
 go_wp2_with fail
 refine HC.out.mono ?_
 rintro e w4 ⟨v4, rfl, ho4, hm4, hf4⟩
 have HE := Lib.hid (And.intro ho4 (And.intro hm4 hf4))
 clear ho4 hm4 hf4
 go_wp2_with fail
 go_returns
 have hw4 := HW3.out.made HXX.out HE.out.2.1
 exact ⟨v4, rfl, o2, s2, HR2.out, ⟨_, _, _, _, hw4⟩, HE.out.1, fun k hk => ⟨fun h0 => absurd (HW3.out.lt _ h0) (Nat.not_lt.2 (HE.out.2.2 k hk)), Nat.le_trans HS3.out.t.size (HE.out.2.2 k hk)⟩, HS3.out.then_made HE.out.2.1⟩
set_option maxRecDepth 100000 in
set_option maxHeartbeats 1000000 in
theorem wstep_adv {CX : World → (Nat → Prop) → Prop} {w : World} {b : Wp} {o : Nat → Nat} {ps : List (List Ins)} {s : Wst} {n d : Int} {R : Wst → Prop} (hx : Ext CX) (h : WW CX w b o ps s) (hn : 0 ≤ n)
  (hr : ∀ (w1 : World) (o1 : Nat → Nat), WW CX w1 b o1 ps { s with ev := [] } → Calls Tryz.prog 25 #[.pointer (some ⟨b.pb, 0, none⟩), .int .i64 n] w1 fun e w' => e = .returned (.tuple #[]) ∧ ∃ o' s2, R s2 ∧ WW CX w' b o' ps s2 ∧ Stp w1 w' (Own o1) (Own o'))
  (hR : ∀ s2, R s2 → 0 ≤ s2.steps ∧ s2.steps < 1000000 ∧ s2.ev.length ≤ 1000000) :
  Calls Tryz.prog 9 #[.pointer (some ⟨b.pb, 0, none⟩), .agg #[.int .i64 2, .int .i64 n, .int .i64 0]] w fun e w' => ∃ v, e = .returned v ∧ ∃ o' s2, R s2 ∧ WW CX w' b o' ps { s2 with steps := s2.steps + 1 } ∧ Owns evC 45 6 w' v s2.ev ∧ (∀ k, v.ownBlock = some k → ¬ Own o' k ∧ w.heap.size ≤ k) ∧ Stp w w' (Own o) (Own o') := by
 have HXX := Lib.hid hx
 have HRR := Lib.hid (And.intro hr hR)
 have hm0 := (Turns.refl (fun _ => False) w).alloc (.cells #[.int .i64 2, .int .i64 n, .int .i64 0] 35)
 have HB0 := Lib.hid (Blk.new w 35 #[.int .i64 2, .int .i64 n, .int .i64 0])
 have HM0 := Lib.hid hm0
 obtain ⟨vp, vc, vl, ve, h0⟩ := h
 have HH := Lib.hid (h0.made hx hm0)
 have q10 := (h0.made hx hm0).blk.cell 10
 have f10 := (h0.made hx hm0).blk.free 10
 simp only [List.getElem?_toArray, List.getElem?_cons_zero, List.getElem?_cons_succ] at q10
 have HNE := Lib.hid (show ¬ Own o w.heap.size from fun e => absurd (h0.lt _ e) (Nat.lt_irrefl _))
 have HN := Lib.hid hn
 clear h0 hx hr hR hm0 hn
 go_enter Tryz.func9, Tryz.ntmps9
 go_upto_region 5 with fail
 obtain ⟨o1, h1, hs1⟩ := HH.out.clearEv HXX.out
 have HW1 := Lib.hid (show WW CX _ b o1 ps { s with ev := [] } from ⟨_, _, _, _, h1⟩)
 have HS1 := Lib.hid ((Stp.made (F := Own o) HM0.out).trans hs1)
 have HPL := Lib.hid (show b.pb ≠ w.heap.size from fun e => HNE.out (by show o w.heap.size ≠ 0; rw [← e, HH.out.ob]; omega))
 have HB1 := Lib.hid (HB0.out.turns (set1 _ b.pb 10 (.slice none 0 0)) (fun e => HPL.out e.symm))
 clear h1 hs1 q10 f10
 generalize (w.alloc (.cells #[.int .i64 2, .int .i64 n, .int .i64 0] 35)).setCell ⟨b.pb, 10, none⟩ (.slice none 0 0) = W1 at *
 have e0 := HB1.out.cell 0
 have e1 := HB1.out.cell 1
 have e2 := HB1.out.cell 2
 simp only [List.getElem?_toArray, List.getElem?_cons_zero, List.getElem?_cons_succ] at e0 e1 e2
 go_wp2_with fail
 refine (scheck_adv n _ HN.out).mono ?_
 rintro e w1 ⟨rfl, hm1⟩
 have HM1 := Lib.hid hm1
 have e0 := (HB1.out.turns hm1 (fun h => h)).cell 0
 have e1 := (HB1.out.turns hm1 (fun h => h)).cell 1
 have e2 := (HB1.out.turns hm1 (fun h => h)).cell 2
 simp only [List.getElem?_toArray, List.getElem?_cons_zero, List.getElem?_cons_succ] at e0 e1 e2
 clear hm1
 go_wp2_with fail
 refine (HRR.out.1 w1 o1 (HW1.out.made HXX.out HM1.out)).mono ?_
 rintro e w2 ⟨rfl, o2, s2, hr2, hw2, hs2⟩
 obtain ⟨hb0, hb1, hb2⟩ := HRR.out.2 s2 hr2
 have HR2 := Lib.hid hr2
 have HS2 := Lib.hid ((HS1.out.then_made HM1.out).trans hs2)
 have HL2 := Lib.hid hb2
 obtain ⟨vp2, vc2, vl2, ve2, hw2⟩ := hw2
 have HW2 := Lib.hid hw2
 have q9 := hw2.blk.cell 9
 have q10 := hw2.blk.cell 10
 have f9 := hw2.blk.free 9
 simp only [List.getElem?_toArray, List.getElem?_cons_zero, List.getElem?_cons_succ] at q9 q10
 have hwi := IntWalk.i64_in (s2.steps + 1) (by omega)
 clear hr2 hs2 hw2 hb2 e0 e1 e2
 go_upto_region 10 with fail
 obtain ⟨h3, hs3⟩ := HW2.out.incStep HXX.out (s2.steps + 1)
 have HW3 := Lib.hid h3
 have HS3 := Lib.hid (HS2.out.trans hs3)
 have q10 : (w2.setCell ⟨b.pb, 9, none⟩ (.int .i64 (s2.steps + 1))).cell? ⟨b.pb, 10, none⟩ = some ve2 := h3.blk.cell 10
 have HC := Lib.hid (clone_ev ve2 s2.ev _ h3.erow HL2.out)
 clear h3 hs3 q9 f9 hwi
 generalize w2.setCell ⟨b.pb, 9, none⟩ (.int .i64 (s2.steps + 1)) = W3 at *
 go_wp2_with fail
 refine HC.out.mono ?_
 rintro e w4 ⟨v4, rfl, ho4, hm4, hf4⟩
 have HE := Lib.hid (And.intro ho4 (And.intro hm4 hf4))
 clear ho4 hm4 hf4
 go_wp2_with fail
 go_returns
 have hw4 := HW3.out.made HXX.out HE.out.2.1
 exact ⟨v4, rfl, o2, s2, HR2.out, ⟨_, _, _, _, hw4⟩, HE.out.1, fun k hk => ⟨fun h0 => absurd (HW3.out.lt _ h0) (Nat.not_lt.2 (HE.out.2.2 k hk)), Nat.le_trans HS3.out.t.size (HE.out.2.2 k hk)⟩, HS3.out.then_made HE.out.2.1⟩
end Go.Proofs.YtjnkphhlkoapbaaGreat
namespace Go.Proofs.YtjnkphhlkoapbaaGreat
open Go.RowKit
set_option linter.unusedVariables false
set_option linter.unusedSimpArgs false
theorem chclose_c {w : World} {p : Nat} {F : Nat → Prop} {rm : Bool} {v : Option Int} {l : List Wt} (h : ChAt w p F ⟨false, false, false, rm, v, l⟩) (hnd : (l.map Wt.task).Nodup) (hn : l.length ≤ 900) :
  Calls Tryz.prog 167 #[.pointer (some ⟨p, 0, none⟩)] w fun e w' => ∃ a F' cap, e = .returned (.tuple #[.slice a l.length cap, .int .i64 0]) ∧ WkRow w w' F' a (l.map clW) ∧ ChAt w' p F' ⟨false, false, true, rm, v, []⟩ ∧ Stp w w' F F' := by
 have HMU := Lib.hid (chmute_c h)
 have HEN := Lib.hid (chend_c h hnd hn)
 have c5 : w.cell? ⟨p, 5, none⟩ = some (.bool false) := by obtain ⟨r, q1, q2, lb, h1, _⟩ := h; exact h1.blk.cell 5
 clear h hnd hn
 go_enter Tryz.func167, Tryz.ntmps167
 go_wp2_with fail
 refine HMU.out.mono ?_
 rintro e w1 ⟨rfl, rfl⟩
 go_wp2_with fail
 refine HEN.out.mono ?_
 rintro e w2 ⟨a, F', cap, rfl, h1, h2, h3⟩
 have HE := Lib.hid (And.intro h1 (And.intro h2 h3))
 clear h1 h2 h3 c5
 go_wp2_with fail
 go_returns
 exact ⟨a, F', cap, rfl, HE.out.1, HE.out.2.1, HE.out.2.2⟩
section
variable {CX : World → (Nat → Prop) → Prop} {w w' : World} {b : Wp} {o o' : Nat → Nat} {ps : List (List Ins)} {s : Wst} {vp vc vl ve : Value}
theorem WAt.incMade (hx : Ext CX) (h : WAt CX w b o ps s vp vc vl ve) (n : Int) : WAt CX (w.setCell ⟨b.pb, 4, none⟩ (.int .i64 n)) b o ps { s with made := n } vp vc vl ve ∧ Stp w (w.setCell ⟨b.pb, 4, none⟩ (.int .i64 n)) (Own o) (Own o) := by
 have ht : Turns (fun k => o k = 1) w (w.setCell ⟨b.pb, 4, none⟩ (.int .i64 n)) := (set1 w b.pb 4 _).mono (fun k _ e => by rw [e]; exact h.ob)
 obtain ⟨ds, hd1, hd2⟩ := h.dls
 obtain ⟨ls, hl1, hl2⟩ := h.lrow
 have hb3 := h.blk.put 4 (.int .i64 n)
 simp only [List.setIfInBounds_toArray, List.set_cons_zero, List.set_cons_succ] at hb3
 have hne : ∀ j, j ≠ 0 → j ≠ 1 → (fun k => o k = j) = fun k => o k = j := fun j _ _ => rfl
 exact ⟨{ lt := fun k hk => Nat.lt_of_lt_of_le (h.lt k hk) ht.size, cnd := h.cnd, blk := hb3, ob := h.ob, erow := h.erow.turns ht (fun k hk => by rw [(h.eo k).1 hk]; omega), eo := h.eo, clk := h.clk.turns ht (by rw [h.ok]; omega), ok := lab_is (hne 2 (by omega) (by omega)) h.ok, tab := by rw [hne 3 (by omega) (by omega)]; exact h.tab.turns ht (fun k hk => by rw [hk]; omega), tms := by rw [hne 4 (by omega) (by omega)]; exact h.tms.turns ht (fun k hk => by rw [hk]; omega), dls := ⟨ds, hd1, by rw [hne 5 (by omega) (by omega)]; exact hd2.turns ht (fun k hk => by rw [hk]; omega)⟩, ctx := by rw [hne 6 (by omega) (by omega)]; exact hx.turns _ w _ _ h.ctx ht (fun k hk => by rw [hk]; omega), prs := h.prs.turns ht (fun k hk => by rw [hk]; omega) (fun k hk => lab_is (hne 7 (by omega) (by omega)) hk), crow := h.crow.turns ht (fun k hk => by rw [(h.co k).1 hk]; omega), co := fun k => (h.co k).trans (iff_of_eq (congrFun (hne 8 (by omega) (by omega)) k)).symm, lrow := ⟨ls, hl1, hl2.turns ht (fun k hk => by rw [(h.lo k).1 hk]; omega)⟩, lo := fun k => (h.lo k).trans (iff_of_eq (congrFun (hne 9 (by omega) (by omega)) k)).symm, chn := fun p c hp => by rw [hne (16 + p) (by omega) (by omega)]; exact (h.chn p c hp).turns ht (fun k hk => by rw [hk]; omega) }, ⟨ht.mono (fun k _ e => by show o k ≠ 0; rw [e]; omega), fun k hk => .inl hk⟩⟩
end
set_option maxRecDepth 100000 in
theorem acdo_make {w : World} {g p : Nat} {x : Ac} {R : World → Prop} (hb : Blk w g 131 (acA p x)) (hop : x.i.op = 9) (H : Calls Tryz.prog 77 #[.pointer (some ⟨g, 0, none⟩)] w fun e w' => e = .returned (.tuple #[]) ∧ R w') :
  Calls Tryz.prog 50 #[.pointer (some ⟨g, 0, none⟩)] w fun e w' => e = .returned (.tuple #[]) ∧ R w' := by
 have q2 : w.cell? ⟨g, 2, none⟩ = some (.int .i64 x.i.op) := hb.cell 2
 rw [hop] at q2
 have HH := Lib.hid H
 clear H hb hop
 go_enter Tryz.func50, Tryz.ntmps50
 go_wp2_with fail
 refine HH.out.mono ?_
 rintro e w1 ⟨rfl, hr⟩
 have HR := Lib.hid hr
 clear hr q2
 go_wp2_with fail
 go_end0
 exact ⟨rfl, HR.out⟩
set_option maxRecDepth 100000 in
theorem acdo_close {w : World} {g p : Nat} {x : Ac} {R : World → Prop} (hb : Blk w g 131 (acA p x)) (hop : x.i.op = 12) (H : Calls Tryz.prog 78 #[.pointer (some ⟨g, 0, none⟩)] w fun e w' => e = .returned (.tuple #[]) ∧ R w') :
  Calls Tryz.prog 50 #[.pointer (some ⟨g, 0, none⟩)] w fun e w' => e = .returned (.tuple #[]) ∧ R w' := by
 have q2 : w.cell? ⟨g, 2, none⟩ = some (.int .i64 x.i.op) := hb.cell 2
 rw [hop] at q2
 have HH := Lib.hid H
 clear H hb hop
 go_enter Tryz.func50, Tryz.ntmps50
 go_wp2_with fail
 refine HH.out.mono ?_
 rintro e w1 ⟨rfl, hr⟩
 have HR := Lib.hid hr
 clear hr q2
 go_wp2_with fail
 go_end0
 exact ⟨rfl, HR.out⟩
set_option maxRecDepth 100000 in
set_option maxHeartbeats 2000000 in
theorem acchan_close {CX : World → (Nat → Prop) → Prop} {w : World} {b : Wp} {o : Nat → Nat} {ps : List (List Ins)} {s : Wst} {g a i p : Nat} {x : Ac} {c : Chn} {R : World → Prop} (hx : Ext CX) (h : WW CX w b o ps s) (hb : Blk w g 131 (acA b.pb x)) (hop : x.i.op = 12) (hxa : x.i.a = a) (ha : a < 8) (hi : x.was.get a = i) (hch : s.chs[i]? = some (p, c)) (hcl : s.chs.length ≤ 1000)
  (H : ∀ w1, Made w w1 → Calls Tryz.prog 126 #[.pointer (some ⟨g, 0, none⟩), .pointer (some ⟨p, 0, none⟩)] w1 fun e w' => e = .returned (.tuple #[]) ∧ R w') :
  Calls Tryz.prog 78 #[.pointer (some ⟨g, 0, none⟩)] w fun e w' => e = .returned (.tuple #[]) ∧ R w' := by
 have HB := Lib.hid hb
 have HXX := Lib.hid hx
 have HOP := Lib.hid hop
 have HI := Lib.hid hi
 have HBD := Lib.hid (hb.turns (Turns.refl (fun _ => False) w).drew (fun h => h))
 have HWD := Lib.hid (h.made hx (Turns.refl (fun _ => False) w).drew)
 have HA2 := Lib.hid (aca_c HBD.out hxa ha)
 rw [hi] at HA2
 have HH := Lib.hid H
 have HCH := Lib.hid (And.intro hch hcl)
 clear h hb hx hop hxa hi hch hcl H
 go_enter Tryz.func78, Tryz.ntmps78
 go_wp2_with fail
 refine wp_region_held_drew (S := fun w' => Low w' g b.pb x ∧ (w' = w.drew ∨ True)) (by kernel_rfl) ?_ (fun hHeld => ?_)
 ·exact ⟨low_of HBD.out, .inr trivial⟩
 refine takeH (i := 0) (d := some 5) (v := ?_) rfl rfl (by kernel_rfl) (by kernel_rfl) (by kernel_rfl) (fun _ _ _ h => h) (Or.inl ⟨by rfl, ?_⟩) (by assumption) ?_
 rotate_left
 ·intro w hSw
  try dsimp only at hSw
  go_simp
  try with_reducible rfl
 try simp only [Act.put, List.setIfInBounds_toArray, List.set_cons_zero, List.set_cons_succ]
 refine takeH (i := 1) (d := some 6) (v := ?_) rfl rfl (by kernel_rfl) (by kernel_rfl) (by kernel_rfl) (fun _ _ _ h => h) (Or.inl ⟨by rfl, ?_⟩) (by assumption) ?_
 rotate_left
 ·intro w hSw
  try dsimp only at hSw
  go_simp
  try with_reducible rfl
 try simp only [Act.put, List.setIfInBounds_toArray, List.set_cons_zero, List.set_cons_succ]
 refine takeH (i := 2) (d := some 7) (v := ?_) rfl rfl (by kernel_rfl) (by kernel_rfl) (by kernel_rfl) (fun _ _ _ h => h) (Or.inl ⟨by rfl, ?_⟩) (by assumption) ?_
 rotate_left
 ·intro w hSw
  try dsimp only at hSw
  go_simp
  try with_reducible rfl
 try simp only [Act.put, List.setIfInBounds_toArray, List.set_cons_zero, List.set_cons_succ]
 refine takeH (i := 3) (d := some 8) (v := ?_) rfl rfl (by kernel_rfl) (by kernel_rfl) (by kernel_rfl) (fun _ _ _ h => h) (Or.inl ⟨by rfl, ?_⟩) (by assumption) ?_
 rotate_left
 ·intro w hSw
  try dsimp only at hSw
  have q3 : w.cell? ⟨g, 0, none⟩ = some (.pointer (some ⟨b.pb, 0, none⟩)) := hSw.1 0 (by omega)
  go_simp
  try with_reducible rfl
 try simp only [Act.put, List.setIfInBounds_toArray, List.set_cons_zero, List.set_cons_succ]
 refine takeH (i := 4) (d := some 9) (v := ?_) rfl rfl (by kernel_rfl) (by kernel_rfl) (by kernel_rfl) (fun _ _ _ h => h) (Or.inl ⟨by rfl, ?_⟩) (by assumption) ?_
 rotate_left
 ·intro w hSw
  try dsimp only at hSw
  go_simp
  try with_reducible rfl
 try simp only [Act.put, List.setIfInBounds_toArray, List.set_cons_zero, List.set_cons_succ]
 refine wpAnyH_ready (rs := [5]) (by kernel_rfl) (by simp) ?_
 refine AllReadyH.cons rfl (fun K hK => ?_) AllReadyH.nil
 go_simp
 refine HA2.out.mono ?_
 rintro e wA ⟨rfl, hmA⟩
 have hbA := HBD.out.turns hmA (fun h => h)
 have HWC := Lib.hid (wchannel_c (HWD.out.made HXX.out hmA) HCH.out.1 HCH.out.2)
 refine hK.out _ _ ?_ (fun hHeld => ?_)
 ·exact ⟨low_of hbA, .inr trivial⟩
 clear hK K
 try simp only [Act.put, List.setIfInBounds_toArray, List.set_cons_zero, List.set_cons_succ]
 refine wpAnyH_ready (rs := [6]) (by kernel_rfl) (by simp) ?_
 refine AllReadyH.cons rfl (fun K hK => ?_) AllReadyH.nil
 go_simp
 refine HWC.out.mono ?_
 rintro e wN ⟨rfl, rfl⟩
 refine hK.out _ _ ?_ (fun hHeld => ?_)
 ·exact ⟨low_of hbA, .inr trivial⟩
 clear hK K
 try simp only [Act.put, List.setIfInBounds_toArray, List.set_cons_zero, List.set_cons_succ]
 refine takeH (i := 7) (d := some 4) (v := ?_) rfl rfl (by kernel_rfl) (by kernel_rfl) (by kernel_rfl) (fun _ _ _ h => h) (Or.inl ⟨by rfl, ?_⟩) (by assumption) ?_
 rotate_left
 ·intro w hSw
  try dsimp only at hSw
  go_simp
  try with_reducible rfl
 try simp only [Act.put, List.setIfInBounds_toArray, List.set_cons_zero, List.set_cons_succ]
 refine takeH (i := 8) (d := some 12) (v := ?_) rfl rfl (by kernel_rfl) (by kernel_rfl) (by kernel_rfl) (fun _ _ _ h => h) (Or.inl ⟨by rfl, ?_⟩) (by assumption) ?_
 rotate_left
 ·intro w hSw
  try dsimp only at hSw
  go_simp
  try with_reducible rfl
 try simp only [Act.put, List.setIfInBounds_toArray, List.set_cons_zero, List.set_cons_succ]
 refine takeH (i := 9) (d := some 13) (v := ?_) rfl rfl (by kernel_rfl) (by kernel_rfl) (by kernel_rfl) (fun _ _ _ h => h) (Or.inl ⟨by rfl, ?_⟩) (by assumption) ?_
 rotate_left
 ·intro w hSw
  try dsimp only at hSw
  go_simp
  try with_reducible rfl
 try simp only [Act.put, List.setIfInBounds_toArray, List.set_cons_zero, List.set_cons_succ]
 refine takeH (i := 10) (d := some 2) (v := ?_) rfl rfl (by kernel_rfl) (by kernel_rfl) (by kernel_rfl) (fun _ _ _ h => h) (Or.inl ⟨by rfl, ?_⟩) (by assumption) ?_
 rotate_left
 ·intro w hSw
  try dsimp only at hSw
  go_simp
  try with_reducible rfl
 try simp only [Act.put, List.setIfInBounds_toArray, List.set_cons_zero, List.set_cons_succ]
 refine takeH (i := 11) (d := some 3) (v := ?_) rfl rfl (by kernel_rfl) (by kernel_rfl) (by kernel_rfl) (fun _ _ _ h => h) (Or.inl ⟨by rfl, ?_⟩) (by assumption) ?_
 rotate_left
 ·intro w hSw
  try dsimp only at hSw
  go_simp
  try with_reducible rfl
 try simp only [Act.put, List.setIfInBounds_toArray, List.set_cons_zero, List.set_cons_succ]
 refine wpAnyH_done (by kernel_rfl) ?_ _
 have q2 : wA.cell? ⟨g, 2, none⟩ = some (.int .i64 x.i.op) := hbA.cell 2
 rw [HOP.out] at q2
 have HRC := Lib.hid (HH.out wA ((Turns.refl (fun _ => False) w).drew.trans hmA))
 clear hHeld hmA hbA
 go_wp2_with fail
 refine HRC.out.mono ?_
 rintro e w5 ⟨rfl, hr⟩
 have HR := Lib.hid hr
 clear hr q2
 go_wp2_with fail
 go_end0
 exact ⟨rfl, HR.out⟩
set_option maxRecDepth 100000 in
set_option maxHeartbeats 2000000 in
theorem acclose_c {CX : World → (Nat → Prop) → Prop} {w : World} {b : Wp} {o : Nat → Nat} {ps : List (List Ins)} {s : Wst} {g i p : Nat} {x : Ac} {rm : Bool} {v : Option Int} {l : List Wt} (hx : Ext CX) (h : WW CX w b o ps s) (hb : Blk w g 131 (acA b.pb x)) (hg : ¬ Own o g) (hch : s.chs[i]? = some (p, ⟨false, false, false, rm, v, l⟩)) (hnd : (l.map Wt.task).Nodup) (hn : l.length ≤ 900) (hok : WakesOK { s with chs := s.chs.set i (p, ⟨false, false, true, rm, v, []⟩) } (l.map clW)) :
  Calls Tryz.prog 126 #[.pointer (some ⟨g, 0, none⟩), .pointer (some ⟨p, 0, none⟩)] w fun e w' => e = .returned (.tuple #[]) ∧ ∃ o', WW CX w' b o' ps (wakesS { s with chs := s.chs.set i (p, ⟨false, false, true, rm, v, []⟩) } (l.map clW)) ∧ AStp w w' o o' g ∧ Blk w' g 131 (acA b.pb x) := by
 have HXX := Lib.hid hx
 have HB := Lib.hid hb
 have HG := Lib.hid hg
 have HK := Lib.hid (And.intro hch (And.intro hn hok))
 obtain ⟨vp, vc, vl, ve, h⟩ := h
 have HW := Lib.hid h
 have HCL := Lib.hid (chclose_c (h.chn p _ (List.mem_of_getElem? hch)) hnd hn)
 clear h hx hb hg hch hnd hn hok
 go_enter Tryz.func126, Tryz.ntmps126
 go_wp2_with fail
 refine HCL.out.mono ?_
 rintro e w1 ⟨a, F', cap, rfl, hwk, hca, hs1⟩
 obtain ⟨o1, h1, _, _, hst1, hown⟩ := HW.out.stepTC HXX.out (FT := fun k => o k = 4) HK.out.1 (HW.out.tms.turns hs1.t (fun k hk e => by have h5 : o k = 16 + p := e; have h6 : o k = 4 := hk; omega)) hca (hs1.t.mono (fun k _ e => .inr e)) (fun k hk => .inl hk) (fun k hk => hs1.f k hk) (fun k hk h4 => (hs1.f k hk).elim (fun h5 => by have h5 : o k = 16 + p := h5; have h6 : o k = 4 := h4; omega) (fun h5 => absurd (HW.out.lt k (by have h6 : o k = 4 := h4; omega)) (Nat.not_lt.2 h5)))
 have hw1 : WW CX w1 b o1 ps { s with chs := s.chs.set i (p, ⟨false, false, true, rm, v, []⟩) } := ⟨_, _, _, _, h1⟩
 have HWA := Lib.hid (wwake_c (cap := cap) (l := l.map clW) HXX.out hw1 hwk.1 (fun b' off e h0 => by
  obtain ⟨m1, m2⟩ := hwk.2 b' off e
  rcases hown b' h0 with h4 | h4 | h4
  ·exact absurd (HW.out.lt b' (by have h6 : o b' = 4 := h4; omega)) (Nat.not_lt.2 m1)
  ·exact m2 h4
  ·exact absurd (HW.out.lt b' h4) (Nat.not_lt.2 m1)) (by rw [List.length_map]; have := HK.out.2.1; omega) HK.out.2.2)
 rw [List.length_map] at HWA
 have hb1 := HB.out.turns hst1.t HG.out
 have HB1 := Lib.hid hb1
 have HS1 := Lib.hid hst1
 have HG1 := Lib.hid (show ¬ Own o1 g from fun h0 => (hst1.f g h0).elim HG.out (fun h5 => absurd HB.out.lt (Nat.not_lt.2 h5)))
 have q0 : w1.cell? ⟨g, 0, none⟩ = some (.pointer (some ⟨b.pb, 0, none⟩)) := hb1.cell 0
 clear hwk hca hs1 h1 hst1 hown hw1 hb1
 go_wp2_with fail
 refine HWA.out.mono ?_
 rintro e w2 ⟨rfl, o2, hw2, hs2⟩
 have HE := Lib.hid (And.intro hw2 hs2)
 clear hw2 hs2 q0
 go_wp2_with fail
 go_end0
 exact ⟨rfl, o2, HE.out.1, (AStp.of g HS1.out).then HE.out.2, HB1.out.turns HE.out.2.t HG1.out⟩
set_option maxRecDepth 100000 in
set_option maxHeartbeats 4000000 in
theorem accreate_c {CX : World → (Nat → Prop) → Prop} {w : World} {b : Wp} {o : Nat → Nat} {ps : List (List Ins)} {s : Wst} {g a : Nat} {x : Ac} (hx : Ext CX) (h : WW CX w b o ps s) (hb : Blk w g 131 (acA b.pb x)) (hg : ¬ Own o g) (hxa : x.i.a = a) (hxb : x.i.b = 0) (ha : a < 8) (hmd : 0 ≤ s.made ∧ s.made < 64) (hcl : s.chs.length ≤ 1000) :
  Calls Tryz.prog 77 #[.pointer (some ⟨g, 0, none⟩)] w fun e w' => e = .returned (.tuple #[]) ∧ ∃ o' cp, WW CX w' b o' ps { s with made := s.made + 1, chs := s.chs ++ [(cp, ⟨false, false, false, false, none, []⟩)] } ∧ AStp w w' o o' g ∧ Blk w' g 131 (acA b.pb { x with regs := x.regs.set a s.chs.length }) := by
 have HXX := Lib.hid hx
 have HB := Lib.hid hb
 have HG := Lib.hid hg
 have HGL := Lib.hid hb.lt
 have HX := Lib.hid hxa
 have HLT2 := Lib.hid ha
 have HK := Lib.hid (And.intro hmd hcl)
 have ja1 : (0 : Int) ≤ (a : Int) := by omega
 have ja2 : (a : Int) < 8 := by omega
 obtain ⟨vp, vc, vl, ve, h⟩ := h
 have HW := Lib.hid h
 have q4 : w.cell? ⟨g, 4, none⟩ = some (.int .i64 x.i.b) := hb.cell 4
 rw [hxb] at q4
 clear h hx hb hg hxa hxb
 go_enter Tryz.func77, Tryz.ntmps77
 go_wp2_with fail
 refine (chnew0_c w).mono ?_
 rintro e w1 ⟨cp, r, q1, q2, lb, Fc, rfl, hci, hla, hm1, hfc⟩
 obtain ⟨o1, h1, e1, hs1, hnp⟩ := HW.out.newCh HXX.out hm1 ⟨r, q1, q2, lb, hci, hla⟩ hfc
 have HC1 := Lib.hid (show ChAt w1 cp (fun k => o1 k = 16 + cp) ⟨false, false, false, false, none, []⟩ from by rw [e1]; exact ⟨r, q1, q2, lb, hci, hla⟩)
 have HW1 := Lib.hid (And.intro h1 hnp)
 have HS1 := Lib.hid hs1
 have hb1 := HB.out.turns hm1 (fun h => h)
 have HB1 := Lib.hid hb1
 have HG1 := Lib.hid (show ¬ Own o1 g from fun h0 => (hs1.f g h0).elim HG.out (fun h5 => absurd HGL.out (Nat.not_lt.2 h5)))
 have q0 : w1.cell? ⟨g, 0, none⟩ = some (.pointer (some ⟨b.pb, 0, none⟩)) := hb1.cell 0
 have r4 : w1.cell? ⟨b.pb, 4, none⟩ = some (.int .i64 s.made) := h1.blk.cell 4
 have f4 := h1.blk.free 4
 have hmd1 : s.made < 64 := HK.out.1.2
 have hwi := IntWalk.i64_in (s.made + 1) (by have := HK.out.1; omega)
 clear hci hla hm1 hfc h1 e1 hs1 hnp hb1 q4
 go_upto_region 2 with fail
 obtain ⟨h2, hs2⟩ := HW1.out.1.incMade HXX.out (s.made + 1)
 have HW2 := Lib.hid h2
 have HS2 := Lib.hid (HS1.out.trans hs2)
 have HB2 := Lib.hid (HB1.out.turns hs2.t HG1.out)
 have HC2 := Lib.hid (HC1.out.turns (set1 w1 b.pb 4 (.int .i64 (s.made + 1))) (fun k hk e => by have h5 : o1 k = 16 + cp := hk; have h6 := HW1.out.1.ob; rw [← e] at h6; omega))
 clear h2 hs2 q0 r4 f4 hwi hmd1
 generalize w1.setCell ⟨b.pb, 4, none⟩ (.int .i64 (s.made + 1)) = W3 at *
 have HOP2 := Lib.hid (wopen_c HXX.out (show WW CX W3.drew b o1 ps _ from ⟨_, _, _, _, HW2.out.made HXX.out (Turns.refl (fun _ => False) W3).drew⟩) (HC2.out.made (Turns.refl (fun _ => False) W3).drew) HW1.out.2 HK.out.2)
 refine wp_region_held_drew (S := fun w' => Low w' g b.pb x ∧ (w' = W3.drew ∨ True)) (by kernel_rfl) ?_ (fun hHeld => ?_)
 ·exact ⟨low_of HB2.out, .inr trivial⟩
 refine takeH (i := 0) (d := some 23) (v := ?_) rfl rfl (by kernel_rfl) (by kernel_rfl) (by kernel_rfl) (fun _ _ _ h => h) (Or.inl ⟨by rfl, ?_⟩) (by assumption) ?_
 rotate_left
 ·intro w hSw
  try dsimp only at hSw
  go_simp
  try with_reducible rfl
 try simp only [Act.put, List.setIfInBounds_toArray, List.set_cons_zero, List.set_cons_succ]
 refine takeH (i := 1) (d := some 24) (v := ?_) rfl rfl (by kernel_rfl) (by kernel_rfl) (by kernel_rfl) (fun _ _ _ h => h) (Or.inl ⟨by rfl, ?_⟩) (by assumption) ?_
 rotate_left
 ·intro w hSw
  try dsimp only at hSw
  go_simp
  try with_reducible rfl
 try simp only [Act.put, List.setIfInBounds_toArray, List.set_cons_zero, List.set_cons_succ]
 refine takeH (i := 2) (d := some 25) (v := ?_) rfl rfl (by kernel_rfl) (by kernel_rfl) (by kernel_rfl) (fun _ _ _ h => h) (Or.inl ⟨by rfl, ?_⟩) (by assumption) ?_
 rotate_left
 ·intro w hSw
  try dsimp only at hSw
  go_simp
  try with_reducible rfl
 try simp only [Act.put, List.setIfInBounds_toArray, List.set_cons_zero, List.set_cons_succ]
 refine takeH (i := 3) (d := some 26) (v := ?_) rfl rfl (by kernel_rfl) (by kernel_rfl) (by kernel_rfl) (fun _ _ _ h => h) (Or.inl ⟨by rfl, ?_⟩) (by assumption) ?_
 rotate_left
 ·intro w hSw
  try dsimp only at hSw
  go_simp
  try with_reducible rfl
 try simp only [Act.put, List.setIfInBounds_toArray, List.set_cons_zero, List.set_cons_succ]
 refine takeH (i := 4) (d := some 27) (v := ?_) rfl rfl (by kernel_rfl) (by kernel_rfl) (by kernel_rfl) (fun _ _ _ h => h) (Or.inl ⟨by rfl, ?_⟩) (by assumption) ?_
 rotate_left
 ·intro w hSw
  try dsimp only at hSw
  go_simp
  try with_reducible rfl
 try simp only [Act.put, List.setIfInBounds_toArray, List.set_cons_zero, List.set_cons_succ]
 refine takeH (i := 5) (d := some 28) (v := ?_) rfl rfl (by kernel_rfl) (by kernel_rfl) (by kernel_rfl) (fun _ _ _ h => h) (Or.inl ⟨by rfl, ?_⟩) (by assumption) ?_
 rotate_left
 ·intro w hSw
  try dsimp only at hSw
  have q3 : w.cell? ⟨g, 3, none⟩ = some (.int .i64 x.i.a) := hSw.1 3 (by omega)
  rw [HX.out] at q3
  go_simp
  try with_reducible rfl
 try simp only [Act.put, List.setIfInBounds_toArray, List.set_cons_zero, List.set_cons_succ]
 refine takeH (i := 6) (d := some 29) (v := ?_) rfl rfl (by kernel_rfl) (by kernel_rfl) (by kernel_rfl) (fun _ _ _ h => h) (Or.inl ⟨by rfl, ?_⟩) (by assumption) ?_
 rotate_left
 ·intro w hSw
  try dsimp only at hSw
  go_simp
  try with_reducible rfl
 try simp only [Act.put, List.setIfInBounds_toArray, List.set_cons_zero, List.set_cons_succ]
 refine takeH (i := 7) (d := some 30) (v := ?_) rfl rfl (by kernel_rfl) (by kernel_rfl) (by kernel_rfl) (fun _ _ _ h => h) (Or.inl ⟨by rfl, ?_⟩) (by assumption) ?_
 rotate_left
 ·intro w hSw
  try dsimp only at hSw
  go_simp
  try with_reducible rfl
 try simp only [Act.put, List.setIfInBounds_toArray, List.set_cons_zero, List.set_cons_succ]
 refine takeH (i := 8) (d := some 31) (v := ?_) rfl rfl (by kernel_rfl) (by kernel_rfl) (by kernel_rfl) (fun _ _ _ h => h) (Or.inl ⟨by rfl, ?_⟩) (by assumption) ?_
 rotate_left
 ·intro w hSw
  try dsimp only at hSw
  go_simp
  try with_reducible rfl
 try simp only [Act.put, List.setIfInBounds_toArray, List.set_cons_zero, List.set_cons_succ]
 refine takeH (i := 9) (d := some 32) (v := ?_) rfl rfl (by kernel_rfl) (by kernel_rfl) (by kernel_rfl) (fun _ _ _ h => h) (Or.inl ⟨by rfl, ?_⟩) (by assumption) ?_
 rotate_left
 ·intro w hSw
  try dsimp only at hSw
  have q3 : w.cell? ⟨g, 0, none⟩ = some (.pointer (some ⟨b.pb, 0, none⟩)) := hSw.1 0 (by omega)
  go_simp
  try with_reducible rfl
 try simp only [Act.put, List.setIfInBounds_toArray, List.set_cons_zero, List.set_cons_succ]
 refine takeH (i := 10) (d := some 33) (v := ?_) rfl rfl (by kernel_rfl) (by kernel_rfl) (by kernel_rfl) (fun _ _ _ h => h) (Or.inl ⟨by rfl, ?_⟩) (by assumption) ?_
 rotate_left
 ·intro w hSw
  try dsimp only at hSw
  go_simp
  try with_reducible rfl
 try simp only [Act.put, List.setIfInBounds_toArray, List.set_cons_zero, List.set_cons_succ]
 refine takeH (i := 12) (d := some 35) (v := ?_) rfl rfl (by kernel_rfl) (by kernel_rfl) (by kernel_rfl) (fun _ _ _ h => h) (Or.inl ⟨by rfl, ?_⟩) (by assumption) ?_
 rotate_left
 ·intro w hSw
  try dsimp only at hSw
  go_simp
  try with_reducible rfl
 try simp only [Act.put, List.setIfInBounds_toArray, List.set_cons_zero, List.set_cons_succ]
 refine takeH (i := 13) (d := some 36) (v := ?_) rfl rfl (by kernel_rfl) (by kernel_rfl) (by kernel_rfl) (fun _ _ _ h => h) (Or.inl ⟨by rfl, ?_⟩) (by assumption) ?_
 rotate_left
 ·intro w hSw
  try dsimp only at hSw
  go_simp
  try with_reducible rfl
 try simp only [Act.put, List.setIfInBounds_toArray, List.set_cons_zero, List.set_cons_succ]
 refine wpAnyH_ready (rs := [11]) (by kernel_rfl) (by simp) ?_
 refine AllReadyH.cons rfl (fun K hK => ?_) AllReadyH.nil
 go_simp
 refine HOP2.out.mono ?_
 rintro e w4 ⟨rfl, o4, h4, hs4⟩
 have hb4 : Blk w4 g 131 (acA b.pb x) := (HB2.out.turns (Turns.refl (fun _ => False) W3).drew (fun h => h)).turns hs4.t HG1.out
 refine hK.out _ _ ?_ (fun hHeld => ?_)
 ·exact ⟨low_of hb4, .inr trivial⟩
 clear hK K
 try simp only [Act.put, List.setIfInBounds_toArray, List.set_cons_zero, List.set_cons_succ]
 refine takeH (i := 14) (d := some 37) (v := ?_) rfl rfl (by kernel_rfl) (by kernel_rfl) (by kernel_rfl) (fun _ _ _ h => h) (Or.inl ⟨by rfl, ?_⟩) (by assumption) ?_
 rotate_left
 ·intro w hSw
  try dsimp only at hSw
  go_simp
  try with_reducible rfl
 try simp only [Act.put, List.setIfInBounds_toArray, List.set_cons_zero, List.set_cons_succ]
 refine wpAnyH_ready (rs := [15]) (by kernel_rfl) (by simp) ?_
 refine AllReadyH.cons rfl (fun K hK => ?_) AllReadyH.nil
 have qz0 := hb4.cell (16 + a)
 rw [ac_reg _ _ HLT2.out] at qz0
 have qf := hb4.free (16 + a)
 have H4 := Lib.hid (And.intro h4 hs4)
 have HB4 := Lib.hid hb4
 clear h4 hs4 hb4
 go_simp
 refine hK.out _ _ ?_ (fun hHeld => ?_)
 ·exact ⟨low_regs (r := x.regs.set a (s.chs.length : Int)) (low_of (by have hb5 := HB4.out.put (16 + a) (.int .i64 (s.chs.length : Int)); rw [ac_set _ _ _ HLT2.out] at hb5; exact hb5)), .inr trivial⟩
 clear hK K
 try simp only [Act.put, List.setIfInBounds_toArray, List.set_cons_zero, List.set_cons_succ]
 refine wpAnyH_done (by kernel_rfl) ?_ _
 have hb5 := HB4.out.put (16 + a) (.int .i64 (s.chs.length : Int))
 rw [ac_set _ _ _ HLT2.out] at hb5
 have HB5 := Lib.hid hb5
 have HT5 := Lib.hid ((Turns.refl (fun k => k = g) w4).setCell (p := ⟨g, 16 + a, none⟩) (fun _ => rfl) (.int .i64 (s.chs.length : Int)))
 clear hb5 hHeld qz0 qf
 generalize w4.setCell ⟨g, 16 + a, none⟩ (.int .i64 (s.chs.length : Int)) = W5 at *
 go_wp2_with fail
 go_end0
 have HA := ((AStp.of g HS2.out).then (Stp.made (F := Own o1) (Turns.refl (fun _ => False) W3).drew)).then H4.out.2
 exact ⟨rfl, o4, ⟨cp, H4.out.1.turns HXX.out HT5.out (fun k hk e => HA.no HG.out HGL.out (by rw [← show k = g from e]; exact hk))⟩, HA.set HT5.out, HB5.out⟩
end Go.Proofs.YtjnkphhlkoapbaaGreat
namespace Go.Proofs.YtjnkphhlkoapbaaGreat
open Go.RowKit
set_option linter.unusedVariables false
set_option linter.unusedSimpArgs false
def Lim (s : Wst) : Prop := s.ev.length < 900 ∧ s.rd.length ≤ 900 ∧ s.ts.length < 64 ∧ s.chs.length ≤ 900 ∧ s.tms.length ≤ 900 ∧ 0 ≤ s.sq ∧ s.sq < 100000 ∧ s.nd < 100000 ∧ s.nl < 100000 ∧ 0 ≤ s.steps ∧ s.steps < 100000 ∧ 0 ≤ s.now ∧ s.now ≤ 1000000 ∧ 0 ≤ s.named ∧ s.named < 64
instance (s : Wst) : Decidable (Lim s) := by unfold Lim; infer_instance
def RegOK (a : Int) : Prop := 0 ≤ a ∧ a < 8
instance (a : Int) : Decidable (RegOK a) := by unfold RegOK; infer_instance
def locF (p : List Ins) (pc : Nat) (r : Reg) (now : Int) : Option LOut :=
 if pc = p.length then some ⟨pc, r, false, 0, true⟩ else
 match p[pc]? with
 | none => none
 | some x =>
  if x.op = 1 ∧ RegOK x.a then some ⟨pc + 1, r.set x.a.toNat x.b, false, 0, false⟩
  else if x.op = 2 ∧ RegOK x.a ∧ RegOK x.b then some ⟨pc + 1, r.set x.a.toNat (r.get x.b.toNat), false, 0, false⟩
  else if x.op = 6 ∧ RegOK x.a ∧ x.b = 0 then some ⟨pc + 1, r, true, r.get x.a.toNat, false⟩
  else if x.op = 16 ∧ RegOK x.a then some ⟨pc + 1, r.set x.a.toNat now, false, 0, false⟩
  else none
def aloneS (s : Wst) (i : Nat) (x : Tsk) (o : LOut) : Wst :=
 if o.told then { s with ts := s.ts.set i ⟨x.prog, o.pc, x.st, x.how, o.regs, x.ins⟩, ev := s.ev ++ [⟨s.steps, 1, i, o.value, 0, 0⟩] }
 else if o.ended then { s with ts := s.ts.set i ⟨x.prog, o.pc, 2, 0, o.regs, ⟨0, 0, 0, 0⟩⟩, rd := offS s i, ev := s.ev ++ [⟨s.steps, 4, i, 0, 0, 0⟩] }
 else { s with ts := s.ts.set i ⟨x.prog, o.pc, x.st, x.how, o.regs, x.ins⟩ }
def wakeB (s : Wst) (x : Wk) : Prop := 0 ≤ x.task ∧ x.panic = false ∧ x.task ∉ s.rd ∧
 match s.ts[x.task.toNat]? with
 | none => False
 | some t => t.st = 1 ∧ t.ins.op = 11 ∧ RegOK t.ins.a ∧ RegOK t.ins.b ∧ RegOK t.ins.c ∧ 0 ≤ t.regs.get t.ins.a.toNat ∧ 0 ≤ t.pc ∧ t.pc ≤ 1000
instance (s : Wst) (x : Wk) : Decidable (wakeB s x) := by
 unfold wakeB
 cases s.ts[x.task.toNat]? <;> infer_instance
def WakesB : Wst → List Wk → Prop
 | _, [] => True
 | s, x :: l => wakeB s x ∧ WakesB (wakeS s x) l
def WakesB.dec : ∀ (l : List Wk) (s : Wst), Decidable (WakesB s l)
 | [], _ => isTrue trivial
 | x :: l, s => @instDecidableAnd _ _ (inferInstance : Decidable (wakeB s x)) (WakesB.dec l (wakeS s x))
instance (s : Wst) (l : List Wk) : Decidable (WakesB s l) := WakesB.dec l s
def actGo (s : Wst) (i : Nat) (x : Ins) (r : Reg) : Option (Wst × Option Reg) :=
 if RegOK x.a ∧ 0 ≤ x.b ∧ x.b < 16 ∧ (s.ts.length : Int) ∉ s.rd then some (startS s x.b r, some (r.set x.a.toNat s.ts.length)) else none
def actRecv (s : Wst) (i : Nat) (x : Ins) (r : Reg) : Option (Wst × Option Reg) :=
 if RegOK x.a ∧ RegOK x.b ∧ RegOK x.c ∧ 0 ≤ r.get x.a.toNat then
  match s.chs[(r.get x.a.toNat).toNat]? with
  | none => none
  | some q => if q.2.closed = false ∧ q.2.val = none ∧ q.2.recvs.length ≤ 900 then some ({ s with chs := s.chs.set (r.get x.a.toNat).toNat (q.1, ⟨q.2.timed, q.2.signal, false, q.2.room, none, q.2.recvs ++ [⟨i, 0, 0⟩]⟩) }, none) else none
 else none
def actMake (s : Wst) (i : Nat) (x : Ins) (r : Reg) : Option (Wst × Option Reg) :=
 if RegOK x.a ∧ x.b = 0 ∧ 0 ≤ s.made ∧ s.made < 64 then some ({ s with made := s.made + 1, chs := s.chs ++ [(s.chs.length, ⟨false, false, false, false, none, []⟩)] }, some (r.set x.a.toNat s.chs.length)) else none
def actClose (s : Wst) (i : Nat) (x : Ins) (r : Reg) : Option (Wst × Option Reg) :=
 if RegOK x.a ∧ 0 ≤ r.get x.a.toNat then
  match s.chs[(r.get x.a.toNat).toNat]? with
  | none => none
  | some q => if q.2.timed = false ∧ q.2.signal = false ∧ q.2.closed = false ∧ (q.2.recvs.map Wt.task).Nodup ∧ q.2.recvs.length ≤ 50 ∧ WakesB { s with chs := s.chs.set (r.get x.a.toNat).toNat (q.1, ⟨false, false, true, q.2.room, q.2.val, []⟩) } (q.2.recvs.map clW) then some (wakesS { s with chs := s.chs.set (r.get x.a.toNat).toNat (q.1, ⟨false, false, true, q.2.room, q.2.val, []⟩) } (q.2.recvs.map clW), some r) else none
 else none
def actTimer (s : Wst) (i : Nat) (x : Ins) (r : Reg) : Option (Wst × Option Reg) :=
 if RegOK x.a ∧ RegOK x.b ∧ RegOK x.c ∧ 0 ≤ r.get x.b.toNat ∧ r.get x.b.toNat ≤ 1000000 then some (timerS s (r.get x.b.toNat) s.chs.length, some ((r.set x.a.toNat s.tms.length).set x.c.toNat s.chs.length)) else none
def actStop (s : Wst) (i : Nat) (x : Ins) (r : Reg) : Option (Wst × Option Reg) :=
 if RegOK x.a ∧ RegOK x.b ∧ 0 ≤ r.get x.a.toNat then
  match s.tms[(r.get x.a.toNat).toNat]? with
  | none => none
  | some t => match t.c with
   | none => none
   | some ci => match s.chs[ci]? with
    | none => none
    | some q => if t.kind = 1 ∧ q.2.timed = true then
      match q.2.val with
      | none => some ({ s with L := delL (r.get x.a.toNat) s.L }, some (r.set x.b.toNat (bitZ (findL (r.get x.a.toNat) s.L).isSome)))
      | some _ => some ({ s with L := delL (r.get x.a.toNat) s.L, chs := s.chs.set ci (q.1, ⟨true, q.2.signal, q.2.closed, q.2.room, none, q.2.recvs⟩) }, some (r.set x.b.toNat 1))
     else none
 else none
def actReset (s : Wst) (i : Nat) (x : Ins) (r : Reg) : Option (Wst × Option Reg) :=
 if RegOK x.a ∧ RegOK x.b ∧ RegOK x.c ∧ 0 ≤ r.get x.a.toNat ∧ 0 ≤ r.get x.b.toNat ∧ r.get x.b.toNat ≤ 1000000 then
  match s.tms[(r.get x.a.toNat).toNat]? with
  | none => none
  | some t => match t.c with
   | none => none
   | some ci => match s.chs[ci]? with
    | none => none
    | some q => if t.kind = 1 ∧ q.2.timed = true ∧ q.2.val = none then some ({ s with L := insL ⟨r.get x.a.toNat, s.now + r.get x.b.toNat, s.sq + 1⟩ (delL (r.get x.a.toNat) (delL (r.get x.a.toNat) s.L)), sq := s.sq + 1 }, some (r.set x.c.toNat (bitZ (findL (r.get x.a.toNat) s.L).isSome))) else none
 else none
def actF (s : Wst) (i : Nat) (x : Ins) (r : Reg) : Option (Wst × Option Reg) :=
 if x.op = 8 then actGo s i x r
 else if x.op = 11 then actRecv s i x r
 else if x.op = 9 then actMake s i x r
 else if x.op = 12 then actClose s i x r
 else if x.op = 17 then actTimer s i x r
 else if x.op = 20 then actStop s i x r
 else if x.op = 21 then actReset s i x r
 else none
def runF (ps : List (List Ins)) (s : Wst) (n : Int) : Option Wst :=
 if s.rd = [] then some { s with nl := s.nl + 1 } else
 match s.rd[(pickZ n s.rd.length).toNat]? with
 | none => none
 | some id =>
 match s.ts[id.toNat]? with
 | none => none
 | some x =>
 match ps[x.prog.toNat]? with
 | none => none
 | some p =>
 if 0 ≤ id ∧ x.st = 0 ∧ 0 ≤ x.prog ∧ 0 ≤ x.pc ∧ s.nl < 99999 then
  match locF p x.pc.toNat x.regs s.now with
  | some o => some (aloneS { s with nl := s.nl + 1 } id.toNat x o)
  | none =>
  match p[x.pc.toNat]? with
  | none => none
  | some ins =>
  if mineB ins.op = false then
   match actF { s with nl := s.nl + 1 } id.toNat ins x.regs with
   | none => none
   | some (s2, none) => some (parkS s2 id.toNat x ins)
   | some (s2, some r2) => some (putS s2 id.toNat x r2)
  else none
 else none
def fireF (s : Wst) : Option Wst :=
 match s.L with
 | [] => none
 | it :: ll =>
 match s.tms[it.id.toNat]? with
 | none => none
 | some t =>
 match t.c with
 | none => none
 | some ci =>
 match s.chs[ci]? with
 | none => none
 | some q =>
 if 0 ≤ it.id ∧ t.kind = 1 ∧ q.2.timed = true ∧ q.2.room = true ∧ q.2.recvs.length ≤ 900 then
  match q.2.recvs with
  | [] => if q.2.val = none then some (fireB { s with L := ll, chs := s.chs.set ci (q.1, ⟨true, q.2.signal, q.2.closed, true, some s.now, []⟩) } it.id.toNat it.when) else none
  | x :: lw => if wakeB s ⟨x.task, x.kase, s.now, true, false⟩ then some (wakeS (fireB { s with L := ll, chs := s.chs.set ci (q.1, ⟨true, q.2.signal, q.2.closed, true, q.2.val, lw⟩) } it.id.toNat it.when) ⟨x.task, x.kase, s.now, true, false⟩) else none
 else none
def firesF : Nat → Wst → Option Wst
 | 0, _ => none
 | k + 1, s => match s.L with
  | [] => some s
  | it :: _ => if it.when ≤ s.now then (if Lim s then match fireF s with
    | none => none
    | some s2 => firesF k s2 else none) else some s
inductive Ent
 | run (n : Int)
 | adv (d : Int)
def doneF (s : Wst) : Option Wst := if 0 ≤ s.steps ∧ s.steps < 100000 ∧ s.ev.length < 900 then some { s with steps := s.steps + 1 } else none
def stepF (ps : List (List Ins)) (s : Wst) (e : Ent) : Option Wst :=
 if Lim s then
  match e with
  | .run n => match runF ps { s with ev := [] } n with
   | none => none
   | some s2 => doneF s2
  | .adv d => if 0 ≤ d ∧ s.now + d ≤ 1000000 then
    match firesF 100 { s with ev := [], now := s.now + d } with
    | none => none
    | some s2 => doneF s2
   else none
 else none
def Ex (ps : List (List Ins)) : Wst → List Ent → List Ev → Wst → Prop
 | s, [], evs, s' => evs = [] ∧ s' = s
 | s, e :: l, evs, s' => ∃ s1 evs1, stepF ps s e = some s1 ∧ Ex ps s1 l evs1 s' ∧ evs = s1.ev ++ evs1
theorem Ex.append {ps : List (List Ins)} : ∀ {l1 : List Ent} {s s1 s2 : Wst} {l2 : List Ent} {e1 e2 : List Ev}, Ex ps s l1 e1 s1 → Ex ps s1 l2 e2 s2 → Ex ps s (l1 ++ l2) (e1 ++ e2) s2
 | [], s, s1, s2, l2, e1, e2, h, k => by
  obtain ⟨rfl, rfl⟩ := h
  simpa using k
 | e :: l1, s, s1, s2, l2, e1, e2, h, k => by
  obtain ⟨s3, e3, h1, h2, rfl⟩ := h
  exact ⟨s3, e3 ++ e2, h1, Ex.append h2 k, by simp⟩
theorem Ex.split {ps : List (List Ins)} : ∀ {l1 : List Ent} {s s2 : Wst} {l2 : List Ent} {evs : List Ev}, Ex ps s (l1 ++ l2) evs s2 → ∃ e1 e2 s1, Ex ps s l1 e1 s1 ∧ Ex ps s1 l2 e2 s2 ∧ evs = e1 ++ e2
 | [], s, s2, l2, evs, h => ⟨[], evs, s, ⟨rfl, rfl⟩, h, rfl⟩
 | e :: l1, s, s2, l2, evs, h => by
  obtain ⟨s3, e3, h1, h2, rfl⟩ := h
  obtain ⟨e1, e2, s1, h3, h4, rfl⟩ := Ex.split (l1 := l1) h2
  exact ⟨s3.ev ++ e1, e2, s1, ⟨s3, e1, h1, h3, rfl⟩, h4, by simp⟩
end Go.Proofs.YtjnkphhlkoapbaaGreat
namespace Go.Proofs.YtjnkphhlkoapbaaGreat
open Go.RowKit
set_option linter.unusedVariables false
set_option linter.unusedSimpArgs false
theorem heldZ_small {a : Int} (h0 : 0 ≤ a) (h1 : a ≤ 4000000) : heldZ a = a := by
 unfold heldZ
 repeat' split
 all_goals omega
theorem addZ_small {a b : Int} (h0 : 0 ≤ a) (h1 : a ≤ 2000000) (h2 : 0 ≤ b) (h3 : b ≤ 2000000) : addZ a b = a + b := by
 unfold addZ
 rw [heldZ_small h0 (by omega), heldZ_small h2 (by omega), heldZ_small (by omega) (by omega)]
def conc (cps : List Nat) (s : Wst) : Wst := { s with chs := s.chs.map (fun q : Nat × Chn => (cps.getD q.1 0, q.2)), tms := s.tms.map (fun t : Tk => ⟨t.kind, t.data, t.c.map (fun i => cps.getD i 0)⟩) }
structure AInv (s : Wst) : Prop where
 idx : ∀ (i : Nat) (q : Nat × Chn), s.chs[i]? = some q → q.1 = i
 tmc : ∀ t ∈ s.tms, ∀ i, t.c = some i → i < s.chs.length
def WA (CX : World → (Nat → Prop) → Prop) (w : World) (b : Wp) (o : Nat → Nat) (ps : List (List Ins)) (s : Wst) : Prop := AInv s ∧ ∃ cps : List Nat, cps.length = s.chs.length ∧ WW CX w b o ps (conc cps s)
theorem conc_wakeS (cps : List Nat) (s : Wst) (x : Wk) : conc cps (wakeS s x) = wakeS (conc cps s) x := by
 unfold wakeS
 show conc cps (match s.ts[x.task.toNat]? with | some t => _ | none => s) = (match s.ts[x.task.toNat]? with | some t => _ | none => conc cps s)
 cases h : s.ts[x.task.toNat]? <;> rfl
theorem idx_first {a : Int} : ∀ {l : List Int}, a ∈ l → l[l.idxOf a]? = some a ∧ ∀ k, k < l.idxOf a → l[k]? ≠ some a
 | x :: l, h => by
  rw [List.idxOf_cons]
  by_cases hx : x = a
  ·subst hx
   simp
  ·have hb : (x == a) = false := by simpa using hx
   simp only [hb, cond_false]
   have hm : a ∈ l := by
    rcases List.mem_cons.1 h with h1 | h1
    ·exact absurd h1.symm hx
    ·exact h1
   obtain ⟨h1, h2⟩ := idx_first hm
   refine ⟨by simpa using h1, fun k hk => ?_⟩
   cases k with
   | zero => simpa using hx
   | succ k => simpa using h2 k (by simpa using hk)
theorem locF_one {p : List Ins} {pc : Nat} {r : Reg} {now : Int} {O : LOut} (h : locF p pc r now = some O) : O.told = true → O.ended = false := by
 unfold locF at h
 split at h
 ·cases h; intro h; cases h
 ·split at h
  ·cases h
  ·repeat' split at h
   all_goals first | cases h; done | (cases h; intro h; first | rfl | cases h)
theorem ldo_F {a : Option Addr} {p : List Ins} {ci pc : Nat} {r : Reg} {now : Int} {O : LOut} (w : World) (hgood : ∀ x ∈ p, GoodC x p.length) (h : RowIn insC 6 w a p.length p) (hl : p.length ≤ 100) (hf : locF p pc r now = some O) :
  Calls Tryz.prog 48 #[.slice a p.length ci, .int .i64 pc, regV r, .int .i64 now] w fun e w' => e = .returned (.tuple #[.agg (outA O), .int .i64 0]) ∧ Made w w' := by
 unfold locF at hf
 split at hf
 ·rename_i he
  cases hf
  exact ldo_end (j := 0) (i := 0) (v := 0) (u := 0) w hgood h hl he
 ·split at hf
  ·cases hf
  ·rename_i x hx
   obtain ⟨xo, xa, xb, xc⟩ := x
   simp only at hf
   split at hf
   ·rename_i hc
    obtain ⟨rfl, h1, h2⟩ := hc
    obtain ⟨a1, rfl⟩ := Int.eq_ofNat_of_zero_le h1
    cases hf
    exact ldo_set (j := 0) w hgood h hl hx (by omega)
   ·split at hf
    ·rename_i hc
     obtain ⟨rfl, ⟨h1, h2⟩, h3, h4⟩ := hc
     obtain ⟨a1, rfl⟩ := Int.eq_ofNat_of_zero_le h1
     obtain ⟨b1, rfl⟩ := Int.eq_ofNat_of_zero_le h3
     cases hf
     exact ldo_move (u := 0) w hgood h hl hx (by omega) (by omega)
    ·split at hf
     ·rename_i hc
      obtain ⟨rfl, ⟨h1, h2⟩, rfl⟩ := hc
      obtain ⟨a1, rfl⟩ := Int.eq_ofNat_of_zero_le h1
      cases hf
      exact ldo_emit (j := 0) (u := 0) w hgood h hl hx (by omega)
     ·split at hf
      ·rename_i hc
       obtain ⟨rfl, h1, h2⟩ := hc
       obtain ⟨a1, rfl⟩ := Int.eq_ofNat_of_zero_le h1
       cases hf
       exact ldo_now (j := 0) w hgood h hl hx (by omega)
      ·cases hf
section
variable {CX : World → (Nat → Prop) → Prop} {w w' : World} {b : Wp} {o o' : Nat → Nat} {ps : List (List Ins)} {s : Wst}
theorem walone_F {i : Nat} {x : Tsk} {O : LOut} (hx : Ext CX) (h : WW CX w b o ps s) (hts : s.ts[i]? = some x) (hl : s.ts.length ≤ 64) (hst : x.st = 0) (hev : s.ev.length < 1000) (hO : O.told = true → O.ended = false) (hrd : (i : Int) ∈ s.rd) (hrl : s.rd.length ≤ 1000) :
  Calls Tryz.prog 49 #[.pointer (some ⟨b.pb, 0, none⟩), .int .i64 i, .agg (outA O)] w fun e w' => e = .returned (.tuple #[]) ∧ ∃ o', WW CX w' b o' ps (aloneS s i x O) ∧ Stp w w' (Own o) (Own o') := by
 obtain ⟨opc, oregs, ot, ov, oe⟩ := O
 cases ot
 ·cases oe
  ·exact walone_0 (j := 0) hx h hts hl hst hev
  ·exact walone_end hx h hts hl hst hev (idx_first hrd).1 (idx_first hrd).2 hrl
 ·have hoe : oe = false := hO rfl
  subst hoe
  exact walone_told (j := 0) hx h hts hl hst hev
theorem AStp.pre {w1 : World} {g : Nat} (h : Made w w1) (k : AStp w1 w' o o' g) : AStp w w' o o' g :=
 ⟨(h.mono (fun _ _ h => h.elim)).then k.t (fun _ _ h => h), fun k2 hk => (k.f k2 hk).imp id (fun h2 => Nat.le_trans h.size h2)⟩
theorem AInv.set {i : Nat} {q : Nat × Chn} {c : Chn} (h : AInv s) (hq : s.chs[i]? = some q) : AInv { s with chs := s.chs.set i (q.1, c) } := by
 refine ⟨fun j q2 hj => ?_, fun t ht k hk => by simpa using h.tmc t ht k hk⟩
 by_cases hij : i = j
 ·subst hij
  have hil := (List.getElem?_eq_some_iff.1 hq).1
  have hj2 : (s.chs.set i (q.1, c))[i]? = some q2 := hj
  rw [List.getElem?_set_self hil] at hj2
  cases hj2
  exact h.idx i q hq
 ·have hj2 : (s.chs.set i (q.1, c))[j]? = some q2 := hj
  rw [List.getElem?_set_ne hij] at hj2
  exact h.idx j q2 hj2
theorem AInv.same {s' : Wst} (h : AInv s) (hc : s'.chs = s.chs) (ht : s'.tms = s.tms) : AInv s' := ⟨by rw [hc]; exact h.idx, by rw [ht, hc]; exact h.tmc⟩
theorem conc_chs {cps : List Nat} {i : Nat} {q : Nat × Chn} (h : s.chs[i]? = some q) : (conc cps s).chs[i]? = some (cps.getD q.1 0, q.2) := by
 show (s.chs.map _)[i]? = _
 rw [List.getElem?_map, h]
 rfl
theorem conc_tms {cps : List Nat} {i : Nat} {t : Tk} (h : s.tms[i]? = some t) : (conc cps s).tms[i]? = some ⟨t.kind, t.data, t.c.map (fun i => cps.getD i 0)⟩ := by
 show (s.tms.map _)[i]? = _
 rw [List.getElem?_map, h]
 rfl
theorem conc_set (cps : List Nat) (i : Nat) (k : Nat) (c : Chn) : conc cps { s with chs := s.chs.set i (k, c) } = { conc cps s with chs := (conc cps s).chs.set i (cps.getD k 0, c) } := by
 unfold conc
 simp only [List.map_set]
theorem conc_new {cps : List Nat} {cp : Nat} {d : Int} (hi : AInv s) (hl : cps.length = s.chs.length) : conc (cps ++ [cp]) (timerS s d s.chs.length) = timerS (conc cps s) d cp := by
 have h1 : ∀ k, k < s.chs.length → (cps ++ [cp]).getD k 0 = cps.getD k 0 := fun k hk => by
  simp only [List.getD_eq_getElem?_getD]
  rw [List.getElem?_append_left (by omega)]
 have h2 : (cps ++ [cp]).getD s.chs.length 0 = cp := by
  simp only [List.getD_eq_getElem?_getD]
  rw [List.getElem?_append_right (by omega)]
  simp [hl]
 have h3 : s.chs.map (fun q => ((cps ++ [cp]).getD q.1 0, q.2)) = s.chs.map (fun q => (cps.getD q.1 0, q.2)) := by
  refine List.map_congr_left fun q hq => ?_
  obtain ⟨i, hiq⟩ := List.getElem?_of_mem hq
  rw [hi.idx i q hiq, h1 i (List.getElem?_eq_some_iff.1 hiq).1]
 have h4 : s.tms.map (fun t => (⟨t.kind, t.data, t.c.map (fun i => (cps ++ [cp]).getD i 0)⟩ : Tk)) = s.tms.map (fun t => ⟨t.kind, t.data, t.c.map (fun i => cps.getD i 0)⟩) := by
  refine List.map_congr_left fun t ht => ?_
  cases hc : t.c with
  | none => rfl
  | some i => simp only [Option.map_some, h1 i (hi.tmc t ht i hc)]
 unfold timerS conc
 simp only [List.map_append, List.map_cons, List.map_nil, h3, h4, List.length_map, Option.map_some, h2]
theorem getD_snoc {cps : List Nat} {cp k n : Nat} (hl : cps.length = n) (hk : k < n) : (cps ++ [cp]).getD k 0 = cps.getD k 0 := by
 simp only [List.getD_eq_getElem?_getD]
 rw [List.getElem?_append_left (by omega)]
theorem getD_last {cps : List Nat} {cp n : Nat} (hl : cps.length = n) : (cps ++ [cp]).getD n 0 = cp := by
 simp only [List.getD_eq_getElem?_getD]
 rw [List.getElem?_append_right (by omega)]
 simp [hl]
theorem conc_snoc {cps : List Nat} {cp : Nat} {c : Chn} (hi : AInv s) (hl : cps.length = s.chs.length) : conc (cps ++ [cp]) { s with made := s.made + 1, chs := s.chs ++ [(s.chs.length, c)] } = { conc cps s with made := s.made + 1, chs := (conc cps s).chs ++ [(cp, c)] } := by
 have h3 : s.chs.map (fun q : Nat × Chn => ((cps ++ [cp]).getD q.1 0, q.2)) = s.chs.map (fun q => (cps.getD q.1 0, q.2)) := by
  refine List.map_congr_left fun q hq => ?_
  obtain ⟨i, hiq⟩ := List.getElem?_of_mem hq
  rw [hi.idx i q hiq, getD_snoc hl (List.getElem?_eq_some_iff.1 hiq).1]
 have h4 : s.tms.map (fun t : Tk => (⟨t.kind, t.data, t.c.map (fun i => (cps ++ [cp]).getD i 0)⟩ : Tk)) = s.tms.map (fun t => ⟨t.kind, t.data, t.c.map (fun i => cps.getD i 0)⟩) := by
  refine List.map_congr_left fun t ht => ?_
  cases hc : t.c with
  | none => rfl
  | some i => simp only [Option.map_some, getD_snoc hl (hi.tmc t ht i hc)]
 unfold conc
 simp only [List.map_append, List.map_cons, List.map_nil, h3, h4, getD_last hl]
theorem AInv.snoc {c : Chn} {m : Int} (hi : AInv s) : AInv { s with made := m, chs := s.chs ++ [(s.chs.length, c)] } := by
 refine ⟨fun i q hq => ?_, fun t ht i hc => ?_⟩
 ·have hq2 : (s.chs ++ [(s.chs.length, c)])[i]? = some q := hq
  rcases Nat.lt_or_ge i s.chs.length with h1 | h1
  ·rw [List.getElem?_append_left h1] at hq2
   exact hi.idx i q hq2
  ·rw [List.getElem?_append_right h1] at hq2
   rcases Nat.eq_zero_or_pos (i - s.chs.length) with h2 | h2
   ·rw [h2] at hq2
    cases hq2
    omega
   ·rw [List.getElem?_eq_none (by simp; omega)] at hq2
    cases hq2
 ·show i < (s.chs ++ [_]).length
  rw [List.length_append]
  have := hi.tmc t ht i hc
  omega
theorem AInv.timer {d : Int} (hi : AInv s) : AInv (timerS s d s.chs.length) := by
 refine ⟨fun i q hq => ?_, fun t ht i hc => ?_⟩
 ·have hq2 : (s.chs ++ [(s.chs.length, (⟨true, false, false, true, none, []⟩ : Chn))])[i]? = some q := hq
  rcases Nat.lt_or_ge i s.chs.length with h1 | h1
  ·rw [List.getElem?_append_left h1] at hq2
   exact hi.idx i q hq2
  ·rw [List.getElem?_append_right h1] at hq2
   rcases Nat.eq_zero_or_pos (i - s.chs.length) with h2 | h2
   ·rw [h2] at hq2
    cases hq2
    omega
   ·rw [List.getElem?_eq_none (by simp; omega)] at hq2
    cases hq2
 ·have ht2 : t ∈ s.tms ++ [⟨1, 0, some s.chs.length⟩] := ht
  show i < (s.chs ++ [_]).length
  rw [List.length_append]
  rcases List.mem_append.1 ht2 with h1 | h1
  ·have := hi.tmc t h1 i hc
   omega
  ·simp only [List.mem_singleton] at h1
   subst h1
   cases hc
   simp
theorem wakeB_ok {s' : Wst} {x : Wk} (h : wakeB s x) (hts : s'.ts = s.ts) (hrd : s'.rd = s.rd) (h1 : s.rd.length ≤ 1000) (h2 : s.ts.length ≤ 64) (h3 : s'.nd < 1000000) (h4 : s'.ev.length < 1000) : WakeOK s' x := by
 obtain ⟨k1, k2, k3, k4⟩ := h
 obtain ⟨i, hi⟩ := Int.eq_ofNat_of_zero_le k1
 cases ht : s.ts[x.task.toNat]? with
 | none => rw [ht] at k4; exact k4.elim
 | some t =>
  rw [ht] at k4
  obtain ⟨pg, pc, st, how, r, io, ia, ib, ic⟩ := t
  obtain ⟨m1, m2, m3, m4, m5, m6, m7, m8⟩ := k4
  simp only at m1 m2 m3 m4 m5 m6 m7 m8
  subst m1 m2
  obtain ⟨a1, rfl⟩ := Int.eq_ofNat_of_zero_le m3.1
  obtain ⟨b1, rfl⟩ := Int.eq_ofNat_of_zero_le m4.1
  obtain ⟨c1, rfl⟩ := Int.eq_ofNat_of_zero_le m5.1
  have e1 := m3.2
  have e2 := m4.2
  have e3 := m5.2
  refine ⟨i, a1, b1, c1, pg, pc, how, r, hi, k2, ?_, by omega, by omega, by omega, by simpa using m6, m7, m8, ?_, by rw [hrd]; exact h1, by rw [hts]; exact h2, h3, h4⟩
  ·rw [hts]
   rw [hi] at ht
   simpa using ht
  ·rw [hrd, ← hi]
   exact k3
theorem AInv.wake (x : Wk) (h : AInv s) : AInv (wakeS s x) := by
 unfold wakeS
 show AInv (match s.ts[x.task.toNat]? with | some t => _ | none => s)
 cases s.ts[x.task.toNat]? with
 | none => exact h
 | some t => exact h.same rfl rfl
theorem wake_chs (x : Wk) : (wakeS s x).chs = s.chs := by
 unfold wakeS
 show (match s.ts[x.task.toNat]? with | some t => _ | none => s : Wst).chs = _
 cases s.ts[x.task.toNat]? <;> rfl
theorem wake_len (x : Wk) : (wakeS s x).ts.length = s.ts.length ∧ (wakeS s x).rd.length ≤ s.rd.length + 1 ∧ (wakeS s x).nd ≤ s.nd + 1 ∧ (wakeS s x).ev.length ≤ s.ev.length + 1 ∧ (wakeS s x).tms = s.tms ∧ ∀ a ∈ s.rd, a ∈ (wakeS s x).rd := by
 unfold wakeS
 show _
 cases h : s.ts[x.task.toNat]? with
 | none => exact ⟨rfl, Nat.le_succ _, Nat.le_succ _, Nat.le_succ _, rfl, fun a ha => ha⟩
 | some t =>
  refine ⟨List.length_set .., ?_, ?_, ?_, rfl, fun a ha => List.mem_append_left _ ha⟩
  ·show (s.rd ++ [_]).length ≤ _
   rw [List.length_append]; simp
  ·show (if x.ok then s.nd + 1 else s.nd) ≤ _
   split <;> omega
  ·show (s.ev ++ [_]).length ≤ _
   rw [List.length_append]; simp
theorem wake_keeps {x : Wk} {i : Nat} {y : Tsk} (h : wakeB s x) (hy : s.ts[i]? = some y) (h0 : y.st = 0) : (wakeS s x).ts[i]? = some y := by
 obtain ⟨k1, k2, k3, k4⟩ := h
 unfold wakeS
 show _
 cases ht : s.ts[x.task.toNat]? with
 | none => exact hy
 | some t =>
  rw [ht] at k4
  show (s.ts.set x.task.toNat _)[i]? = _
  rw [List.getElem?_set_ne (fun e => by
   rw [e, hy] at ht
   cases ht
   have := k4.1
   omega)]
  exact hy
theorem wakesB_ok : ∀ {l : List Wk} {s : Wst}, WakesB s l → s.rd.length + l.length ≤ 1000 → s.ts.length ≤ 64 → s.nd + l.length < 1000000 → s.ev.length + l.length < 1000 → WakesOK s l
 | [], s, h, h1, h2, h3, h4 => trivial
 | x :: l, s, h, h1, h2, h3, h4 => by
  obtain ⟨m1, m2, m3, m4, m5, m6⟩ := wake_len (s := s) x
  simp only [List.length_cons] at h1 h3 h4
  exact ⟨wakeB_ok h.1 rfl rfl (by omega) h2 (by omega) (by omega), wakesB_ok h.2 (by omega) (by omega) (by omega) (by omega)⟩
theorem wakes_chs : ∀ (l : List Wk) (s : Wst), (wakesS s l).chs = s.chs ∧ (wakesS s l).tms = s.tms ∧ (wakesS s l).ts.length = s.ts.length ∧ (wakesS s l).rd.length ≤ s.rd.length + l.length ∧ (wakesS s l).ev.length ≤ s.ev.length + l.length ∧ ∀ a ∈ s.rd, a ∈ (wakesS s l).rd
 | [], s => ⟨rfl, rfl, rfl, Nat.le_refl _, Nat.le_refl _, fun a ha => ha⟩
 | x :: l, s => by
  obtain ⟨m1, m2, m3, m4, m5, m6⟩ := wake_len (s := s) x
  obtain ⟨n1, n2, n3, n4, n5, n6⟩ := wakes_chs l (wakeS s x)
  have hc := wake_chs (s := s) x
  refine ⟨n1.trans hc, n2.trans m5, n3.trans m1, ?_, ?_, fun a ha => n6 a (m6 a ha)⟩
  ·show (wakesS (wakeS s x) l).rd.length ≤ s.rd.length + (l.length + 1)
   omega
  ·show (wakesS (wakeS s x) l).ev.length ≤ s.ev.length + (l.length + 1)
   omega
theorem wakes_keeps {i : Nat} {y : Tsk} (h0 : y.st = 0) : ∀ {l : List Wk} {s : Wst}, WakesB s l → s.ts[i]? = some y → (wakesS s l).ts[i]? = some y
 | [], s, _, h => h
 | x :: l, s, hb, h => wakes_keeps h0 (l := l) hb.2 (wake_keeps hb.1 h h0)
theorem wakesOK_conc (cps : List Nat) : ∀ (l : List Wk) (s : Wst), WakesOK s l ↔ WakesOK (conc cps s) l
 | [], s => Iff.rfl
 | x :: l, s => by
  show (WakeOK s x ∧ WakesOK (wakeS s x) l) ↔ (WakeOK (conc cps s) x ∧ WakesOK (wakeS (conc cps s) x) l)
  rw [← conc_wakeS, ← wakesOK_conc cps l (wakeS s x)]
  exact Iff.rfl
theorem conc_wakes (cps : List Nat) : ∀ (l : List Wk) (s : Wst), conc cps (wakesS s l) = wakesS (conc cps s) l
 | [], s => rfl
 | x :: l, s => by
  show conc cps (wakesS (wakeS s x) l) = wakesS (wakeS (conc cps s) x) l
  rw [conc_wakes cps l, conc_wakeS]
end
end Go.Proofs.YtjnkphhlkoapbaaGreat
namespace Go.Proofs.YtjnkphhlkoapbaaGreat
open Go.RowKit
set_option linter.unusedVariables false
set_option linter.unusedSimpArgs false
section
variable {CX : World → (Nat → Prop) → Prop} {w w' : World} {b : Wp} {o o' : Nat → Nat} {ps : List (List Ins)} {s : Wst}
def ActP (CX : World → (Nat → Prop) → Prop) (b : Wp) (ps : List (List Ins)) (ins : Ins) (g : Nat) (w : World) (o : Nat → Nat) (s2 : Wst) (rr : Option Reg) (w' : World) : Prop :=
 ∃ o' x2, WA CX w' b o' ps s2 ∧ AStp w w' o o' g ∧ Blk w' g 131 (acA b.pb x2) ∧ x2.how = 0 ∧ x2.parks = rr.isNone ∧ (rr = none → x2.i = ins) ∧ ∀ r2, rr = some r2 → x2.regs = r2
theorem act_F {s2 : Wst} {rr : Option Reg} {g i : Nat} {ins : Ins} {r : Reg} {d : Int} (hx : Ext CX) (hW : WA CX w b o ps s) (hl : Lim s) (hb : Blk w g 131 (acA b.pb ⟨i, ins, r, r, d, 0, false⟩)) (hg : ¬ Own o g) (hf : actF s i ins r = some (s2, rr)) :
  Calls Tryz.prog 50 #[.pointer (some ⟨g, 0, none⟩)] w fun e w' => e = .returned (.tuple #[]) ∧ ActP CX b ps ins g w o s2 rr w' := by
 obtain ⟨hi, cps, hcl, hw⟩ := hW
 obtain ⟨l1, l2, l3, l4, l5, l6, l7, l8, l9, l10, l11, l12, l13, l14, l15⟩ := hl
 have hcc : (conc cps s).chs.length = s.chs.length := by show (s.chs.map _).length = _; rw [List.length_map]
 have hct : (conc cps s).tms.length = s.tms.length := by show (s.tms.map _).length = _; rw [List.length_map]
 obtain ⟨xo, xa, xb, xc⟩ := ins
 unfold actF at hf
 split at hf
 ·rename_i hop
  have hop : xo = _ := hop
  subst hop
  unfold actGo at hf
  dsimp only at hf
  split at hf
  ·rename_i hc
   obtain ⟨⟨h1, h2⟩, h3, h4, h5⟩ := hc
   obtain ⟨a1, rfl⟩ := Int.eq_ofNat_of_zero_le h1
   cases hf
   refine acdo_go hb rfl ((acspawn_c hx hw hb hg rfl rfl (by omega) l3 h3 h5 (by show s.rd.length ≤ 1000; omega) (by show s.ev.length < 1000; omega)).mono ?_)
   rintro e w2 ⟨rfl, o2, h6, h7, h8⟩
   exact ⟨rfl, o2, _, ⟨⟨hi.idx, hi.tmc⟩, cps, hcl, h6⟩, h7, h8, rfl, rfl, (fun e => by cases e), fun r2 e => by cases e; rfl⟩
  ·cases hf
 split at hf
 ·rename_i hop
  have hop : xo = _ := hop
  subst hop
  unfold actRecv at hf
  dsimp only at hf
  split at hf
  ·rename_i hc
   obtain ⟨⟨h1, h2⟩, h3, h4, h5⟩ := hc
   obtain ⟨a1, rfl⟩ := Int.eq_ofNat_of_zero_le h1
   obtain ⟨c1, hc1⟩ := Int.eq_ofNat_of_zero_le h5
   simp only [Int.toNat_natCast] at hf hc1 h5
   rw [hc1] at hf
   simp only [Int.toNat_natCast] at hf
   split at hf
   ·cases hf
   ·rename_i q hq
    split at hf
    ·rename_i hc2
     obtain ⟨q1, qt, qs, qc, qr, qv, ql⟩ := q
     obtain ⟨k1, k2, k3⟩ := hc2
     simp only at k1 k2 k3
     subst k1 k2
     cases hf
     have hch := conc_chs (cps := cps) hq
     refine acdo_recv hb rfl (acchan_recv (i := c1) hx hw hb rfl rfl (by omega) hc1 hch (by omega) fun w1 hm1 => (acrecv_park hx (hw.made hx hm1) (hb.turns hm1 (fun h => h)) hg hch (by omega)).mono ?_)
     rintro e w2 ⟨rfl, o2, h6, h7, h8⟩
     refine ⟨rfl, o2, _, ⟨hi.set hq, cps, by simpa using hcl, ?_⟩, h7.pre hm1, h8, rfl, rfl, (fun _ => rfl), fun r2 e => by cases e⟩
     rw [conc_set]
     exact h6
    ·cases hf
  ·cases hf
 split at hf
 ·rename_i hop
  have hop : xo = _ := hop
  subst hop
  unfold actMake at hf
  dsimp only at hf
  split at hf
  ·rename_i hc
   obtain ⟨⟨h1, h2⟩, h3, h4, h5⟩ := hc
   obtain ⟨a1, rfl⟩ := Int.eq_ofNat_of_zero_le h1
   subst h3
   cases hf
   refine acdo_make hb rfl ((accreate_c (a := a1) hx hw hb hg rfl rfl (by omega) ⟨h4, h5⟩ (by omega)).mono ?_)
   rintro e w2 ⟨rfl, o2, cp, h6, h7, h8⟩
   refine ⟨rfl, o2, _, ⟨hi.snoc, cps ++ [cp], by simp [hcl], ?_⟩, h7, h8, rfl, rfl, (fun e => by cases e), fun r2 e => ?_⟩
   ·rw [conc_snoc hi hcl]
    exact h6
   ·cases e
    rw [hcc]
    rfl
  ·cases hf
 split at hf
 ·rename_i hop
  have hop : xo = _ := hop
  subst hop
  unfold actClose at hf
  dsimp only at hf
  split at hf
  ·rename_i hc
   obtain ⟨⟨h1, h2⟩, h5⟩ := hc
   obtain ⟨a1, rfl⟩ := Int.eq_ofNat_of_zero_le h1
   simp only [Int.toNat_natCast] at hf h5
   obtain ⟨c1, hc1⟩ := Int.eq_ofNat_of_zero_le h5
   rw [hc1] at hf
   simp only [Int.toNat_natCast] at hf
   split at hf
   ·cases hf
   ·rename_i q hq
    split at hf
    ·rename_i hc2
     obtain ⟨q1, qt, qs, qc, qr, qv, ql⟩ := q
     obtain ⟨k1, k2, k3, k4, k5, k6⟩ := hc2
     simp only at k1 k2 k3 k4 k5 k6
     subst k1 k2 k3
     cases hf
     have hch := conc_chs (cps := cps) hq
     have hset := conc_set (s := s) cps c1 q1 ⟨false, false, true, qr, qv, []⟩
     have hok : WakesOK { conc cps s with chs := (conc cps s).chs.set c1 (cps.getD q1 0, ⟨false, false, true, qr, qv, []⟩) } (ql.map clW) := by
      rw [← hset]
      have h9 : WakesOK { s with chs := s.chs.set c1 (q1, ⟨false, false, true, qr, qv, []⟩) } (ql.map clW) := wakesB_ok k6 (by rw [List.length_map]; show s.rd.length + _ ≤ 1000; omega) (by show s.ts.length ≤ 64; omega) (by rw [List.length_map]; show s.nd + _ < 1000000; omega) (by rw [List.length_map]; show s.ev.length + _ < 1000; omega)
      exact (wakesOK_conc cps _ _).1 h9
     refine acdo_close hb rfl (acchan_close (i := c1) hx hw hb rfl rfl (by omega) hc1 hch (by omega) fun w1 hm1 => (acclose_c hx (hw.made hx hm1) (hb.turns hm1 (fun h => h)) hg hch k4 (by omega) hok).mono ?_)
     rintro e w2 ⟨rfl, o2, h6, h7, h8⟩
     have hwc := wakes_chs (ql.map clW) { s with chs := s.chs.set c1 (q1, ⟨false, false, true, qr, qv, []⟩) }
     refine ⟨rfl, o2, _, ⟨(hi.set hq).same hwc.1 hwc.2.1, cps, ?_, ?_⟩, h7.pre hm1, h8, rfl, rfl, (fun e => by cases e), fun r2 e => by cases e; rfl⟩
     ·rw [hwc.1]; simpa using hcl
     ·rw [conc_wakes, hset]
      exact h6
    ·cases hf
  ·cases hf
 split at hf
 ·rename_i hop
  have hop : xo = _ := hop
  subst hop
  unfold actTimer at hf
  dsimp only at hf
  split at hf
  ·rename_i hc
   obtain ⟨⟨h1, h2⟩, ⟨h3, h4⟩, ⟨h5, h6⟩, h7, h8⟩ := hc
   obtain ⟨a1, rfl⟩ := Int.eq_ofNat_of_zero_le h1
   obtain ⟨b1, rfl⟩ := Int.eq_ofNat_of_zero_le h3
   obtain ⟨c1, rfl⟩ := Int.eq_ofNat_of_zero_le h5
   simp only [Int.toNat_natCast] at hf h7 h8
   cases hf
   have hadd := addZ_small l12 (by omega) h7 (by omega)
   have hn1 : (0 : Int) ≤ addZ s.now (r.get b1) := by rw [hadd]; omega
   have hn2 : addZ s.now (r.get b1) ≤ 4611686018427387904 := by rw [hadd]; omega
   refine acdo_timer hb rfl ((actimer_c (a := a1) (bb := b1) (cc := c1) hx hw hb hg rfl rfl rfl rfl (by omega) (by omega) (by omega) h7 ⟨l12, by show s.now ≤ _; omega⟩ hn1 hn2 (by omega) ⟨l14, l15⟩ (by show s.sq < _; omega) (by omega)).mono ?_)
   rintro e w2 ⟨rfl, o2, cp, h9, h10, h11⟩
   refine ⟨rfl, o2, _, ⟨hi.timer, cps ++ [cp], by simp [timerS, hcl], ?_⟩, h10, h11, rfl, rfl, (fun e => by cases e), fun r2 e => ?_⟩
   ·rw [conc_new hi hcl]
    exact h9
   ·cases e
    rw [hct, hcc]
  ·cases hf
 split at hf
 ·rename_i hop
  have hop : xo = _ := hop
  subst hop
  unfold actStop at hf
  dsimp only at hf
  split at hf
  ·rename_i hc
   obtain ⟨⟨h1, h2⟩, ⟨h3, h4⟩, h5⟩ := hc
   obtain ⟨a1, rfl⟩ := Int.eq_ofNat_of_zero_le h1
   obtain ⟨b1, rfl⟩ := Int.eq_ofNat_of_zero_le h3
   simp only [Int.toNat_natCast] at hf h5
   obtain ⟨i1, hi1⟩ := Int.eq_ofNat_of_zero_le h5
   rw [hi1] at hf
   simp only [Int.toNat_natCast] at hf
   split at hf
   ·cases hf
   ·rename_i t ht
    split at hf
    ·cases hf
    ·rename_i ci hci
     split at hf
     ·cases hf
     ·rename_i q hq
      split at hf
      ·rename_i hc2
       obtain ⟨k1, k2⟩ := hc2
       obtain ⟨tk, td, tc⟩ := t
       obtain ⟨q1, qt, qs, qc, qr, qv, ql⟩ := q
       simp only at k1 k2 hci
       subst k1 k2 hci
       have hq1 : q1 = ci := hi.idx ci _ hq
       subst hq1
       cases qv with
       | some v =>
        cases hf
        refine acdo_stop hb rfl ((acstop_1 (c := ⟨true, false, false, true, none, []⟩) (kd := 1) (cc := 0) (a := a1) (bb := b1) (i := i1) hx hw hb hg rfl rfl rfl (by omega) (by omega) hi1 (conc_tms ht) (conc_chs hq) (by omega) (by show s.sq ≤ _; omega)).mono ?_)
        rintro e w2 ⟨rfl, o2, h9, h10, h11⟩
        refine ⟨rfl, o2, _, ⟨(hi.set hq (c := ⟨true, qs, qc, qr, none, ql⟩)).same rfl rfl, cps, by simpa using hcl, ?_⟩, h10, h11, rfl, rfl, (fun e => by cases e), fun r2 e => by cases e; rfl⟩
        have e2 := conc_set (s := { s with L := delL i1 s.L }) cps q1 q1 ⟨true, qs, qc, qr, none, ql⟩
        rw [e2]
        exact h9
       | none =>
       cases hf
       refine acdo_stop hb rfl ((acstop_0 (c := ⟨true, false, false, true, none, []⟩) (kd := 1) (cc := 0) (a := a1) (bb := b1) (i := i1) hx hw hb hg rfl rfl rfl (by omega) (by omega) hi1 (conc_tms ht) (conc_chs hq) (by omega) (by show s.sq ≤ _; omega)).mono ?_)
       rintro e w2 ⟨rfl, o2, h9, h10, h11⟩
       exact ⟨rfl, o2, _, ⟨⟨hi.idx, hi.tmc⟩, cps, hcl, h9⟩, h10, h11, rfl, rfl, (fun e => by cases e), fun r2 e => by cases e; rfl⟩
      ·cases hf
  ·cases hf
 split at hf
 ·rename_i hop
  have hop : xo = _ := hop
  subst hop
  unfold actReset at hf
  dsimp only at hf
  split at hf
  ·rename_i hc
   obtain ⟨⟨h1, h2⟩, ⟨h3, h4⟩, ⟨h12, h13⟩, h5, h6, h7⟩ := hc
   obtain ⟨a1, rfl⟩ := Int.eq_ofNat_of_zero_le h1
   obtain ⟨b1, rfl⟩ := Int.eq_ofNat_of_zero_le h3
   obtain ⟨c1, rfl⟩ := Int.eq_ofNat_of_zero_le h12
   simp only [Int.toNat_natCast] at hf h5 h6 h7
   obtain ⟨i1, hi1⟩ := Int.eq_ofNat_of_zero_le h5
   rw [hi1] at hf
   simp only [Int.toNat_natCast] at hf
   have hadd := addZ_small l12 (by omega) h6 (by omega)
   have hn1 : (0 : Int) ≤ addZ s.now (r.get b1) := by rw [hadd]; omega
   have hn2 : addZ s.now (r.get b1) ≤ 4611686018427387904 := by rw [hadd]; omega
   split at hf
   ·cases hf
   ·rename_i t ht
    split at hf
    ·cases hf
    ·rename_i ci hci
     split at hf
     ·cases hf
     ·rename_i q hq
      split at hf
      ·rename_i hc2
       obtain ⟨k1, k2, k3⟩ := hc2
       obtain ⟨tk, td, tc⟩ := t
       obtain ⟨q1, qt, qs, qc, qr, qv, ql⟩ := q
       simp only at k1 k2 k3 hci
       subst k1 k2 k3 hci
       have hq1 : q1 = ci := hi.idx ci _ hq
       subst hq1
       cases hf
       refine acdo_reset hb rfl ((acreset_0 (a := a1) (bb := b1) (cc := c1) (i := i1) hx hw hb hg rfl rfl rfl rfl (by omega) (by omega) (by omega) hi1 (conc_tms ht) (conc_chs hq) (by omega) (by show s.sq < _; omega) h6 ⟨l12, by show s.now ≤ _; omega⟩ hn1 hn2).mono ?_)
       rintro e w2 ⟨rfl, o2, h9, h10, h11⟩
       have h9 : WW CX w2 b o2 ps { conc cps s with L := insL ⟨i1, addZ s.now (r.get b1), s.sq + 1⟩ (delL i1 (delL i1 s.L)), sq := s.sq + 1 } := h9
       rw [hadd] at h9
       exact ⟨rfl, o2, _, ⟨⟨hi.idx, hi.tmc⟩, cps, hcl, h9⟩, h10, h11, rfl, rfl, (fun e => by cases e), fun r2 e => by cases e; rfl⟩
      ·cases hf
  ·cases hf
 cases hf
end
end Go.Proofs.YtjnkphhlkoapbaaGreat
namespace Go.Proofs.YtjnkphhlkoapbaaGreat
open Go.RowKit
set_option linter.unusedVariables false
set_option linter.unusedSimpArgs false
section
variable {CX : World → (Nat → Prop) → Prop} {w w' : World} {b : Wp} {o o' : Nat → Nat} {ps : List (List Ins)} {s : Wst}
theorem conc_alone (cps : List Nat) (i : Nat) (x : Tsk) (O : LOut) : conc cps (aloneS s i x O) = aloneS (conc cps s) i x O := by
 obtain ⟨opc, oregs, ot, ov, oe⟩ := O
 cases ot <;> cases oe <;> rfl
theorem alone_chs (i : Nat) (x : Tsk) (O : LOut) : (aloneS s i x O).chs = s.chs ∧ (aloneS s i x O).tms = s.tms := by
 obtain ⟨opc, oregs, ot, ov, oe⟩ := O
 cases ot <;> cases oe <;> exact ⟨rfl, rfl⟩
structure ActK (s s2 : Wst) (ins : Ins) (rr : Option Reg) : Prop where
 ts : ∀ (i : Nat) (x : Tsk), x.st = 0 → s.ts[i]? = some x → s2.ts[i]? = some x
 tl : s2.ts.length ≤ 64
 ev : s2.ev.length < 1000
 rl : s2.rd.length ≤ 1000
 rd : ∀ a ∈ s.rd, a ∈ s2.rd
 pk : rr = none → ins.op = 11 ∧ RegOK ins.a ∧ RegOK ins.b ∧ RegOK ins.c
theorem actF_K {s2 : Wst} {rr : Option Reg} {i : Nat} {ins : Ins} {r : Reg} (hl : Lim s) (hf : actF s i ins r = some (s2, rr)) : ActK s s2 ins rr := by
 obtain ⟨l1, l2, l3, l4, l5, l6, l7, l8, l9, l10, l11, l12, l13, l14, l15⟩ := hl
 unfold actF at hf
 split at hf
 ·unfold actGo at hf
  split at hf
  ·cases hf
   refine ⟨fun i x _ h => ?_, ?_, ?_, ?_, fun a ha => ?_, fun e => by cases e⟩
   ·show (s.ts ++ [_])[i]? = some x
    rw [List.getElem?_append_left (List.getElem?_eq_some_iff.1 h).1]
    exact h
   ·show (s.ts ++ [_]).length ≤ 64
    rw [List.length_append]; simp only [List.length_cons, List.length_nil]; omega
   ·show (s.ev ++ [_]).length < 1000
    rw [List.length_append]; simp only [List.length_cons, List.length_nil]; omega
   ·show (s.rd ++ [_]).length ≤ 1000
    rw [List.length_append]; simp only [List.length_cons, List.length_nil]; omega
   ·exact List.mem_append_left _ ha
  ·cases hf
 split at hf
 ·rename_i hop
  unfold actRecv at hf
  split at hf
  ·rename_i hc
   split at hf
   ·cases hf
   ·split at hf
    ·cases hf
     exact ⟨fun i x _ h => h, by show s.ts.length ≤ 64; omega, by show s.ev.length < 1000; omega, by show s.rd.length ≤ 1000; omega, fun a ha => ha, fun _ => ⟨hop, hc.1, hc.2.1, hc.2.2.1⟩⟩
    ·cases hf
  ·cases hf
 split at hf
 ·unfold actMake at hf
  split at hf
  ·cases hf
   exact ⟨fun i x _ h => h, by show s.ts.length ≤ 64; omega, by show s.ev.length < 1000; omega, by show s.rd.length ≤ 1000; omega, fun a ha => ha, fun e => by cases e⟩
  ·cases hf
 split at hf
 ·unfold actClose at hf
  split at hf
  ·split at hf
   ·cases hf
   ·rename_i q hq
    split at hf
    ·rename_i hc
     obtain ⟨k1, k2, k3, k4, k5, k6⟩ := hc
     cases hf
     obtain ⟨n1, n2, n3, n4, n5, n6⟩ := wakes_chs (q.2.recvs.map clW) { s with chs := s.chs.set (r.get ins.a.toNat).toNat (q.1, ⟨false, false, true, q.2.room, q.2.val, []⟩) }
     rw [List.length_map] at n4 n5
     have n4 : _ ≤ s.rd.length + q.2.recvs.length := n4
     have n5 : _ ≤ s.ev.length + q.2.recvs.length := n5
     exact ⟨fun i x h0 h => wakes_keeps h0 k6 h, by rw [n3]; show s.ts.length ≤ 64; omega, by omega, by omega, n6, fun e => by cases e⟩
    ·cases hf
  ·cases hf
 split at hf
 ·unfold actTimer at hf
  split at hf
  ·cases hf
   exact ⟨fun i x _ h => h, by show s.ts.length ≤ 64; omega, by show s.ev.length < 1000; omega, by show s.rd.length ≤ 1000; omega, fun a ha => ha, fun e => by cases e⟩
  ·cases hf
 split at hf
 ·unfold actStop at hf
  repeat' split at hf
  all_goals first
   | cases hf; done
   | (cases hf; exact ⟨fun i x _ h => h, by show s.ts.length ≤ 64; omega, by show s.ev.length < 1000; omega, by show s.rd.length ≤ 1000; omega, fun a ha => ha, fun e => by cases e⟩)
 split at hf
 ·unfold actReset at hf
  repeat' split at hf
  all_goals first
   | cases hf; done
   | (cases hf; exact ⟨fun i x _ h => h, by show s.ts.length ≤ 64; omega, by show s.ev.length < 1000; omega, by show s.rd.length ≤ 1000; omega, fun a ha => ha, fun e => by cases e⟩)
 cases hf
structure PsOK (ps : List (List Ins)) : Prop where
 le : ps.length ≤ 16
 len : ∀ p ∈ ps, p.length ≤ 100
 good : ∀ p ∈ ps, ∀ x ∈ p, GoodC x p.length
set_option maxHeartbeats 1000000 in
theorem run_F {s' : Wst} {n d : Int} (hx : Ext CX) (hps : PsOK ps) (hW : WA CX w b o ps s) (hl : Lim s) (hf : runF ps s n = some s') :
  Calls Tryz.prog 26 #[.pointer (some ⟨b.pb, 0, none⟩), .int .i64 n, .int .i64 d] w fun e w' => e = .returned (.tuple #[]) ∧ ∃ o', WA CX w' b o' ps s' ∧ Stp w w' (Own o) (Own o') := by
 have hl0 := hl
 obtain ⟨hi, cps, hcl, hw⟩ := hW
 obtain ⟨l1, l2, l3, l4, l5, l6, l7, l8, l9, l10, l11, l12, l13, l14, l15⟩ := hl
 unfold runF at hf
 split at hf
 ·rename_i hrd
  cases hf
  refine (wrun_none hx hw hrd (by show s.rd.length ≤ 1000; omega) (by show s.nl < 900000; omega)).mono ?_
  rintro e w2 ⟨rfl, o2, h1, h2⟩
  exact ⟨rfl, o2, ⟨hi.same rfl rfl, cps, hcl, h1⟩, h2⟩
 ·rename_i hrd
  split at hf
  ·cases hf
  ·rename_i id hid
   split at hf
   ·cases hf
   ·rename_i x hxt
    split at hf
    ·cases hf
    ·rename_i p hp
     split at hf
     ·rename_i hc
      obtain ⟨c1, c2, c3, c4, c5⟩ := hc
      obtain ⟨i, rfl⟩ := Int.eq_ofNat_of_zero_le c1
      simp only [Int.toNat_natCast] at hf hxt
      have hpm := List.mem_of_getElem? hp
      have hpl := hps.len p hpm
      have hne : (0 : Int) < s.rd.length := by
       cases hr : s.rd with
       | nil => exact absurd hr hrd
       | cons a l => simp only [List.length_cons]; omega
      have hsel : Sel ps (conc cps s) n (pickZ n s.rd.length).toNat i x p x.prog.toNat x.pc.toNat :=
       { hj := (Int.toNat_of_nonneg (Int.emod_nonneg _ (by have := hne; show (s.rd.length : Int) ≠ 0; omega))).symm, hi := hid, hx := hxt, hp := (Int.toNat_of_nonneg c3).symm, hps := hp, hpc := (Int.toNat_of_nonneg c4).symm, st := c2, tl := (by show s.ts.length ≤ 64; omega), pl := hps.le, il := hpl }
      have hir : (i : Int) ∈ s.rd := List.mem_of_getElem? hid
      split at hf
      ·rename_i O hO
       cases hf
       refine (wrun_local (O := O) (s' := conc cps (aloneS { s with nl := s.nl + 1 } i x O)) hx hw hsel (by show s.rd.length ≤ 1000; omega) (by show s.nl < 900000; omega) (fun w1 a ci hr => ldo_F w1 (hps.good p hpm) hr hpl hO) (fun w1 o1 h1 => ?_)).mono ?_
       ·rw [conc_alone]
        exact walone_F hx h1 hxt (by show s.ts.length ≤ 64; omega) c2 (by show s.ev.length < 1000; omega) (locF_one hO) hir (by show s.rd.length ≤ 1000; omega)
       ·rintro e w2 ⟨rfl, o2, h1, h2⟩
        exact ⟨rfl, o2, ⟨hi.same (alone_chs i x O).1 (alone_chs i x O).2, cps, by rw [(alone_chs (s := { s with nl := s.nl + 1 }) i x O).1]; exact hcl, h1⟩, h2⟩
      ·rename_i hN
       split at hf
       ·cases hf
       ·rename_i ins hins
        split at hf
        ·rename_i hmi
         have hl1 : Lim { s with nl := s.nl + 1 } := ⟨l1, l2, l3, l4, l5, l6, l7, l8, by show s.nl + 1 < 100000; omega, l10, l11, l12, l13, l14, l15⟩
         obtain ⟨s2, rr, hact, hfin⟩ : ∃ s2 rr, actF { s with nl := s.nl + 1 } i ins x.regs = some (s2, rr) ∧ s' = (match rr with | none => parkS s2 i x ins | some r2 => putS s2 i x r2) := by
          split at hf
          ·cases hf
          ·rename_i s2 h1
           exact ⟨s2, none, h1, (Option.some.inj hf).symm⟩
          ·rename_i s2 r2 h1
           exact ⟨s2, some r2, h1, (Option.some.inj hf).symm⟩
         have hK := actF_K hl1 hact
         refine (wrun_act (ins := ins) (Q := fun s2c x2 => ∃ cps2 : List Nat, cps2.length = s2.chs.length ∧ s2c = conc cps2 s2 ∧ AInv s2 ∧ x2.how = 0 ∧ x2.parks = rr.isNone ∧ (rr = none → x2.i = ins) ∧ ∀ r2, rr = some r2 → x2.regs = r2) hx hw hsel hins (by show s.rd.length ≤ 1000; omega) (by show s.nl < 900000; omega) (fun w1 a ci hr => ldo_none (i := 0) (j := 0) (u := 0) (v := ins.op) w1 (hps.good p hpm) hr hpl ⟨ins.a, ins.b, ins.c, hins⟩ hmi) (fun w1 o1 g h1 hb hg => ?_) (fun s2c x2 hq => ?_)).mono ?_
         ·refine (act_F (s := { s with nl := s.nl + 1 }) hx ⟨hi.same rfl rfl, cps, hcl, h1⟩ hl1 hb hg hact).mono ?_
          rintro e w2 ⟨rfl, o2, x2, ⟨hi2, cps2, hc2, hw2⟩, hst, hb2, h5, h6, h7, h8⟩
          exact ⟨rfl, o2, conc cps2 s2, x2, ⟨cps2, hc2, rfl, hi2, h5, h6, h7, h8⟩, hw2, hst, hb2⟩
         ·obtain ⟨cps2, hc2, rfl, hi2, h5, h6, h7, h8⟩ := hq
          refine { how := h5, ts := hK.ts i x c2 hxt, tl := hK.tl, ev := hK.ev, rl := hK.rl, rd := idx_first (hK.rd _ hir), pk := fun hp => ?_ }
          cases rr with
          | none =>
           obtain ⟨k1, k2, k3, k4⟩ := hK.pk rfl
           rw [h7 rfl]
           obtain ⟨xo, xa, xb, xc⟩ := ins
           simp only at k1 k2 k3 k4
           subst k1
           exact ⟨rfl, good_11 _ _ _ _ k2 k3 k4⟩
          | some r2 => rw [h6] at hp; cases hp
         ·rintro e w2 ⟨rfl, o2, s2c, x2, ⟨cps2, hc2, rfl, hi2, h5, h6, h7, h8⟩, hw2, hst⟩
          refine ⟨rfl, o2, ?_, hst⟩
          obtain ⟨xid, xi, xw, xr, xd, xh, xp⟩ := x2
          cases rr with
          | none =>
           have h7 : xi = ins := h7 rfl
           have h6 : xp = true := h6
           subst h7 h6
           subst hfin
           exact ⟨hi2.same rfl rfl, cps2, hc2, hw2⟩
          | some r2 =>
           have h8 : xr = r2 := h8 r2 rfl
           have h6 : xp = false := h6
           subst h8 h6
           subst hfin
           exact ⟨hi2.same rfl rfl, cps2, hc2, hw2⟩
        ·cases hf
     ·cases hf
end
end Go.Proofs.YtjnkphhlkoapbaaGreat
namespace Go.Proofs.YtjnkphhlkoapbaaGreat
open Go.RowKit
set_option linter.unusedVariables false
set_option linter.unusedSimpArgs false
section
variable {CX : World → (Nat → Prop) → Prop} {w w' : World} {b : Wp} {o o' : Nat → Nat} {ps : List (List Ins)} {s : Wst}
set_option maxHeartbeats 1000000 in
theorem fires_F {cps : List Nat} : ∀ {k : Nat} {s s2 : Wst}, AInv s → firesF k s = some s2 → ∃ n, Fires n (conc cps s) (conc cps s2) ∧ AInv s2 ∧ s2.chs.length = s.chs.length
 | 0, s, s2, hi, hf => by cases hf
 | k + 1, s, s2, hi, hf => by
  unfold firesF at hf
  split at hf
  ·rename_i hL
   cases hf
   exact ⟨0, Fires.done _ (fun x hx => by
    have hx2 : s.L[0]? = some x := hx
    rw [hL] at hx2; cases hx2), hi, rfl⟩
  ·rename_i it ll0 hL
   split at hf
   ·rename_i hdue
    split at hf
    ·rename_i hlim
     obtain ⟨l1, l2, l3, l4, l5, l6, l7, l8, l9, l10, l11, l12, l13, l14, l15⟩ := hlim
     split at hf
     ·cases hf
     ·rename_i s1 h1
      unfold fireF at h1
      rw [hL] at h1
      simp only at h1
      split at h1
      ·cases h1
      ·rename_i t ht
       split at h1
       ·cases h1
       ·rename_i ci hci
        split at h1
        ·cases h1
        ·rename_i q hq
         split at h1
         ·rename_i hc
          obtain ⟨c1, c2, c3, c4, c5⟩ := hc
          obtain ⟨iid, iwh, ise⟩ := it
          obtain ⟨i, hii⟩ := Int.eq_ofNat_of_zero_le c1
          simp only at hii hdue
          subst hii
          simp only [Int.toNat_natCast] at ht h1
          obtain ⟨tk, td, tc⟩ := t
          obtain ⟨q1, qt, qs, qc, qr, qv, ql⟩ := q
          simp only at c2 c3 c4 c5 hci h1
          subst c2 c3 c4 hci
          have hq1 : q1 = ci := hi.idx ci _ hq
          subst hq1
          have hll : ∀ (x : It), x :: ll0 = x :: ll0 := fun _ => rfl
          cases ql with
          | nil =>
           simp only at h1
           split at h1
           ·rename_i hqv
            subst hqv
            cases h1
            obtain ⟨n, hn, hi2, hcl2⟩ := fires_F (cps := cps) (k := k) ((hi.set hq (c := ⟨true, qs, qc, true, some s.now, []⟩)).same (s' := fireB { s with L := ll0, chs := s.chs.set q1 (q1, ⟨true, qs, qc, true, some s.now, []⟩) } i iwh) rfl rfl) hf
            refine ⟨n + 1, Fires.next i iwh td q1 (cps.getD q1 0) ⟨true, qs, qc, true, none, []⟩ ⟨true, qs, qc, true, some s.now, []⟩ [] ll0 { due := ⟨ise, hL⟩, wh := hdue, now := l12, tm := conc_tms ht, ch := conc_chs hq, tl := (by show (s.tms.map _).length ≤ 1000; rw [List.length_map]; omega), sq := (by show s.sq < 1000000; omega), wq := .inl ⟨qs, qc, rfl, rfl, rfl⟩ } (by simp) (by show (s.chs.map _).length ≤ 1000; rw [List.length_map]; omega) (by show s.ev.length < 1000; omega) (by show s.nd < 1000000; omega) trivial ?_, hi2, ?_⟩
            ·have e1 : conc cps (fireB { s with L := ll0, chs := s.chs.set q1 (q1, ⟨true, qs, qc, true, some s.now, []⟩) } i iwh) = fireB { conc cps s with L := ll0, chs := (conc cps s).chs.set q1 (cps.getD q1 0, ⟨true, qs, qc, true, some s.now, []⟩) } i iwh := by
              have e2 := conc_set (s := { s with L := ll0 }) cps q1 q1 ⟨true, qs, qc, true, some s.now, []⟩
              exact congrArg (fun z => fireB z i iwh) e2
             rw [e1] at hn
             exact hn
            ·rw [hcl2]
             show (s.chs.set q1 _).length = _
             rw [List.length_set]
           ·cases h1
          | cons x lw =>
           simp only at h1
           split at h1
           ·rename_i hwb
            cases h1
            have hfi : AInv (fireB { s with L := ll0, chs := s.chs.set q1 (q1, ⟨true, qs, qc, true, qv, lw⟩) } i iwh) := (hi.set hq (c := ⟨true, qs, qc, true, qv, lw⟩)).same rfl rfl
            obtain ⟨n, hn, hi2, hcl2⟩ := fires_F (cps := cps) (k := k) (hfi.wake _) hf
            refine ⟨n + 1, Fires.next i iwh td q1 (cps.getD q1 0) ⟨true, qs, qc, true, qv, x :: lw⟩ ⟨true, qs, qc, true, qv, lw⟩ [⟨x.task, x.kase, s.now, true, false⟩] ll0 { due := ⟨ise, hL⟩, wh := hdue, now := l12, tm := conc_tms ht, ch := conc_chs hq, tl := (by show (s.tms.map _).length ≤ 1000; rw [List.length_map]; omega), sq := (by show s.sq < 1000000; omega), wq := .inr ⟨qs, qc, qv, x, lw, rfl, rfl, (by simp only [List.length_cons] at c5; omega), rfl⟩ } (by simp) (by show (s.chs.map _).length ≤ 1000; rw [List.length_map]; omega) (by show s.ev.length < 1000; omega) (by show s.nd < 1000000; omega) ⟨?_, trivial⟩ ?_, hi2, ?_⟩
            ·exact wakeB_ok hwb rfl rfl (by omega) (by omega) (by show s.nd + 1 < 1000000; omega) (by show (s.ev ++ [_]).length < 1000; rw [List.length_append]; simp only [List.length_cons, List.length_nil]; omega)
            ·have e1 : conc cps (fireB { s with L := ll0, chs := s.chs.set q1 (q1, ⟨true, qs, qc, true, qv, lw⟩) } i iwh) = fireB { conc cps s with L := ll0, chs := (conc cps s).chs.set q1 (cps.getD q1 0, ⟨true, qs, qc, true, qv, lw⟩) } i iwh := by
              have e2 := conc_set (s := { s with L := ll0 }) cps q1 q1 ⟨true, qs, qc, true, qv, lw⟩
              exact congrArg (fun z => fireB z i iwh) e2
             rw [conc_wakeS, e1] at hn
             exact hn
            ·rw [hcl2, wake_chs]
             show (s.chs.set q1 _).length = _
             rw [List.length_set]
           ·cases h1
         ·cases h1
    ·cases hf
   ·rename_i hdue
    cases hf
    exact ⟨0, Fires.done _ (fun x hx => by
     have hx2 : s.L[0]? = some x := hx
     rw [hL] at hx2
     cases hx2
     exact .inr (by show s.now < _; omega)), hi, rfl⟩
def entV : Ent → Value
 | .run n => .agg #[.int .i64 1, .int .i64 n, .int .i64 0]
 | .adv d => .agg #[.int .i64 2, .int .i64 d, .int .i64 0]
set_option maxHeartbeats 1000000 in
theorem step_F {s' : Wst} {e : Ent} (hx : Ext CX) (hps : PsOK ps) (hW : WA CX w b o ps s) (hf : stepF ps s e = some s') :
  Calls Tryz.prog 9 #[.pointer (some ⟨b.pb, 0, none⟩), entV e] w fun e w' => ∃ v, e = .returned v ∧ ∃ o', WA CX w' b o' ps s' ∧ Owns evC 45 6 w' v s'.ev ∧ (∀ k, v.ownBlock = some k → ¬ Own o' k ∧ w.heap.size ≤ k) ∧ Stp w w' (Own o) (Own o') := by
 obtain ⟨hi, cps, hcl, hw⟩ := hW
 unfold stepF at hf
 split at hf
 ·rename_i hl
  cases e with
  | run n =>
   simp only at hf
   split at hf
   ·cases hf
   ·rename_i s2 h2
    unfold doneF at hf
    split at hf
    ·rename_i hb
     cases hf
     have hl0 : Lim { s with ev := [] } := ⟨by simp, hl.2⟩
     refine (wstep_run (n := n) (d := 0) (R := fun z => AInv s2 ∧ ∃ cps2 : List Nat, cps2.length = s2.chs.length ∧ z = conc cps2 s2) hx hw (fun w1 o1 h1 => ?_) (fun z hz => ?_)).mono ?_
     ·refine (run_F (s := { s with ev := [] }) (d := 0) hx hps ⟨hi.same rfl rfl, cps, hcl, h1⟩ hl0 h2).mono ?_
      rintro e w2 ⟨rfl, o2, ⟨hi2, cps2, hc2, hw2⟩, hs2⟩
      exact ⟨rfl, o2, conc cps2 s2, ⟨hi2, cps2, hc2, rfl⟩, hw2, hs2⟩
     ·obtain ⟨_, cps2, _, rfl⟩ := hz
      exact ⟨hb.1, by show s2.steps < 1000000; omega, by show s2.ev.length ≤ 1000000; omega⟩
     ·rintro e w2 ⟨v, rfl, o2, z, ⟨hi2, cps2, hc2, rfl⟩, hw2, ho2, hf2, hs2⟩
      exact ⟨v, rfl, o2, ⟨hi2.same rfl rfl, cps2, hc2, hw2⟩, ho2, hf2, hs2⟩
    ·cases hf
  | adv d =>
   simp only at hf
   split at hf
   ·rename_i hd
    split at hf
    ·cases hf
    ·rename_i s2 h2
     unfold doneF at hf
     split at hf
     ·rename_i hb
      cases hf
      obtain ⟨l1, l2, l3, l4, l5, l6, l7, l8, l9, l10, l11, l12, l13, l14, l15⟩ := hl
      obtain ⟨n, hn, hi2, hcl2⟩ := fires_F (cps := cps) (hi.same (s' := { s with ev := [], now := s.now + d }) rfl rfl) h2
      refine (wstep_adv (n := d) (d := 0) (R := fun z => z = conc cps s2) hx hw hd.1 (fun w1 o1 h1 => ?_) (fun z hz => ?_)).mono ?_
      ·refine (wadvance_c (s2 := conc cps s2) (n := n) hx h1 hd.1 ?_ (by show (s.tms.map _).length ≤ 1000; rw [List.length_map]; omega)).mono ?_
       ·have hadd : addZ (conc cps s).now d = s.now + d := addZ_small l12 (by show s.now ≤ _; omega) hd.1 (by omega)
        show Fires n { conc cps s with ev := [], now := addZ (conc cps s).now d } _
        rw [hadd]
        exact hn
       ·rintro e w2 ⟨rfl, o2, hw2, hs2⟩
        exact ⟨rfl, o2, _, rfl, hw2, hs2⟩
      ·subst hz
       exact ⟨hb.1, by show s2.steps < 1000000; omega, by show s2.ev.length ≤ 1000000; omega⟩
      ·rintro e w2 ⟨v, rfl, o2, z, rfl, hw2, ho2, hf2, hs2⟩
       exact ⟨v, rfl, o2, ⟨hi2.same rfl rfl, cps, by rw [hcl]; exact hcl2.symm, hw2⟩, ho2, hf2, hs2⟩
     ·cases hf
   ·cases hf
 ·cases hf
end
end Go.Proofs.YtjnkphhlkoapbaaGreat
namespace Go.Proofs.YtjnkphhlkoapbaaGreat
open Go.RowKit
set_option linter.unusedVariables false
set_option linter.unusedSimpArgs false
structure Tn where
 parent : Int
 linked : Bool
 kids : Option Addr × Nat × Nat
def tnC (x : Tn) : List Value := [.int .i64 x.parent, .bool x.linked, .slice x.kids.1 x.kids.2.1 x.kids.2.2]
theorem tnC_len (x : Tn) : (tnC x).length = 3 := rfl
theorem tnC_one (x : Tn) : ∀ u ∈ tnC x, u.oneCell' = true := by
 intro u hu
 simp only [tnC, List.mem_cons, List.not_mem_nil, or_false] at hu
 rcases hu with rfl | rfl | rfl <;> rfl
theorem Tryz.infoTn : (Tryz.prog.info? 181).map (fun i => (i.zero, i.size, i.bytes)) = some (some (.agg #[.int .i64 0, .bool false, .slice none 0 0]), 3, 40) := by kernel_rfl
structure Cx where
 node : Int
 free : Bool
 c : Option Nat
 err : Int
 cause : Int
 when : Int
 has : Bool
 own : Bool
 timer : Int
def cxC (x : Cx) : List Value := [.int .i64 x.node, .bool x.free, .pointer (pt x.c), .int .i64 x.err, .int .i64 x.cause, .int .i64 x.when, .bool x.has, .bool x.own, .int .i64 x.timer]
theorem cxC_len (x : Cx) : (cxC x).length = 9 := rfl
theorem cxC_one (x : Cx) : ∀ u ∈ cxC x, u.oneCell' = true := by
 intro u hu
 simp only [cxC, List.mem_cons, List.not_mem_nil, or_false] at hu
 rcases hu with rfl | rfl | rfl | rfl | rfl | rfl | rfl | rfl | rfl <;> rfl
theorem Tryz.infoCx : (Tryz.prog.info? 106).map (fun i => (i.zero, i.size, i.bytes)) = some (some (.agg #[.int .i64 0, .bool false, .pointer none, .int .i64 0, .int .i64 0, .int .i64 0, .bool false, .bool false, .int .i64 0]), 9, 64) := by kernel_rfl
theorem Tryz.sizeCx : (Tryz.prog.info? 106).map (·.size) = some 9 := by kernel_rfl
theorem fillCx {i : TypeInfo} (h : i.size = 9) (a b c d e f g k l : Value) : Instr.fill (fun k => some (k * i.size, i.size)) ((Array.range (1 * i.size)).map ((Value.agg #[.int .i64 0, .bool false, .pointer none, .int .i64 0, .int .i64 0, .int .i64 0, .bool false, .bool false, .int .i64 0]).cells[· % (Value.agg #[.int .i64 0, .bool false, .pointer none, .int .i64 0, .int .i64 0, .int .i64 0, .bool false, .bool false, .int .i64 0]).cells.size]!)) [(0, .agg #[a, b, c, d, e, f, g, k, l])] = some #[a, b, c, d, e, f, g, k, l] := by
 rw [h]
 first | kernel_rfl | simp [Instr.fill]
theorem trnew_c (w : World) : Calls Tryz.prog 36 #[] w fun e w' => ∃ p, e = .returned (.pointer (some ⟨p, 0, none⟩)) ∧ Blk w' p 148 #[.slice none 0 0] ∧ Made w w' ∧ w.heap.size ≤ p := by
 have HB := Lib.hid (Blk.new w 148 #[.slice none 0 0])
 have HM := Lib.hid ((Turns.refl (fun _ => False) w).alloc (.cells #[.slice none 0 0] 148))
 go_enter Tryz.func36, Tryz.ntmps36
 go_wp2_with fail
 go_ret
 exact ⟨w.heap.size, rfl, HB.out, HM.out, Nat.le_refl _⟩
set_option maxHeartbeats 400000 in
theorem tradd_0 {w : World} {p : Nat} (h : Blk w p 148 #[.slice none 0 0]) : Calls Tryz.prog 59 #[.pointer (some ⟨p, 0, none⟩), .int .i64 (-1), .bool false] w fun e w' => e = .returned (.tuple #[.int .i64 0, .int .i64 0]) ∧ ∃ v, Blk w' p 148 #[v] ∧ Owns tnC 181 3 w' v [⟨-1, false, (none, 0, 0)⟩] ∧ (∀ k, v.ownBlock = some k → w.heap.size ≤ k) ∧ Turns (fun k => k = p) w w' := by
 obtain ⟨i0, hi0, hz0, hz1, hz2⟩ := info_parts Tryz.infoTn
 have q0 := h.cell 0
 simp only [List.getElem?_toArray, List.getElem?_cons_zero, List.getElem?_cons_succ] at q0
 have HP := Lib.hid h
 have HX := Lib.hid (Blk.new w 181 (tnC ⟨-1, false, (none, 0, 0)⟩).toArray)
 have HM := Lib.hid ((Turns.refl (fun _ => False) w).alloc (.cells (tnC ⟨-1, false, (none, 0, 0)⟩).toArray 181))
 have HNB := Lib.hid (show ∀ k, (Value.slice none 0 0).ownBlock = some k → False from fun k hk => by cases hk)
 clear h
 go_enter Tryz.func59, Tryz.ntmps59
 go_wp2_with (at_builtin; refine wpList_push rfl (.tmp 60) (.tmp 64) _ rfl i0 _ 40 Tryz.underlying146 hi0 hz0 hz1 hz2 rfl (by omega) tnC_len tnC_one (M := []) rfl Owns.nil ⟨-1, false, (none, 0, 0)⟩ rfl HX.out (by simp) (by omega) ?_; intro v2 w2 hO2 hT2 hV2; have hb2 := (HP.out.turns HM.out (fun h => h)).turns hT2 (fun e => HNB.out _ e); have hf := hb2.free 0; have HO2 := Lib.hid hO2; have HT2 := Lib.hid (HM.out.trans (hT2.mono (fun _ _ e => (HNB.out _ e).elim))); have HV2 := Lib.hid hV2; have HB2 := Lib.hid hb2; obtain ⟨a3, c3, rfl⟩ := owns_slice hO2; have q1 := hb2.cell 0; simp only [List.getElem?_toArray, List.getElem?_cons_zero] at q1; clear hO2 hT2 hV2 hb2)
 go_returns
 have hpk : ∀ k, (Value.slice a3 ([] ++ [(⟨-1, false, (none, 0, 0)⟩ : Tn)]).length c3).ownBlock = some k → w.heap.size ≤ k := fun k hk => by
  rcases HV2.out k hk with h4 | h4
  ·exact (HNB.out _ h4).elim
  ·exact Nat.le_trans HM.out.size h4
 have h3 := HB2.out.put 0 (.slice a3 ([] ++ [(⟨-1, false, (none, 0, 0)⟩ : Tn)]).length c3)
 exact ⟨rfl, _, h3, HO2.out.turns (set1 _ p 0 _) (fun k hk e => by have := hpk k hk; have := HP.out.lt; omega), hpk, (HT2.out.mono (fun _ _ h => h.elim)).trans (set1 _ p 0 _)⟩
def Bg (w w' : World) (q pm tr m : Nat) : Prop := ∃ vt vl, Blk w' tr 148 #[vt] ∧ Owns tnC 181 3 w' vt [⟨-1, false, (none, 0, 0)⟩] ∧ Blk w' q 102 #[.pointer (some ⟨pm, 0, none⟩), .pointer (some ⟨tr, 0, none⟩), vl, .slice none 0 0, .map (some m)] ∧ Owns cxC 106 9 w' vl [⟨0, true, none, 0, 0, 0, false, false, -1⟩] ∧ MapI w' m (fun j => if j = 0 then some (.int .i64 0) else none) ∧ (∀ k, vt.ownBlock = some k → w.heap.size ≤ k) ∧ (∀ k, vl.ownBlock = some k → w.heap.size ≤ k) ∧ (∀ k, vl.ownBlock = some k → vt.ownBlock ≠ some k) ∧ Turns (fun k => k = q ∨ k = tr ∨ k = m) w w'
set_option maxRecDepth 100000 in
set_option maxHeartbeats 2000000 in
theorem cxadd_0 {w : World} {q pm tr m : Nat} (h : Blk w q 102 #[.pointer (some ⟨pm, 0, none⟩), .pointer (some ⟨tr, 0, none⟩), .slice none 0 0, .slice none 0 0, .map (some m)]) (ht : Blk w tr 148 #[.slice none 0 0]) (hm : MapI w m (fun _ => none)) (hd : q ≠ tr ∧ q ≠ m ∧ tr ≠ m) :
  Calls Tryz.prog 37 #[.pointer (some ⟨q, 0, none⟩), .agg (cxC ⟨0, true, none, 0, 0, 0, false, false, 0⟩).toArray, .int .i64 (-1)] w fun e w' => e = .returned (.int .i64 0) ∧ Bg w w' q pm tr m := by
 obtain ⟨i0, hi0, hz0, hz1, hz2⟩ := info_parts Tryz.infoCx
 have HD := Lib.hid hd
 have HB0 := Lib.hid (Blk.new w 106 (cxC ⟨0, true, none, 0, 0, 0, false, false, 0⟩).toArray)
 have HM0 := Lib.hid ((Turns.refl (fun _ => False) w).alloc (.cells (cxC ⟨0, true, none, 0, 0, 0, false, false, 0⟩).toArray 106))
 have HQ := Lib.hid (h.turns HM0.out (fun h => h))
 have HT := Lib.hid (ht.turns HM0.out (fun h => h))
 have HMP := Lib.hid (hm.turns HM0.out (fun h => h))
 have HL := Lib.hid (And.intro h.lt (And.intro ht.lt hm.lt))
 clear h ht hm hd
 go_enter Tryz.func37, Tryz.ntmps37
 go_upto_region 1 with fail
 have HLW : Hid (w.heap.size < (w.alloc (.cells (cxC ⟨0, true, none, 0, 0, 0, false, false, 0⟩).toArray 106)).heap.size) := Lib.hid HB0.out.lt
 generalize w.alloc (.cells (cxC ⟨0, true, none, 0, 0, 0, false, false, 0⟩).toArray 106) = W at *
 have HAD := Lib.hid (fun ww (hh : Blk ww tr 148 #[.slice none 0 0]) => tradd_0 hh)
 refine wp_region_held_drew (S := fun w' => Blk w' (q) 102 #[.pointer (some ⟨pm, 0, none⟩), .pointer (some ⟨tr, 0, none⟩), .slice none 0 0, .slice none 0 0, .map (some m)] ∧ Blk w' (w.heap.size) 106 #[.int .i64 0, .bool true, .pointer none, .int .i64 0, .int .i64 0, .int .i64 0, .bool false, .bool false, .int .i64 0] ∧ (w' = W.drew ∨ True)) (by kernel_rfl) ?_ (fun hHeld => ?_)
 ·exact ⟨HQ.out, HB0.out, .inr trivial⟩
 refine takeH (i := 0) (d := some 8) (v := ?_) rfl rfl (by kernel_rfl) (by kernel_rfl) (by kernel_rfl) (fun _ _ _ h => h) (Or.inl ⟨by rfl, ?_⟩) (by assumption) ?_
 rotate_left
 ·intro w hSw
  try dsimp only at hSw
  go_simp
  try with_reducible rfl
 try simp only [Act.put, List.setIfInBounds_toArray, List.set_cons_zero, List.set_cons_succ]
 refine takeH (i := 1) (d := some 9) (v := ?_) rfl rfl (by kernel_rfl) (by kernel_rfl) (by kernel_rfl) (fun _ _ _ h => h) (Or.inl ⟨by rfl, ?_⟩) (by assumption) ?_
 rotate_left
 ·intro w hSw
  try dsimp only at hSw
  go_simp
  try with_reducible rfl
 try simp only [Act.put, List.setIfInBounds_toArray, List.set_cons_zero, List.set_cons_succ]
 refine takeH (i := 2) (d := some 10) (v := ?_) rfl rfl (by kernel_rfl) (by kernel_rfl) (by kernel_rfl) (fun _ _ _ h => h) (Or.inl ⟨by rfl, ?_⟩) (by assumption) ?_
 rotate_left
 ·intro w hSw
  try dsimp only at hSw
  go_simp
  try with_reducible rfl
 try simp only [Act.put, List.setIfInBounds_toArray, List.set_cons_zero, List.set_cons_succ]
 refine takeH (i := 3) (d := some 11) (v := ?_) rfl rfl (by kernel_rfl) (by kernel_rfl) (by kernel_rfl) (fun _ _ _ h => h) (Or.inl ⟨by rfl, ?_⟩) (by assumption) ?_
 rotate_left
 ·intro w hSw
  try dsimp only at hSw
  have q0_0 := hSw.1.cell 0
  have q0_1 := hSw.1.cell 1
  have q0_2 := hSw.1.cell 2
  have q0_3 := hSw.1.cell 3
  have q0_4 := hSw.1.cell 4
  have q1_0 := hSw.2.1.cell 0
  have q1_1 := hSw.2.1.cell 1
  have q1_2 := hSw.2.1.cell 2
  have q1_3 := hSw.2.1.cell 3
  have q1_4 := hSw.2.1.cell 4
  have q1_5 := hSw.2.1.cell 5
  have q1_6 := hSw.2.1.cell 6
  have q1_7 := hSw.2.1.cell 7
  have q1_8 := hSw.2.1.cell 8
  simp only [List.getElem?_toArray, List.getElem?_cons_zero, List.getElem?_cons_succ] at q0_0 q0_1 q0_2 q0_3 q0_4 q1_0 q1_1 q1_2 q1_3 q1_4 q1_5 q1_6 q1_7 q1_8
  go_simp
  try with_reducible rfl
 try simp only [Act.put, List.setIfInBounds_toArray, List.set_cons_zero, List.set_cons_succ]
 refine takeH (i := 4) (d := some 12) (v := ?_) rfl rfl (by kernel_rfl) (by kernel_rfl) (by kernel_rfl) (fun _ _ _ h => h) (Or.inl ⟨by rfl, ?_⟩) (by assumption) ?_
 rotate_left
 ·intro w hSw
  try dsimp only at hSw
  go_simp
  try with_reducible rfl
 try simp only [Act.put, List.setIfInBounds_toArray, List.set_cons_zero, List.set_cons_succ]
 refine takeH (i := 5) (d := some 13) (v := ?_) rfl rfl (by kernel_rfl) (by kernel_rfl) (by kernel_rfl) (fun _ _ _ h => h) (Or.inl ⟨by rfl, ?_⟩) (by assumption) ?_
 rotate_left
 ·intro w hSw
  try dsimp only at hSw
  go_simp
  try with_reducible rfl
 try simp only [Act.put, List.setIfInBounds_toArray, List.set_cons_zero, List.set_cons_succ]
 refine takeH (i := 6) (d := some 14) (v := ?_) rfl rfl (by kernel_rfl) (by kernel_rfl) (by kernel_rfl) (fun _ _ _ h => h) (Or.inl ⟨by rfl, ?_⟩) (by assumption) ?_
 rotate_left
 ·intro w hSw
  try dsimp only at hSw
  have q0_0 := hSw.1.cell 0
  have q0_1 := hSw.1.cell 1
  have q0_2 := hSw.1.cell 2
  have q0_3 := hSw.1.cell 3
  have q0_4 := hSw.1.cell 4
  have q1_0 := hSw.2.1.cell 0
  have q1_1 := hSw.2.1.cell 1
  have q1_2 := hSw.2.1.cell 2
  have q1_3 := hSw.2.1.cell 3
  have q1_4 := hSw.2.1.cell 4
  have q1_5 := hSw.2.1.cell 5
  have q1_6 := hSw.2.1.cell 6
  have q1_7 := hSw.2.1.cell 7
  have q1_8 := hSw.2.1.cell 8
  simp only [List.getElem?_toArray, List.getElem?_cons_zero, List.getElem?_cons_succ] at q0_0 q0_1 q0_2 q0_3 q0_4 q1_0 q1_1 q1_2 q1_3 q1_4 q1_5 q1_6 q1_7 q1_8
  go_simp
  try with_reducible rfl
 try simp only [Act.put, List.setIfInBounds_toArray, List.set_cons_zero, List.set_cons_succ]
 refine takeH (i := 7) (d := some 15) (v := ?_) rfl rfl (by kernel_rfl) (by kernel_rfl) (by kernel_rfl) (fun _ _ _ h => h) (Or.inl ⟨by rfl, ?_⟩) (by assumption) ?_
 rotate_left
 ·intro w hSw
  try dsimp only at hSw
  go_simp
  try with_reducible rfl
 try simp only [Act.put, List.setIfInBounds_toArray, List.set_cons_zero, List.set_cons_succ]
 refine wpAnyH_ready (rs := [8]) (by kernel_rfl) (by simp) ?_
 refine AllReadyH.cons rfl (fun K hK => ?_) AllReadyH.nil
 go_simp
 refine (HAD.out W.drew HT.out).mono ?_
 rintro e w1 ⟨rfl, vt, hbt, hot, hft, htt⟩
 refine hK.out _ _ ?_ (fun hHeld => ?_)
 ·exact ⟨hHeld.1.turns htt HD.out.1, hHeld.2.1.turns htt (fun e => by have := HL.out.2.1; omega), .inr trivial⟩
 clear hK K
 try simp only [Act.put, List.setIfInBounds_toArray, List.set_cons_zero, List.set_cons_succ]
 refine takeH (i := 9) (d := some 7) (v := ?_) rfl rfl (by kernel_rfl) (by kernel_rfl) (by kernel_rfl) (fun _ _ _ h => h) (Or.inl ⟨by rfl, ?_⟩) (by assumption) ?_
 rotate_left
 ·intro w hSw
  try dsimp only at hSw
  go_simp
  try with_reducible rfl
 try simp only [Act.put, List.setIfInBounds_toArray, List.set_cons_zero, List.set_cons_succ]
 refine takeH (i := 10) (d := some 17) (v := ?_) rfl rfl (by kernel_rfl) (by kernel_rfl) (by kernel_rfl) (fun _ _ _ h => h) (Or.inl ⟨by rfl, ?_⟩) (by assumption) ?_
 rotate_left
 ·intro w hSw
  try dsimp only at hSw
  go_simp
  try with_reducible rfl
 try simp only [Act.put, List.setIfInBounds_toArray, List.set_cons_zero, List.set_cons_succ]
 refine takeH (i := 11) (d := some 18) (v := ?_) rfl rfl (by kernel_rfl) (by kernel_rfl) (by kernel_rfl) (fun _ _ _ h => h) (Or.inl ⟨by rfl, ?_⟩) (by assumption) ?_
 rotate_left
 ·intro w hSw
  try dsimp only at hSw
  go_simp
  try with_reducible rfl
 try simp only [Act.put, List.setIfInBounds_toArray, List.set_cons_zero, List.set_cons_succ]
 refine takeH (i := 12) (d := some 19) (v := ?_) rfl rfl (by kernel_rfl) (by kernel_rfl) (by kernel_rfl) (fun _ _ _ h => h) (Or.inl ⟨by rfl, ?_⟩) (by assumption) ?_
 rotate_left
 ·intro w hSw
  try dsimp only at hSw
  go_simp
  try with_reducible rfl
 try simp only [Act.put, List.setIfInBounds_toArray, List.set_cons_zero, List.set_cons_succ]
 refine wpAnyH_ready (rs := [13]) (by kernel_rfl) (by simp) ?_
 refine AllReadyH.cons rfl (fun K hK => ?_) AllReadyH.nil
 have qz := hHeld.2.1.cell 0
 have qf := hHeld.2.1.free 0
 simp only [List.getElem?_toArray, List.getElem?_cons_zero, List.getElem?_cons_succ] at qz
 go_simp
 refine hK.out _ _ ?_ (fun hHeld => ?_)
 ·exact ⟨hHeld.1.far (by show q ≠ w.heap.size; have := HL.out.1; omega) _, by simpa using hHeld.2.1.put 0 (.int .i64 0), .inr trivial⟩
 clear hK K
 try simp only [Act.put, List.setIfInBounds_toArray, List.set_cons_zero, List.set_cons_succ]
 refine wpAnyH_done (by kernel_rfl) ?_ _
 have HT1 := Lib.hid (((HM0.out.mono (S' := fun k => k = q ∨ k = tr ∨ k = m) (fun _ _ h => h.elim)).drew.then htt (fun _ _ e => .inr (.inl e))).setCell (p := ⟨w.heap.size, 0, none⟩) (fun e => absurd e (Nat.lt_irrefl _)) (.int .i64 0))
 have HQ1 := Lib.hid hHeld.1
 have HX1 := Lib.hid hHeld.2.1
 have HV1 := Lib.hid (hbt.far (p := ⟨w.heap.size, 0, none⟩) (by show tr ≠ w.heap.size; have := HL.out.2.1; omega) (.int .i64 0))
 have HO1 := Lib.hid (hot.turns (set1 w1 w.heap.size 0 (.int .i64 0)) (fun k hk e => by have h1 := hft k hk; have h2 := HLW.out; have h3 : W.drew.heap.size = W.heap.size := rfl; omega))
 have HF1 := Lib.hid (show ∀ k, vt.ownBlock = some k → w.heap.size < k from fun k hk => by have h1 := hft k hk; have h2 := HLW.out; have h3 : W.drew.heap.size = W.heap.size := rfl; omega)
 have HP1 := Lib.hid (((HMP.out.turns (Turns.refl (fun _ => False) W).drew (fun h => h)).turns htt (fun e => HD.out.2.2 e.symm)).turns (set1 w1 w.heap.size 0 (.int .i64 0)) (by show ¬ m = w.heap.size; have := HL.out.2.2; omega))
 clear hHeld hbt hot hft htt
 generalize w1.setCell ⟨w.heap.size, 0, none⟩ (.int .i64 0) = W1 at *
 have f8 := HX1.out.free 8
 have q8 := HX1.out.cell 8
 simp only [List.getElem?_toArray, List.getElem?_cons_zero, List.getElem?_cons_succ] at q8
 go_upto_region 3 with fail
 have HT2 := Lib.hid (HT1.out.setCell (p := ⟨w.heap.size, 8, none⟩) (fun e => absurd e (Nat.lt_irrefl _)) (.int .i64 (-1)))
 have HQ2 := Lib.hid (HQ1.out.far (p := ⟨w.heap.size, 8, none⟩) (by show q ≠ w.heap.size; have := HL.out.1; omega) (.int .i64 (-1)))
 have HX2 : Hid (Blk (W1.setCell ⟨w.heap.size, 8, none⟩ (.int .i64 (-1))) w.heap.size 106 #[.int .i64 0, .bool true, .pointer none, .int .i64 0, .int .i64 0, .int .i64 0, .bool false, .bool false, .int .i64 (-1)]) := Lib.hid (by simpa using HX1.out.put 8 (.int .i64 (-1)))
 have HV2 := Lib.hid (HV1.out.far (p := ⟨w.heap.size, 8, none⟩) (by show tr ≠ w.heap.size; have := HL.out.2.1; omega) (.int .i64 (-1)))
 have HO2 := Lib.hid (HO1.out.turns (set1 W1 w.heap.size 8 (.int .i64 (-1))) (fun k hk e => by have h1 := HF1.out k hk; omega))
 have HP2 := Lib.hid (HP1.out.turns (set1 W1 w.heap.size 8 (.int .i64 (-1))) (by show ¬ m = w.heap.size; have := HL.out.2.2; omega))
 clear f8 q8
 generalize W1.setCell ⟨w.heap.size, 8, none⟩ (.int .i64 (-1)) = W2 at *
 obtain ⟨W3, hrun, hm3, ht3, hsz3⟩ := MapI.store (P := Tryz.prog) (w := W2.drew) (b := m) (HP2.out.turns (Turns.refl (fun _ => False) W2).drew (fun h => h)) Tryz.underlying98 Tryz.underlying3 0 (.int .i64 0)
 have HM3 := Lib.hid hm3
 have HT3 := Lib.hid ht3
 clear hm3 ht3 hsz3
 refine wp_region_held_drew (S := fun w' => Blk w' (q) 102 #[.pointer (some ⟨pm, 0, none⟩), .pointer (some ⟨tr, 0, none⟩), .slice none 0 0, .slice none 0 0, .map (some m)] ∧ Blk w' (w.heap.size) 106 #[.int .i64 0, .bool true, .pointer none, .int .i64 0, .int .i64 0, .int .i64 0, .bool false, .bool false, .int .i64 (-1)] ∧ (w' = W2.drew ∨ True)) (by kernel_rfl) ?_ (fun hHeld => ?_)
 ·exact ⟨HQ2.out, HX2.out, .inr trivial⟩
 refine takeH (i := 0) (d := some 21) (v := ?_) rfl rfl (by kernel_rfl) (by kernel_rfl) (by kernel_rfl) (fun _ _ _ h => h) (Or.inl ⟨by rfl, ?_⟩) (by assumption) ?_
 rotate_left
 ·intro w hSw
  try dsimp only at hSw
  go_simp
  try with_reducible rfl
 try simp only [Act.put, List.setIfInBounds_toArray, List.set_cons_zero, List.set_cons_succ]
 refine takeH (i := 1) (d := some 22) (v := ?_) rfl rfl (by kernel_rfl) (by kernel_rfl) (by kernel_rfl) (fun _ _ _ h => h) (Or.inl ⟨by rfl, ?_⟩) (by assumption) ?_
 rotate_left
 ·intro w hSw
  try dsimp only at hSw
  go_simp
  try with_reducible rfl
 try simp only [Act.put, List.setIfInBounds_toArray, List.set_cons_zero, List.set_cons_succ]
 refine takeH (i := 2) (d := some 23) (v := ?_) rfl rfl (by kernel_rfl) (by kernel_rfl) (by kernel_rfl) (fun _ _ _ h => h) (Or.inl ⟨by rfl, ?_⟩) (by assumption) ?_
 rotate_left
 ·intro w hSw
  try dsimp only at hSw
  go_simp
  try with_reducible rfl
 try simp only [Act.put, List.setIfInBounds_toArray, List.set_cons_zero, List.set_cons_succ]
 refine takeH (i := 3) (d := some 24) (v := ?_) rfl rfl (by kernel_rfl) (by kernel_rfl) (by kernel_rfl) (fun _ _ _ h => h) (Or.inl ⟨by rfl, ?_⟩) (by assumption) ?_
 rotate_left
 ·intro w hSw
  try dsimp only at hSw
  have q0_0 := hSw.1.cell 0
  have q0_1 := hSw.1.cell 1
  have q0_2 := hSw.1.cell 2
  have q0_3 := hSw.1.cell 3
  have q0_4 := hSw.1.cell 4
  simp only [List.getElem?_toArray, List.getElem?_cons_zero, List.getElem?_cons_succ] at q0_0 q0_1 q0_2 q0_3 q0_4
  go_simp
  try with_reducible rfl
 try simp only [Act.put, List.setIfInBounds_toArray, List.set_cons_zero, List.set_cons_succ]
 refine takeH (i := 4) (d := some 25) (v := ?_) rfl rfl (by kernel_rfl) (by kernel_rfl) (by kernel_rfl) (fun _ _ _ h => h) (Or.inl ⟨by rfl, ?_⟩) (by assumption) ?_
 rotate_left
 ·intro w hSw
  try dsimp only at hSw
  go_simp
  try with_reducible rfl
 try simp only [Act.put, List.setIfInBounds_toArray, List.set_cons_zero, List.set_cons_succ]
 refine takeH (i := 5) (d := some 26) (v := ?_) rfl rfl (by kernel_rfl) (by kernel_rfl) (by kernel_rfl) (fun _ _ _ h => h) (Or.inl ⟨by rfl, ?_⟩) (by assumption) ?_
 rotate_left
 ·intro w hSw
  try dsimp only at hSw
  have q1_0 : w.cell? ⟨_, 0, none⟩ = some (.int .i64 0) := hSw.2.1.cell 0
  go_simp
  try with_reducible rfl
 try simp only [Act.put, List.setIfInBounds_toArray, List.set_cons_zero, List.set_cons_succ]
 refine takeH (i := 6) (d := some 27) (v := ?_) rfl rfl (by kernel_rfl) (by kernel_rfl) (by kernel_rfl) (fun _ _ _ h => h) (Or.inl ⟨by rfl, ?_⟩) (by assumption) ?_
 rotate_left
 ·intro w hSw
  try dsimp only at hSw
  go_simp
  try with_reducible rfl
 try simp only [Act.put, List.setIfInBounds_toArray, List.set_cons_zero, List.set_cons_succ]
 refine takeH (i := 7) (d := some 28) (v := ?_) rfl rfl (by kernel_rfl) (by kernel_rfl) (by kernel_rfl) (fun _ _ _ h => h) (Or.inl ⟨by rfl, ?_⟩) (by assumption) ?_
 rotate_left
 ·intro w hSw
  try dsimp only at hSw
  go_simp
  try with_reducible rfl
 try simp only [Act.put, List.setIfInBounds_toArray, List.set_cons_zero, List.set_cons_succ]
 refine takeH (i := 8) (d := some 29) (v := ?_) rfl rfl (by kernel_rfl) (by kernel_rfl) (by kernel_rfl) (fun _ _ _ h => h) (Or.inl ⟨by rfl, ?_⟩) (by assumption) ?_
 rotate_left
 ·intro w hSw
  try dsimp only at hSw
  go_simp
  try with_reducible rfl
 try simp only [Act.put, List.setIfInBounds_toArray, List.set_cons_zero, List.set_cons_succ]
 refine takeH (i := 9) (d := some 30) (v := ?_) rfl rfl (by kernel_rfl) (by kernel_rfl) (by kernel_rfl) (fun _ _ _ h => h) (Or.inl ⟨by rfl, ?_⟩) (by assumption) ?_
 rotate_left
 ·intro w hSw
  try dsimp only at hSw
  have q0_0 := hSw.1.cell 0
  have q0_1 := hSw.1.cell 1
  have q0_2 := hSw.1.cell 2
  have q0_3 := hSw.1.cell 3
  have q0_4 := hSw.1.cell 4
  simp only [List.getElem?_toArray, List.getElem?_cons_zero, List.getElem?_cons_succ] at q0_0 q0_1 q0_2 q0_3 q0_4
  go_simp
  try with_reducible rfl
 try simp only [Act.put, List.setIfInBounds_toArray, List.set_cons_zero, List.set_cons_succ]
 refine takeH (i := 10) (d := some 31) (v := ?_) rfl rfl (by kernel_rfl) (by kernel_rfl) (by kernel_rfl) (fun _ _ _ h => h) (Or.inl ⟨by rfl, ?_⟩) (by assumption) ?_
 rotate_left
 ·intro w hSw
  try dsimp only at hSw
  go_simp
  try with_reducible rfl
 try simp only [Act.put, List.setIfInBounds_toArray, List.set_cons_zero, List.set_cons_succ]
 refine wpAnyH_ready (rs := [11]) (by kernel_rfl) (by simp) ?_
 refine AllReadyH.cons rfl (fun K hK => ?_) AllReadyH.nil
 go_simp
 refine hK.out _ _ ?_ (fun hHeld => ?_)
 ·exact ⟨hHeld.1.turns HT3.out HD.out.2.1, hHeld.2.1.turns HT3.out (fun e => by have := HL.out.2.2; omega), .inr trivial⟩
 clear hK K
 try simp only [Act.put, List.setIfInBounds_toArray, List.set_cons_zero, List.set_cons_succ]
 refine wpAnyH_done (by kernel_rfl) ?_ _
 have HTM := Lib.hid (HT2.out.drew.then HT3.out (fun _ _ e => .inr (.inr e)))
 have HQ3 := Lib.hid (HQ2.out.drew.turns HT3.out HD.out.2.1)
 have HX3 := Lib.hid (HX2.out.drew.turns HT3.out (fun e => by have := HL.out.2.2; omega))
 have HV3 := Lib.hid (HV2.out.drew.turns HT3.out HD.out.2.2)
 have HO3 := Lib.hid (HO2.out.turns ((Turns.refl (fun k => k = m) W2).drew.trans HT3.out) (fun k hk e => by have := HF1.out k hk; have := HL.out.2.2; omega))
 have HNQ := Lib.hid (show ∀ k, (Value.slice none 0 0).ownBlock = some k → k ≠ q from fun k hk => by cases hk)
 have HNX := Lib.hid (show ∀ k, (Value.slice none 0 0).ownBlock = some k → k ≠ w.heap.size from fun k hk => by cases hk)
 have HOL := Lib.hid (show ∀ k, vt.ownBlock = some k → k < W3.heap.size from fun k hk => HO3.out.lt hk)
 clear hHeld hrun
 go_upto_region 4 with fail
 refine wp_region_z (S := fun w' => Blk w' (q) 102 #[.pointer (some ⟨pm, 0, none⟩), .pointer (some ⟨tr, 0, none⟩), .slice none 0 0, .slice none 0 0, .map (some m)] ∧ Blk w' (w.heap.size) 106 #[.int .i64 0, .bool true, .pointer none, .int .i64 0, .int .i64 0, .int .i64 0, .bool false, .bool false, .int .i64 (-1)] ∧ Turns (fun k => ((Value.slice none 0 0)).ownBlock = some k) W3 w') 10 (by kernel_rfl) ?_ (fun hHeld => ?_)
 ·exact ⟨HQ3.out, HX3.out, (Turns.refl _ W3).drew⟩
 refine takeZ (i := 0) (d := some 32) (v := ?_) rfl rfl (by kernel_rfl) (by kernel_rfl) (by kernel_rfl) (by kernel_rfl) (fun _ _ _ h => h) (Or.inl ⟨by rfl, ?_⟩) (by assumption) ?_
 rotate_left
 ·intro w hSw
  try dsimp only at hSw
  go_simp
  try with_reducible rfl
 try simp only [Act.put, List.setIfInBounds_toArray, List.set_cons_zero, List.set_cons_succ]
 refine takeZ (i := 1) (d := some 33) (v := ?_) rfl rfl (by kernel_rfl) (by kernel_rfl) (by kernel_rfl) (by kernel_rfl) (fun _ _ _ h => h) (Or.inl ⟨by rfl, ?_⟩) (by assumption) ?_
 rotate_left
 ·intro w hSw
  try dsimp only at hSw
  go_simp
  try with_reducible rfl
 try simp only [Act.put, List.setIfInBounds_toArray, List.set_cons_zero, List.set_cons_succ]
 refine takeZ (i := 2) (d := some 34) (v := ?_) rfl rfl (by kernel_rfl) (by kernel_rfl) (by kernel_rfl) (by kernel_rfl) (fun _ _ _ h => h) (Or.inl ⟨by rfl, ?_⟩) (by assumption) ?_
 rotate_left
 ·intro w hSw
  try dsimp only at hSw
  go_simp
  try with_reducible rfl
 try simp only [Act.put, List.setIfInBounds_toArray, List.set_cons_zero, List.set_cons_succ]
 refine takeZ (i := 3) (d := some 35) (v := ?_) rfl rfl (by kernel_rfl) (by kernel_rfl) (by kernel_rfl) (by kernel_rfl) (fun _ _ _ h => h) (Or.inl ⟨by rfl, ?_⟩) (by assumption) ?_
 rotate_left
 ·intro w hSw
  try dsimp only at hSw
  go_simp
  try with_reducible rfl
 try simp only [Act.put, List.setIfInBounds_toArray, List.set_cons_zero, List.set_cons_succ]
 refine takeZ (i := 4) (d := some 36) (v := ?_) rfl rfl (by kernel_rfl) (by kernel_rfl) (by kernel_rfl) (by kernel_rfl) (fun _ _ _ h => h) (Or.inl ⟨by rfl, ?_⟩) (by assumption) ?_
 rotate_left
 ·intro w hSw
  try dsimp only at hSw
  have q0_0 := hSw.1.cell 0
  have q0_1 := hSw.1.cell 1
  have q0_2 := hSw.1.cell 2
  have q0_3 := hSw.1.cell 3
  have q0_4 := hSw.1.cell 4
  have q1_0 := hSw.2.1.cell 0
  have q1_1 := hSw.2.1.cell 1
  have q1_2 := hSw.2.1.cell 2
  have q1_3 := hSw.2.1.cell 3
  have q1_4 := hSw.2.1.cell 4
  have q1_5 := hSw.2.1.cell 5
  have q1_6 := hSw.2.1.cell 6
  have q1_7 := hSw.2.1.cell 7
  have q1_8 := hSw.2.1.cell 8
  simp only [List.getElem?_toArray, List.getElem?_cons_zero, List.getElem?_cons_succ] at q0_0 q0_1 q0_2 q0_3 q0_4 q1_0 q1_1 q1_2 q1_3 q1_4 q1_5 q1_6 q1_7 q1_8
  go_simp
  try with_reducible rfl
 try simp only [Act.put, List.setIfInBounds_toArray, List.set_cons_zero, List.set_cons_succ]
 refine takeZ (i := 5) (d := some 37) (v := ?_) rfl rfl (by kernel_rfl) (by kernel_rfl) (by kernel_rfl) (by kernel_rfl) (fun _ _ _ h => h) (Or.inl ⟨by rfl, ?_⟩) (by assumption) ?_
 rotate_left
 ·intro w hSw
  try dsimp only at hSw
  refine exec_load_row (P := Tryz.prog) (x := .tmp 4) ?_ ?_ hSw.2.1 Tryz.underlying106 ?_ Tryz.sizeCx <;> rfl
 try simp only [Act.put, List.setIfInBounds_toArray, List.set_cons_zero, List.set_cons_succ]
 refine wpAnyZ_ready (rs := [6]) (by kernel_rfl) (by simp) ?_
 refine AllReadyZ.cons rfl (fun K hK => ?_) AllReadyZ.nil
 refine step_single rfl _ (.tmp 37) (by rfl) i0 _ Tryz.underlying99 hi0 hz0 (by rw [hz1]; decide) (by rw [hz1]; decide) #[.int .i64 0, .bool true, .pointer none, .int .i64 0, .int .i64 0, .int .i64 0, .bool false, .bool false, .int .i64 (-1)] (by rfl) (fillCx hz1 _ _ _ _ _ _ _ _ _) ?_
 intro bX wX hTX hBX hLX
 refine hK.out _ _ ?_ (fun hHeld => ?_)
 ·exact ⟨hHeld.1.turns hTX (fun h => h), hHeld.2.1.turns hTX (fun h => h), (hHeld.2.2).trans (hTX.mono (fun _ _ h => h.elim))⟩
 clear hK K
 try simp only [Act.put, List.setIfInBounds_toArray, List.set_cons_zero, List.set_cons_succ]
 refine wpAnyZ_ready (rs := [7]) (by kernel_rfl) (by simp) ?_
 refine AllReadyZ.cons rfl (fun K hK => ?_) AllReadyZ.nil
 refine step_push rfl _ _ _ (by rfl) i0 _ 64 Tryz.underlying99 hi0 hz0 hz1 hz2 rfl (by omega) cxC_len cxC_one (by rfl) (((Owns.nil (enc := cxC) (w := W3.drew))).turns hTX (fun _ _ h => h)) (⟨0, true, none, 0, 0, 0, false, false, -1⟩) (by rfl) hBX (by simp) (by omega) ?_
 intro v2 w2 hO2 hT2 hV2
 obtain ⟨a3, c3, rfl⟩ := owns_slice hO2
 refine hK.out _ _ ?_ (fun hHeld => ?_)
 ·exact ⟨hHeld.1.turns hT2 (fun e => HNQ.out _ e rfl), hHeld.2.1.turns hT2 (fun e => HNX.out _ e rfl), (hHeld.2.2).trans hT2⟩
 clear hK K
 try simp only [Act.put, List.setIfInBounds_toArray, List.set_cons_zero, List.set_cons_succ]
 refine wpAnyZ_ready (rs := [8]) (by kernel_rfl) (by simp) ?_
 refine AllReadyZ.cons rfl (fun K hK => ?_) AllReadyZ.nil
 go_simp
 refine hK.out _ _ hHeld (fun hHeld => ?_)
 clear hK K
 try simp only [Act.put, List.setIfInBounds_toArray, List.set_cons_zero, List.set_cons_succ]
 refine takeZ (i := 9) (d := some 41) (v := ?_) rfl rfl (by kernel_rfl) (by kernel_rfl) (by kernel_rfl) (by kernel_rfl) (fun _ _ _ h => h) (Or.inl ⟨by rfl, ?_⟩) (by assumption) ?_
 rotate_left
 ·intro w hSw
  try dsimp only at hSw
  go_simp
  try with_reducible rfl
 try simp only [Act.put, List.setIfInBounds_toArray, List.set_cons_zero, List.set_cons_succ]
 refine wpAnyZ_ready (rs := [10]) (by kernel_rfl) (by simp) ?_
 refine AllReadyZ.last rfl (fun K hK => ?_) AllReadyZ.nil
 have qz0 := hHeld.1.cell 2
 have qf := hHeld.1.free 2
 simp only [List.getElem?_toArray, List.getElem?_cons_zero, List.getElem?_cons_succ] at qz0
 go_simp
 refine hK.out _ _ ?_
 clear hK K
 try simp only [Act.put, List.setIfInBounds_toArray, List.set_cons_zero, List.set_cons_succ]
 refine wpAnyZ_done (by kernel_rfl) ?_ _
 simp only [List.nil_append, List.length_cons, List.length_nil, Nat.zero_add] at hO2 hT2 hV2
 have hvl : ∀ k, (Value.slice a3 1 c3).ownBlock = some k → W3.heap.size ≤ k := fun k hk => by
  rcases hV2 k hk with h1 | h1
  ·cases h1
  ·exact Nat.le_trans hTX.size h1
 have htt := (hTX.mono (S' := fun k => k = q ∨ k = tr ∨ k = m) (fun _ _ h => h.elim)).then hT2 (fun _ _ e => by cases e)
 have hS3 : W3.drew.heap.size = W3.heap.size := rfl
 have hs0 := HTM.out.size
 have HTF := Lib.hid ((HTM.out.drew.trans htt).setCell (p := ⟨q, 2, none⟩) (fun _ => .inl rfl) (.slice a3 1 c3))
 have h4 := hHeld.1.put 2 (.slice a3 1 c3)
 simp only [List.setIfInBounds_toArray, List.set_cons_zero, List.set_cons_succ] at h4
 have HQ4 := Lib.hid h4
 have HVL := Lib.hid hvl
 have hql := HL.out
 have HO4 := Lib.hid (hO2.turns (set1 w2 q 2 (.slice a3 1 c3)) (fun k hk e => by have := hvl k hk; omega))
 have htq : Turns (fun k => k = q) W3.drew (w2.setCell ⟨q, 2, none⟩ (.slice a3 1 c3)) := ((hTX.mono (fun _ _ h => h.elim)).then hT2 (fun _ _ e => by cases e)).trans (set1 w2 q 2 _)
 have HV4 := Lib.hid (HV3.out.drew.turns htq (fun e => HD.out.1 e.symm))
 have HM4 := Lib.hid ((HM3.out.turns (Turns.refl (fun _ => False) W3).drew (fun h => h)).turns htq (fun e => HD.out.2.1 e.symm))
 have HO5 := Lib.hid ((HO3.out.turns (Turns.refl (fun _ => False) W3).drew (fun _ _ h => h)).turns htq (fun k hk e => by have := HF1.out k hk; omega))
 clear hHeld hO2 hT2 hV2 hTX hBX hLX htt htq hvl
 generalize w2.setCell ⟨q, 2, none⟩ (.slice a3 1 c3) = W4 at *
 have r2 := h4.cell 2
 simp only [List.getElem?_toArray, List.getElem?_cons_zero, List.getElem?_cons_succ] at r2
 clear h4
 go_wp2_with fail
 go_ret
 refine ⟨rfl, vt, _, HV4.out, HO5.out, HQ4.out, HO4.out, ?_, fun k hk => by have := HF1.out k hk; omega, fun k hk => by have := HVL.out k hk; omega, fun k hk e => ?_, HTF.out⟩
 ·have h9 := HM4.out
  refine cast (congrArg (MapI W4 m) (funext fun j => ?_)) h9
  by_cases hj : j = 0 <;> simp [hj]
 ·have h1 := HVL.out k hk
  have h2 := HOL.out k e
  omega
set_option maxHeartbeats 400000 in
theorem ctxnew_c (w : World) (pm : Nat) : Calls Tryz.prog 20 #[.pointer (some ⟨pm, 0, none⟩)] w fun e w' => ∃ q tr m w0, e = .returned (.pointer (some ⟨q, 0, none⟩)) ∧ Bg w0 w' q pm tr m ∧ Made w w0 ∧ Made w w' ∧ (w.heap.size ≤ tr ∧ tr < m ∧ m < q ∧ q < w0.heap.size) := by
 have HT := Lib.hid (trnew_c w)
 have hmk := @run_makeMap Tryz.prog
 go_enter Tryz.func20, Tryz.ntmps20
 go_wp2_with fail
 refine HT.out.mono ?_
 rintro e w1 ⟨tr, rfl, hb1, hm1, hl1⟩
 have hm := MapI.new w1
 have hmm := hm.alloc (.cells #[.pointer (some ⟨pm, 0, none⟩), .pointer (some ⟨tr, 0, none⟩), .slice none 0 0, .slice none 0 0, .map (some w1.heap.size)] 102)
 have hq := Blk.new (w1.alloc (.map #[] 0)) 102 #[.pointer (some ⟨pm, 0, none⟩), .pointer (some ⟨tr, 0, none⟩), .slice none 0 0, .slice none 0 0, .map (some w1.heap.size)]
 have hs : (w1.alloc (.map #[] 0)).heap.size = w1.heap.size + 1 := by simp
 rw [hs] at hq
 have ht := (hb1.alloc (.map #[] 0)).alloc (.cells #[.pointer (some ⟨pm, 0, none⟩), .pointer (some ⟨tr, 0, none⟩), .slice none 0 0, .slice none 0 0, .map (some w1.heap.size)] 102)
 have hlt := hb1.lt
 have hmd : Made w ((w1.alloc (.map #[] 0)).alloc (.cells #[.pointer (some ⟨pm, 0, none⟩), .pointer (some ⟨tr, 0, none⟩), .slice none 0 0, .slice none 0 0, .map (some w1.heap.size)] 102)) := (hm1.alloc _).alloc _
 have HAD := Lib.hid (cxadd_0 hq ht hmm ⟨by omega, by omega, by omega⟩)
 have HMD := Lib.hid hmd
 have HL := Lib.hid (And.intro hl1 (And.intro hlt hq.lt))
 clear hm hmm hq ht hmd hb1 hm1
 go_wp2_with fail
 refine HAD.out.mono ?_
 rintro e w2 ⟨rfl, hbg⟩
 have HBG := Lib.hid hbg
 clear hbg
 go_wp2_with fail
 go_ret
 have h1 := HL.out
 refine ⟨w1.heap.size + 1, tr, w1.heap.size, _, by simp, HBG.out, HMD.out, ?_, by omega, by omega, by omega, h1.2.2⟩
 obtain ⟨vt, vl, _, _, _, _, _, _, _, _, htt⟩ := HBG.out
 have h2 : w.heap.size ≤ w1.heap.size := by omega
 exact HMD.out.then htt (fun k hk e => by rcases e with rfl | rfl | rfl <;> omega)
end Go.Proofs.YtjnkphhlkoapbaaGreat
namespace Go.Proofs.YtjnkphhlkoapbaaGreat
open Go.RowKit
set_option linter.unusedVariables false
set_option linter.unusedSimpArgs false
theorem insC_len (x : Ins) : (insC x).length = 6 := rfl
theorem Tryz.infoIns6 : (Tryz.prog.info? 25).map (fun i => (i.zero, i.size, i.bytes)) = some (some (.agg #[.int .i64 0, .int .i64 0, .int .i64 0, .int .i64 0, .slice none 0 0, .bool false]), 6, 64) := by kernel_rfl
theorem clone_ins {a : Option Addr} {cap : Nat} {xs : List Ins} (w : World) (h : RowIn insC 6 w a xs.length xs) (hn : xs.length ≤ 1000000) (hcap : a = none → cap = 0) :
  Calls Tryz.prog 38 #[.slice a xs.length cap] w fun e w' => ∃ v', e = .returned v' ∧ Owns insC 25 6 w' v' xs ∧ Made w w' ∧ (∀ k, v'.ownBlock = some k → w.heap.size ≤ k) := by
 cases a with
 | none =>
  obtain rfl : cap = 0 := hcap rfl
  have h0 : xs = [] := by
   rcases h.2 with h1 | ⟨b, off, e, _⟩
   ·exact List.length_eq_zero_iff.1 (by omega)
   ·cases e
  subst h0
  have hnil := Lib.run_eql_slice_nil (P := Tryz.prog)
  go_enter Tryz.func38, Tryz.ntmps38
  go_wp2
  go_ret
  exact ⟨_, rfl, Owns.nil, Turns.refl _ _, fun k hk => by simp [Value.ownBlock] at hk⟩
 | some ad =>
  have HR := Lib.hid (show ∀ j u, (flat insC xs)[j]? = some u → (w.alloc (.cells #[] 25)).cell? (ad.add j) = some u from fun j u hu => by
   rcases h.2 with h1 | ⟨b, off, e, hb, hl⟩
   ·have h0 : xs = [] := List.length_eq_zero_iff.1 (by omega)
    subst h0
    simp [flat] at hu
   ·cases e
    have hj : j < xs.length * 6 := by
     have := (List.getElem?_eq_some_iff.1 hu).1
     rwa [flat_length insC_len] at this
    have hd := Nat.div_add_mod j 6
    have hq : j / 6 < xs.length := Nat.div_lt_of_lt_mul (by omega)
    have hx : xs[j / 6]? = some (xs[j / 6]) := List.getElem?_eq_getElem hq
    have hm : j % 6 < (insC xs[j / 6]).length := by rw [insC_len]; exact Nat.mod_lt _ (by omega)
    have hv := List.getElem?_eq_getElem hm
    have e1 := hl _ _ hx _ _ hv
    have e2 := flat_get insC_len hx hv
    have e3 : j / 6 * 6 + j % 6 = j := by omega
    rw [e3, hu] at e2
    cases e2
    rw [Nat.add_assoc, e3] at e1
    have e4 := ((Below.refl w.heap.size w).alloc (Nat.le_refl _) (.cells #[] 25)).cell (p := ⟨b, off + j, none⟩) hb
    rw [Addr.add_lit]
    exact e4.trans e1)
  obtain ⟨i0, hi0, hz0, hz1, hz2⟩ := info_parts Tryz.infoIns6
  have hnil := Lib.run_eql_slice_nil (P := Tryz.prog)
  clear h
  go_enter Tryz.func38, Tryz.ntmps38
  go_wp2_with (at_builtin; refine wpList_append_own _ rfl (.tmp 5) (.tmp 6) 26 rfl w.heap.size 25 i0 _ 6 64 Tryz.underlying26 hi0 hz0 hz1 hz2 rfl (by omega) _ 0 [] rfl ?own ad xs.length cap (flat insC xs) rfl ?len ?cells ?one ?b1 ?b2 ?b3 ?_)
  case own => exact World.ownsRow_made w #[] 0 (Nat.le_refl _) (Nat.zero_le _) rfl
  case len => exact flat_length insC_len xs
  case cells => exact HR.out
  case one =>
   intro u hu
   unfold flat at hu
   obtain ⟨y, _, hy⟩ := List.mem_flatMap.1 hu
   exact insC_one y u hy
  case b1 => unfold maxLen; omega
  case b2 => omega
  case b3 => simp
  intro v' w1 hown hgrow _
  have HOW := Lib.hid hown
  have HGR := Lib.hid hgrow
  clear hown hgrow
  go_wp2
  go_ret
  refine ⟨v', rfl, ?_, ?_, ?_⟩
  ·unfold Owns; simpa using owns_zero HOW.out
  ·exact ((Turns.refl _ _).alloc _).grown HGR.out (fun k hk hlt => by simp [Value.ownBlock] at hk; omega)
  ·exact fun k hk => (World.ownsRow.lt HOW.out k hk).1
set_option maxHeartbeats 1000000 in
theorem own_c {a : Option Addr} {cap : Nat} {p : List Ins} (w : World) (h : RowIn insC 6 w a p.length p) (hn : p.length ≤ 100) (hcap : a = none → cap = 0) :
  Calls Tryz.prog 21 #[.slice a p.length cap] w fun e w' => ∃ v', e = .returned v' ∧ Grow insC 25 6 w w' v' p := by
 have HC := Lib.hid (clone_ins (cap := cap) w h (by omega) hcap)
 have HN := Lib.hid hn
 clear h hn hcap
 go_enter Tryz.func21, Tryz.ntmps21
 go_wp2_with fail
 refine HC.out.mono ?_
 rintro e w1 ⟨v1, rfl, h1, h2, h3⟩
 have HG := Lib.hid (show Grow insC 25 6 w w1 v1 p from ⟨h2, h1, h3⟩)
 obtain ⟨a1, c1, rfl⟩ := owns_slice h1
 clear h1 h2 h3
 go_wp2_with fail
 go_loopw [8] (fun v8 wr => ∃ k : Nat, k ≤ p.length ∧ v8 = .int .i64 k ∧ Grow insC 25 6 w wr (.slice a1 p.length c1) p) (fun v8 _ => p.length - (intOf v8).toNat)
 case atStart => exact ⟨0, Nat.zero_le _, rfl, HG.out⟩
 case round =>
  obtain ⟨k0, hk, rfl, hg⟩ := hrel
  by_cases hlt : k0 < p.length
  ·obtain ⟨x, hxk⟩ := get_of_lt (xs := p) (k := k0) hlt
   obtain ⟨g, cg, hv1, hgl, -⟩ : ∃ g cg, (Value.slice a1 p.length c1) = .slice (some ⟨g, 0, none⟩) p.length cg ∧ g < wr.heap.size ∧ True := by
    rcases hg.own.form with ⟨_, h0⟩ | ⟨g, cg, e, hgl, _⟩
    ·subst h0; cases hxk
    ·exact ⟨g, cg, e, hgl, trivial⟩
   cases hv1
   have HGR := Lib.hid hg
   have HXK := Lib.hid hxk
   have c4 := Owns.cell insC_len hg.own hxk (j := 4) (u := .slice none 0 0) rfl
   have f4 := Owns.free hg.own (k0 * 6 + 4)
   have hn := HN.out
   have i1 : (0 : Int) ≤ (k0 : Int) := by omega
   have i2 : (k0 : Int) < (p.length : Int) := by omega
   clear hg hxk
   go_wp2_with fail
   refine (noCases_c _).mono ?_
   rintro e w2 ⟨rfl, rfl⟩
   go_wp2_with fail
   have HE := Lib.hid (HGR.out.put insC_len (j := 4) (u := .slice none 0 0) HXK.out (x' := x) rfl (by omega))
   rw [set_same HXK.out] at HE
   go_roundw
   case rel => exact ⟨k0 + 1, by omega, by go_num, HE.out⟩
   case measure => simp [intOf]; omega
  ·have hk2 : k0 = p.length := by omega
   subst hk2
   have HE := Lib.hid hg
   clear hg
   go_wp2_with fail
   go_ret
   exact ⟨_, rfl, HE.out⟩
end Go.Proofs.YtjnkphhlkoapbaaGreat
