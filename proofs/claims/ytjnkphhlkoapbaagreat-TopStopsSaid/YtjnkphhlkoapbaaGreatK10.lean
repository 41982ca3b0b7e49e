/-
  Walks and laws under LawTopStops, part 10.
-/
import Derived.Test.YtjnkphhlkoapbaaGreatK9
namespace Go.Proofs.YtjnkphhlkoapbaaGreat
open Go.RowKit
set_option linter.unusedVariables false
set_option linter.unusedSimpArgs false
structure Tn where
  parent : Int
  linked : Bool
  kids : Option Addr × Nat × Nat
def tnC (x : Tn) : List Value := [.int .i64 x.parent, .bool x.linked, .slice x.kids.1 x.kids.2.1 x.kids.2.2]
theorem tnC_len (x : Tn) : (tnC x).length = 3 := rfl
theorem tnC_one (x : Tn) : ∀ u ∈ tnC x, u.oneCell' = true := by
  intro u hu
  simp only [tnC, List.mem_cons, List.not_mem_nil, or_false] at hu
  rcases hu with rfl | rfl | rfl <;> rfl
theorem Tryz.infoTn : (Tryz.prog.info? 181).map (fun i => (i.zero, i.size, i.bytes)) = some (some (.agg #[.int .i64 0, .bool false, .slice none 0 0]), 3, 40) := by kernel_rfl
structure Cx where
  node : Int
  free : Bool
  c : Option Nat
  err : Int
  cause : Int
  when : Int
  has : Bool
  own : Bool
  timer : Int
def cxC (x : Cx) : List Value := [.int .i64 x.node, .bool x.free, .pointer (pt x.c), .int .i64 x.err, .int .i64 x.cause, .int .i64 x.when, .bool x.has, .bool x.own, .int .i64 x.timer]
theorem cxC_len (x : Cx) : (cxC x).length = 9 := rfl
theorem cxC_one (x : Cx) : ∀ u ∈ cxC x, u.oneCell' = true := by
  intro u hu
  simp only [cxC, List.mem_cons, List.not_mem_nil, or_false] at hu
  rcases hu with rfl | rfl | rfl | rfl | rfl | rfl | rfl | rfl | rfl <;> rfl
theorem Tryz.infoCx : (Tryz.prog.info? 106).map (fun i => (i.zero, i.size, i.bytes)) = some (some (.agg #[.int .i64 0, .bool false, .pointer none, .int .i64 0, .int .i64 0, .int .i64 0, .bool false, .bool false, .int .i64 0]), 9, 64) := by kernel_rfl
theorem Tryz.sizeCx : (Tryz.prog.info? 106).map (·.size) = some 9 := by kernel_rfl
theorem fillCx {i : TypeInfo} (h : i.size = 9) (a b c d e f g k l : Value) : Instr.fill (fun k => some (k * i.size, i.size)) ((Array.range (1 * i.size)).map ((Value.agg #[.int .i64 0, .bool false, .pointer none, .int .i64 0, .int .i64 0, .int .i64 0, .bool false, .bool false, .int .i64 0]).cells[· % (Value.agg #[.int .i64 0, .bool false, .pointer none, .int .i64 0, .int .i64 0, .int .i64 0, .bool false, .bool false, .int .i64 0]).cells.size]!)) [(0, .agg #[a, b, c, d, e, f, g, k, l])] = some #[a, b, c, d, e, f, g, k, l] := by
  rw [h]
  first | kernel_rfl | simp [Instr.fill]
theorem trnew_c (w : World) : Calls Tryz.prog 36 #[] w fun e w' => ∃ p, e = .returned (.pointer (some ⟨p, 0, none⟩)) ∧ Blk w' p 148 #[.slice none 0 0] ∧ Made w w' ∧ w.heap.size ≤ p := by
  have HB := Lib.hid (Blk.new w 148 #[.slice none 0 0])
  have HM := Lib.hid ((Turns.refl (fun _ => False) w).alloc (.cells #[.slice none 0 0] 148))
  go_enter Tryz.func36, Tryz.ntmps36
  go_wp2_with fail
  go_ret
  exact ⟨w.heap.size, rfl, HB.out, HM.out, Nat.le_refl _⟩
set_option maxHeartbeats 400000 in
theorem tradd_0 {w : World} {p : Nat} (h : Blk w p 148 #[.slice none 0 0]) : Calls Tryz.prog 59 #[.pointer (some ⟨p, 0, none⟩), .int .i64 (-1), .bool false] w fun e w' => e = .returned (.tuple #[.int .i64 0, .int .i64 0]) ∧ ∃ v, Blk w' p 148 #[v] ∧ Owns tnC 181 3 w' v [⟨-1, false, (none, 0, 0)⟩] ∧ (∀ k, v.ownBlock = some k → w.heap.size ≤ k) ∧ Turns (fun k => k = p) w w' := by
  obtain ⟨i0, hi0, hz0, hz1, hz2⟩ := info_parts Tryz.infoTn
  have q0 := h.cell 0
  simp only [List.getElem?_toArray, List.getElem?_cons_zero, List.getElem?_cons_succ] at q0
  have HP := Lib.hid h
  have HX := Lib.hid (Blk.new w 181 (tnC ⟨-1, false, (none, 0, 0)⟩).toArray)
  have HM := Lib.hid ((Turns.refl (fun _ => False) w).alloc (.cells (tnC ⟨-1, false, (none, 0, 0)⟩).toArray 181))
  have HNB := Lib.hid (show ∀ k, (Value.slice none 0 0).ownBlock = some k → False from fun k hk => by cases hk)
  clear h
  go_enter Tryz.func59, Tryz.ntmps59
  go_wp2_with (at_builtin; refine wpList_push rfl (.tmp 60) (.tmp 64) _ rfl i0 _ 40 Tryz.underlying146 hi0 hz0 hz1 hz2 rfl (by omega) tnC_len tnC_one (M := []) rfl Owns.nil ⟨-1, false, (none, 0, 0)⟩ rfl HX.out (by simp) (by omega) ?_; intro v2 w2 hO2 hT2 hV2; have hb2 := (HP.out.turns HM.out (fun h => h)).turns hT2 (fun e => HNB.out _ e); have hf := hb2.free 0; have HO2 := Lib.hid hO2; have HT2 := Lib.hid (HM.out.trans (hT2.mono (fun _ _ e => (HNB.out _ e).elim))); have HV2 := Lib.hid hV2; have HB2 := Lib.hid hb2; obtain ⟨a3, c3, rfl⟩ := owns_slice hO2; have q1 := hb2.cell 0; simp only [List.getElem?_toArray, List.getElem?_cons_zero] at q1; clear hO2 hT2 hV2 hb2)
  go_returns
  have hpk : ∀ k, (Value.slice a3 ([] ++ [(⟨-1, false, (none, 0, 0)⟩ : Tn)]).length c3).ownBlock = some k → w.heap.size ≤ k := fun k hk => by
    rcases HV2.out k hk with h4 | h4
    · exact (HNB.out _ h4).elim
    · exact Nat.le_trans HM.out.size h4
  have h3 := HB2.out.put 0 (.slice a3 ([] ++ [(⟨-1, false, (none, 0, 0)⟩ : Tn)]).length c3)
  exact ⟨rfl, _, h3, HO2.out.turns (set1 _ p 0 _) (fun k hk e => by have := hpk k hk; have := HP.out.lt; omega), hpk, (HT2.out.mono (fun _ _ h => h.elim)).trans (set1 _ p 0 _)⟩
def Bg (w w' : World) (q pm tr m : Nat) : Prop := ∃ vt vl, Blk w' tr 148 #[vt] ∧ Owns tnC 181 3 w' vt [⟨-1, false, (none, 0, 0)⟩] ∧ Blk w' q 102 #[.pointer (some ⟨pm, 0, none⟩), .pointer (some ⟨tr, 0, none⟩), vl, .slice none 0 0, .map (some m)] ∧ Owns cxC 106 9 w' vl [⟨0, true, none, 0, 0, 0, false, false, -1⟩] ∧ MapI w' m (fun j => if j = 0 then some (.int .i64 0) else none) ∧ (∀ k, vt.ownBlock = some k → w.heap.size ≤ k) ∧ (∀ k, vl.ownBlock = some k → w.heap.size ≤ k) ∧ (∀ k, vl.ownBlock = some k → vt.ownBlock ≠ some k) ∧ Turns (fun k => k = q ∨ k = tr ∨ k = m) w w'
set_option maxRecDepth 100000 in
set_option maxHeartbeats 2000000 in
theorem cxadd_0 {w : World} {q pm tr m : Nat} (h : Blk w q 102 #[.pointer (some ⟨pm, 0, none⟩), .pointer (some ⟨tr, 0, none⟩), .slice none 0 0, .slice none 0 0, .map (some m)]) (ht : Blk w tr 148 #[.slice none 0 0]) (hm : MapI w m (fun _ => none)) (hd : q ≠ tr ∧ q ≠ m ∧ tr ≠ m) :
    Calls Tryz.prog 37 #[.pointer (some ⟨q, 0, none⟩), .agg (cxC ⟨0, true, none, 0, 0, 0, false, false, 0⟩).toArray, .int .i64 (-1)] w fun e w' => e = .returned (.int .i64 0) ∧ Bg w w' q pm tr m := by
  obtain ⟨i0, hi0, hz0, hz1, hz2⟩ := info_parts Tryz.infoCx
  have HD := Lib.hid hd
  have HB0 := Lib.hid (Blk.new w 106 (cxC ⟨0, true, none, 0, 0, 0, false, false, 0⟩).toArray)
  have HM0 := Lib.hid ((Turns.refl (fun _ => False) w).alloc (.cells (cxC ⟨0, true, none, 0, 0, 0, false, false, 0⟩).toArray 106))
  have HQ := Lib.hid (h.turns HM0.out (fun h => h))
  have HT := Lib.hid (ht.turns HM0.out (fun h => h))
  have HMP := Lib.hid (hm.turns HM0.out (fun h => h))
  have HL := Lib.hid (And.intro h.lt (And.intro ht.lt hm.lt))
  clear h ht hm hd
  go_enter Tryz.func37, Tryz.ntmps37
  go_upto_region 1 with fail
  have HLW : Hid (w.heap.size < (w.alloc (.cells (cxC ⟨0, true, none, 0, 0, 0, false, false, 0⟩).toArray 106)).heap.size) := Lib.hid HB0.out.lt
  generalize w.alloc (.cells (cxC ⟨0, true, none, 0, 0, 0, false, false, 0⟩).toArray 106) = W at *
  have HAD := Lib.hid (fun ww (hh : Blk ww tr 148 #[.slice none 0 0]) => tradd_0 hh)
  refine wp_region_held_drew (S := fun w' => Blk w' (q) 102 #[.pointer (some ⟨pm, 0, none⟩), .pointer (some ⟨tr, 0, none⟩), .slice none 0 0, .slice none 0 0, .map (some m)] ∧ Blk w' (w.heap.size) 106 #[.int .i64 0, .bool true, .pointer none, .int .i64 0, .int .i64 0, .int .i64 0, .bool false, .bool false, .int .i64 0] ∧ (w' = W.drew ∨ True)) (by kernel_rfl) ?_ (fun hHeld => ?_)
  · exact ⟨HQ.out, HB0.out, .inr trivial⟩
  refine takeH (i := 0) (d := some 8) (v := ?_) rfl rfl (by kernel_rfl) (by kernel_rfl) (by kernel_rfl) (fun _ _ _ h => h) (Or.inl ⟨by rfl, ?_⟩) (by assumption) ?_
  rotate_left
  · intro w hSw
    try dsimp only at hSw
    go_simp
    try with_reducible rfl
  try simp only [Act.put, List.setIfInBounds_toArray, List.set_cons_zero, List.set_cons_succ]
  refine takeH (i := 1) (d := some 9) (v := ?_) rfl rfl (by kernel_rfl) (by kernel_rfl) (by kernel_rfl) (fun _ _ _ h => h) (Or.inl ⟨by rfl, ?_⟩) (by assumption) ?_
  rotate_left
  · intro w hSw
    try dsimp only at hSw
    go_simp
    try with_reducible rfl
  try simp only [Act.put, List.setIfInBounds_toArray, List.set_cons_zero, List.set_cons_succ]
  refine takeH (i := 2) (d := some 10) (v := ?_) rfl rfl (by kernel_rfl) (by kernel_rfl) (by kernel_rfl) (fun _ _ _ h => h) (Or.inl ⟨by rfl, ?_⟩) (by assumption) ?_
  rotate_left
  · intro w hSw
    try dsimp only at hSw
    go_simp
    try with_reducible rfl
  try simp only [Act.put, List.setIfInBounds_toArray, List.set_cons_zero, List.set_cons_succ]
  refine takeH (i := 3) (d := some 11) (v := ?_) rfl rfl (by kernel_rfl) (by kernel_rfl) (by kernel_rfl) (fun _ _ _ h => h) (Or.inl ⟨by rfl, ?_⟩) (by assumption) ?_
  rotate_left
  · intro w hSw
    try dsimp only at hSw
    have q0_0 := hSw.1.cell 0
    have q0_1 := hSw.1.cell 1
    have q0_2 := hSw.1.cell 2
    have q0_3 := hSw.1.cell 3
    have q0_4 := hSw.1.cell 4
    have q1_0 := hSw.2.1.cell 0
    have q1_1 := hSw.2.1.cell 1
    have q1_2 := hSw.2.1.cell 2
    have q1_3 := hSw.2.1.cell 3
    have q1_4 := hSw.2.1.cell 4
    have q1_5 := hSw.2.1.cell 5
    have q1_6 := hSw.2.1.cell 6
    have q1_7 := hSw.2.1.cell 7
    have q1_8 := hSw.2.1.cell 8
    simp only [List.getElem?_toArray, List.getElem?_cons_zero, List.getElem?_cons_succ] at q0_0 q0_1 q0_2 q0_3 q0_4 q1_0 q1_1 q1_2 q1_3 q1_4 q1_5 q1_6 q1_7 q1_8
    go_simp
    try with_reducible rfl
  try simp only [Act.put, List.setIfInBounds_toArray, List.set_cons_zero, List.set_cons_succ]
  refine takeH (i := 4) (d := some 12) (v := ?_) rfl rfl (by kernel_rfl) (by kernel_rfl) (by kernel_rfl) (fun _ _ _ h => h) (Or.inl ⟨by rfl, ?_⟩) (by assumption) ?_
  rotate_left
  · intro w hSw
    try dsimp only at hSw
    go_simp
    try with_reducible rfl
  try simp only [Act.put, List.setIfInBounds_toArray, List.set_cons_zero, List.set_cons_succ]
  refine takeH (i := 5) (d := some 13) (v := ?_) rfl rfl (by kernel_rfl) (by kernel_rfl) (by kernel_rfl) (fun _ _ _ h => h) (Or.inl ⟨by rfl, ?_⟩) (by assumption) ?_
  rotate_left
  · intro w hSw
    try dsimp only at hSw
    go_simp
    try with_reducible rfl
  try simp only [Act.put, List.setIfInBounds_toArray, List.set_cons_zero, List.set_cons_succ]
  refine takeH (i := 6) (d := some 14) (v := ?_) rfl rfl (by kernel_rfl) (by kernel_rfl) (by kernel_rfl) (fun _ _ _ h => h) (Or.inl ⟨by rfl, ?_⟩) (by assumption) ?_
  rotate_left
  · intro w hSw
    try dsimp only at hSw
    have q0_0 := hSw.1.cell 0
    have q0_1 := hSw.1.cell 1
    have q0_2 := hSw.1.cell 2
    have q0_3 := hSw.1.cell 3
    have q0_4 := hSw.1.cell 4
    have q1_0 := hSw.2.1.cell 0
    have q1_1 := hSw.2.1.cell 1
    have q1_2 := hSw.2.1.cell 2
    have q1_3 := hSw.2.1.cell 3
    have q1_4 := hSw.2.1.cell 4
    have q1_5 := hSw.2.1.cell 5
    have q1_6 := hSw.2.1.cell 6
    have q1_7 := hSw.2.1.cell 7
    have q1_8 := hSw.2.1.cell 8
    simp only [List.getElem?_toArray, List.getElem?_cons_zero, List.getElem?_cons_succ] at q0_0 q0_1 q0_2 q0_3 q0_4 q1_0 q1_1 q1_2 q1_3 q1_4 q1_5 q1_6 q1_7 q1_8
    go_simp
    try with_reducible rfl
  try simp only [Act.put, List.setIfInBounds_toArray, List.set_cons_zero, List.set_cons_succ]
  refine takeH (i := 7) (d := some 15) (v := ?_) rfl rfl (by kernel_rfl) (by kernel_rfl) (by kernel_rfl) (fun _ _ _ h => h) (Or.inl ⟨by rfl, ?_⟩) (by assumption) ?_
  rotate_left
  · intro w hSw
    try dsimp only at hSw
    go_simp
    try with_reducible rfl
  try simp only [Act.put, List.setIfInBounds_toArray, List.set_cons_zero, List.set_cons_succ]
  refine wpAnyH_ready (rs := [8]) (by kernel_rfl) (by simp) ?_
  refine AllReadyH.cons rfl (fun K hK => ?_) AllReadyH.nil
  go_simp
  refine (HAD.out W.drew HT.out).mono ?_
  rintro e w1 ⟨rfl, vt, hbt, hot, hft, htt⟩
  refine hK.out _ _ ?_ (fun hHeld => ?_)
  · exact ⟨hHeld.1.turns htt HD.out.1, hHeld.2.1.turns htt (fun e => by have := HL.out.2.1; omega), .inr trivial⟩
  clear hK K
  try simp only [Act.put, List.setIfInBounds_toArray, List.set_cons_zero, List.set_cons_succ]
  refine takeH (i := 9) (d := some 7) (v := ?_) rfl rfl (by kernel_rfl) (by kernel_rfl) (by kernel_rfl) (fun _ _ _ h => h) (Or.inl ⟨by rfl, ?_⟩) (by assumption) ?_
  rotate_left
  · intro w hSw
    try dsimp only at hSw
    go_simp
    try with_reducible rfl
  try simp only [Act.put, List.setIfInBounds_toArray, List.set_cons_zero, List.set_cons_succ]
  refine takeH (i := 10) (d := some 17) (v := ?_) rfl rfl (by kernel_rfl) (by kernel_rfl) (by kernel_rfl) (fun _ _ _ h => h) (Or.inl ⟨by rfl, ?_⟩) (by assumption) ?_
  rotate_left
  · intro w hSw
    try dsimp only at hSw
    go_simp
    try with_reducible rfl
  try simp only [Act.put, List.setIfInBounds_toArray, List.set_cons_zero, List.set_cons_succ]
  refine takeH (i := 11) (d := some 18) (v := ?_) rfl rfl (by kernel_rfl) (by kernel_rfl) (by kernel_rfl) (fun _ _ _ h => h) (Or.inl ⟨by rfl, ?_⟩) (by assumption) ?_
  rotate_left
  · intro w hSw
    try dsimp only at hSw
    go_simp
    try with_reducible rfl
  try simp only [Act.put, List.setIfInBounds_toArray, List.set_cons_zero, List.set_cons_succ]
  refine takeH (i := 12) (d := some 19) (v := ?_) rfl rfl (by kernel_rfl) (by kernel_rfl) (by kernel_rfl) (fun _ _ _ h => h) (Or.inl ⟨by rfl, ?_⟩) (by assumption) ?_
  rotate_left
  · intro w hSw
    try dsimp only at hSw
    go_simp
    try with_reducible rfl
  try simp only [Act.put, List.setIfInBounds_toArray, List.set_cons_zero, List.set_cons_succ]
  refine wpAnyH_ready (rs := [13]) (by kernel_rfl) (by simp) ?_
  refine AllReadyH.cons rfl (fun K hK => ?_) AllReadyH.nil
  have qz := hHeld.2.1.cell 0
  have qf := hHeld.2.1.free 0
  simp only [List.getElem?_toArray, List.getElem?_cons_zero, List.getElem?_cons_succ] at qz
  go_simp
  refine hK.out _ _ ?_ (fun hHeld => ?_)
  · exact ⟨hHeld.1.far (by show q ≠ w.heap.size; have := HL.out.1; omega) _, by simpa using hHeld.2.1.put 0 (.int .i64 0), .inr trivial⟩
  clear hK K
  try simp only [Act.put, List.setIfInBounds_toArray, List.set_cons_zero, List.set_cons_succ]
  refine wpAnyH_done (by kernel_rfl) ?_ _
  have HT1 := Lib.hid (((HM0.out.mono (S' := fun k => k = q ∨ k = tr ∨ k = m) (fun _ _ h => h.elim)).drew.then htt (fun _ _ e => .inr (.inl e))).setCell (p := ⟨w.heap.size, 0, none⟩) (fun e => absurd e (Nat.lt_irrefl _)) (.int .i64 0))
  have HQ1 := Lib.hid hHeld.1
  have HX1 := Lib.hid hHeld.2.1
  have HV1 := Lib.hid (hbt.far (p := ⟨w.heap.size, 0, none⟩) (by show tr ≠ w.heap.size; have := HL.out.2.1; omega) (.int .i64 0))
  have HO1 := Lib.hid (hot.turns (set1 w1 w.heap.size 0 (.int .i64 0)) (fun k hk e => by have h1 := hft k hk; have h2 := HLW.out; have h3 : W.drew.heap.size = W.heap.size := rfl; omega))
  have HF1 := Lib.hid (show ∀ k, vt.ownBlock = some k → w.heap.size < k from fun k hk => by have h1 := hft k hk; have h2 := HLW.out; have h3 : W.drew.heap.size = W.heap.size := rfl; omega)
  have HP1 := Lib.hid (((HMP.out.turns (Turns.refl (fun _ => False) W).drew (fun h => h)).turns htt (fun e => HD.out.2.2 e.symm)).turns (set1 w1 w.heap.size 0 (.int .i64 0)) (by show ¬ m = w.heap.size; have := HL.out.2.2; omega))
  clear hHeld hbt hot hft htt
  generalize w1.setCell ⟨w.heap.size, 0, none⟩ (.int .i64 0) = W1 at *
  have f8 := HX1.out.free 8
  have q8 := HX1.out.cell 8
  simp only [List.getElem?_toArray, List.getElem?_cons_zero, List.getElem?_cons_succ] at q8
  go_upto_region 3 with fail
  have HT2 := Lib.hid (HT1.out.setCell (p := ⟨w.heap.size, 8, none⟩) (fun e => absurd e (Nat.lt_irrefl _)) (.int .i64 (-1)))
  have HQ2 := Lib.hid (HQ1.out.far (p := ⟨w.heap.size, 8, none⟩) (by show q ≠ w.heap.size; have := HL.out.1; omega) (.int .i64 (-1)))
  have HX2 : Hid (Blk (W1.setCell ⟨w.heap.size, 8, none⟩ (.int .i64 (-1))) w.heap.size 106 #[.int .i64 0, .bool true, .pointer none, .int .i64 0, .int .i64 0, .int .i64 0, .bool false, .bool false, .int .i64 (-1)]) := Lib.hid (by simpa using HX1.out.put 8 (.int .i64 (-1)))
  have HV2 := Lib.hid (HV1.out.far (p := ⟨w.heap.size, 8, none⟩) (by show tr ≠ w.heap.size; have := HL.out.2.1; omega) (.int .i64 (-1)))
  have HO2 := Lib.hid (HO1.out.turns (set1 W1 w.heap.size 8 (.int .i64 (-1))) (fun k hk e => by have h1 := HF1.out k hk; omega))
  have HP2 := Lib.hid (HP1.out.turns (set1 W1 w.heap.size 8 (.int .i64 (-1))) (by show ¬ m = w.heap.size; have := HL.out.2.2; omega))
  clear f8 q8
  generalize W1.setCell ⟨w.heap.size, 8, none⟩ (.int .i64 (-1)) = W2 at *
  obtain ⟨W3, hrun, hm3, ht3, hsz3⟩ := MapI.store (P := Tryz.prog) (w := W2.drew) (b := m) (HP2.out.turns (Turns.refl (fun _ => False) W2).drew (fun h => h)) Tryz.underlying98 Tryz.underlying3 0 (.int .i64 0)
  have HM3 := Lib.hid hm3
  have HT3 := Lib.hid ht3
  clear hm3 ht3 hsz3
  refine wp_region_held_drew (S := fun w' => Blk w' (q) 102 #[.pointer (some ⟨pm, 0, none⟩), .pointer (some ⟨tr, 0, none⟩), .slice none 0 0, .slice none 0 0, .map (some m)] ∧ Blk w' (w.heap.size) 106 #[.int .i64 0, .bool true, .pointer none, .int .i64 0, .int .i64 0, .int .i64 0, .bool false, .bool false, .int .i64 (-1)] ∧ (w' = W2.drew ∨ True)) (by kernel_rfl) ?_ (fun hHeld => ?_)
  · exact ⟨HQ2.out, HX2.out, .inr trivial⟩
  refine takeH (i := 0) (d := some 21) (v := ?_) rfl rfl (by kernel_rfl) (by kernel_rfl) (by kernel_rfl) (fun _ _ _ h => h) (Or.inl ⟨by rfl, ?_⟩) (by assumption) ?_
  rotate_left
  · intro w hSw
    try dsimp only at hSw
    go_simp
    try with_reducible rfl
  try simp only [Act.put, List.setIfInBounds_toArray, List.set_cons_zero, List.set_cons_succ]
  refine takeH (i := 1) (d := some 22) (v := ?_) rfl rfl (by kernel_rfl) (by kernel_rfl) (by kernel_rfl) (fun _ _ _ h => h) (Or.inl ⟨by rfl, ?_⟩) (by assumption) ?_
  rotate_left
  · intro w hSw
    try dsimp only at hSw
    go_simp
    try with_reducible rfl
  try simp only [Act.put, List.setIfInBounds_toArray, List.set_cons_zero, List.set_cons_succ]
  refine takeH (i := 2) (d := some 23) (v := ?_) rfl rfl (by kernel_rfl) (by kernel_rfl) (by kernel_rfl) (fun _ _ _ h => h) (Or.inl ⟨by rfl, ?_⟩) (by assumption) ?_
  rotate_left
  · intro w hSw
    try dsimp only at hSw
    go_simp
    try with_reducible rfl
  try simp only [Act.put, List.setIfInBounds_toArray, List.set_cons_zero, List.set_cons_succ]
  refine takeH (i := 3) (d := some 24) (v := ?_) rfl rfl (by kernel_rfl) (by kernel_rfl) (by kernel_rfl) (fun _ _ _ h => h) (Or.inl ⟨by rfl, ?_⟩) (by assumption) ?_
  rotate_left
  · intro w hSw
    try dsimp only at hSw
    have q0_0 := hSw.1.cell 0
    have q0_1 := hSw.1.cell 1
    have q0_2 := hSw.1.cell 2
    have q0_3 := hSw.1.cell 3
    have q0_4 := hSw.1.cell 4
    simp only [List.getElem?_toArray, List.getElem?_cons_zero, List.getElem?_cons_succ] at q0_0 q0_1 q0_2 q0_3 q0_4
    go_simp
    try with_reducible rfl
  try simp only [Act.put, List.setIfInBounds_toArray, List.set_cons_zero, List.set_cons_succ]
  refine takeH (i := 4) (d := some 25) (v := ?_) rfl rfl (by kernel_rfl) (by kernel_rfl) (by kernel_rfl) (fun _ _ _ h => h) (Or.inl ⟨by rfl, ?_⟩) (by assumption) ?_
  rotate_left
  · intro w hSw
    try dsimp only at hSw
    go_simp
    try with_reducible rfl
  try simp only [Act.put, List.setIfInBounds_toArray, List.set_cons_zero, List.set_cons_succ]
  refine takeH (i := 5) (d := some 26) (v := ?_) rfl rfl (by kernel_rfl) (by kernel_rfl) (by kernel_rfl) (fun _ _ _ h => h) (Or.inl ⟨by rfl, ?_⟩) (by assumption) ?_
  rotate_left
  · intro w hSw
    try dsimp only at hSw
    have q1_0 : w.cell? ⟨_, 0, none⟩ = some (.int .i64 0) := hSw.2.1.cell 0
    go_simp
    try with_reducible rfl
  try simp only [Act.put, List.setIfInBounds_toArray, List.set_cons_zero, List.set_cons_succ]
  refine takeH (i := 6) (d := some 27) (v := ?_) rfl rfl (by kernel_rfl) (by kernel_rfl) (by kernel_rfl) (fun _ _ _ h => h) (Or.inl ⟨by rfl, ?_⟩) (by assumption) ?_
  rotate_left
  · intro w hSw
    try dsimp only at hSw
    go_simp
    try with_reducible rfl
  try simp only [Act.put, List.setIfInBounds_toArray, List.set_cons_zero, List.set_cons_succ]
  refine takeH (i := 7) (d := some 28) (v := ?_) rfl rfl (by kernel_rfl) (by kernel_rfl) (by kernel_rfl) (fun _ _ _ h => h) (Or.inl ⟨by rfl, ?_⟩) (by assumption) ?_
  rotate_left
  · intro w hSw
    try dsimp only at hSw
    go_simp
    try with_reducible rfl
  try simp only [Act.put, List.setIfInBounds_toArray, List.set_cons_zero, List.set_cons_succ]
  refine takeH (i := 8) (d := some 29) (v := ?_) rfl rfl (by kernel_rfl) (by kernel_rfl) (by kernel_rfl) (fun _ _ _ h => h) (Or.inl ⟨by rfl, ?_⟩) (by assumption) ?_
  rotate_left
  · intro w hSw
    try dsimp only at hSw
    go_simp
    try with_reducible rfl
  try simp only [Act.put, List.setIfInBounds_toArray, List.set_cons_zero, List.set_cons_succ]
  refine takeH (i := 9) (d := some 30) (v := ?_) rfl rfl (by kernel_rfl) (by kernel_rfl) (by kernel_rfl) (fun _ _ _ h => h) (Or.inl ⟨by rfl, ?_⟩) (by assumption) ?_
  rotate_left
  · intro w hSw
    try dsimp only at hSw
    have q0_0 := hSw.1.cell 0
    have q0_1 := hSw.1.cell 1
    have q0_2 := hSw.1.cell 2
    have q0_3 := hSw.1.cell 3
    have q0_4 := hSw.1.cell 4
    simp only [List.getElem?_toArray, List.getElem?_cons_zero, List.getElem?_cons_succ] at q0_0 q0_1 q0_2 q0_3 q0_4
    go_simp
    try with_reducible rfl
  try simp only [Act.put, List.setIfInBounds_toArray, List.set_cons_zero, List.set_cons_succ]
  refine takeH (i := 10) (d := some 31) (v := ?_) rfl rfl (by kernel_rfl) (by kernel_rfl) (by kernel_rfl) (fun _ _ _ h => h) (Or.inl ⟨by rfl, ?_⟩) (by assumption) ?_
  rotate_left
  · intro w hSw
    try dsimp only at hSw
    go_simp
    try with_reducible rfl
  try simp only [Act.put, List.setIfInBounds_toArray, List.set_cons_zero, List.set_cons_succ]
  refine wpAnyH_ready (rs := [11]) (by kernel_rfl) (by simp) ?_
  refine AllReadyH.cons rfl (fun K hK => ?_) AllReadyH.nil
  go_simp
  refine hK.out _ _ ?_ (fun hHeld => ?_)
  · exact ⟨hHeld.1.turns HT3.out HD.out.2.1, hHeld.2.1.turns HT3.out (fun e => by have := HL.out.2.2; omega), .inr trivial⟩
  clear hK K
  try simp only [Act.put, List.setIfInBounds_toArray, List.set_cons_zero, List.set_cons_succ]
  refine wpAnyH_done (by kernel_rfl) ?_ _
  have HTM := Lib.hid (HT2.out.drew.then HT3.out (fun _ _ e => .inr (.inr e)))
  have HQ3 := Lib.hid (HQ2.out.drew.turns HT3.out HD.out.2.1)
  have HX3 := Lib.hid (HX2.out.drew.turns HT3.out (fun e => by have := HL.out.2.2; omega))
  have HV3 := Lib.hid (HV2.out.drew.turns HT3.out HD.out.2.2)
  have HO3 := Lib.hid (HO2.out.turns ((Turns.refl (fun k => k = m) W2).drew.trans HT3.out) (fun k hk e => by have := HF1.out k hk; have := HL.out.2.2; omega))
  have HNQ := Lib.hid (show ∀ k, (Value.slice none 0 0).ownBlock = some k → k ≠ q from fun k hk => by cases hk)
  have HNX := Lib.hid (show ∀ k, (Value.slice none 0 0).ownBlock = some k → k ≠ w.heap.size from fun k hk => by cases hk)
  have HOL := Lib.hid (show ∀ k, vt.ownBlock = some k → k < W3.heap.size from fun k hk => HO3.out.lt hk)
  clear hHeld hrun
  go_upto_region 4 with fail
  refine wp_region_z (S := fun w' => Blk w' (q) 102 #[.pointer (some ⟨pm, 0, none⟩), .pointer (some ⟨tr, 0, none⟩), .slice none 0 0, .slice none 0 0, .map (some m)] ∧ Blk w' (w.heap.size) 106 #[.int .i64 0, .bool true, .pointer none, .int .i64 0, .int .i64 0, .int .i64 0, .bool false, .bool false, .int .i64 (-1)] ∧ Turns (fun k => ((Value.slice none 0 0)).ownBlock = some k) W3 w') 10 (by kernel_rfl) ?_ (fun hHeld => ?_)
  · exact ⟨HQ3.out, HX3.out, (Turns.refl _ W3).drew⟩
  refine takeZ (i := 0) (d := some 32) (v := ?_) rfl rfl (by kernel_rfl) (by kernel_rfl) (by kernel_rfl) (by kernel_rfl) (fun _ _ _ h => h) (Or.inl ⟨by rfl, ?_⟩) (by assumption) ?_
  rotate_left
  · intro w hSw
    try dsimp only at hSw
    go_simp
    try with_reducible rfl
  try simp only [Act.put, List.setIfInBounds_toArray, List.set_cons_zero, List.set_cons_succ]
  refine takeZ (i := 1) (d := some 33) (v := ?_) rfl rfl (by kernel_rfl) (by kernel_rfl) (by kernel_rfl) (by kernel_rfl) (fun _ _ _ h => h) (Or.inl ⟨by rfl, ?_⟩) (by assumption) ?_
  rotate_left
  · intro w hSw
    try dsimp only at hSw
    go_simp
    try with_reducible rfl
  try simp only [Act.put, List.setIfInBounds_toArray, List.set_cons_zero, List.set_cons_succ]
  refine takeZ (i := 2) (d := some 34) (v := ?_) rfl rfl (by kernel_rfl) (by kernel_rfl) (by kernel_rfl) (by kernel_rfl) (fun _ _ _ h => h) (Or.inl ⟨by rfl, ?_⟩) (by assumption) ?_
  rotate_left
  · intro w hSw
    try dsimp only at hSw
    go_simp
    try with_reducible rfl
  try simp only [Act.put, List.setIfInBounds_toArray, List.set_cons_zero, List.set_cons_succ]
  refine takeZ (i := 3) (d := some 35) (v := ?_) rfl rfl (by kernel_rfl) (by kernel_rfl) (by kernel_rfl) (by kernel_rfl) (fun _ _ _ h => h) (Or.inl ⟨by rfl, ?_⟩) (by assumption) ?_
  rotate_left
  · intro w hSw
    try dsimp only at hSw
    go_simp
    try with_reducible rfl
  try simp only [Act.put, List.setIfInBounds_toArray, List.set_cons_zero, List.set_cons_succ]
  refine takeZ (i := 4) (d := some 36) (v := ?_) rfl rfl (by kernel_rfl) (by kernel_rfl) (by kernel_rfl) (by kernel_rfl) (fun _ _ _ h => h) (Or.inl ⟨by rfl, ?_⟩) (by assumption) ?_
  rotate_left
  · intro w hSw
    try dsimp only at hSw
    have q0_0 := hSw.1.cell 0
    have q0_1 := hSw.1.cell 1
    have q0_2 := hSw.1.cell 2
    have q0_3 := hSw.1.cell 3
    have q0_4 := hSw.1.cell 4
    have q1_0 := hSw.2.1.cell 0
    have q1_1 := hSw.2.1.cell 1
    have q1_2 := hSw.2.1.cell 2
    have q1_3 := hSw.2.1.cell 3
    have q1_4 := hSw.2.1.cell 4
    have q1_5 := hSw.2.1.cell 5
    have q1_6 := hSw.2.1.cell 6
    have q1_7 := hSw.2.1.cell 7
    have q1_8 := hSw.2.1.cell 8
    simp only [List.getElem?_toArray, List.getElem?_cons_zero, List.getElem?_cons_succ] at q0_0 q0_1 q0_2 q0_3 q0_4 q1_0 q1_1 q1_2 q1_3 q1_4 q1_5 q1_6 q1_7 q1_8
    go_simp
    try with_reducible rfl
  try simp only [Act.put, List.setIfInBounds_toArray, List.set_cons_zero, List.set_cons_succ]
  refine takeZ (i := 5) (d := some 37) (v := ?_) rfl rfl (by kernel_rfl) (by kernel_rfl) (by kernel_rfl) (by kernel_rfl) (fun _ _ _ h => h) (Or.inl ⟨by rfl, ?_⟩) (by assumption) ?_
  rotate_left
  · intro w hSw
    try dsimp only at hSw
    refine exec_load_row (P := Tryz.prog) (x := .tmp 4) ?_ ?_ hSw.2.1 Tryz.underlying106 ?_ Tryz.sizeCx <;> rfl
  try simp only [Act.put, List.setIfInBounds_toArray, List.set_cons_zero, List.set_cons_succ]
  refine wpAnyZ_ready (rs := [6]) (by kernel_rfl) (by simp) ?_
  refine AllReadyZ.cons rfl (fun K hK => ?_) AllReadyZ.nil
  refine step_single rfl _ (.tmp 37) (by rfl) i0 _ Tryz.underlying99 hi0 hz0 (by rw [hz1]; decide) (by rw [hz1]; decide) #[.int .i64 0, .bool true, .pointer none, .int .i64 0, .int .i64 0, .int .i64 0, .bool false, .bool false, .int .i64 (-1)] (by rfl) (fillCx hz1 _ _ _ _ _ _ _ _ _) ?_
  intro bX wX hTX hBX hLX
  refine hK.out _ _ ?_ (fun hHeld => ?_)
  · exact ⟨hHeld.1.turns hTX (fun h => h), hHeld.2.1.turns hTX (fun h => h), (hHeld.2.2).trans (hTX.mono (fun _ _ h => h.elim))⟩
  clear hK K
  try simp only [Act.put, List.setIfInBounds_toArray, List.set_cons_zero, List.set_cons_succ]
  refine wpAnyZ_ready (rs := [7]) (by kernel_rfl) (by simp) ?_
  refine AllReadyZ.cons rfl (fun K hK => ?_) AllReadyZ.nil
  refine step_push rfl _ _ _ (by rfl) i0 _ 64 Tryz.underlying99 hi0 hz0 hz1 hz2 rfl (by omega) cxC_len cxC_one (by rfl) (((Owns.nil (enc := cxC) (w := W3.drew))).turns hTX (fun _ _ h => h)) (⟨0, true, none, 0, 0, 0, false, false, -1⟩) (by rfl) hBX (by simp) (by omega) ?_
  intro v2 w2 hO2 hT2 hV2
  obtain ⟨a3, c3, rfl⟩ := owns_slice hO2
  refine hK.out _ _ ?_ (fun hHeld => ?_)
  · exact ⟨hHeld.1.turns hT2 (fun e => HNQ.out _ e rfl), hHeld.2.1.turns hT2 (fun e => HNX.out _ e rfl), (hHeld.2.2).trans hT2⟩
  clear hK K
  try simp only [Act.put, List.setIfInBounds_toArray, List.set_cons_zero, List.set_cons_succ]
  refine wpAnyZ_ready (rs := [8]) (by kernel_rfl) (by simp) ?_
  refine AllReadyZ.cons rfl (fun K hK => ?_) AllReadyZ.nil
  go_simp
  refine hK.out _ _ hHeld (fun hHeld => ?_)
  clear hK K
  try simp only [Act.put, List.setIfInBounds_toArray, List.set_cons_zero, List.set_cons_succ]
  refine takeZ (i := 9) (d := some 41) (v := ?_) rfl rfl (by kernel_rfl) (by kernel_rfl) (by kernel_rfl) (by kernel_rfl) (fun _ _ _ h => h) (Or.inl ⟨by rfl, ?_⟩) (by assumption) ?_
  rotate_left
  · intro w hSw
    try dsimp only at hSw
    go_simp
    try with_reducible rfl
  try simp only [Act.put, List.setIfInBounds_toArray, List.set_cons_zero, List.set_cons_succ]
  refine wpAnyZ_ready (rs := [10]) (by kernel_rfl) (by simp) ?_
  refine AllReadyZ.last rfl (fun K hK => ?_) AllReadyZ.nil
  have qz0 := hHeld.1.cell 2
  have qf := hHeld.1.free 2
  simp only [List.getElem?_toArray, List.getElem?_cons_zero, List.getElem?_cons_succ] at qz0
  go_simp
  refine hK.out _ _ ?_
  clear hK K
  try simp only [Act.put, List.setIfInBounds_toArray, List.set_cons_zero, List.set_cons_succ]
  refine wpAnyZ_done (by kernel_rfl) ?_ _
  simp only [List.nil_append, List.length_cons, List.length_nil, Nat.zero_add] at hO2 hT2 hV2
  have hvl : ∀ k, (Value.slice a3 1 c3).ownBlock = some k → W3.heap.size ≤ k := fun k hk => by
    rcases hV2 k hk with h1 | h1
    · cases h1
    · exact Nat.le_trans hTX.size h1
  have htt := (hTX.mono (S' := fun k => k = q ∨ k = tr ∨ k = m) (fun _ _ h => h.elim)).then hT2 (fun _ _ e => by cases e)
  have hS3 : W3.drew.heap.size = W3.heap.size := rfl
  have hs0 := HTM.out.size
  have HTF := Lib.hid ((HTM.out.drew.trans htt).setCell (p := ⟨q, 2, none⟩) (fun _ => .inl rfl) (.slice a3 1 c3))
  have h4 := hHeld.1.put 2 (.slice a3 1 c3)
  simp only [List.setIfInBounds_toArray, List.set_cons_zero, List.set_cons_succ] at h4
  have HQ4 := Lib.hid h4
  have HVL := Lib.hid hvl
  have hql := HL.out
  have HO4 := Lib.hid (hO2.turns (set1 w2 q 2 (.slice a3 1 c3)) (fun k hk e => by have := hvl k hk; omega))
  have htq : Turns (fun k => k = q) W3.drew (w2.setCell ⟨q, 2, none⟩ (.slice a3 1 c3)) := ((hTX.mono (fun _ _ h => h.elim)).then hT2 (fun _ _ e => by cases e)).trans (set1 w2 q 2 _)
  have HV4 := Lib.hid (HV3.out.drew.turns htq (fun e => HD.out.1 e.symm))
  have HM4 := Lib.hid ((HM3.out.turns (Turns.refl (fun _ => False) W3).drew (fun h => h)).turns htq (fun e => HD.out.2.1 e.symm))
  have HO5 := Lib.hid ((HO3.out.turns (Turns.refl (fun _ => False) W3).drew (fun _ _ h => h)).turns htq (fun k hk e => by have := HF1.out k hk; omega))
  clear hHeld hO2 hT2 hV2 hTX hBX hLX htt htq hvl
  generalize w2.setCell ⟨q, 2, none⟩ (.slice a3 1 c3) = W4 at *
  have r2 := h4.cell 2
  simp only [List.getElem?_toArray, List.getElem?_cons_zero, List.getElem?_cons_succ] at r2
  clear h4
  go_wp2_with fail
  go_ret
  refine ⟨rfl, vt, _, HV4.out, HO5.out, HQ4.out, HO4.out, ?_, fun k hk => by have := HF1.out k hk; omega, fun k hk => by have := HVL.out k hk; omega, fun k hk e => ?_, HTF.out⟩
  · have h9 := HM4.out
    refine cast (congrArg (MapI W4 m) (funext fun j => ?_)) h9
    by_cases hj : j = 0 <;> simp [hj]
  · have h1 := HVL.out k hk
    have h2 := HOL.out k e
    omega
set_option maxHeartbeats 400000 in
theorem ctxnew_c (w : World) (pm : Nat) : Calls Tryz.prog 20 #[.pointer (some ⟨pm, 0, none⟩)] w fun e w' => ∃ q tr m w0, e = .returned (.pointer (some ⟨q, 0, none⟩)) ∧ Bg w0 w' q pm tr m ∧ Made w w0 ∧ Made w w' ∧ (w.heap.size ≤ tr ∧ tr < m ∧ m < q ∧ q < w0.heap.size) := by
  have HT := Lib.hid (trnew_c w)
  have hmk := @run_makeMap Tryz.prog
  go_enter Tryz.func20, Tryz.ntmps20
  go_wp2_with fail
  refine HT.out.mono ?_
  rintro e w1 ⟨tr, rfl, hb1, hm1, hl1⟩
  have hm := MapI.new w1
  have hmm := hm.alloc (.cells #[.pointer (some ⟨pm, 0, none⟩), .pointer (some ⟨tr, 0, none⟩), .slice none 0 0, .slice none 0 0, .map (some w1.heap.size)] 102)
  have hq := Blk.new (w1.alloc (.map #[] 0)) 102 #[.pointer (some ⟨pm, 0, none⟩), .pointer (some ⟨tr, 0, none⟩), .slice none 0 0, .slice none 0 0, .map (some w1.heap.size)]
  have hs : (w1.alloc (.map #[] 0)).heap.size = w1.heap.size + 1 := by simp
  rw [hs] at hq
  have ht := (hb1.alloc (.map #[] 0)).alloc (.cells #[.pointer (some ⟨pm, 0, none⟩), .pointer (some ⟨tr, 0, none⟩), .slice none 0 0, .slice none 0 0, .map (some w1.heap.size)] 102)
  have hlt := hb1.lt
  have hmd : Made w ((w1.alloc (.map #[] 0)).alloc (.cells #[.pointer (some ⟨pm, 0, none⟩), .pointer (some ⟨tr, 0, none⟩), .slice none 0 0, .slice none 0 0, .map (some w1.heap.size)] 102)) := (hm1.alloc _).alloc _
  have HAD := Lib.hid (cxadd_0 hq ht hmm ⟨by omega, by omega, by omega⟩)
  have HMD := Lib.hid hmd
  have HL := Lib.hid (And.intro hl1 (And.intro hlt hq.lt))
  clear hm hmm hq ht hmd hb1 hm1
  go_wp2_with fail
  refine HAD.out.mono ?_
  rintro e w2 ⟨rfl, hbg⟩
  have HBG := Lib.hid hbg
  clear hbg
  go_wp2_with fail
  go_ret
  have h1 := HL.out
  refine ⟨w1.heap.size + 1, tr, w1.heap.size, _, by simp, HBG.out, HMD.out, ?_, by omega, by omega, by omega, h1.2.2⟩
  obtain ⟨vt, vl, _, _, _, _, _, _, _, _, htt⟩ := HBG.out
  have h2 : w.heap.size ≤ w1.heap.size := by omega
  exact HMD.out.then htt (fun k hk e => by rcases e with rfl | rfl | rfl <;> omega)
end Go.Proofs.YtjnkphhlkoapbaaGreat
namespace Go.Proofs.YtjnkphhlkoapbaaGreat
open Go.RowKit
set_option linter.unusedVariables false
set_option linter.unusedSimpArgs false
theorem insC_len (x : Ins) : (insC x).length = 6 := rfl
theorem Tryz.infoIns6 : (Tryz.prog.info? 25).map (fun i => (i.zero, i.size, i.bytes)) = some (some (.agg #[.int .i64 0, .int .i64 0, .int .i64 0, .int .i64 0, .slice none 0 0, .bool false]), 6, 64) := by kernel_rfl
theorem clone_ins {a : Option Addr} {cap : Nat} {xs : List Ins} (w : World) (h : RowIn insC 6 w a xs.length xs) (hn : xs.length ≤ 1000000) (hcap : a = none → cap = 0) :
    Calls Tryz.prog 38 #[.slice a xs.length cap] w fun e w' => ∃ v', e = .returned v' ∧ Owns insC 25 6 w' v' xs ∧ Made w w' ∧ (∀ k, v'.ownBlock = some k → w.heap.size ≤ k) := by
  cases a with
  | none =>
    obtain rfl : cap = 0 := hcap rfl
    have h0 : xs = [] := by
      rcases h.2 with h1 | ⟨b, off, e, _⟩
      · exact List.length_eq_zero_iff.1 (by omega)
      · cases e
    subst h0
    have hnil := Lib.run_eql_slice_nil (P := Tryz.prog)
    go_enter Tryz.func38, Tryz.ntmps38
    go_wp2
    go_ret
    exact ⟨_, rfl, Owns.nil, Turns.refl _ _, fun k hk => by simp [Value.ownBlock] at hk⟩
  | some ad =>
    have HR := Lib.hid (show ∀ j u, (flat insC xs)[j]? = some u → (w.alloc (.cells #[] 25)).cell? (ad.add j) = some u from fun j u hu => by
      rcases h.2 with h1 | ⟨b, off, e, hb, hl⟩
      · have h0 : xs = [] := List.length_eq_zero_iff.1 (by omega)
        subst h0
        simp [flat] at hu
      · cases e
        have hj : j < xs.length * 6 := by
          have := (List.getElem?_eq_some_iff.1 hu).1
          rwa [flat_length insC_len] at this
        have hd := Nat.div_add_mod j 6
        have hq : j / 6 < xs.length := Nat.div_lt_of_lt_mul (by omega)
        have hx : xs[j / 6]? = some (xs[j / 6]) := List.getElem?_eq_getElem hq
        have hm : j % 6 < (insC xs[j / 6]).length := by rw [insC_len]; exact Nat.mod_lt _ (by omega)
        have hv := List.getElem?_eq_getElem hm
        have e1 := hl _ _ hx _ _ hv
        have e2 := flat_get insC_len hx hv
        have e3 : j / 6 * 6 + j % 6 = j := by omega
        rw [e3, hu] at e2
        cases e2
        rw [Nat.add_assoc, e3] at e1
        have e4 := ((Below.refl w.heap.size w).alloc (Nat.le_refl _) (.cells #[] 25)).cell (p := ⟨b, off + j, none⟩) hb
        rw [Addr.add_lit]
        exact e4.trans e1)
    obtain ⟨i0, hi0, hz0, hz1, hz2⟩ := info_parts Tryz.infoIns6
    have hnil := Lib.run_eql_slice_nil (P := Tryz.prog)
    clear h
    go_enter Tryz.func38, Tryz.ntmps38
    go_wp2_with (at_builtin; refine wpList_append_own _ rfl (.tmp 5) (.tmp 6) 26 rfl w.heap.size 25 i0 _ 6 64 Tryz.underlying26 hi0 hz0 hz1 hz2 rfl (by omega) _ 0 [] rfl ?own ad xs.length cap (flat insC xs) rfl ?len ?cells ?one ?b1 ?b2 ?b3 ?_)
    case own => exact World.ownsRow_made w #[] 0 (Nat.le_refl _) (Nat.zero_le _) rfl
    case len => exact flat_length insC_len xs
    case cells => exact HR.out
    case one =>
      intro u hu
      unfold flat at hu
      obtain ⟨y, _, hy⟩ := List.mem_flatMap.1 hu
      exact insC_one y u hy
    case b1 => unfold maxLen; omega
    case b2 => omega
    case b3 => simp
    intro v' w1 hown hgrow _
    have HOW := Lib.hid hown
    have HGR := Lib.hid hgrow
    clear hown hgrow
    go_wp2
    go_ret
    refine ⟨v', rfl, ?_, ?_, ?_⟩
    · unfold Owns; simpa using owns_zero HOW.out
    · exact ((Turns.refl _ _).alloc _).grown HGR.out (fun k hk hlt => by simp [Value.ownBlock] at hk; omega)
    · exact fun k hk => (World.ownsRow.lt HOW.out k hk).1
set_option maxHeartbeats 1000000 in
theorem own_c {a : Option Addr} {cap : Nat} {p : List Ins} (w : World) (h : RowIn insC 6 w a p.length p) (hn : p.length ≤ 100) (hcap : a = none → cap = 0) :
    Calls Tryz.prog 21 #[.slice a p.length cap] w fun e w' => ∃ v', e = .returned v' ∧ Grow insC 25 6 w w' v' p := by
  have HC := Lib.hid (clone_ins (cap := cap) w h (by omega) hcap)
  have HN := Lib.hid hn
  clear h hn hcap
  go_enter Tryz.func21, Tryz.ntmps21
  go_wp2_with fail
  refine HC.out.mono ?_
  rintro e w1 ⟨v1, rfl, h1, h2, h3⟩
  have HG := Lib.hid (show Grow insC 25 6 w w1 v1 p from ⟨h2, h1, h3⟩)
  obtain ⟨a1, c1, rfl⟩ := owns_slice h1
  clear h1 h2 h3
  go_wp2_with fail
  go_loopw [8] (fun v8 wr => ∃ k : Nat, k ≤ p.length ∧ v8 = .int .i64 k ∧ Grow insC 25 6 w wr (.slice a1 p.length c1) p) (fun v8 _ => p.length - (intOf v8).toNat)
  case atStart => exact ⟨0, Nat.zero_le _, rfl, HG.out⟩
  case round =>
    obtain ⟨k0, hk, rfl, hg⟩ := hrel
    by_cases hlt : k0 < p.length
    · obtain ⟨x, hxk⟩ := get_of_lt (xs := p) (k := k0) hlt
      obtain ⟨g, cg, hv1, hgl, -⟩ : ∃ g cg, (Value.slice a1 p.length c1) = .slice (some ⟨g, 0, none⟩) p.length cg ∧ g < wr.heap.size ∧ True := by
        rcases hg.own.form with ⟨_, h0⟩ | ⟨g, cg, e, hgl, _⟩
        · subst h0; cases hxk
        · exact ⟨g, cg, e, hgl, trivial⟩
      cases hv1
      have HGR := Lib.hid hg
      have HXK := Lib.hid hxk
      have c4 := Owns.cell insC_len hg.own hxk (j := 4) (u := .slice none 0 0) rfl
      have f4 := Owns.free hg.own (k0 * 6 + 4)
      have hn := HN.out
      have i1 : (0 : Int) ≤ (k0 : Int) := by omega
      have i2 : (k0 : Int) < (p.length : Int) := by omega
      clear hg hxk
      go_wp2_with fail
      refine (noCases_c _).mono ?_
      rintro e w2 ⟨rfl, rfl⟩
      go_wp2_with fail
      have HE := Lib.hid (HGR.out.put insC_len (j := 4) (u := .slice none 0 0) HXK.out (x' := x) rfl (by omega))
      rw [set_same HXK.out] at HE
      go_roundw
      case rel => exact ⟨k0 + 1, by omega, by go_num, HE.out⟩
      case measure => simp [intOf]; omega
    · have hk2 : k0 = p.length := by omega
      subst hk2
      have HE := Lib.hid hg
      clear hg
      go_wp2_with fail
      go_ret
      exact ⟨_, rfl, HE.out⟩
end Go.Proofs.YtjnkphhlkoapbaaGreat
namespace Go.Proofs.YtjnkphhlkoapbaaGreat
open Go.RowKit
set_option linter.unusedVariables false
set_option linter.unusedSimpArgs false
def prC (r : Option Addr × Nat × Nat) : List Value := [.slice r.1 r.2.1 r.2.2]
theorem prC_len (r : Option Addr × Nat × Nat) : (prC r).length = 1 := rfl
theorem prC_one (r : Option Addr × Nat × Nat) : ∀ u ∈ prC r, u.oneCell' = true := by
  intro u hu
  simp only [prC, List.mem_cons, List.not_mem_nil, or_false] at hu
  subst hu
  rfl
theorem Tryz.infoPr : (Tryz.prog.info? 26).map (fun i => (i.zero, i.size, i.bytes)) = some (some (.slice none 0 0), 1, 24) := by kernel_rfl
theorem clknew_c (w : World) : Calls Tryz.prog 16 #[] w fun e w' => ∃ p, e = .returned (.pointer (some ⟨p, 0, none⟩)) ∧ Blk w' p 80 #[.int .i64 0] ∧ Made w w' ∧ w.heap.size ≤ p := by
  have HB := Lib.hid (Blk.new w 80 #[.int .i64 0])
  have HM := Lib.hid ((Turns.refl (fun _ => False) w).alloc (.cells #[.int .i64 0] 80))
  go_enter Tryz.func16, Tryz.ntmps16
  go_wp2_with fail
  go_ret
  exact ⟨w.heap.size, by simp, HB.out, HM.out, Nat.le_refl _⟩
structure PrAt (wr : World) (lo : Nat) (ps : List (List Ins)) (vp : Value) (rows : List (Option Addr × Nat × Nat)) : Prop where
  own : Owns prC 26 1 wr vp rows
  far : ∀ j, vp.ownBlock = some j → lo ≤ j
  row : ∀ (i : Nat) (r : Option Addr × Nat × Nat) (p : List Ins), rows[i]? = some r → ps[i]? = some p → r.2.1 = p.length ∧ RowIn insC 6 wr r.1 p.length p ∧ ∀ b off, r.1 = some ⟨b, off, none⟩ → lo ≤ b ∧ b < wr.heap.size ∧ vp.ownBlock ≠ some b
theorem PrAt.turns {S : Nat → Prop} {w w' : World} {lo : Nat} {ps : List (List Ins)} {vp : Value} {rows : List (Option Addr × Nat × Nat)} (h : PrAt w lo ps vp rows) (ht : Turns S w w') (hn : ∀ k, lo ≤ k → k < w.heap.size → ¬ S k) : PrAt w' lo ps vp rows :=
  ⟨h.own.turns ht (fun k hk => hn k (h.far k hk) (h.own.lt hk)), h.far, fun i r p hr hp => by
    obtain ⟨h1, h2, h3⟩ := h.row i r p hr hp
    exact ⟨h1, h2.turns ht (fun b off e => hn b (h3 b off e).1 (h3 b off e).2.1), fun b off e => ⟨(h3 b off e).1, Nat.lt_of_lt_of_le (h3 b off e).2.1 ht.size, (h3 b off e).2.2⟩⟩⟩
open Classical in
theorem six_labels {F2 F3 F4 G : Nat → Prop} {pb pk : Nat} (h12 : pb ≠ pk) (h13 : ¬ F2 pb) (h14 : ¬ F3 pb) (h15 : ¬ F4 pb) (h17 : ¬ G pb) (h23 : ¬ F2 pk) (h24 : ¬ F3 pk) (h25 : ¬ F4 pk) (h27 : ¬ G pk) (h34 : ∀ k, F3 k → ¬ F2 k) (h35 : ∀ k, F4 k → ¬ F2 k) (h37 : ∀ k, G k → ¬ F2 k) (h45 : ∀ k, F4 k → ¬ F3 k) (h47 : ∀ k, G k → ¬ F3 k) (h57 : ∀ k, G k → ¬ F4 k) :
    ∃ o : Nat → Nat, o pb = 1 ∧ o pk = 2 ∧ (fun k => o k = 3) = F2 ∧ (fun k => o k = 4) = F3 ∧ (fun k => o k = 5) = F4 ∧ (∀ k, o k = 7 ↔ G k) ∧ (∀ k, o k ≠ 0 → k = pb ∨ k = pk ∨ F2 k ∨ F3 k ∨ F4 k ∨ G k) ∧ ∀ k, o k ≤ 7 := by
  refine ⟨fun k => if k = pb then 1 else if k = pk then 2 else if F2 k then 3 else if F3 k then 4 else if F4 k then 5 else if G k then 7 else 0, ?_, ?_, ?_, ?_, ?_, ?_, ?_, ?_⟩
  · simp
  · simp; grind
  · funext k; grind
  · funext k; grind
  · funext k; grind
  · intro k; grind
  · intro k; grind
  · intro k; grind
def NRel (w5 : World) (pb pk pt pm pd px : Nat) (ps : List (List Ins)) (k : Nat) (wr : World) : Prop := ∃ vp rows, Blk wr pb 65 #[vp, .pointer (some ⟨pk, 0, none⟩), .pointer (some ⟨pt, 0, none⟩), .slice none 0 0, .int .i64 0, .pointer (some ⟨pm, 0, none⟩), .pointer (some ⟨px, 0, none⟩), .pointer (some ⟨pd, 0, none⟩), .slice none 0 0, .int .i64 0, .slice none 0 0] ∧ rows.length = k ∧ PrAt wr w5.heap.size ps vp rows ∧ Turns (fun k => k = pb) w5 wr
def CX0 : World → (Nat → Prop) → Prop := fun _ _ => True
theorem CX0.ext : Ext CX0 := ⟨fun _ _ _ _ _ _ _ => trivial⟩
def initS : Wst := ⟨0, [⟨0, 0, 0, 0, ⟨0, 0, 0, 0, 0, 0, 0, 0⟩, ⟨0, 0, 0, 0⟩⟩], [0], [], 0, [], 0, [], 0, 0, 0, 0, []⟩
set_option maxRecDepth 100000 in
set_option maxHeartbeats 4000000 in
theorem worldnew_c {ps : List (List Ins)} {b off cap : Nat} (w : World) (hp : ProgsC ps) (hne : ∀ p ∈ ps, 1 ≤ p.length) (h : RowsIn w b off ps) :
    Calls Tryz.prog 8 #[.slice (some ⟨b, off, none⟩) ps.length cap] w fun e w' => ∃ wp o, e = .returned (.tuple #[.pointer (some ⟨wp.pb, 0, none⟩), .int .i64 0]) ∧ WA CX0 w' wp o ps initS ∧ Made w w' ∧ (∀ k, Own o k → w.heap.size ≤ k) := by
  have HP := Lib.hid (And.intro hp hne)
  have HR := Lib.hid h
  have HAL := Lib.hid (all_c (cap := cap) w hp h)
  obtain ⟨i0, hi0, hz0, hz1, hz2⟩ := info_parts Tryz.infoPr
  clear hp h hne
  go_enter Tryz.func8, Tryz.ntmps8
  go_wp2_with fail
  refine HAL.out.mono ?_
  rintro e w0 ⟨rfl, hm0⟩
  have HM0 := Lib.hid hm0
  clear hm0
  go_wp2_with fail
  refine (clknew_c w0).mono ?_
  rintro e w1 ⟨pk, rfl, hk1, hm1, hl1⟩
  have HK1 := Lib.hid (And.intro hk1 (And.intro hm1 hl1))
  clear hk1 hm1 hl1
  go_wp2_with fail
  refine (tabnew_c w1).mono ?_
  rintro e w2 ⟨pt, F2, rfl, hk1, hm1, hl1⟩
  have HK2 := Lib.hid (And.intro hk1 (And.intro hm1 hl1))
  clear hk1 hm1 hl1
  go_wp2_with fail
  refine (tsnew_c w2).mono ?_
  rintro e w3 ⟨pm, F3, rfl, hk1, hm1, hl1⟩
  have HK3 := Lib.hid (And.intro hk1 (And.intro hm1 hl1))
  clear hk1 hm1 hl1
  go_wp2_with fail
  refine (dlnew_c w3).mono ?_
  rintro e w4 ⟨pd, F4, rfl, hk1, hm1, hl1⟩
  have HK4 := Lib.hid (And.intro hk1 (And.intro hm1 hl1))
  clear hk1 hm1 hl1
  have hb5 := Blk.new w4 65 #[.slice none 0 0, .pointer (some ⟨pk, 0, none⟩), .pointer (some ⟨pt, 0, none⟩), .slice none 0 0, .int .i64 0, .pointer (some ⟨pm, 0, none⟩), .pointer none, .pointer (some ⟨pd, 0, none⟩), .slice none 0 0, .int .i64 0, .slice none 0 0]
  have q5 := hb5.cell 5
  simp only [List.getElem?_toArray, List.getElem?_cons_zero, List.getElem?_cons_succ] at q5
  have HB5 := Lib.hid hb5
  have HM5 := Lib.hid ((Turns.refl (fun _ => False) w4).alloc (.cells #[.slice none 0 0, .pointer (some ⟨pk, 0, none⟩), .pointer (some ⟨pt, 0, none⟩), .slice none 0 0, .int .i64 0, .pointer (some ⟨pm, 0, none⟩), .pointer none, .pointer (some ⟨pd, 0, none⟩), .slice none 0 0, .int .i64 0, .slice none 0 0] 65))
  have HL5 := Lib.hid (show (w4.alloc (.cells #[.slice none 0 0, .pointer (some ⟨pk, 0, none⟩), .pointer (some ⟨pt, 0, none⟩), .slice none 0 0, .int .i64 0, .pointer (some ⟨pm, 0, none⟩), .pointer none, .pointer (some ⟨pd, 0, none⟩), .slice none 0 0, .int .i64 0, .slice none 0 0] 65)).heap.size = w4.heap.size + 1 from by simp)
  clear hb5
  go_upto_region 5 with fail
  generalize w4.alloc (.cells #[.slice none 0 0, .pointer (some ⟨pk, 0, none⟩), .pointer (some ⟨pt, 0, none⟩), .slice none 0 0, .int .i64 0, .pointer (some ⟨pm, 0, none⟩), .pointer none, .pointer (some ⟨pd, 0, none⟩), .slice none 0 0, .int .i64 0, .slice none 0 0] 65) = w5 at *
  go_wp2_with fail
  refine (ctxnew_c w5 pm).mono ?_
  rintro e w6 ⟨px, ptr, pmm, w06, rfl, hbg, -, hm6, hl6⟩
  have HK6 := Lib.hid (And.intro hm6 hl6)
  have HB6 := Lib.hid (HB5.out.turns hm6 (fun h => h))
  have q6 := HB6.out.cell 6
  have f6 := HB6.out.free 6
  simp only [List.getElem?_toArray, List.getElem?_cons_zero, List.getElem?_cons_succ] at q6
  clear hbg hm6 hl6 q5
  go_upto_region 6 with fail
  have HB7 : Hid (Blk (w6.setCell ⟨w4.heap.size, 6, none⟩ (.pointer (some ⟨px, 0, none⟩))) w4.heap.size 65 #[.slice none 0 0, .pointer (some ⟨pk, 0, none⟩), .pointer (some ⟨pt, 0, none⟩), .slice none 0 0, .int .i64 0, .pointer (some ⟨pm, 0, none⟩), .pointer (some ⟨px, 0, none⟩), .pointer (some ⟨pd, 0, none⟩), .slice none 0 0, .int .i64 0, .slice none 0 0]) := Lib.hid (by simpa using HB6.out.put 6 (.pointer (some ⟨px, 0, none⟩)))
  have HT7 := Lib.hid ((HK6.out.1.mono (S' := fun k => k = w4.heap.size) (fun _ _ h => h.elim)).trans (set1 w6 w4.heap.size 6 (.pointer (some ⟨px, 0, none⟩))))
  clear q6 f6
  generalize w6.setCell ⟨w4.heap.size, 6, none⟩ (.pointer (some ⟨px, 0, none⟩)) = w7 at *
  have HM7 := Lib.hid (show Made w w7 from by
    have hA := ((((HM0.out.trans HK1.out.2.1).trans HK2.out.2.1).trans HK3.out.2.1).trans HK4.out.2.1)
    have hB := hA.trans HM5.out
    have hs := hA.size
    exact hB.then HT7.out (fun k hk e => by omega))
  have HRL := Lib.hid (show NRel w5 w4.heap.size pk pt pm pd px ps 0 w7 from ⟨_, [], HB7.out, rfl, ⟨Owns.nil, fun j hj => (by cases hj), fun i r p hr _ => (by simp at hr)⟩, HT7.out⟩)
  have HLW : Hid (w.heap.size ≤ w4.heap.size) := Lib.hid ((((HM0.out.trans HK1.out.2.1).trans HK2.out.2.1).trans HK3.out.2.1).trans HK4.out.2.1).size
  clear HB7 HT7
  go_wp2_with fail
  go_loopw [29] (fun v29 wr => ∃ k : Nat, k ≤ ps.length ∧ v29 = .int .i64 k ∧ NRel w5 w4.heap.size pk pt pm pd px ps k wr) (fun v29 _ => ps.length - (intOf v29).toNat)
  case atStart => exact ⟨0, Nat.zero_le _, rfl, HRL.out⟩
  case round =>
    obtain ⟨k0, hk, rfl, hg⟩ := hrel
    by_cases hlt : k0 < ps.length
    · obtain ⟨p, hpk⟩ := get_of_lt (xs := ps) (k := k0) hlt
      obtain ⟨vp, rows, hbp, hrl, hpr, htr⟩ := hg
      have hmw : Made w wr := (HM0.out.trans (((HK1.out.2.1.trans HK2.out.2.1).trans HK3.out.2.1).trans HK4.out.2.1)).trans HM5.out |>.then htr (fun k hk e => by have := HLW.out; omega)
      obtain ⟨ap, cp, hcp, hrow⟩ := HR.out.row k0 p hpk
      have hcell : wr.cell? ⟨b, off + k0, none⟩ = some (.slice ap p.length cp) := (hmw.cell (p := ⟨b, off + k0, none⟩) HR.out.lt (fun h => h)).trans hcp
      have HB := Lib.hid hbp
      have HPR := Lib.hid hpr
      have HTR := Lib.hid htr
      have HMW := Lib.hid hmw
      have HRLN := Lib.hid hrl
      have HPK := Lib.hid hpk
      have HPS := Lib.hid (And.intro (HP.out.1.len p (List.mem_of_getElem? hpk)) (And.intro (HP.out.2 p (List.mem_of_getElem? hpk)) HP.out.1.le))
      have HRW := Lib.hid (hrow.turns hmw (fun _ _ _ h => h))
      have HOW := Lib.hid (fun ww (hh : Made wr ww) => own_c (cap := cp) ww (HRW.out.turns hh (fun _ _ _ h => h)) HPS.out.1 (fun e => by
        have h1 := HPS.out.2.1
        rcases HRW.out.2 with h2 | ⟨b2, o2, e2, _⟩
        · omega
        · rw [e] at e2; cases e2))
      have hps := HP.out.1.le
      have i1 : (0 : Int) ≤ (k0 : Int) := by omega
      have i2 : (k0 : Int) < (ps.length : Int) := by omega
      clear hbp hpr htr hmw hcp hrow hpk hrl
      have HNP := Lib.hid (show ∀ k, vp.ownBlock = some k → k ≠ w4.heap.size from fun k hk e => by have h1 := HPR.out.far k hk; have h2 := HL5.out; omega)
      go_upto_region 9 with fail
      refine wp_region_z (S := fun w' => Blk w' (w4.heap.size) 65 #[vp, .pointer (some ⟨pk, 0, none⟩), .pointer (some ⟨pt, 0, none⟩), .slice none 0 0, .int .i64 0, .pointer (some ⟨pm, 0, none⟩), .pointer (some ⟨px, 0, none⟩), .pointer (some ⟨pd, 0, none⟩), .slice none 0 0, .int .i64 0, .slice none 0 0] ∧ Turns (fun k => vp.ownBlock = some k) wr w') 11 (by kernel_rfl) ?_ (fun hHeld => ?_)
      · exact ⟨HB.out, (Turns.refl _ wr).drew⟩
      refine takeZ (i := 0) (d := some 33) (v := ?_) rfl rfl (by kernel_rfl) (by kernel_rfl) (by kernel_rfl) (by kernel_rfl) (fun _ _ _ h => h) (Or.inl ⟨by rfl, ?_⟩) (by assumption) ?_
      rotate_left
      · intro w hSw
        try dsimp only at hSw
        go_simp
        try with_reducible rfl
      try simp only [Act.put, List.setIfInBounds_toArray, List.set_cons_zero, List.set_cons_succ]
      refine takeZ (i := 1) (d := some 34) (v := ?_) rfl rfl (by kernel_rfl) (by kernel_rfl) (by kernel_rfl) (by kernel_rfl) (fun _ _ _ h => h) (Or.inl ⟨by rfl, ?_⟩) (by assumption) ?_
      rotate_left
      · intro w hSw
        try dsimp only at hSw
        go_simp
        try with_reducible rfl
      try simp only [Act.put, List.setIfInBounds_toArray, List.set_cons_zero, List.set_cons_succ]
      refine takeZ (i := 2) (d := some 35) (v := ?_) rfl rfl (by kernel_rfl) (by kernel_rfl) (by kernel_rfl) (by kernel_rfl) (fun _ _ _ h => h) (Or.inl ⟨by rfl, ?_⟩) (by assumption) ?_
      rotate_left
      · intro w hSw
        try dsimp only at hSw
        go_simp
        try with_reducible rfl
      try simp only [Act.put, List.setIfInBounds_toArray, List.set_cons_zero, List.set_cons_succ]
      refine takeZ (i := 3) (d := some 36) (v := ?_) rfl rfl (by kernel_rfl) (by kernel_rfl) (by kernel_rfl) (by kernel_rfl) (fun _ _ _ h => h) (Or.inl ⟨by rfl, ?_⟩) (by assumption) ?_
      rotate_left
      · intro w hSw
        try dsimp only at hSw
        go_simp
        try with_reducible rfl
      try simp only [Act.put, List.setIfInBounds_toArray, List.set_cons_zero, List.set_cons_succ]
      refine takeZ (i := 4) (d := some 37) (v := ?_) rfl rfl (by kernel_rfl) (by kernel_rfl) (by kernel_rfl) (by kernel_rfl) (fun _ _ _ h => h) (Or.inl ⟨by rfl, ?_⟩) (by assumption) ?_
      rotate_left
      · intro w hSw
        try dsimp only at hSw
        have q0_0 := hSw.1.cell 0
        simp only [List.getElem?_toArray, List.getElem?_cons_zero, List.getElem?_cons_succ] at q0_0
        go_simp
        try with_reducible rfl
      try simp only [Act.put, List.setIfInBounds_toArray, List.set_cons_zero, List.set_cons_succ]
      refine takeZ (i := 5) (d := some 38) (v := ?_) rfl rfl (by kernel_rfl) (by kernel_rfl) (by kernel_rfl) (by kernel_rfl) (fun _ _ _ h => h) (Or.inl ⟨by rfl, ?_⟩) (by assumption) ?_
      rotate_left
      · intro w hSw
        try dsimp only at hSw
        go_simp
        try with_reducible rfl
      try simp only [Act.put, List.setIfInBounds_toArray, List.set_cons_zero, List.set_cons_succ]
      refine wpAnyZ_ready (rs := [6]) (by kernel_rfl) (by simp) ?_
      refine AllReadyZ.cons rfl (fun K hK => ?_) AllReadyZ.nil
      go_simp
      refine (HOW.out wr.drew (Turns.refl (fun _ => False) wr).drew).mono ?_
      rintro e wG ⟨v1, rfl, hgG⟩
      obtain ⟨a1, c1, rfl⟩ := owns_slice hgG.own
      have hmG : Made wr wG := ((Turns.refl (fun _ => False) wr).drew).trans hgG.made
      refine hK.out _ _ ?_ (fun hHeld => ?_)
      · exact ⟨hHeld.1.turns hgG.made (fun h => h), hHeld.2.trans (hgG.made.mono (fun _ _ h => h.elim))⟩
      clear hK K
      try simp only [Act.put, List.setIfInBounds_toArray, List.set_cons_zero, List.set_cons_succ]
      refine wpAnyZ_ready (rs := [7]) (by kernel_rfl) (by simp) ?_
      refine AllReadyZ.cons rfl (fun K hK => ?_) AllReadyZ.nil
      go_simp
      refine hK.out _ _ ?_ (fun hHeld => ?_)
      · exact ⟨hHeld.1.alloc _, hHeld.2.alloc _⟩
      clear hK K
      try simp only [Act.put, List.setIfInBounds_toArray, List.set_cons_zero, List.set_cons_succ]
      refine wpAnyZ_ready (rs := [8]) (by kernel_rfl) (by simp) ?_
      refine AllReadyZ.cons rfl (fun K hK => ?_) AllReadyZ.nil
      refine step_push rfl _ _ _ (by rfl) i0 _ 24 Tryz.underlying31 hi0 hz0 hz1 hz2 rfl (by omega) prC_len prC_one (by rfl) ((HPR.out.own.turns hmG (fun _ _ h => h)).turns ((Turns.refl (fun _ => False) wG).alloc _) (fun _ _ h => h)) (a1, p.length, c1) (by rfl) (Blk.new wG _ _) (by have := HRLN.out; omega) (by omega) ?_
      intro v2 w2 hO2 hT2 hV2
      obtain ⟨a3, c3, rfl⟩ := owns_slice hO2
      refine hK.out _ _ ?_ (fun hHeld => ?_)
      · exact ⟨hHeld.1.turns hT2 (fun e => HNP.out _ e rfl), hHeld.2.trans hT2⟩
      clear hK K
      try simp only [Act.put, List.setIfInBounds_toArray, List.set_cons_zero, List.set_cons_succ]
      refine wpAnyZ_ready (rs := [9]) (by kernel_rfl) (by simp) ?_
      refine AllReadyZ.cons rfl (fun K hK => ?_) AllReadyZ.nil
      go_simp
      refine hK.out _ _ hHeld (fun hHeld => ?_)
      clear hK K
      try simp only [Act.put, List.setIfInBounds_toArray, List.set_cons_zero, List.set_cons_succ]
      refine takeZ (i := 10) (d := some 43) (v := ?_) rfl rfl (by kernel_rfl) (by kernel_rfl) (by kernel_rfl) (by kernel_rfl) (fun _ _ _ h => h) (Or.inl ⟨by rfl, ?_⟩) (by assumption) ?_
      rotate_left
      · intro w hSw
        try dsimp only at hSw
        go_simp
        try with_reducible rfl
      try simp only [Act.put, List.setIfInBounds_toArray, List.set_cons_zero, List.set_cons_succ]
      refine wpAnyZ_ready (rs := [11]) (by kernel_rfl) (by simp) ?_
      refine AllReadyZ.last rfl (fun K hK => ?_) AllReadyZ.nil
      have qz0 := hHeld.1.cell 0
      have qf := hHeld.1.free 0
      simp only [List.getElem?_toArray, List.getElem?_cons_zero, List.getElem?_cons_succ] at qz0
      go_simp
      refine hK.out _ _ ?_
      clear hK K
      try simp only [Act.put, List.setIfInBounds_toArray, List.set_cons_zero, List.set_cons_succ]
      refine wpAnyZ_done (by kernel_rfl) ?_ _
      have hL := Lib.hid hHeld
      have HE : Hid (NRel w5 w4.heap.size pk pt pm pd px ps (k0 + 1) (w2.setCell ⟨w4.heap.size, 0, none⟩ (.slice a3 (rows ++ [(a1, p.length, c1)]).length c3))) := Lib.hid (by
        have hs2 : wr.heap.size ≤ wG.heap.size := hgG.made.size
        have hs3 := hT2.size
        have hs4 : wG.heap.size ≤ (wG.alloc (.cells #[.slice a1 p.length c1] 26)).heap.size := by simp
        have hs5 := HTR.out.size
        have hfar : ∀ j, (Value.slice a3 (rows ++ [(a1, p.length, c1)]).length c3).ownBlock = some j → vp.ownBlock = some j ∨ wG.heap.size ≤ j := fun j hj => (hV2 j hj).imp id (fun h => by omega)
        have htw : Turns (fun k => vp.ownBlock = some k ∨ k = w4.heap.size) wG (w2.setCell ⟨w4.heap.size, 0, none⟩ (.slice a3 (rows ++ [(a1, p.length, c1)]).length c3)) := (((Turns.refl (fun k => vp.ownBlock = some k ∨ k = w4.heap.size) wG).alloc _).trans (hT2.mono (fun _ _ h => .inl h))).trans ((set1 w2 w4.heap.size 0 _).mono (fun _ _ e => .inr e))
        refine ⟨_, rows ++ [(a1, p.length, c1)], by simpa using hHeld.1.put 0 (.slice a3 (rows ++ [(a1, p.length, c1)]).length c3), by simp [HRLN.out], ⟨hO2.turns (set1 w2 w4.heap.size 0 _) (fun k hk e => ?_), fun j hj => ?_, fun i r q hr hq => ?_⟩, ?_⟩
        · rcases hfar k hk with h1 | h1
          · exact HNP.out k h1 e
          · have := HL5.out; omega
        · rcases hfar j hj with h1 | h1
          · exact HPR.out.far j h1
          · omega
        · rcases Nat.lt_or_ge i rows.length with h1 | h1
          · rw [List.getElem?_append_left h1] at hr
            obtain ⟨h2, h3, h4⟩ := HPR.out.row i r q hr hq
            refine ⟨h2, (h3.turns hmG (fun _ _ _ h => h)).turns htw (fun b2 off2 e h => ?_), fun b2 off2 e => ?_⟩
            · obtain ⟨m1, m2, m3⟩ := h4 b2 off2 e
              rcases h with h | h
              · exact m3 h
              · have := HL5.out; omega
            · obtain ⟨m1, m2, m3⟩ := h4 b2 off2 e
              have hsz := htw.size
              exact ⟨m1, by omega, fun h => by
                rcases hfar b2 h with h5 | h5
                · exact m3 h5
                · omega⟩
          · rw [List.getElem?_append_right h1] at hr
            have hi0 : i - rows.length = 0 := by
              rcases Nat.eq_zero_or_pos (i - rows.length) with h2 | h2
              · exact h2
              · rw [List.getElem?_eq_none (by simp; omega)] at hr; cases hr
            rw [hi0] at hr
            cases hr
            have hie : i = k0 := by have := HRLN.out; omega
            subst hie
            have hq2 : q = p := by have h2 := HPK.out; rw [hq] at h2; exact Option.some.inj h2
            subst hq2
            have hgf : ∀ b2 off2, a1 = some ⟨b2, off2, none⟩ → wr.heap.size ≤ b2 ∧ b2 < wG.heap.size := fun b2 off2 e => by subst e; exact ⟨hgG.far b2 rfl, hgG.own.lt rfl⟩
            have hnv : ∀ b2 off2, a1 = some ⟨b2, off2, none⟩ → vp.ownBlock ≠ some b2 := fun b2 off2 e h => by have h6 := hgf b2 off2 e; have h7 := HPR.out.own.lt h; omega
            obtain ⟨a4, c4, he4, hri, -⟩ := hgG.own.rowIn insC_len
            cases he4
            refine ⟨rfl, hri.turns htw (fun b2 off2 e h => ?_), fun b2 off2 e => ?_⟩
            · rcases h with h | h
              · exact hnv b2 off2 e h
              · have h6 := hgf b2 off2 e; have := HL5.out; omega
            · have h6 := hgf b2 off2 e
              have hsz := htw.size
              exact ⟨by omega, by omega, fun h => by
                rcases hfar b2 h with h5 | h5
                · exact hnv b2 off2 e h5
                · omega⟩
        · exact (HTR.out.then hmG (fun _ _ (h : False) => h.elim)).then htw (fun k hk e => by
            rcases e with e | e
            · have := HPR.out.far k e; omega
            · exact e))
      clear hHeld hO2 hT2 hV2
      go_wp2_with fail
      go_roundw
      case rel =>
        have HE2 := HE.out
        simp only [List.length_append, List.length_cons, List.length_nil, Nat.zero_add] at HE2
        exact ⟨k0 + 1, by omega, by go_num, HE2⟩
      case measure => simp [intOf]; omega
    · have hk2 : k0 = ps.length := by omega
      obtain ⟨vp, rows, hbp, hrl, hpr, htr⟩ := hg
      have hs0 := HM0.out.size
      have hs1 := HK1.out.2.1.size
      have hs2 := HK2.out.2.1.size
      have hs3 := HK3.out.2.1.size
      have hs4 := HK4.out.2.1.size
      have hs5 := HL5.out
      have hs7 := htr.size
      have hkl := HK1.out.1.lt
      have m45 : Made w4 w5 := HM5.out
      have m15 : Made w1 w5 := ((HK2.out.2.1.trans HK3.out.2.1).trans HK4.out.2.1).trans m45
      have m25 : Made w2 w5 := (HK3.out.2.1.trans HK4.out.2.1).trans m45
      have m35 : Made w3 w5 := HK4.out.2.1.trans m45
      have hclk := (HK1.out.1.turns m15 (fun h => h)).turns htr (by omega)
      have htab := (HK2.out.1.made m25).turns htr (fun k hk e => by have := HK2.out.1.fb k hk; omega)
      have htms := (HK3.out.1.made m35).turns htr (fun k hk e => by have := HK3.out.1.fb k hk; omega)
      have hdls := (HK4.out.1.made m45).turns htr (fun k hk e => by have := HK4.out.1.fb k hk; omega)
      have HCL := Lib.hid hclk
      have HTM := Lib.hid htms
      have HDL := Lib.hid hdls
      have HBP := Lib.hid hbp
      have HPR := Lib.hid (And.intro hpr (And.intro hrl hk2))
      have HTR := Lib.hid htr
      have HST := Lib.hid (tabstart_c (pg := 0) (r := ⟨0, 0, 0, 0, 0, 0, 0, 0⟩) htab (by simp) (by omega) (by simp) (by simp))
      have HSZ : Hid (w.heap.size ≤ w0.heap.size ∧ w0.heap.size ≤ w1.heap.size ∧ w1.heap.size ≤ w2.heap.size ∧ w2.heap.size ≤ w3.heap.size ∧ w3.heap.size ≤ w4.heap.size ∧ w5.heap.size = w4.heap.size + 1 ∧ w5.heap.size ≤ wr.heap.size ∧ pk < w1.heap.size) := Lib.hid ⟨hs0, hs1, hs2, hs3, hs4, hs5, hs7, hkl⟩
      have q2 := hbp.cell 2
      simp only [List.getElem?_toArray, List.getElem?_cons_zero, List.getElem?_cons_succ] at q2
      clear hbp hpr htr hclk htab htms hdls m45 m15 m25 m35 hs0 hs1 hs2 hs3 hs4 hs5 hs7 hkl hrl hk2
      go_wp2_with fail
      refine HST.out.mono ?_
      rintro e w8 ⟨rfl, F2', ht8, hst8⟩
      have HT8 := Lib.hid (And.intro ht8 hst8)
      clear ht8 hst8
      go_wp2_with fail
      go_returns
      obtain ⟨hs0, hs1, hs2, hs3, hs4, hs5, hs7, hkl⟩ := HSZ.out
      obtain ⟨ht8, hst8⟩ := HT8.out
      have hs8 := hst8.t.size
      have b2 : ∀ k, F2 k → w1.heap.size ≤ k ∧ k < w2.heap.size := fun k hk => ⟨HK2.out.2.2 k hk, HK2.out.1.fb k hk⟩
      have b2' : ∀ k, F2' k → (w1.heap.size ≤ k ∧ k < w2.heap.size) ∨ wr.heap.size ≤ k := fun k hk => (hst8.f k hk).imp (b2 k) id
      have b3 : ∀ k, F3 k → w2.heap.size ≤ k ∧ k < w3.heap.size := fun k hk => ⟨HK3.out.2.2 k hk, HK3.out.1.fb k hk⟩
      have b4 : ∀ k, F4 k → w3.heap.size ≤ k ∧ k < w4.heap.size := fun k hk => ⟨HK4.out.2.2 k hk, HK4.out.1.fb k hk⟩
      have hpk := HK1.out.2.2
      obtain ⟨o, e1, e2, e3, e4, e5, e7, eo, ele⟩ := six_labels (F2 := F2') (F3 := F3) (F4 := F4) (G := fun k => w5.heap.size ≤ k ∧ k < wr.heap.size) (pb := w4.heap.size) (pk := pk) (by omega) (fun h => by have := b2' _ h; omega) (fun h => by have := b3 _ h; omega) (fun h => by have := b4 _ h; omega) (fun h => by omega) (fun h => by have := b2' _ h; omega) (fun h => by have := b3 _ h; omega) (fun h => by have := b4 _ h; omega) (fun h => by omega) (fun k h g => by have := b2' _ g; have := b3 _ h; omega) (fun k h g => by have := b2' _ g; have := b4 _ h; omega) (fun k h g => by have := b2' _ g; omega) (fun k h g => by have := b3 _ g; have := b4 _ h; omega) (fun k h g => by have := b3 _ g; omega) (fun k h g => by have := b4 _ g; omega)
      have hm8 : Made w w8 := (show Made w wr from ((((((HM0.out.trans HK1.out.2.1).trans HK2.out.2.1).trans HK3.out.2.1).trans HK4.out.2.1).trans HM5.out).then HTR.out (fun k hk e => by omega))).then hst8.t (fun k hk h => by have := b2 k h; omega)
      have hn8 : ∀ k, o k = 6 ∨ o k = 8 ∨ o k = 9 ∨ o k = 10 → False := fun k hk => by
        have hz : o k ≠ 0 := by omega
        rcases eo k hz with h | h | h | h | h | h
        · rw [h, e1] at hk; omega
        · rw [h, e2] at hk; omega
        · have h2 : o k = 3 := by rw [← e3] at h; exact h
          omega
        · have h2 : o k = 4 := by rw [← e4] at h; exact h
          omega
        · have h2 : o k = 5 := by rw [← e5] at h; exact h
          omega
        · have h2 := (e7 k).2 h
          omega
      have hlo : ∀ k, o k ≠ 0 → w.heap.size ≤ k ∧ k < w8.heap.size := fun k hk => by
        rcases eo k hk with h | h | h | h | h | h
        · omega
        · omega
        · have := ht8.fb k h; have := b2' k h; omega
        · have := b3 k h; omega
        · have := b4 k h; omega
        · omega
      have hnl : ∀ k, (Value.slice none 0 0).ownBlock = some k ↔ False := fun k => ⟨fun h => (by cases h), fun h => h.elim⟩
      obtain ⟨hpr, hrl, hk2⟩ := HPR.out
      refine ⟨⟨w4.heap.size, pk, pt, pm, pd, px⟩, o, rfl, ⟨⟨fun i q hq => by simp [initS] at hq, fun t ht => by simp [initS] at ht⟩, [], rfl, vp, .slice none 0 0, .slice none 0 0, .slice none 0 0, ?_⟩, hm8, fun k hk => (hlo k hk).1⟩
      exact { blk := HBP.out.turns hst8.t (fun h => by have := b2 _ h; omega), ob := e1, lt := fun k hk => (hlo k hk).2, clk := HCL.out.turns hst8.t (fun h => by have := b2 _ h; omega), ok := e2, tab := by rw [e3]; exact ht8, tms := by rw [e4]; exact HTM.out.turns hst8.t (fun k hk h => by have := b2 _ h; have := b3 _ hk; omega), dls := ⟨[], rfl, by rw [e5]; exact HDL.out.turns hst8.t (fun k hk h => by have := b2 _ h; have := b4 _ hk; omega)⟩, ctx := trivial, prs := (by
        have hpos := HP.out.1.ge
        rcases hpr.own.form with ⟨_, h0⟩ | ⟨g, c, hv, hg, _⟩
        · rw [h0] at hrl; simp only [List.length_nil] at hrl; omega
        · have hgo : w5.heap.size ≤ g := hpr.far g (by rw [hv]; rfl)
          refine ⟨g, c, by rw [hv, hrl, hk2], (e7 g).2 ⟨hgo, hg⟩, by omega, fun i p hp => ?_⟩
          have hi : i < rows.length := by rw [hrl, hk2]; exact (List.getElem?_eq_some_iff.1 hp).1
          obtain ⟨r, hr⟩ := get_of_lt (xs := rows) hi
          obtain ⟨h1, h2, h3⟩ := hpr.row i r p hr hp
          have hc := Owns.cell prC_len (hv ▸ hpr.own) hr (j := 0) rfl
          refine ⟨r.1, r.2.2, ?_, h2.turns hst8.t (fun bb off2 e h => by have := h3 bb off2 e; have := b2 _ h; omega), fun bb off2 e => (e7 bb).2 ⟨(h3 bb off2 e).1, (h3 bb off2 e).2.1⟩⟩
          have h5 := (hst8.t.cell (p := ⟨g, i * 1 + 0, none⟩) hg (fun h => by have : w1.heap.size ≤ g ∧ g < w2.heap.size := b2 _ h; omega)).trans hc
          rw [h1] at h5
          simpa using h5), crow := Owns.nil, co := fun k => (hnl k).trans ⟨fun h => h.elim, fun h => hn8 k (.inr (.inl h))⟩, lrow := ⟨[], rfl, Owns.nil⟩, lo := fun k => (hnl k).trans ⟨fun h => h.elim, fun h => hn8 k (.inr (.inr (.inl h)))⟩, erow := Owns.nil, eo := fun k => (hnl k).trans ⟨fun h => h.elim, fun h => hn8 k (.inr (.inr (.inr h)))⟩, cnd := List.nodup_nil, chn := fun p c hp => (by cases hp) }
end Go.Proofs.YtjnkphhlkoapbaaGreat
namespace Go.Proofs.YtjnkphhlkoapbaaGreat
open Go.RowKit
set_option linter.unusedVariables false
set_option linter.unusedSimpArgs false
section
variable {ps : List (List Ins)} {s : Wst}
theorem stepF_idle {n : Int} (hl : Lim s) (hrd : s.rd = []) : stepF ps s (.run n) = some { s with ev := [], nl := s.nl + 1, steps := s.steps + 1 } := by
  obtain ⟨l1, l2, l3, l4, l5, l6, l7, l8, l9, l10, l11, l12, l13, l14, l15⟩ := id hl
  unfold stepF
  rw [if_pos hl]
  have h1 : runF ps { s with ev := [] } n = some { s with ev := [], nl := s.nl + 1 } := by
    unfold runF
    exact if_pos hrd
  simp only [h1]
  unfold doneF
  rw [if_pos ⟨l10, l11, by simp⟩]
theorem stepF_loc {n : Int} {i : Nat} {x : Tsk} {p : List Ins} {O : LOut} (hl : Lim s) (hnl : s.nl < 99999) (h1 : s.rd[(pickZ n s.rd.length).toNat]? = some (i : Int)) (h2 : s.ts[i]? = some x) (h3 : ps[x.prog.toNat]? = some p) (h4 : x.st = 0 ∧ 0 ≤ x.prog ∧ 0 ≤ x.pc) (h5 : locF p x.pc.toNat x.regs s.now = some O) :
    stepF ps s (.run n) = some { aloneS { s with ev := [], nl := s.nl + 1 } i x O with steps := s.steps + 1 } := by
  obtain ⟨l1, l2, l3, l4, l5, l6, l7, l8, l9, l10, l11, l12, l13, l14, l15⟩ := id hl
  have hne : s.rd ≠ [] := fun e => by rw [e] at h1; simp at h1
  unfold stepF
  rw [if_pos hl]
  have hr : runF ps { s with ev := [] } n = some (aloneS { s with ev := [], nl := s.nl + 1 } i x O) := by
    unfold runF
    rw [if_neg hne]
    simp only [h1, Int.toNat_natCast, h2, h3, h5]
    rw [if_pos ⟨Int.natCast_nonneg _, h4.1, h4.2.1, h4.2.2, hnl⟩]
  simp only [hr]
  unfold doneF
  have hst : (aloneS { s with ev := [], nl := s.nl + 1 } i x O).steps = s.steps ∧ (aloneS { s with ev := [], nl := s.nl + 1 } i x O).ev.length < 900 := by
    obtain ⟨opc, oregs, ot, ov, oe⟩ := O
    cases ot <;> cases oe <;> simp [aloneS]
  rw [if_pos ⟨by rw [hst.1]; exact l10, by rw [hst.1]; exact l11, hst.2⟩, hst.1]
theorem stepF_act {n : Int} {i : Nat} {x : Tsk} {p : List Ins} {ins : Ins} {s2 : Wst} {rr : Option Reg} (hl : Lim s) (hnl : s.nl < 99999) (h1 : s.rd[(pickZ n s.rd.length).toNat]? = some (i : Int)) (h2 : s.ts[i]? = some x) (h3 : ps[x.prog.toNat]? = some p) (h4 : x.st = 0 ∧ 0 ≤ x.prog ∧ 0 ≤ x.pc) (h5 : p[x.pc.toNat]? = some ins) (h6 : mineB ins.op = false)
    (h7 : actF { s with ev := [], nl := s.nl + 1 } i ins x.regs = some (s2, rr)) (h8 : s2.steps = s.steps) (h9 : s2.ev.length < 800) :
    stepF ps s (.run n) = some { (match rr with | none => parkS s2 i x ins | some r2 => putS s2 i x r2) with steps := s.steps + 1 } := by
  obtain ⟨l1, l2, l3, l4, l5, l6, l7, l8, l9, l10, l11, l12, l13, l14, l15⟩ := id hl
  have hne : s.rd ≠ [] := fun e => by rw [e] at h1; simp at h1
  have hmi : ¬ (ins.op = 1 ∨ ins.op = 2 ∨ ins.op = 6 ∨ ins.op = 16) := by
    unfold mineB at h6
    simp only [decide_eq_false_iff_not] at h6
    omega
  have hlo : locF p x.pc.toNat x.regs s.now = none := by
    unfold locF
    rw [if_neg (fun e => by rw [e] at h5; simp at h5)]
    simp only [h5]
    rw [if_neg (fun e => hmi (.inl e.1)), if_neg (fun e => hmi (.inr (.inl e.1))), if_neg (fun e => hmi (.inr (.inr (.inl e.1)))), if_neg (fun e => hmi (.inr (.inr (.inr e.1))))]
  unfold stepF
  rw [if_pos hl]
  have hr : runF ps { s with ev := [] } n = some (match rr with | none => parkS s2 i x ins | some r2 => putS s2 i x r2) := by
    unfold runF
    rw [if_neg hne]
    simp only [h1, Int.toNat_natCast, h2, h3, hlo, h5, h6, h7]
    rw [if_pos ⟨Int.natCast_nonneg _, h4.1, h4.2.1, h4.2.2, hnl⟩]
    cases rr <;> rfl
  simp only [hr]
  unfold doneF
  cases rr with
  | none =>
    have he : (parkS s2 i x ins).ev.length < 900 := by
      show (s2.ev ++ [_]).length < 900
      rw [List.length_append]; simp only [List.length_cons, List.length_nil]; omega
    show (if 0 ≤ s2.steps ∧ s2.steps < 100000 ∧ (parkS s2 i x ins).ev.length < 900 then some { parkS s2 i x ins with steps := s2.steps + 1 } else none) = _
    rw [h8, if_pos ⟨l10, l11, he⟩]
  | some r2 =>
    show (if 0 ≤ s2.steps ∧ s2.steps < 100000 ∧ s2.ev.length < 900 then some { putS s2 i x r2 with steps := s2.steps + 1 } else none) = _
    rw [h8, if_pos ⟨l10, l11, by omega⟩]
theorem stepF_adv {d : Int} {s2 : Wst} (hl : Lim s) (hd : 0 ≤ d ∧ s.now + d ≤ 1000000) (hf : firesF 100 { s with ev := [], now := s.now + d } = some s2) (h8 : s2.steps = s.steps) (h9 : s2.ev.length < 900) : stepF ps s (.adv d) = some { s2 with steps := s.steps + 1 } := by
  obtain ⟨l1, l2, l3, l4, l5, l6, l7, l8, l9, l10, l11, l12, l13, l14, l15⟩ := id hl
  unfold stepF
  rw [if_pos hl]
  simp only [if_pos hd, hf]
  unfold doneF
  rw [h8, if_pos ⟨l10, l11, h9⟩]
theorem firesF_none {k : Nat} (h : ∀ it, s.L[0]? = some it → s.now < it.when) : firesF (k + 1) s = some s := by
  unfold firesF
  cases hL : s.L with
  | nil => rfl
  | cons it ll =>
    have h1 := h it (by rw [hL]; rfl)
    simp only
    rw [if_neg (by omega)]
theorem firesF_wake {k i ci : Nat} {wh se dt : Int} {ll : List It} {sg cl : Bool} {v : Option Int} {x : Wt} {lw : List Wt} {q : Nat} (hl : Lim s) (hL : s.L = ⟨i, wh, se⟩ :: ll) (hd : wh ≤ s.now) (ht : s.tms[i]? = some ⟨1, dt, some ci⟩) (hc : s.chs[ci]? = some (q, ⟨true, sg, cl, true, v, x :: lw⟩)) (hw : wakeB s ⟨x.task, x.kase, s.now, true, false⟩) (hlw : lw.length ≤ 100) :
    firesF (k + 1) s = firesF k (wakeS (fireB { s with L := ll, chs := s.chs.set ci (q, ⟨true, sg, cl, true, v, lw⟩) } i wh) ⟨x.task, x.kase, s.now, true, false⟩) := by
  have hf : fireF s = some (wakeS (fireB { s with L := ll, chs := s.chs.set ci (q, ⟨true, sg, cl, true, v, lw⟩) } i wh) ⟨x.task, x.kase, s.now, true, false⟩) := by
    unfold fireF
    rw [hL]
    simp only [Int.toNat_natCast, ht, hc]
    rw [if_pos ⟨Int.natCast_nonneg _, trivial, trivial, trivial, by simp only [List.length_cons]; omega⟩, if_pos hw]
  conv => lhs; unfold firesF
  rw [hL]
  simp only
  rw [if_pos hd, if_pos hl, hf]
theorem Ex.one {e : Ent} {s1 : Wst} (h : stepF ps s e = some s1) : Ex ps s [e] s1.ev s1 := ⟨s1, [], h, ⟨rfl, rfl⟩, by simp⟩
theorem Ex.cons {e : Ent} {l : List Ent} {s1 s2 : Wst} {ev evs : List Ev} (h : stepF ps s e = some s1) (he : s1.ev = ev) (k : Ex ps s1 l evs s2) : Ex ps s (e :: l) (ev ++ evs) s2 := ⟨s1, evs, h, k, by rw [he]⟩
end
def toldM (l : List Ev) (t : Int) : List Int := l.filterMap fun e => if e.kind = 1 ∧ e.task = t then some e.a else none
def manyE : Nat → Nat → List Ent
  | _, 0 => []
  | i, n + 1 => .run i :: manyE (i + 1) n
theorem Ex.idle {ps : List (List Ins)} {i : Nat} : ∀ {n : Nat} {s : Wst}, Lim s → s.rd = [] → s.ev = [] → s.nl + n < 100000 → s.steps + n < 100000 → Ex ps s (manyE i n) [] { s with nl := s.nl + n, steps := s.steps + n }
  | 0, s, hl, hr, he, h1, h2 => ⟨rfl, by simp⟩
  | n + 1, s, hl, hr, he, h1, h2 => by
    have hs := stepF_idle (ps := ps) (n := (i : Int)) hl hr
    have hl2 : Lim { s with ev := [], nl := s.nl + 1, steps := s.steps + 1 } := by
      obtain ⟨l1, l2, l3, l4, l5, l6, l7, l8, l9, l10, l11, l12, l13, l14, l15⟩ := hl
      exact ⟨by simp, l2, l3, l4, l5, l6, l7, l8, by show s.nl + 1 < 100000; omega, by show 0 ≤ s.steps + 1; omega, by show s.steps + 1 < 100000; omega, l12, l13, l14, l15⟩
    have ih := Ex.idle (ps := ps) (i := i + 1) (n := n) (s := { s with ev := [], nl := s.nl + 1, steps := s.steps + 1 }) hl2 hr rfl (by show s.nl + 1 + n < 100000; omega) (by show s.steps + 1 + n < 100000; omega)
    have h3 := Ex.cons hs rfl ih
    have e1 : s.nl + 1 + n = s.nl + (n + 1) := by omega
    have e2 : s.steps + 1 + (n : Int) = s.steps + ((n + 1 : Nat) : Int) := by omega
    simp only [e1, e2, List.nil_append] at h3
    refine cast (congrArg (Ex ps s (manyE i (n + 1)) []) ?_) h3
    cases s
    simp only at he
    subst he
    rfl
end Go.Proofs.YtjnkphhlkoapbaaGreat
namespace Go.Proofs.YtjnkphhlkoapbaaGreat
open Go.RowKit
set_option linter.unusedVariables false
set_option linter.unusedSimpArgs false
section
variable {P : Program} {ops : Array Oper} {o : Oper} {a : Act} {Q : Exit → Act → World → Prop} {α : Type} {enc : α → List Value} {T : TypeId} {size : Nat} {w : World} {v : Value} {M N : List α}
theorem SrcAt.ofOwns (he : ∀ x, (enc x).length = size) (h : Owns enc T size w v M) : SrcAt enc w v M := by
  rcases h.form with ⟨rfl, rfl⟩ | ⟨g, cap, rfl, _⟩
  · exact SrcAt.nothing
  · have h1 := SrcAt.pre (c := cap) he h (Nat.le_refl _)
    rwa [List.take_length] at h1
theorem wpList_cat {rest : List Oper} (hgd : o.guard = none) (s x : Operand) (t : TypeId) (ho : o.op = .call { callee := .builtin .append, args := #[s, x], argTypes := #[t, t] })
    (i : TypeInfo) (z : Value) (bytes : Nat) (ht : P.underlying t = some (.slice T)) (hi : P.info? T = some i) (hz : i.zero = some z) (hsize : i.size = size) (hby : i.bytes = bytes) (hzs : z.cells.size = size) (hsz : 0 < size)
    (he : ∀ x, (enc x).length = size) (h1 : ∀ x, ∀ u ∈ enc x, u.oneCell' = true)
    (hs : a.eval s = v) (hg : Owns enc T size w v M) {xv : Value} (hx : a.eval x = xv) (hsrc : SrcAt enc w xv N) (h63 : M.length + N.length ≤ maxLen) (hbytes : (M.length + N.length) * bytes ≤ 140737488355328)
    (h : ∀ v' w', Owns enc T size w' v' (M ++ N) → Turns (fun k => v.ownBlock = some k) w w' → (∀ k, v'.ownBlock = some k → v.ownBlock = some k ∨ w.heap.size ≤ k) → wpList P ops Q rest (a.put o.dst v') w') :
    wpList P ops Q (o :: rest) a w := by
  refine wpList_plain hgd fun K hK => ?_
  obtain ⟨a', c', hv⟩ := owns_slice hg
  have hcap : M.length ≤ c' := by
    rcases hg.form with ⟨hv2, h0⟩ | ⟨g, cap, hv2, _, h3, _⟩
    · rw [h0]; simp
    · rw [hv] at hv2
      simp only [Value.slice.injEq] at hv2
      omega
  rcases hsrc with ⟨rfl, rfl⟩ | ⟨ad, c, rfl, hnews⟩
  · have hr := run_append_nothing (P := P) w t t o.type T i ht hi a' M.length c' hcap (.slice none 0 0) (by
      refine ⟨.inl ⟨_, ht⟩, fun w' => ?_, ?_, ?_, by simp, by simp⟩
      · rfl
      · cases hss : i.size <;> rfl
      · cases hss : i.size <;> rfl)
    unfold Oper.wp execOp
    simp only [ho, resolve, invoke, builtin, Sem.run_bind, Sem.run_pure, Result.andThen_ok, List.map_toArray, List.map_cons, List.map_nil, hs, hx, hv, hr]
    exact hK _ _ (h (.slice a' M.length c') w (by rw [List.append_nil, ← hv]; exact hg) (Turns.refl _ _) (fun k hk => .inl (by rw [hv]; exact hk)))
  · have hol := hg
    unfold Owns at hol
    obtain ⟨v', w', hr, h2, h3, _, h5⟩ := run_append_own_at (P := P) w 0 t o.type T i z size bytes ht hi hz hsize hby hzs hsz v M.length (flat enc M) hol ad N.length c (flat enc N) (flat_length he N) hnews (fun u hu => by
      unfold flat at hu
      obtain ⟨y, _, hy⟩ := List.mem_flatMap.1 hu
      exact h1 y u hy) h63 hbytes (Nat.zero_le _)
    unfold Oper.wp execOp
    simp only [ho, resolve, invoke, builtin, Sem.run_bind, Sem.run_pure, Result.andThen_ok, List.map_toArray, List.map_cons, List.map_nil, hs, hx, hr]
    refine hK _ _ (h v' w' ?_ ((Turns.refl _ _).grown h3 (fun k hk _ => hk)) (fun k hk => ?_))
    · unfold Owns
      rw [flat_append, List.length_append]
      exact h2
    · rcases h5 with e | e
      · exact .inl (by rw [← e]; exact hk)
      · rw [e, Option.some.injEq] at hk
        exact .inr (by omega)
end
theorem Tryz.infoI : (Tryz.prog.info? 3).map (fun i => (i.zero, i.size, i.bytes)) = some (some (.int .i64 0), 1, 8) := by kernel_rfl
theorem Grow.nil {α : Type} {enc : α → List Value} {T : TypeId} {size : Nat} {W w : World} (h : Made W w) : Grow enc T size W w (.slice none 0 0) ([] : List α) :=
  ⟨h, ⟨by simp [flat], .inl ⟨rfl, rfl⟩⟩, fun c hc => by simp [Value.ownBlock] at hc⟩
theorem told_next {l : List Ev} {t : Int} {k : Nat} {e : Ev} (h : l[k]? = some e) : toldM (l.take (k + 1)) t = toldM (l.take k) t ++ (if e.kind = 1 ∧ e.task = t then [e.a] else []) := by
  obtain ⟨hl, rfl⟩ := List.getElem?_eq_some_iff.1 h
  unfold toldM
  rw [List.take_succ_eq_append_getElem hl, List.filterMap_append]
  congr 1
  by_cases hc : l[k].kind = 1 ∧ l[k].task = t <;> simp [hc]
theorem told_le (l : List Ev) (t : Int) (k : Nat) : (toldM (l.take k) t).length ≤ k := by
  unfold toldM
  have h1 := List.length_filterMap_le (fun e : Ev => if e.kind = 1 ∧ e.task = t then some e.a else none) (l.take k)
  have h2 := List.length_take_le k l
  omega
theorem ev_cells {w : World} {b off : Nat} {l : List Ev} (h : Lies evC 6 w b off l) {i : Nat} {e : Ev} (he : l[i]? = some e) :
    w.cell? ⟨b, off + i * 6, none⟩ = some (.int .i64 e.step) ∧ w.cell? ⟨b, off + i * 6 + 1, none⟩ = some (.int .i64 e.kind) ∧ w.cell? ⟨b, off + i * 6 + 2, none⟩ = some (.int .i64 e.task) ∧
    w.cell? ⟨b, off + i * 6 + 3, none⟩ = some (.int .i64 e.a) ∧ w.cell? ⟨b, off + i * 6 + 4, none⟩ = some (.int .i64 e.b) ∧ w.cell? ⟨b, off + i * 6 + 5, none⟩ = some (.int .i64 e.c) :=
  ⟨h i e he 0 _ rfl, h i e he 1 _ rfl, h i e he 2 _ rfl, h i e he 3 _ rfl, h i e he 4 _ rfl, h i e he 5 _ rfl⟩
set_option maxHeartbeats 4000000 in
set_option maxRecDepth 100000 in
theorem told_c (a : Option Addr) (len cap : Nat) (l : List Ev) (t : Int) (w : World) (hw : RowIn evC 6 w a len l) (hn : len ≤ 100000) :
    Calls Tryz.prog 13 #[.slice a len cap, .int .i64 t] w fun e w' => ∃ v, e = .returned v ∧ Grow encI 3 1 w w' v (toldM l t) := by
  obtain ⟨i0, hi0, hz0, hz1, hz2⟩ := info_parts Tryz.infoI
  have HW := Lib.hid hw
  clear hw
  go_enter Tryz.func13, Tryz.ntmps13
  go_wp2_with fail
  go_loopw [4, 9] (fun v4 v9 wr => ∃ j : Nat, j ≤ len ∧ v9 = .int .i64 j ∧ Grow encI 3 1 w wr v4 (toldM (l.take j) t)) (fun _ v9 _ => len - (intOf v9).toNat)
  case atStart => exact ⟨0, Nat.zero_le _, rfl, Grow.nil (Turns.refl _ _)⟩
  case round =>
    obtain ⟨j, hj, rfl, hg⟩ := hrel
    have HG := Lib.hid hg
    clear hg
    have j1 : (0 : Int) ≤ (j : Int) := Int.natCast_nonneg _
    by_cases hjl : j < len
    · have j2 : (j : Int) < (len : Int) := by omega
      obtain ⟨hlen, h0 | ⟨bb, off, rfl, hb, hlies⟩⟩ := HW.out
      · omega
      obtain ⟨e, he⟩ := get_of_lt (xs := l) (k := j) (by omega)
      obtain ⟨c0, c1, c2, c3, c4, c5⟩ := ev_cells (hlies.keep fun o => HG.out.made.cell (p := ⟨bb, o, none⟩) hb (fun h => h)) he
      have HN := Lib.hid (told_next (t := t) he)
      have hle := told_le l t j
      generalize toldM (l.take j) t = A at *
      clear he hlies hb hlen
      by_cases h1 : e.kind = 1
      · have b1 : (e.kind == 1) = true := by simp [h1]
        by_cases h2 : e.task = t
        · have b2 : (e.task == t) = true := by simp [h2]
          have HA := Lib.hid (show toldM (l.take (j + 1)) t = A ++ [e.a] by rw [HN.out, if_pos ⟨h1, h2⟩])
          clear h1 h2
          have HGA := Lib.hid ((HG.out.alloc (.cells #[.int .i64 e.step, .int .i64 e.kind, .int .i64 e.task, .int .i64 e.a, .int .i64 e.b, .int .i64 e.c] 45)).alloc (.cells #[.int .i64 e.a] 3))
          have HS := Lib.hid (SrcAt.block (enc := encI) (N := [e.a]) (n := 1) (c := 1) (Blk.new (wr.alloc (.cells #[.int .i64 e.step, .int .i64 e.kind, .int .i64 e.task, .int .i64 e.a, .int .i64 e.b, .int .i64 e.c] 45)) 3 #[.int .i64 e.a]) rfl (by simp [flat, encI]))
          rw [World.size_alloc] at HS
          go_wp2_with (at_builtin; refine wpList_grow rfl (.tmp 22) (.tmp 25) 42 rfl i0 _ 8 Tryz.underlying42 hi0 hz0 hz1 hz2 rfl (by omega) encI_len encI_one rfl HGA.out rfl HS.out (by simp [maxLen]; omega) (by simp; omega) ?_)
          intro v3 w3 hg3 hF hS hO
          have HG3 := Lib.hid hg3
          clear hg3 hF hS hO HS HGA
          go_wp2_with fail
          go_roundw
          case rel => exact ⟨j + 1, by omega, by go_num, by rw [HA.out]; exact HG3.out⟩
          case measure => simp [intOf]; omega
        · have b2 : (e.task == t) = false := by simp [h2]
          have HA := Lib.hid (show toldM (l.take (j + 1)) t = A by rw [HN.out, if_neg (fun h => h2 h.2), List.append_nil])
          clear h1 h2
          go_wp2_with fail
          go_roundw
          case rel => exact ⟨j + 1, by omega, by go_num, by rw [HA.out]; exact HG.out.alloc _⟩
          case measure => simp [intOf]; omega
      · have b1 : (e.kind == 1) = false := by simp [h1]
        have HA := Lib.hid (show toldM (l.take (j + 1)) t = A by rw [HN.out, if_neg (fun h => h1 h.1), List.append_nil])
        clear h1
        go_wp2_with fail
        go_roundw
        case rel => exact ⟨j + 1, by omega, by go_num, by rw [HA.out]; exact HG.out.alloc _⟩
        case measure => simp [intOf]; omega
    · have j2 : ¬ (j : Int) < (len : Int) := by omega
      have hall : l.take j = l := List.take_of_length_le (by have := HW.out.1; omega)
      rw [hall] at HG
      clear hall
      go_wp2_with fail
      go_ret
      exact ⟨_, rfl, HG.out⟩
set_option maxHeartbeats 4000000 in
set_option maxRecDepth 100000 in
theorem ints_c (va vb : Value) (L : List Int) (w : World) (ha : Owns encI 3 1 w va L) (hb : Owns encI 3 1 w vb L) (hn : L.length ≤ 1000000) : Calls Tryz.prog 12 #[va, vb] w fun e w' => e = .returned (.bool true) ∧ Made w w' := by
  obtain ⟨aa, ca, rfl⟩ := owns_slice ha
  obtain ⟨ab, cb, rfl⟩ := owns_slice hb
  have HA := Lib.hid ha
  have HB := Lib.hid hb
  have hne : ((L.length : Int) != (L.length : Int)) = false := by simp
  clear ha hb
  go_enter Tryz.func12, Tryz.ntmps12
  go_wp2_with fail
  go_loopw [5] (fun v5 wr => ∃ j : Nat, v5 = .int .i64 j ∧ Made w wr) (fun v5 _ => L.length - (intOf v5).toNat)
  case atStart => exact ⟨0, rfl, Turns.refl _ _⟩
  case round =>
    obtain ⟨j, rfl, hm⟩ := hrel
    have HM := Lib.hid hm
    clear hm
    by_cases hj : j < L.length
    · obtain ⟨x, hx⟩ := get_of_lt hj
      have HX := Lib.hid hx
      rcases HA.out.form with ⟨h0, h1⟩ | ⟨ga, ca', hva, hga, hla, hcma⟩
      · rw [h1] at hj; simp at hj
      rcases HB.out.form with ⟨h0, h1⟩ | ⟨gb, cb', hvb, hgb, hlb, hcmb⟩
      · rw [h1] at hj; simp at hj
      simp only [Value.slice.injEq, true_and] at hva hvb
      obtain ⟨rfl, rfl⟩ := hva
      obtain ⟨rfl, rfl⟩ := hvb
      have j1 : (0 : Int) ≤ (j : Int) := Int.natCast_nonneg _
      have j2 : (j : Int) < (L.length : Int) := by omega
      have n0 : (x != x) = false := by simp
      clear hga hgb hx
      go_wp2_with fail
      refine wp_region_held_drew (S := fun w' => Made w w') (by kernel_rfl) ?_ (fun hHeld => ?_)
      · exact HM.out.drew
      refine takeH (i := 0) (d := some 17) (v := ?_) rfl rfl (by kernel_rfl) (by kernel_rfl) (by kernel_rfl) (fun _ _ _ h => h) (Or.inl ⟨by rfl, ?_⟩) (by assumption) ?_
      rotate_left
      · intro w hSw
        try dsimp only at hSw
        go_simp
        try with_reducible rfl
      try simp only [Act.put, List.setIfInBounds_toArray, List.set_cons_zero, List.set_cons_succ]
      refine takeH (i := 1) (d := some 18) (v := ?_) rfl rfl (by kernel_rfl) (by kernel_rfl) (by kernel_rfl) (fun _ _ _ h => h) (Or.inl ⟨by rfl, ?_⟩) (by assumption) ?_
      rotate_left
      · intro w hSw
        try dsimp only at hSw
        go_simp
        try with_reducible rfl
      try simp only [Act.put, List.setIfInBounds_toArray, List.set_cons_zero, List.set_cons_succ]
      refine takeH (i := 2) (d := some 19) (v := ?_) rfl rfl (by kernel_rfl) (by kernel_rfl) (by kernel_rfl) (fun _ _ _ h => h) (Or.inl ⟨by rfl, ?_⟩) (by assumption) ?_
      rotate_left
      · intro w hSw
        try dsimp only at hSw
        go_simp
        try with_reducible rfl
      try simp only [Act.put, List.setIfInBounds_toArray, List.set_cons_zero, List.set_cons_succ]
      refine takeH (i := 3) (d := some 20) (v := ?_) rfl rfl (by kernel_rfl) (by kernel_rfl) (by kernel_rfl) (fun _ _ _ h => h) (Or.inl ⟨by rfl, ?_⟩) (by assumption) ?_
      rotate_left
      · intro w hSw
        try dsimp only at hSw
        have q0 := Owns.cell encI_len (HA.out.turns hSw (fun _ _ h => h)) HX.out (j := 0) rfl
        simp only [Nat.add_zero, Nat.mul_one] at q0
        go_simp
        try with_reducible rfl
      try simp only [Act.put, List.setIfInBounds_toArray, List.set_cons_zero, List.set_cons_succ]
      refine takeH (i := 4) (d := some 21) (v := ?_) rfl rfl (by kernel_rfl) (by kernel_rfl) (by kernel_rfl) (fun _ _ _ h => h) (Or.inl ⟨by rfl, ?_⟩) (by assumption) ?_
      rotate_left
      · intro w hSw
        try dsimp only at hSw
        go_simp
        try with_reducible rfl
      try simp only [Act.put, List.setIfInBounds_toArray, List.set_cons_zero, List.set_cons_succ]
      refine takeH (i := 5) (d := some 22) (v := ?_) rfl rfl (by kernel_rfl) (by kernel_rfl) (by kernel_rfl) (fun _ _ _ h => h) (Or.inl ⟨by rfl, ?_⟩) (by assumption) ?_
      rotate_left
      · intro w hSw
        try dsimp only at hSw
        go_simp
        try with_reducible rfl
      try simp only [Act.put, List.setIfInBounds_toArray, List.set_cons_zero, List.set_cons_succ]
      refine takeH (i := 6) (d := some 23) (v := ?_) rfl rfl (by kernel_rfl) (by kernel_rfl) (by kernel_rfl) (fun _ _ _ h => h) (Or.inl ⟨by rfl, ?_⟩) (by assumption) ?_
      rotate_left
      · intro w hSw
        try dsimp only at hSw
        go_simp
        try with_reducible rfl
      try simp only [Act.put, List.setIfInBounds_toArray, List.set_cons_zero, List.set_cons_succ]
      refine takeH (i := 7) (d := some 24) (v := ?_) rfl rfl (by kernel_rfl) (by kernel_rfl) (by kernel_rfl) (fun _ _ _ h => h) (Or.inl ⟨by rfl, ?_⟩) (by assumption) ?_
      rotate_left
      · intro w hSw
        try dsimp only at hSw
        have q0 := Owns.cell encI_len (HB.out.turns hSw (fun _ _ h => h)) HX.out (j := 0) rfl
        simp only [Nat.add_zero, Nat.mul_one] at q0
        go_simp
        try with_reducible rfl
      try simp only [Act.put, List.setIfInBounds_toArray, List.set_cons_zero, List.set_cons_succ]
      refine takeH (i := 8) (d := some 25) (v := ?_) rfl rfl (by kernel_rfl) (by kernel_rfl) (by kernel_rfl) (fun _ _ _ h => h) (Or.inl ⟨by rfl, ?_⟩) (by assumption) ?_
      rotate_left
      · intro w hSw
        try dsimp only at hSw
        go_simp
        try with_reducible rfl
      try simp only [Act.put, List.setIfInBounds_toArray, List.set_cons_zero, List.set_cons_succ]
      refine wpAnyH_done (by kernel_rfl) ?_ _
      have HM2 := Lib.hid hHeld
      clear hHeld HM
      try clear hHeld
      go_wp2_with fail
      go_roundw
      case rel => exact ⟨j + 1, by go_num, HM2.out⟩
      case measure => simp [intOf]; omega
    · have j2 : ¬ (j : Int) < (L.length : Int) := by omega
      go_wp2_with fail
      go_ret
      exact ⟨rfl, HM.out⟩
theorem WA.turns {CX : World → (Nat → Prop) → Prop} {w w' : World} {b : Wp} {o : Nat → Nat} {ps : List (List Ins)} {s : Wst} {S : Nat → Prop} (hx : Ext CX) (h : WA CX w b o ps s) (ht : Turns S w w') (hn : ∀ k, Own o k → ¬ S k) : WA CX w' b o ps s := by
  obtain ⟨hi, cps, hl, hw⟩ := h
  exact ⟨hi, cps, hl, hw.turns hx ht hn⟩
theorem WA.lt {CX : World → (Nat → Prop) → Prop} {w : World} {b : Wp} {o : Nat → Nat} {ps : List (List Ins)} {s : Wst} (h : WA CX w b o ps s) : ∀ k, Own o k → k < w.heap.size := by
  obtain ⟨hi, cps, hl, hw⟩ := h
  exact hw.lt
def MRel (CX : World → (Nat → Prop) → Prop) (b : Wp) (ps : List (List Ins)) (w : World) (o : Nat → Nat) (n : Nat) (evs : List Ev) (s' : Wst) (k : Nat) (v : Value) (wr : World) : Prop := ∃ o1 s1 e1 e2, WA CX wr b o1 ps s1 ∧ Ex ps s1 (manyE k (n - k)) e2 s' ∧ evs = e1 ++ e2 ∧ Owns evC 45 6 wr v e1 ∧ (∀ k, v.ownBlock = some k → ¬ Own o1 k ∧ w.heap.size ≤ k) ∧ Stp w wr (Own o) (Own o1)
set_option maxHeartbeats 2000000 in
set_option maxRecDepth 100000 in
theorem many_c {CX : World → (Nat → Prop) → Prop} {w : World} {b : Wp} {o : Nat → Nat} {ps : List (List Ins)} {s : Wst} {n : Nat} {evs : List Ev} {s' : Wst} (hx : Ext CX) (hps : PsOK ps) (hn : n ≤ 10000) (hW : WA CX w b o ps s) (hex : Ex ps s (manyE 0 n) evs s') (hlen : evs.length ≤ 100000) :
    Calls Tryz.prog 11 #[.pointer (some ⟨b.pb, 0, none⟩), .int .i64 n] w fun e w' => ∃ v, e = .returned v ∧ ∃ o', WA CX w' b o' ps s' ∧ Owns evC 45 6 w' v evs ∧ (∀ k, v.ownBlock = some k → ¬ Own o' k ∧ w.heap.size ≤ k) ∧ Stp w w' (Own o) (Own o') := by
  obtain ⟨i0, hi0, hz0, hz1, hz2⟩ := info_parts Tryz.infoEv
  have HXX := Lib.hid (And.intro hx hps)
  have HLN := Lib.hid hlen
  have H0 := Lib.hid (show MRel CX b ps w o n evs s' 0 (.slice none 0 0) w from ⟨o, s, [], evs, hW, hex, rfl, Owns.nil, fun k hk => (by cases hk), Stp.made (Turns.refl _ w)⟩)
  clear hW hex hx hps hlen
  go_enter Tryz.func11, Tryz.ntmps11
  go_wp2_with fail
  go_loopw [5, 6] (fun v5 v6 wr => ∃ k : Nat, k ≤ n ∧ v6 = .int .i64 k ∧ MRel CX b ps w o n evs s' k v5 wr) (fun _ v6 _ => n - (intOf v6).toNat)
  case atStart => exact ⟨0, Nat.zero_le _, rfl, H0.out⟩
  case round =>
    obtain ⟨k, hk, rfl, hrl⟩ := hrel
    have j1 : (0 : Int) ≤ (k : Int) := Int.natCast_nonneg _
    by_cases hkn : k < n
    · obtain ⟨o1, s1, e1, e2, hw1, hex1, he, ho1, hf1, hs1⟩ := hrl
      have hsub : n - k = (n - (k + 1)) + 1 := by omega
      rw [hsub] at hex1
      obtain ⟨s2, e3, hst, hex2, he2⟩ := hex1
      have HST := Lib.hid (step_F (e := .run k) HXX.out.1 HXX.out.2 hw1 hst)
      have HE := Lib.hid (And.intro hex2 (And.intro he he2))
      have HO := Lib.hid (And.intro ho1 hf1)
      have HS := Lib.hid hs1
      have HLT := Lib.hid hw1.lt
      have j2 : (k : Int) < (n : Int) := by omega
      clear hw1 hex2 he he2 ho1 hf1 hs1 hst hsub
      go_wp2_with fail
      refine HST.out.mono ?_
      rintro e w2 ⟨vx, rfl, o2, hw2, hox, hfx, hs2⟩
      have hlow : ∀ k, u5.ownBlock = some k → ¬ Own o2 k := fun k hk h0 => by
        rcases hs2.f k h0 with h1 | h1
        · exact (HO.out.2 k hk).1 h1
        · exact absurd (HO.out.1.lt hk) (Nat.not_lt.2 h1)
      have hlen : (e1.length + s2.ev.length) ≤ 100000 := by
        have h1 := HLN.out
        rw [HE.out.2.1, HE.out.2.2, List.length_append, List.length_append] at h1
        omega
      have HO2 := Lib.hid (HO.out.1.turns hs2.t (fun k hk => (HO.out.2 k hk).1))
      have HSX := Lib.hid (SrcAt.ofOwns evC_len hox)
      have HW2 := Lib.hid (And.intro hw2 (HS.out.trans hs2))
      have HFX := Lib.hid (And.intro hlow hw2.lt)
      clear hw2 hox hfx hs2 hlow
      go_wp2_with (at_builtin; refine wpList_cat rfl (.tmp 12) (.tmp 16) 32 rfl i0 _ 48 Tryz.underlying32 hi0 hz0 hz1 hz2 rfl (by omega) evC_len evC_one rfl HO2.out rfl HSX.out (by unfold maxLen; omega) (by omega) ?_)
      intro v3 w3 ho3 ht3 hv3
      have HR := Lib.hid (show MRel CX b ps w o n evs s' (k + 1) v3 w3 from ⟨o2, s2, e1 ++ s2.ev, e3, HW2.out.1.turns HXX.out.1 ht3 (fun j hj hk => HFX.out.1 j hk hj), HE.out.1, by rw [HE.out.2.1, HE.out.2.2, List.append_assoc], ho3, fun j hj => by
        rcases hv3 j hj with h1 | h1
        · exact ⟨HFX.out.1 j h1, (HO.out.2 j h1).2⟩
        · exact ⟨fun h0 => absurd (HFX.out.2 j h0) (Nat.not_lt.2 h1), Nat.le_trans HW2.out.2.t.size h1⟩, ⟨HW2.out.2.t.then ht3 (fun j hj hk => absurd (HO.out.2 j hk).2 (Nat.not_le.2 hj)), HW2.out.2.f⟩⟩)
      clear ho3 ht3 hv3
      go_wp2_with fail
      go_roundw
      case rel => exact ⟨k + 1, by omega, by go_num, HR.out⟩
      case measure => simp [intOf]; omega
    · obtain ⟨o1, s1, e1, e2, hw1, hex1, he, ho1, hf1, hs1⟩ := hrl
      have hk2 : k = n := by omega
      subst hk2
      rw [Nat.sub_self] at hex1
      obtain ⟨rfl, rfl⟩ := hex1
      rw [List.append_nil] at he
      subst he
      have HE := Lib.hid (And.intro hw1 (And.intro ho1 (And.intro hf1 hs1)))
      clear hw1 ho1 hf1 hs1
      go_wp2_with fail
      go_ret
      exact ⟨_, rfl, o1, HE.out.1, HE.out.2.1, HE.out.2.2.1, HE.out.2.2.2⟩
end Go.Proofs.YtjnkphhlkoapbaaGreat
namespace Go.Proofs.YtjnkphhlkoapbaaGreat
open Go.RowKit
set_option linter.unusedVariables false
set_option linter.unusedSimpArgs false
def zR : Reg := ⟨0, 0, 0, 0, 0, 0, 0, 0⟩
def zI : Ins := ⟨0, 0, 0, 0⟩
def tsP (d : Int) : List Ins := [⟨1, 1, d, 0⟩, ⟨17, 2, 1, 3⟩, ⟨8, 7, 1, 0⟩, ⟨11, 3, 4, 5⟩, ⟨6, 4, 0, 0⟩]
def tsQ (at_ anew : Int) (x : Ins) : List Ins := [⟨1, 1, at_, 0⟩, ⟨17, 6, 1, 4⟩, ⟨11, 4, 5, 7⟩, ⟨1, 1, anew, 0⟩, x, ⟨6, 4, 0, 0⟩]
theorem pick_one (n a : Int) : [a][(pickZ n ([a] : List Int).length).toNat]? = some a := by
  have h : pickZ n ([a] : List Int).length = 0 := by unfold pickZ; simp [Int.emod_one]
  rw [h]; rfl
def roundE (i : Nat) : List Ent := .adv (if i = 0 then 0 else 1) :: manyE 0 10
def roundsE : Nat → Nat → List Ent
  | _, 0 => []
  | i, n + 1 => roundE i ++ roundsE (i + 1) n
theorem roundsE_add (i n m : Nat) : roundsE i (n + m) = roundsE i n ++ roundsE (i + n) m := by
  induction n generalizing i with
  | zero => simp [roundsE]
  | succ n ih =>
    rw [Nat.succ_add]
    simp only [roundsE, List.append_assoc]
    rw [ih, show i + 1 + n = i + (n + 1) from by omega]
theorem toldM_append (l m : List Ev) (t : Int) : toldM (l ++ m) t = toldM l t ++ toldM m t := List.filterMap_append
section
variable {ps : List (List Ins)} {s : Wst}
theorem adv_idle {d : Int} (hl : Lim s) (hd : 0 ≤ d ∧ s.now + d ≤ 1000000) (h : ∀ it, s.L[0]? = some it → s.now + d < it.when) : stepF ps s (.adv d) = some { s with ev := [], now := s.now + d, steps := s.steps + 1 } :=
  stepF_adv (s2 := { s with ev := [], now := s.now + d }) hl hd (firesF_none (k := 99) h) rfl (by simp)
theorem round_idle {i : Nat} (hl : Lim s) (hr : s.rd = []) (h1 : s.nl + 20 < 100000) (h2 : s.steps + 20 < 100000) (h3 : s.now < 100000) (h : ∀ it, s.L[0]? = some it → s.now + (if i = 0 then 0 else 1) < it.when) :
    Ex ps s (roundE i) [] { s with ev := [], now := s.now + (if i = 0 then 0 else 1), nl := s.nl + 10, steps := s.steps + 11 } := by
  obtain ⟨l1, l2, l3, l4, l5, l6, l7, l8, l9, l10, l11, l12, l13, l14, l15⟩ := id hl
  have hd : (0 : Int) ≤ (if i = 0 then 0 else 1) ∧ (if i = 0 then 0 else 1) ≤ (1 : Int) := by split <;> omega
  generalize hdd : (if i = 0 then (0 : Int) else 1) = d at *
  have ha := adv_idle (ps := ps) hl ⟨hd.1, by omega⟩ h
  have hl2 : Lim { s with ev := [], now := s.now + d, steps := s.steps + 1 } := ⟨by simp, l2, l3, l4, l5, l6, l7, l8, l9, by show 0 ≤ s.steps + 1; omega, by show s.steps + 1 < 100000; omega, by show 0 ≤ s.now + d; omega, by show s.now + d ≤ 1000000; omega, l14, l15⟩
  have hi := Ex.idle (ps := ps) (i := 0) (n := 10) hl2 hr rfl (by show s.nl + 10 < 100000; omega) (by show s.steps + 1 + 10 < 100000; omega)
  have h3 := Ex.cons ha rfl hi
  unfold roundE
  rw [hdd]
  have e2 : s.steps + 1 + ((10 : Nat) : Int) = s.steps + 11 := by omega
  simp only [e2, List.nil_append] at h3
  exact h3
theorem rounds_idle : ∀ {k : Nat} {i : Nat} {s : Wst}, i ≠ 0 → Lim s → s.rd = [] → s.ev = [] → s.nl + 10 * k + 20 < 100000 → s.steps + 11 * k + 20 < 100000 → s.now + k < 100000 → (∀ it, s.L[0]? = some it → s.now + k < it.when) →
    Ex ps s (roundsE i k) [] { s with now := s.now + k, nl := s.nl + 10 * k, steps := s.steps + 11 * k }
  | 0, i, s, hi, hl, hr, he, h1, h2, h3, h => ⟨rfl, by simp⟩
  | k + 1, i, s, hi, hl, hr, he, h1, h2, h3, h => by
    obtain ⟨l1, l2, l3, l4, l5, l6, l7, l8, l9, l10, l11, l12, l13, l14, l15⟩ := id hl
    have ha := round_idle (ps := ps) (i := i) hl hr (by omega) (by omega) (by omega) (fun it hit => by have := h it hit; rw [if_neg hi]; omega)
    rw [if_neg hi] at ha
    have hl2 : Lim { s with ev := [], now := s.now + 1, nl := s.nl + 10, steps := s.steps + 11 } := ⟨by simp, l2, l3, l4, l5, l6, l7, l8, by show s.nl + 10 < 100000; omega, by show 0 ≤ s.steps + 11; omega, by show s.steps + 11 < 100000; omega, by show 0 ≤ s.now + 1; omega, by show s.now + 1 ≤ 1000000; omega, l14, l15⟩
    have hb := rounds_idle (k := k) (i := i + 1) (s := { s with ev := [], now := s.now + 1, nl := s.nl + 10, steps := s.steps + 11 }) (by omega) hl2 hr rfl (by show s.nl + 10 + 10 * k + 20 < 100000; omega) (by show s.steps + 11 + 11 * (k : Int) + 20 < 100000; omega) (by show s.now + 1 + (k : Int) < 100000; omega) (fun it hit => by have := h it hit; show s.now + 1 + (k : Int) < _; omega)
    have h4 := Ex.append ha hb
    have e1 : s.now + 1 + (k : Int) = s.now + ((k + 1 : Nat) : Int) := by omega
    have e2 : s.nl + 10 + 10 * k = s.nl + 10 * (k + 1) := by omega
    have e3 : s.steps + 11 + 11 * (k : Int) = s.steps + 11 * ((k + 1 : Nat) : Int) := by omega
    simp only [e1, e2, e3, List.nil_append] at h4
    refine cast (congrArg (Ex ps s (roundsE i (k + 1)) []) ?_) h4
    cases s
    simp only at he
    subst he
    rfl
def tA0 (d : Int) : Tsk := ⟨0, 3, 1, 0, ⟨0, d, 0, 0, 0, 0, 0, 1⟩, ⟨11, 3, 4, 5⟩⟩
def tA1 (at_ : Int) : Tsk := ⟨1, 2, 1, 0, ⟨0, at_, 0, 0, 1, 0, 1, 0⟩, ⟨11, 4, 5, 7⟩⟩
def chE (l : List Wt) : Chn := ⟨true, false, false, true, none, l⟩
def tk2 : List Tk := [⟨1, 0, some 0⟩, ⟨1, 0, some 1⟩]
def stA (d at_ now : Int) (nl : Nat) (st : Int) : Wst := ⟨now, [tA0 d, tA1 at_], [], [(0, chE [⟨0, 0, 0⟩]), (1, chE [⟨1, 0, 0⟩])], 0, tk2, 2, [⟨1, at_, 2⟩, ⟨0, d, 1⟩], 2, 0, nl, st, []⟩
theorem pick_two (a b : Int) (n : Int) (h : n % 2 = 1) : [a, b][(pickZ n ([a, b] : List Int).length).toNat]? = some b := by
  have h : pickZ n ([a, b] : List Int).length = 1 := by unfold pickZ; simpa using h
  rw [h]; rfl
theorem pick_two0 (a b : Int) (n : Int) (h : n % 2 = 0) : [a, b][(pickZ n ([a, b] : List Int).length).toNat]? = some a := by
  have h : pickZ n ([a, b] : List Int).length = 0 := by unfold pickZ; simpa using h
  rw [h]; rfl
theorem ts_start {d at_ anew : Int} {x : Ins} (hd : 1 ≤ d ∧ d ≤ 100) (ha : 0 ≤ at_ ∧ at_ < d) :
    Ex [tsP d, tsQ at_ anew x] initS (manyE 0 30) [⟨2, 5, 1, 1, 0, 0⟩, ⟨4, 2, 0, 0, 0, 0⟩, ⟨6, 2, 1, 0, 0, 0⟩] (stA d at_ 0 30 30) := by
  have a1 : addZ 0 d = d := (addZ_small (by omega) (by omega) (by omega) (by omega)).trans (by omega)
  have a2 : addZ 0 at_ = at_ := (addZ_small (by omega) (by omega) (by omega) (by omega)).trans (by omega)
  have s0 : stepF [tsP d, tsQ at_ anew x] initS (.run 0) = some ⟨0, [⟨0, 1, 0, 0, ⟨0, d, 0, 0, 0, 0, 0, 0⟩, zI⟩], [0], [], 0, [], 0, [], 0, 0, 1, 1, []⟩ :=
    Eq.trans (stepF_loc (i := 0) (x := ⟨0, 0, 0, 0, zR, zI⟩) (p := tsP d) (O := ⟨1, ⟨0, d, 0, 0, 0, 0, 0, 0⟩, false, 0, false⟩) (by simp [Lim, initS]) (by simp [initS]) (pick_one 0 0) rfl rfl ⟨rfl, by simp, by simp⟩ (by simp [locF, tsP, RegOK, zR, Reg.set])) rfl
  have s1 : stepF [tsP d, tsQ at_ anew x] ⟨0, [⟨0, 1, 0, 0, ⟨0, d, 0, 0, 0, 0, 0, 0⟩, zI⟩], [0], [], 0, [], 0, [], 0, 0, 1, 1, []⟩ (.run 1) = some ⟨0, [⟨0, 2, 0, 0, ⟨0, d, 0, 0, 0, 0, 0, 0⟩, zI⟩], [0], [(0, chE [])], 0, [⟨1, 0, some 0⟩], 1, [⟨0, d, 1⟩], 1, 0, 2, 2, []⟩ := by
    refine Eq.trans (stepF_act (i := 0) (x := ⟨0, 1, 0, 0, ⟨0, d, 0, 0, 0, 0, 0, 0⟩, zI⟩) (p := tsP d) (ins := ⟨17, 2, 1, 3⟩) (rr := some ⟨0, d, 0, 0, 0, 0, 0, 0⟩) (s2 := timerS ⟨0, [⟨0, 1, 0, 0, ⟨0, d, 0, 0, 0, 0, 0, 0⟩, zI⟩], [0], [], 0, [], 0, [], 0, 0, 2, 1, []⟩ d 0) (by simp [Lim]) (by simp) (pick_one 1 0) rfl rfl ⟨rfl, by simp, by simp⟩ rfl rfl ?_ rfl (by simp [timerS])) ?_
    · have h1 : 0 ≤ d := by omega
      have h2 : d ≤ 1000000 := by omega
      simp [actF, actGo, actRecv, actTimer, actStop, actReset, RegOK, Reg.get, Reg.set, h1, h2]
    · simp [timerS, putS, a1, delL, insL, chE]
  have s2 : stepF [tsP d, tsQ at_ anew x] ⟨0, [⟨0, 2, 0, 0, ⟨0, d, 0, 0, 0, 0, 0, 0⟩, zI⟩], [0], [(0, chE [])], 0, [⟨1, 0, some 0⟩], 1, [⟨0, d, 1⟩], 1, 0, 2, 2, []⟩ (.run 2) = some ⟨0, [⟨0, 3, 0, 0, ⟨0, d, 0, 0, 0, 0, 0, 1⟩, zI⟩, ⟨1, 0, 0, 0, ⟨0, d, 0, 0, 0, 0, 0, 0⟩, zI⟩], [0, 1], [(0, chE [])], 0, [⟨1, 0, some 0⟩], 1, [⟨0, d, 1⟩], 1, 0, 3, 3, [⟨2, 5, 1, 1, 0, 0⟩]⟩ :=
    Eq.trans (stepF_act (i := 0) (x := ⟨0, 2, 0, 0, ⟨0, d, 0, 0, 0, 0, 0, 0⟩, zI⟩) (p := tsP d) (ins := ⟨8, 7, 1, 0⟩) (rr := some ⟨0, d, 0, 0, 0, 0, 0, 1⟩) (s2 := startS ⟨0, [⟨0, 2, 0, 0, ⟨0, d, 0, 0, 0, 0, 0, 0⟩, zI⟩], [0], [(0, chE [])], 0, [⟨1, 0, some 0⟩], 1, [⟨0, d, 1⟩], 1, 0, 3, 2, []⟩ 1 ⟨0, d, 0, 0, 0, 0, 0, 0⟩) (by simp [Lim]) (by simp) (pick_one 2 0) rfl rfl ⟨rfl, by simp, by simp⟩ rfl rfl (by simp [actF, actGo, actRecv, actTimer, actStop, actReset, RegOK, Reg.set]) rfl (by simp [startS])) rfl
  have s3 : stepF [tsP d, tsQ at_ anew x] ⟨0, [⟨0, 3, 0, 0, ⟨0, d, 0, 0, 0, 0, 0, 1⟩, zI⟩, ⟨1, 0, 0, 0, ⟨0, d, 0, 0, 0, 0, 0, 0⟩, zI⟩], [0, 1], [(0, chE [])], 0, [⟨1, 0, some 0⟩], 1, [⟨0, d, 1⟩], 1, 0, 3, 3, [⟨2, 5, 1, 1, 0, 0⟩]⟩ (.run 3) = some ⟨0, [⟨0, 3, 0, 0, ⟨0, d, 0, 0, 0, 0, 0, 1⟩, zI⟩, ⟨1, 1, 0, 0, ⟨0, at_, 0, 0, 0, 0, 0, 0⟩, zI⟩], [0, 1], [(0, chE [])], 0, [⟨1, 0, some 0⟩], 1, [⟨0, d, 1⟩], 1, 0, 4, 4, []⟩ :=
    Eq.trans (stepF_loc (i := 1) (x := ⟨1, 0, 0, 0, ⟨0, d, 0, 0, 0, 0, 0, 0⟩, zI⟩) (p := tsQ at_ anew x) (O := ⟨1, ⟨0, at_, 0, 0, 0, 0, 0, 0⟩, false, 0, false⟩) (by simp [Lim]) (by simp) (pick_two 0 1 3 rfl) rfl rfl ⟨rfl, by simp, by simp⟩ (by simp [locF, tsQ, RegOK, Reg.set])) rfl
  have s4 : stepF [tsP d, tsQ at_ anew x] ⟨0, [⟨0, 3, 0, 0, ⟨0, d, 0, 0, 0, 0, 0, 1⟩, zI⟩, ⟨1, 1, 0, 0, ⟨0, at_, 0, 0, 0, 0, 0, 0⟩, zI⟩], [0, 1], [(0, chE [])], 0, [⟨1, 0, some 0⟩], 1, [⟨0, d, 1⟩], 1, 0, 4, 4, []⟩ (.run 4) = some ⟨0, [tA0 d, ⟨1, 1, 0, 0, ⟨0, at_, 0, 0, 0, 0, 0, 0⟩, zI⟩], [1], [(0, chE [⟨0, 0, 0⟩])], 0, [⟨1, 0, some 0⟩], 1, [⟨0, d, 1⟩], 1, 0, 5, 5, [⟨4, 2, 0, 0, 0, 0⟩]⟩ :=
    Eq.trans (stepF_act (i := 0) (x := ⟨0, 3, 0, 0, ⟨0, d, 0, 0, 0, 0, 0, 1⟩, zI⟩) (p := tsP d) (ins := ⟨11, 3, 4, 5⟩) (rr := none) (s2 := ⟨0, [⟨0, 3, 0, 0, ⟨0, d, 0, 0, 0, 0, 0, 1⟩, zI⟩, ⟨1, 1, 0, 0, ⟨0, at_, 0, 0, 0, 0, 0, 0⟩, zI⟩], [0, 1], [(0, chE [⟨0, 0, 0⟩])], 0, [⟨1, 0, some 0⟩], 1, [⟨0, d, 1⟩], 1, 0, 5, 4, []⟩) (by simp [Lim]) (by simp) (pick_two0 0 1 4 rfl) rfl rfl ⟨rfl, by simp, by simp⟩ rfl rfl (by simp [actF, actGo, actRecv, actTimer, actStop, actReset, RegOK, Reg.get, chE]) rfl (by simp)) (by simp [parkS, offS, tA0, List.idxOf_cons])
  have s5 : stepF [tsP d, tsQ at_ anew x] ⟨0, [tA0 d, ⟨1, 1, 0, 0, ⟨0, at_, 0, 0, 0, 0, 0, 0⟩, zI⟩], [1], [(0, chE [⟨0, 0, 0⟩])], 0, [⟨1, 0, some 0⟩], 1, [⟨0, d, 1⟩], 1, 0, 5, 5, [⟨4, 2, 0, 0, 0, 0⟩]⟩ (.run 5) = some ⟨0, [tA0 d, ⟨1, 2, 0, 0, ⟨0, at_, 0, 0, 1, 0, 1, 0⟩, zI⟩], [1], [(0, chE [⟨0, 0, 0⟩]), (1, chE [])], 0, tk2, 2, [⟨1, at_, 2⟩, ⟨0, d, 1⟩], 2, 0, 6, 6, []⟩ := by
    refine Eq.trans (stepF_act (i := 1) (x := ⟨1, 1, 0, 0, ⟨0, at_, 0, 0, 0, 0, 0, 0⟩, zI⟩) (p := tsQ at_ anew x) (ins := ⟨17, 6, 1, 4⟩) (rr := some ⟨0, at_, 0, 0, 1, 0, 1, 0⟩) (s2 := timerS ⟨0, [tA0 d, ⟨1, 1, 0, 0, ⟨0, at_, 0, 0, 0, 0, 0, 0⟩, zI⟩], [1], [(0, chE [⟨0, 0, 0⟩])], 0, [⟨1, 0, some 0⟩], 1, [⟨0, d, 1⟩], 1, 0, 6, 5, []⟩ at_ 1) (by simp [Lim]) (by simp) (pick_one 5 1) rfl rfl ⟨rfl, by simp, by simp⟩ rfl rfl ?_ rfl (by simp [timerS])) ?_
    · have h1 : 0 ≤ at_ := by omega
      have h2 : at_ ≤ 1000000 := by omega
      simp [actF, actGo, actRecv, actTimer, actStop, actReset, RegOK, Reg.get, Reg.set, h1, h2]
    · have hlt : lt ⟨1, at_, 2⟩ ⟨0, d, 1⟩ := .inl (by show at_ < d; omega)
      simp [timerS, putS, a2, delL, insL, hlt, chE, tk2]
  have s6 : stepF [tsP d, tsQ at_ anew x] ⟨0, [tA0 d, ⟨1, 2, 0, 0, ⟨0, at_, 0, 0, 1, 0, 1, 0⟩, zI⟩], [1], [(0, chE [⟨0, 0, 0⟩]), (1, chE [])], 0, tk2, 2, [⟨1, at_, 2⟩, ⟨0, d, 1⟩], 2, 0, 6, 6, []⟩ (.run 6) = some ⟨0, [tA0 d, tA1 at_], [], [(0, chE [⟨0, 0, 0⟩]), (1, chE [⟨1, 0, 0⟩])], 0, tk2, 2, [⟨1, at_, 2⟩, ⟨0, d, 1⟩], 2, 0, 7, 7, [⟨6, 2, 1, 0, 0, 0⟩]⟩ :=
    Eq.trans (stepF_act (i := 1) (x := ⟨1, 2, 0, 0, ⟨0, at_, 0, 0, 1, 0, 1, 0⟩, zI⟩) (p := tsQ at_ anew x) (ins := ⟨11, 4, 5, 7⟩) (rr := none) (s2 := ⟨0, [tA0 d, ⟨1, 2, 0, 0, ⟨0, at_, 0, 0, 1, 0, 1, 0⟩, zI⟩], [1], [(0, chE [⟨0, 0, 0⟩]), (1, chE [⟨1, 0, 0⟩])], 0, tk2, 2, [⟨1, at_, 2⟩, ⟨0, d, 1⟩], 2, 0, 7, 6, []⟩) (by simp [Lim, tk2]) (by simp) (pick_one 6 1) rfl rfl ⟨rfl, by simp, by simp⟩ rfl rfl (by simp [actF, actGo, actRecv, actTimer, actStop, actReset, RegOK, Reg.get, chE]) rfl (by simp)) (by simp [parkS, offS, tA1, List.idxOf_cons])
  have s7 := stepF_idle (ps := [tsP d, tsQ at_ anew x]) (s := ⟨0, [tA0 d, tA1 at_], [], [(0, chE [⟨0, 0, 0⟩]), (1, chE [⟨1, 0, 0⟩])], 0, tk2, 2, [⟨1, at_, 2⟩, ⟨0, d, 1⟩], 2, 0, 7, 7, [⟨6, 2, 1, 0, 0, 0⟩]⟩) (n := 7) (by simp [Lim, tk2]) rfl
  have s8 := Ex.idle (ps := [tsP d, tsQ at_ anew x]) (i := 8) (n := 22) (s := stA d at_ 0 8 8) (by simp [Lim, tk2, stA]) rfl rfl (by simp [stA]) (by simp [stA])
  exact Ex.cons s0 rfl (Ex.cons s1 rfl (Ex.cons s2 rfl (Ex.cons s3 rfl (Ex.cons s4 rfl (Ex.cons s5 rfl (Ex.cons s6 rfl (Ex.cons s7 rfl s8)))))))
end
end Go.Proofs.YtjnkphhlkoapbaaGreat
namespace Go.Proofs.YtjnkphhlkoapbaaGreat
open Go.RowKit
set_option linter.unusedVariables false
set_option linter.unusedSimpArgs false
def awP : List Ins := [⟨1, 1, 10, 0⟩, ⟨17, 0, 1, 2⟩, ⟨20, 0, 3, 0⟩, ⟨6, 3, 0, 0⟩, ⟨11, 2, 4, 5⟩]
def aw1 : Wst := ⟨0, [⟨0, 1, 0, 0, ⟨0, 10, 0, 0, 0, 0, 0, 0⟩, zI⟩], [0], [], 0, [], 0, [], 0, 0, 1, 1, []⟩
def aw2 : Wst := ⟨0, [⟨0, 2, 0, 0, ⟨0, 10, 0, 0, 0, 0, 0, 0⟩, zI⟩], [0], [(0, chE [])], 0, [⟨1, 0, some 0⟩], 1, [⟨0, 10, 1⟩], 1, 0, 2, 2, []⟩
def aw3 : Wst := ⟨20, [⟨0, 2, 0, 0, ⟨0, 10, 0, 0, 0, 0, 0, 0⟩, zI⟩], [0], [(0, ⟨true, false, false, true, some 20, []⟩)], 0, [⟨1, 0, some 0⟩], 1, [], 1, 1, 2, 3, [⟨2, 6, -1, 0, 10, 0⟩]⟩
def aw4 : Wst := ⟨20, [⟨0, 3, 0, 0, ⟨0, 10, 0, 1, 0, 0, 0, 0⟩, zI⟩], [0], [(0, chE [])], 0, [⟨1, 0, some 0⟩], 1, [], 1, 1, 3, 4, []⟩
def aw5 : Wst := ⟨20, [⟨0, 4, 0, 0, ⟨0, 10, 0, 1, 0, 0, 0, 0⟩, zI⟩], [0], [(0, chE [])], 0, [⟨1, 0, some 0⟩], 1, [], 1, 1, 4, 5, [⟨4, 1, 0, 1, 0, 0⟩]⟩
def aw6 : Wst := ⟨20, [⟨0, 4, 1, 0, ⟨0, 10, 0, 1, 0, 0, 0, 0⟩, ⟨11, 2, 4, 5⟩⟩], [], [(0, chE [⟨0, 0, 0⟩])], 0, [⟨1, 0, some 0⟩], 1, [], 1, 1, 5, 6, [⟨5, 2, 0, 0, 0, 0⟩]⟩
theorem awS1 : stepF [awP] initS (.run 0) = some aw1 := rfl
theorem awS2 : stepF [awP] aw1 (.run 0) = some aw2 := rfl
theorem awS3 : stepF [awP] aw2 (.adv 20) = some aw3 := rfl
theorem awS4 : stepF [awP] aw3 (.run 0) = some aw4 := rfl
theorem awS5 : stepF [awP] aw4 (.run 0) = some aw5 := rfl
theorem awS6 : stepF [awP] aw5 (.run 0) = some aw6 := rfl
end Go.Proofs.YtjnkphhlkoapbaaGreat
namespace Go.Proofs.YtjnkphhlkoapbaaGreat
open Go.RowKit
set_option linter.unusedVariables false
set_option linter.unusedSimpArgs false
theorem RowIn.ofBlk {α : Type} {enc : α → List Value} {size : Nat} (he : ∀ x, (enc x).length = size) {w : World} {g : Nat} {t : TypeId} {xs : List α} (h : Blk w g t (flat enc xs).toArray) : RowIn enc size w (some ⟨g, 0, none⟩) xs.length xs :=
  ⟨rfl, .inr ⟨g, 0, rfl, h.lt, fun i x hx j v hv => by
    have h1 := h.cell (0 + i * size + j)
    rw [h1]
    have h2 := flat_get he hx hv
    simpa using h2⟩⟩
theorem awProgs : ProgsC [awP] := by
  refine ⟨by simp, by simp, by simp [awP], fun p hp x hx => ?_, fun p hp x hx => ?_⟩
  · simp only [List.mem_singleton] at hp
    subst hp
    simp only [awP, List.mem_cons, List.not_mem_nil, or_false] at hx
    rcases hx with rfl | rfl | rfl | rfl | rfl
    · exact good_1 _ _ _ _ (by omega) rfl
    · exact good_17 _ _ _ _ (by omega) (by omega) (by omega)
    · exact good_20 _ _ _ _ (by omega) (by omega) rfl
    · exact good_6 _ _ _ _ (by omega) rfl rfl
    · exact good_11 _ _ _ _ (by omega) (by omega) (by omega)
  · simp only [List.mem_singleton] at hp
    subst hp
    simp only [awP, List.mem_cons, List.not_mem_nil, or_false] at hx
    rcases hx with rfl | rfl | rfl | rfl | rfl <;> exact .inr ⟨by decide, by decide, by decide, by decide⟩
theorem ProgsC.ok {ps : List (List Ins)} (h : ProgsC ps) : PsOK ps := ⟨h.le, h.len, h.good⟩
theorem one_ev {w : World} {v : Value} {x : Ev} (h : Owns evC 45 6 w v [x]) : ∃ g c, v = .slice (some ⟨g, 0, none⟩) 1 c ∧ w.cell? ⟨g, 1, none⟩ = some (.int .i64 x.kind) ∧ w.cell? ⟨g, 3, none⟩ = some (.int .i64 x.a) ∧ w.cell? ⟨g, 4, none⟩ = some (.int .i64 x.b) := by
  rcases h.form with ⟨_, h0⟩ | ⟨g, c, rfl, _⟩
  · cases h0
  · have c1 := Owns.cell evC_len h (i := 0) (x := x) rfl (j := 1) (u := .int .i64 x.kind) rfl
    have c3 := Owns.cell evC_len h (i := 0) (x := x) rfl (j := 3) (u := .int .i64 x.a) rfl
    have c4 := Owns.cell evC_len h (i := 0) (x := x) rfl (j := 4) (u := .int .i64 x.b) rfl
    exact ⟨g, c, rfl, by simpa using c1, by simpa using c3, by simpa using c4⟩
set_option maxRecDepth 100000 in
set_option maxHeartbeats 4000000 in
theorem awake_c (w : World) : Calls Tryz.prog 7 #[] w fun e w' => e = .returned (.bool true) ∧ Made w w' := by
  have hb1 := Blk.new w 25 #[.int .i64 1, .int .i64 1, .int .i64 10, .int .i64 0, .slice none 0 0, .bool false, .int .i64 17, .int .i64 0, .int .i64 1, .int .i64 2, .slice none 0 0, .bool false, .int .i64 20, .int .i64 0, .int .i64 3, .int .i64 0, .slice none 0 0, .bool false, .int .i64 6, .int .i64 3, .int .i64 0, .int .i64 0, .slice none 0 0, .bool false, .int .i64 11, .int .i64 2, .int .i64 4, .int .i64 5, .slice none 0 0, .bool false]
  have hm1 := (Turns.refl (fun _ => False) w).alloc (.cells #[.int .i64 1, .int .i64 1, .int .i64 10, .int .i64 0, .slice none 0 0, .bool false, .int .i64 17, .int .i64 0, .int .i64 1, .int .i64 2, .slice none 0 0, .bool false, .int .i64 20, .int .i64 0, .int .i64 3, .int .i64 0, .slice none 0 0, .bool false, .int .i64 6, .int .i64 3, .int .i64 0, .int .i64 0, .slice none 0 0, .bool false, .int .i64 11, .int .i64 2, .int .i64 4, .int .i64 5, .slice none 0 0, .bool false] 25)
  have hs : (w.alloc (.cells #[.int .i64 1, .int .i64 1, .int .i64 10, .int .i64 0, .slice none 0 0, .bool false, .int .i64 17, .int .i64 0, .int .i64 1, .int .i64 2, .slice none 0 0, .bool false, .int .i64 20, .int .i64 0, .int .i64 3, .int .i64 0, .slice none 0 0, .bool false, .int .i64 6, .int .i64 3, .int .i64 0, .int .i64 0, .slice none 0 0, .bool false, .int .i64 11, .int .i64 2, .int .i64 4, .int .i64 5, .slice none 0 0, .bool false] 25)).heap.size = w.heap.size + 1 := by simp
  have hb2 := Blk.new (w.alloc (.cells #[.int .i64 1, .int .i64 1, .int .i64 10, .int .i64 0, .slice none 0 0, .bool false, .int .i64 17, .int .i64 0, .int .i64 1, .int .i64 2, .slice none 0 0, .bool false, .int .i64 20, .int .i64 0, .int .i64 3, .int .i64 0, .slice none 0 0, .bool false, .int .i64 6, .int .i64 3, .int .i64 0, .int .i64 0, .slice none 0 0, .bool false, .int .i64 11, .int .i64 2, .int .i64 4, .int .i64 5, .slice none 0 0, .bool false] 25)) 26 #[.slice (some ⟨w.heap.size, 0, none⟩) 5 5]
  rw [hs] at hb2
  have hm2 := (Turns.refl (fun _ => False) (w.alloc (.cells #[.int .i64 1, .int .i64 1, .int .i64 10, .int .i64 0, .slice none 0 0, .bool false, .int .i64 17, .int .i64 0, .int .i64 1, .int .i64 2, .slice none 0 0, .bool false, .int .i64 20, .int .i64 0, .int .i64 3, .int .i64 0, .slice none 0 0, .bool false, .int .i64 6, .int .i64 3, .int .i64 0, .int .i64 0, .slice none 0 0, .bool false, .int .i64 11, .int .i64 2, .int .i64 4, .int .i64 5, .slice none 0 0, .bool false] 25))).alloc (.cells #[.slice (some ⟨w.heap.size, 0, none⟩) 5 5] 26)
  have hr : RowIn insC 6 ((w.alloc (.cells #[.int .i64 1, .int .i64 1, .int .i64 10, .int .i64 0, .slice none 0 0, .bool false, .int .i64 17, .int .i64 0, .int .i64 1, .int .i64 2, .slice none 0 0, .bool false, .int .i64 20, .int .i64 0, .int .i64 3, .int .i64 0, .slice none 0 0, .bool false, .int .i64 6, .int .i64 3, .int .i64 0, .int .i64 0, .slice none 0 0, .bool false, .int .i64 11, .int .i64 2, .int .i64 4, .int .i64 5, .slice none 0 0, .bool false] 25)).alloc (.cells #[.slice (some ⟨w.heap.size, 0, none⟩) 5 5] 26)) (some ⟨w.heap.size, 0, none⟩) 5 awP := RowIn.ofBlk insC_len (show Blk _ _ 25 (flat insC awP).toArray from hb1.turns hm2 (fun h => h))
  have hrs : RowsIn ((w.alloc (.cells #[.int .i64 1, .int .i64 1, .int .i64 10, .int .i64 0, .slice none 0 0, .bool false, .int .i64 17, .int .i64 0, .int .i64 1, .int .i64 2, .slice none 0 0, .bool false, .int .i64 20, .int .i64 0, .int .i64 3, .int .i64 0, .slice none 0 0, .bool false, .int .i64 6, .int .i64 3, .int .i64 0, .int .i64 0, .slice none 0 0, .bool false, .int .i64 11, .int .i64 2, .int .i64 4, .int .i64 5, .slice none 0 0, .bool false] 25)).alloc (.cells #[.slice (some ⟨w.heap.size, 0, none⟩) 5 5] 26)) (w.heap.size + 1) 0 [awP] := ⟨hb2.lt, fun i p hp => by
    cases i with
    | zero =>
      cases hp
      exact ⟨_, 5, hb2.cell 0, hr⟩
    | succ i => simp at hp⟩
  have HNW := Lib.hid (worldnew_c (cap := 1) _ awProgs (by simp [awP]) hrs)
  have HM := Lib.hid (hm1.trans hm2)
  clear hb1 hb2 hr hrs hm1 hm2 hs
  go_enter Tryz.func7, Tryz.ntmps7
  go_wp2_with fail
  refine HNW.out.mono ?_
  rintro e w1 ⟨b, o0, rfl, hw, hmw, hlo⟩
  have HPS := Lib.hid awProgs.ok
  have HLO := Lib.hid hlo
  have HSZ := Lib.hid (HM.out.trans hmw)
  have HST := Lib.hid (step_F (e := .run 0) CX0.ext HPS.out hw awS1)
  clear hw hmw hlo
  go_wp2_with fail
  refine HST.out.mono ?_
  rintro e w2 ⟨v1, rfl, o1, hw, -, -, hs1⟩
  have HST2 := Lib.hid (step_F (e := .run 0) CX0.ext HPS.out hw awS2)
  have HS1 := Lib.hid hs1
  clear hw hs1
  go_wp2_with fail
  refine HST2.out.mono ?_
  rintro e w3 ⟨v2, rfl, o2, hw, -, -, hs1⟩
  have HST3 := Lib.hid (step_F (e := .adv 20) CX0.ext HPS.out hw awS3)
  have HS2 := Lib.hid (HS1.out.trans hs1)
  clear hw hs1
  go_wp2_with fail
  refine HST3.out.mono ?_
  rintro e w4 ⟨vf, rfl, o3, hw, hof, hff, hs1⟩
  have HST4 := Lib.hid (step_F (e := .run 0) CX0.ext HPS.out hw awS4)
  have HS3 := Lib.hid (HS2.out.trans hs1)
  have HF := Lib.hid (And.intro hof (fun k hk => (hff k hk).1))
  clear hw hs1 hof hff
  go_wp2_with fail
  refine HST4.out.mono ?_
  rintro e w5 ⟨v4, rfl, o4, hw, -, -, hs1⟩
  have HST5 := Lib.hid (step_F (e := .run 0) CX0.ext HPS.out hw awS5)
  have HS4 := Lib.hid (HS3.out.trans hs1)
  have HF2 := Lib.hid (show Owns evC 45 6 w5 vf _ ∧ ∀ k, vf.ownBlock = some k → ¬ Own o4 k from ⟨HF.out.1.turns hs1.t HF.out.2, fun k hk h0 => (hs1.f k h0).elim (HF.out.2 k hk) (fun h => absurd (HF.out.1.lt hk) (Nat.not_lt.2 h))⟩)
  clear hw hs1
  go_wp2_with fail
  refine HST5.out.mono ?_
  rintro e w6 ⟨vt, rfl, o5, hw, hot, hft, hs1⟩
  have HST6 := Lib.hid (step_F (e := .run 0) CX0.ext HPS.out hw awS6)
  have HS5 := Lib.hid (HS4.out.trans hs1)
  have HF3 := Lib.hid (show Owns evC 45 6 w6 vf _ ∧ ∀ k, vf.ownBlock = some k → ¬ Own o5 k from ⟨HF2.out.1.turns hs1.t HF2.out.2, fun k hk h0 => (hs1.f k h0).elim (HF2.out.2 k hk) (fun h => absurd (HF2.out.1.lt hk) (Nat.not_lt.2 h))⟩)
  have HT := Lib.hid (And.intro hot (fun k hk => (hft k hk).1))
  clear hw hs1 hot hft
  go_wp2_with fail
  refine HST6.out.mono ?_
  rintro e w7 ⟨vl, rfl, o6, hw, hol, -, hs1⟩
  have HS6 := Lib.hid (HS5.out.trans hs1)
  obtain ⟨gf, cf, rfl, f1, f3, f4⟩ := one_ev (HF3.out.1.turns hs1.t HF3.out.2)
  obtain ⟨gt, ct, rfl, t1, t3, t4⟩ := one_ev (HT.out.1.turns hs1.t HT.out.2)
  obtain ⟨gl, cl, rfl, l1, l3, l4⟩ := one_ev hol
  simp only at f1 f3 f4 t1 t3 t4 l1 l3 l4
  clear hw hol hs1
  go_wp2_with fail
  go_returns
  exact ⟨rfl, HSZ.out.then HS6.out.t (fun k hk h => absurd (HLO.out k h) (by have := HM.out.size; omega))⟩
end Go.Proofs.YtjnkphhlkoapbaaGreat
namespace Go.Proofs.YtjnkphhlkoapbaaGreat
open Go.RowKit
set_option linter.unusedVariables false
set_option linter.unusedSimpArgs false
theorem wakeS_one {s : Wst} {i a j k : Nat} {pg pc how v : Int} {r : Reg} (h : s.ts[i]? = some ⟨pg, pc, 1, how, r, ⟨11, a, j, k⟩⟩) : wakeS s ⟨(i : Int), 0, v, true, false⟩ = { s with nd := s.nd + 1, ts := s.ts.set i ⟨pg, pc + 1, 0, how, ((r.set j v).set k 1), ⟨0, 0, 0, 0⟩⟩, rd := s.rd ++ [(i : Int)], ev := s.ev ++ [⟨s.steps, 3, (i : Int), 0, v, 1⟩] } := wakeS_yes h
def rB (at_ anew : Int) : Reg := ⟨0, anew, 0, 0, 1, at_, 1, 1⟩
def stB (d at_ anew now : Int) (L : List It) (sq : Int) (nl : Nat) (st : Int) : Wst := ⟨now, [tA0 d, ⟨1, 6, 2, 0, rB at_ anew, zI⟩], [], [(0, chE [⟨0, 0, 0⟩]), (1, chE [])], 0, tk2, 2, L, sq, 2, nl, st, []⟩
section
variable {d at_ anew now dl : Int} {x : Ins} {L : List It} {sq st : Int} {nl : Nat}
set_option maxHeartbeats 1000000 in
theorem ts_fire1 (hd : 1 ≤ d ∧ d ≤ 100) (ha : 0 ≤ at_ ∧ at_ < d) (hn : anew ≤ 100 ∧ 0 ≤ anew) (hnl : nl < 50000) (hst : 0 ≤ st ∧ st < 50000) (hnow : 0 ≤ now) (hdl : 0 ≤ dl) (he : now + dl = at_) (hsq : 0 ≤ sq ∧ sq < 100) (hL : L.length ≤ 1) (hm : mineB x.op = false)
    (hact : actF ⟨at_, [tA0 d, ⟨1, 4, 0, 0, ⟨0, anew, 0, 0, 1, at_, 1, 1⟩, zI⟩], [1], [(0, chE [⟨0, 0, 0⟩]), (1, chE [])], 0, tk2, 2, [⟨0, d, 1⟩], 2, 2, nl + 2, st + 2, []⟩ 1 x ⟨0, anew, 0, 0, 1, at_, 1, 1⟩ = some (⟨at_, [tA0 d, ⟨1, 4, 0, 0, ⟨0, anew, 0, 0, 1, at_, 1, 1⟩, zI⟩], [1], [(0, chE [⟨0, 0, 0⟩]), (1, chE [])], 0, tk2, 2, L, sq, 2, nl + 2, st + 2, []⟩, some ⟨0, anew, 0, 0, 1, at_, 1, 1⟩)) :
    Ex [tsP d, tsQ at_ anew x] (stA d at_ now nl st) (.adv dl :: manyE 0 10) [⟨st, 6, -1, 1, at_, 0⟩, ⟨st, 3, 1, 0, at_, 1⟩, ⟨st + 3, 1, 1, 1, 0, 0⟩, ⟨st + 4, 4, 1, 0, 0, 0⟩] (stB d at_ anew at_ L sq (nl + 10) (st + 11)) := by
  have s0 : stepF [tsP d, tsQ at_ anew x] (stA d at_ now nl st) (.adv dl) = some ⟨at_, [tA0 d, ⟨1, 3, 0, 0, ⟨0, at_, 0, 0, 1, at_, 1, 1⟩, zI⟩], [1], [(0, chE [⟨0, 0, 0⟩]), (1, chE [])], 0, tk2, 2, [⟨0, d, 1⟩], 2, 2, nl, st + 1, [⟨st, 6, -1, 1, at_, 0⟩, ⟨st, 3, 1, 0, at_, 1⟩]⟩ := by
    refine stepF_adv (s2 := ⟨at_, [tA0 d, ⟨1, 3, 0, 0, ⟨0, at_, 0, 0, 1, at_, 1, 1⟩, zI⟩], [1], [(0, chE [⟨0, 0, 0⟩]), (1, chE [])], 0, tk2, 2, [⟨0, d, 1⟩], 2, 2, nl, st, [⟨st, 6, -1, 1, at_, 0⟩, ⟨st, 3, 1, 0, at_, 1⟩]⟩) (by simp [Lim, tk2, stA]; omega) ⟨hdl, by show now + dl ≤ 1000000; omega⟩ ?_ rfl (by simp)
    show firesF 100 ⟨now + dl, [tA0 d, tA1 at_], [], [(0, chE [⟨0, 0, 0⟩]), (1, chE [⟨1, 0, 0⟩])], 0, tk2, 2, [⟨1, at_, 2⟩, ⟨0, d, 1⟩], 2, 0, nl, st, []⟩ = _
    rw [he]
    refine (firesF_wake (k := 99) (i := 1) (ci := 1) (dt := 0) (sg := false) (cl := false) (v := none) (x := ⟨1, 0, 0⟩) (lw := []) (q := 1) (by simp [Lim, tk2]; omega) rfl (Int.le_refl _) rfl rfl (by simp [wakeB, tA1, RegOK, Reg.get]) (by simp)).trans ?_
    refine (congrArg (firesF 99) (wakeS_one (s := fireB ⟨at_, [tA0 d, tA1 at_], [], [(0, chE [⟨0, 0, 0⟩]), (1, chE [])], 0, tk2, 2, [⟨0, d, 1⟩], 2, 0, nl, st, []⟩ 1 at_) (i := 1) (a := 4) (j := 5) (k := 7) (pg := 1) (pc := 2) (how := 0) (v := at_) (r := ⟨0, at_, 0, 0, 1, 0, 1, 0⟩) rfl)).trans ?_
    refine (firesF_none (k := 98) (fun it hit => ?_)).trans rfl
    cases hit
    show at_ < d
    omega
  have s1 : stepF [tsP d, tsQ at_ anew x] ⟨at_, [tA0 d, ⟨1, 3, 0, 0, ⟨0, at_, 0, 0, 1, at_, 1, 1⟩, zI⟩], [1], [(0, chE [⟨0, 0, 0⟩]), (1, chE [])], 0, tk2, 2, [⟨0, d, 1⟩], 2, 2, nl, st + 1, [⟨st, 6, -1, 1, at_, 0⟩, ⟨st, 3, 1, 0, at_, 1⟩]⟩ (.run 0) = some ⟨at_, [tA0 d, ⟨1, 4, 0, 0, ⟨0, anew, 0, 0, 1, at_, 1, 1⟩, zI⟩], [1], [(0, chE [⟨0, 0, 0⟩]), (1, chE [])], 0, tk2, 2, [⟨0, d, 1⟩], 2, 2, nl + 1, st + 1 + 1, []⟩ :=
    Eq.trans (stepF_loc (i := 1) (x := ⟨1, 3, 0, 0, ⟨0, at_, 0, 0, 1, at_, 1, 1⟩, zI⟩) (p := tsQ at_ anew x) (O := ⟨4, ⟨0, anew, 0, 0, 1, at_, 1, 1⟩, false, 0, false⟩) (by simp [Lim, tk2]; omega) (by show nl < 99999; omega) (pick_one 0 1) rfl rfl ⟨rfl, by simp, by simp⟩ (by simp [locF, tsQ, RegOK, Reg.set])) rfl
  have s2 : stepF [tsP d, tsQ at_ anew x] ⟨at_, [tA0 d, ⟨1, 4, 0, 0, ⟨0, anew, 0, 0, 1, at_, 1, 1⟩, zI⟩], [1], [(0, chE [⟨0, 0, 0⟩]), (1, chE [])], 0, tk2, 2, [⟨0, d, 1⟩], 2, 2, nl + 1, st + 1 + 1, []⟩ (.run 1) = some ⟨at_, [tA0 d, ⟨1, 5, 0, 0, ⟨0, anew, 0, 0, 1, at_, 1, 1⟩, zI⟩], [1], [(0, chE [⟨0, 0, 0⟩]), (1, chE [])], 0, tk2, 2, L, sq, 2, nl + 2, st + 3, []⟩ := by
    have e1 : st + 1 + 1 = st + 2 := by omega
    rw [e1]
    refine Eq.trans (stepF_act (i := 1) (x := ⟨1, 4, 0, 0, ⟨0, anew, 0, 0, 1, at_, 1, 1⟩, zI⟩) (p := tsQ at_ anew x) (ins := x) (by simp [Lim, tk2]; omega) (by show nl + 1 < 99999; omega) (pick_one 1 1) rfl rfl ⟨rfl, by simp, by simp⟩ rfl hm hact rfl (by simp)) ?_
    have e2 : st + 2 + 1 = st + 3 := by omega
    show some (Wst.mk _ _ _ _ _ _ _ _ _ _ _ (st + 2 + 1) _) = _
    rw [e2]
    rfl
  have s3 : stepF [tsP d, tsQ at_ anew x] ⟨at_, [tA0 d, ⟨1, 5, 0, 0, ⟨0, anew, 0, 0, 1, at_, 1, 1⟩, zI⟩], [1], [(0, chE [⟨0, 0, 0⟩]), (1, chE [])], 0, tk2, 2, L, sq, 2, nl + 2, st + 3, []⟩ (.run 2) = some ⟨at_, [tA0 d, ⟨1, 6, 0, 0, ⟨0, anew, 0, 0, 1, at_, 1, 1⟩, zI⟩], [1], [(0, chE [⟨0, 0, 0⟩]), (1, chE [])], 0, tk2, 2, L, sq, 2, nl + 3, st + 3 + 1, [⟨st + 3, 1, 1, 1, 0, 0⟩]⟩ :=
    Eq.trans (stepF_loc (i := 1) (x := ⟨1, 5, 0, 0, ⟨0, anew, 0, 0, 1, at_, 1, 1⟩, zI⟩) (p := tsQ at_ anew x) (O := ⟨6, ⟨0, anew, 0, 0, 1, at_, 1, 1⟩, true, 1, false⟩) (by simp [Lim, tk2]; omega) (by show nl + 2 < 99999; omega) (pick_one 2 1) rfl rfl ⟨rfl, by simp, by simp⟩ (by simp [locF, tsQ, RegOK, Reg.get])) rfl
  have s4 : stepF [tsP d, tsQ at_ anew x] ⟨at_, [tA0 d, ⟨1, 6, 0, 0, ⟨0, anew, 0, 0, 1, at_, 1, 1⟩, zI⟩], [1], [(0, chE [⟨0, 0, 0⟩]), (1, chE [])], 0, tk2, 2, L, sq, 2, nl + 3, st + 3 + 1, [⟨st + 3, 1, 1, 1, 0, 0⟩]⟩ (.run 3) = some ⟨at_, [tA0 d, ⟨1, 6, 2, 0, rB at_ anew, zI⟩], [], [(0, chE [⟨0, 0, 0⟩]), (1, chE [])], 0, tk2, 2, L, sq, 2, nl + 4, st + 5, [⟨st + 4, 4, 1, 0, 0, 0⟩]⟩ := by
    have e1 : st + 3 + 1 = st + 4 := by omega
    rw [e1]
    refine Eq.trans (stepF_loc (i := 1) (x := ⟨1, 6, 0, 0, ⟨0, anew, 0, 0, 1, at_, 1, 1⟩, zI⟩) (p := tsQ at_ anew x) (O := ⟨6, ⟨0, anew, 0, 0, 1, at_, 1, 1⟩, false, 0, true⟩) (by simp [Lim, tk2]; omega) (by show nl + 3 < 99999; omega) (pick_one 3 1) rfl rfl ⟨rfl, by simp, by simp⟩ (by simp [locF, tsQ])) ?_
    have e2 : st + 4 + 1 = st + 5 := by omega
    simp [aloneS, offS, e2, rB, zI, List.idxOf_cons]
  have s5 := stepF_idle (ps := [tsP d, tsQ at_ anew x]) (s := ⟨at_, [tA0 d, ⟨1, 6, 2, 0, rB at_ anew, zI⟩], [], [(0, chE [⟨0, 0, 0⟩]), (1, chE [])], 0, tk2, 2, L, sq, 2, nl + 4, st + 5, [⟨st + 4, 4, 1, 0, 0, 0⟩]⟩) (n := 4) (by simp [Lim, tk2]; omega) rfl
  have s6 := Ex.idle (ps := [tsP d, tsQ at_ anew x]) (i := 5) (n := 5) (s := stB d at_ anew at_ L sq (nl + 5) (st + 5 + 1)) (by simp [Lim, tk2, stB]; omega) rfl rfl (by simp [stB]; omega) (by simp [stB]; omega)
  have h := Ex.cons s0 rfl (Ex.cons s1 rfl (Ex.cons s2 rfl (Ex.cons s3 rfl (Ex.cons s4 rfl (Ex.cons s5 rfl s6)))))
  have e3 : st + 5 + 1 + ((5 : Nat) : Int) = st + 11 := by omega
  simp only [stB, e3, List.nil_append, List.append_nil, List.cons_append] at h
  exact h
end
def stC (d at_ anew w now : Int) (sq : Int) (nl : Nat) (st : Int) : Wst := ⟨now, [⟨0, 5, 2, 0, ⟨0, d, 0, 0, w, 1, 0, 1⟩, zI⟩, ⟨1, 6, 2, 0, rB at_ anew, zI⟩], [], [(0, chE []), (1, chE [])], 0, tk2, 2, [], sq, 4, nl, st, []⟩
section
variable {d at_ anew now dl w : Int} {x : Ins} {sq st : Int} {nl : Nat}
set_option maxHeartbeats 1000000 in
theorem ts_fire0 (hw : 0 ≤ w ∧ w ≤ 1000) (hnl : nl < 50000) (hst : 0 ≤ st ∧ st < 50000) (hnow : 0 ≤ now) (hdl : 0 ≤ dl) (he : now + dl = w) (hsq : 0 ≤ sq ∧ sq < 100) :
    Ex [tsP d, tsQ at_ anew x] (stB d at_ anew now [⟨0, w, 3⟩] sq nl st) (.adv dl :: manyE 0 10) [⟨st, 6, -1, 0, w, 0⟩, ⟨st, 3, 0, 0, w, 1⟩, ⟨st + 1, 1, 0, w, 0, 0⟩, ⟨st + 2, 4, 0, 0, 0, 0⟩] (stC d at_ anew w w sq (nl + 10) (st + 11)) := by
  have s0 : stepF [tsP d, tsQ at_ anew x] (stB d at_ anew now [⟨0, w, 3⟩] sq nl st) (.adv dl) = some ⟨w, [⟨0, 4, 0, 0, ⟨0, d, 0, 0, w, 1, 0, 1⟩, zI⟩, ⟨1, 6, 2, 0, rB at_ anew, zI⟩], [0], [(0, chE []), (1, chE [])], 0, tk2, 2, [], sq, 4, nl, st + 1, [⟨st, 6, -1, 0, w, 0⟩, ⟨st, 3, 0, 0, w, 1⟩]⟩ := by
    refine stepF_adv (s2 := ⟨w, [⟨0, 4, 0, 0, ⟨0, d, 0, 0, w, 1, 0, 1⟩, zI⟩, ⟨1, 6, 2, 0, rB at_ anew, zI⟩], [0], [(0, chE []), (1, chE [])], 0, tk2, 2, [], sq, 4, nl, st, [⟨st, 6, -1, 0, w, 0⟩, ⟨st, 3, 0, 0, w, 1⟩]⟩) (by simp [Lim, tk2, stB]; omega) ⟨hdl, by show now + dl ≤ 1000000; omega⟩ ?_ rfl (by simp)
    show firesF 100 ⟨now + dl, [tA0 d, ⟨1, 6, 2, 0, rB at_ anew, zI⟩], [], [(0, chE [⟨0, 0, 0⟩]), (1, chE [])], 0, tk2, 2, [⟨0, w, 3⟩], sq, 2, nl, st, []⟩ = _
    rw [he]
    refine (firesF_wake (k := 99) (i := 0) (ci := 0) (dt := 0) (sg := false) (cl := false) (v := none) (x := ⟨0, 0, 0⟩) (lw := []) (q := 0) (by simp [Lim, tk2]; omega) rfl (Int.le_refl _) rfl rfl (by simp [wakeB, tA0, RegOK, Reg.get]) (by simp)).trans ?_
    refine (congrArg (firesF 99) (wakeS_one (s := fireB ⟨w, [tA0 d, ⟨1, 6, 2, 0, rB at_ anew, zI⟩], [], [(0, chE []), (1, chE [])], 0, tk2, 2, [], sq, 2, nl, st, []⟩ 0 w) (i := 0) (a := 3) (j := 4) (k := 5) (pg := 0) (pc := 3) (how := 0) (v := w) (r := ⟨0, d, 0, 0, 0, 0, 0, 1⟩) rfl)).trans ?_
    refine (firesF_none (k := 98) (fun it hit => by cases hit)).trans rfl
  have s1 : stepF [tsP d, tsQ at_ anew x] ⟨w, [⟨0, 4, 0, 0, ⟨0, d, 0, 0, w, 1, 0, 1⟩, zI⟩, ⟨1, 6, 2, 0, rB at_ anew, zI⟩], [0], [(0, chE []), (1, chE [])], 0, tk2, 2, [], sq, 4, nl, st + 1, [⟨st, 6, -1, 0, w, 0⟩, ⟨st, 3, 0, 0, w, 1⟩]⟩ (.run 0) = some ⟨w, [⟨0, 5, 0, 0, ⟨0, d, 0, 0, w, 1, 0, 1⟩, zI⟩, ⟨1, 6, 2, 0, rB at_ anew, zI⟩], [0], [(0, chE []), (1, chE [])], 0, tk2, 2, [], sq, 4, nl + 1, st + 1 + 1, [⟨st + 1, 1, 0, w, 0, 0⟩]⟩ :=
    Eq.trans (stepF_loc (i := 0) (x := ⟨0, 4, 0, 0, ⟨0, d, 0, 0, w, 1, 0, 1⟩, zI⟩) (p := tsP d) (O := ⟨5, ⟨0, d, 0, 0, w, 1, 0, 1⟩, true, w, false⟩) (by simp [Lim, tk2]; omega) (by show nl < 99999; omega) (pick_one 0 0) rfl rfl ⟨rfl, by simp, by simp⟩ (by simp [locF, tsP, RegOK, Reg.get])) rfl
  have s2 : stepF [tsP d, tsQ at_ anew x] ⟨w, [⟨0, 5, 0, 0, ⟨0, d, 0, 0, w, 1, 0, 1⟩, zI⟩, ⟨1, 6, 2, 0, rB at_ anew, zI⟩], [0], [(0, chE []), (1, chE [])], 0, tk2, 2, [], sq, 4, nl + 1, st + 1 + 1, [⟨st + 1, 1, 0, w, 0, 0⟩]⟩ (.run 1) = some ⟨w, [⟨0, 5, 2, 0, ⟨0, d, 0, 0, w, 1, 0, 1⟩, zI⟩, ⟨1, 6, 2, 0, rB at_ anew, zI⟩], [], [(0, chE []), (1, chE [])], 0, tk2, 2, [], sq, 4, nl + 2, st + 3, [⟨st + 2, 4, 0, 0, 0, 0⟩]⟩ := by
    have e1 : st + 1 + 1 = st + 2 := by omega
    rw [e1]
    refine Eq.trans (stepF_loc (i := 0) (x := ⟨0, 5, 0, 0, ⟨0, d, 0, 0, w, 1, 0, 1⟩, zI⟩) (p := tsP d) (O := ⟨5, ⟨0, d, 0, 0, w, 1, 0, 1⟩, false, 0, true⟩) (by simp [Lim, tk2]; omega) (by show nl + 1 < 99999; omega) (pick_one 1 0) rfl rfl ⟨rfl, by simp, by simp⟩ (by simp [locF, tsP])) ?_
    have e2 : st + 2 + 1 = st + 3 := by omega
    simp [aloneS, offS, e2, zI, List.idxOf_cons]
  have s5 := stepF_idle (ps := [tsP d, tsQ at_ anew x]) (s := ⟨w, [⟨0, 5, 2, 0, ⟨0, d, 0, 0, w, 1, 0, 1⟩, zI⟩, ⟨1, 6, 2, 0, rB at_ anew, zI⟩], [], [(0, chE []), (1, chE [])], 0, tk2, 2, [], sq, 4, nl + 2, st + 3, [⟨st + 2, 4, 0, 0, 0, 0⟩]⟩) (n := 2) (by simp [Lim, tk2]; omega) rfl
  have s6 := Ex.idle (ps := [tsP d, tsQ at_ anew x]) (i := 3) (n := 7) (s := stC d at_ anew w w sq (nl + 3) (st + 3 + 1)) (by simp [Lim, tk2, stC]; omega) rfl rfl (by simp [stC]; omega) (by simp [stC]; omega)
  have h := Ex.cons s0 rfl (Ex.cons s1 rfl (Ex.cons s2 rfl (Ex.cons s5 rfl s6)))
  have e3 : st + 3 + 1 + ((7 : Nat) : Int) = st + 11 := by omega
  simp only [stC, e3, List.nil_append, List.append_nil, List.cons_append] at h
  exact h
end
def tsX (anew : Int) : Ins := if anew = 0 then ⟨20, 2, 4, 0⟩ else ⟨21, 2, 1, 4⟩
theorem Ex.nil (ps : List (List Ins)) (s : Wst) : Ex ps s [] [] s := ⟨rfl, rfl⟩
def tsL (at_ anew : Int) : List It := if anew = 0 then [] else [⟨0, at_ + anew, 3⟩]
def tsS (anew : Int) : Int := if anew = 0 then 2 else 3
theorem ts_act {d at_ anew : Int} {nl : Nat} {st : Int} (hd : 1 ≤ d ∧ d ≤ 100) (ha : 0 ≤ at_ ∧ at_ < d) (hn : 0 ≤ anew ∧ anew ≤ 100) : mineB (tsX anew).op = false ∧
    actF ⟨at_, [tA0 d, ⟨1, 4, 0, 0, ⟨0, anew, 0, 0, 1, at_, 1, 1⟩, zI⟩], [1], [(0, chE [⟨0, 0, 0⟩]), (1, chE [])], 0, tk2, 2, [⟨0, d, 1⟩], 2, 2, nl + 2, st + 2, []⟩ 1 (tsX anew) ⟨0, anew, 0, 0, 1, at_, 1, 1⟩ = some (⟨at_, [tA0 d, ⟨1, 4, 0, 0, ⟨0, anew, 0, 0, 1, at_, 1, 1⟩, zI⟩], [1], [(0, chE [⟨0, 0, 0⟩]), (1, chE [])], 0, tk2, 2, tsL at_ anew, tsS anew, 2, nl + 2, st + 2, []⟩, some ⟨0, anew, 0, 0, 1, at_, 1, 1⟩) := by
  by_cases h : anew = 0
  · subst h
    refine ⟨rfl, ?_⟩
    simp [tsX, actF, actGo, actRecv, actTimer, actStop, actReset, RegOK, Reg.get, Reg.set, tk2, chE, delL, findL, bitZ, tsL, tsS]
  · have h1 : 0 ≤ anew := hn.1
    have h2 : anew ≤ 1000000 := by omega
    refine ⟨by simp [tsX, h, mineB], ?_⟩
    simp [tsX, h, actF, actGo, actRecv, actTimer, actStop, actReset, RegOK, Reg.get, Reg.set, tk2, chE, delL, findL, bitZ, tsL, tsS, h1, h2, insL]
set_option maxHeartbeats 1000000 in
theorem ts_first {d anew : Int} {a : Nat} (hd : 1 ≤ d ∧ d ≤ 100) (ha : (a : Int) < d) (hn : 0 ≤ anew ∧ anew ≤ 100) :
    ∃ st, Ex [tsP d, tsQ a anew (tsX anew)] (stA d a 0 30 30) (roundsE 0 (a + 1)) [⟨st, 6, -1, 1, a, 0⟩, ⟨st, 3, 1, 0, a, 1⟩, ⟨st + 3, 1, 1, 1, 0, 0⟩, ⟨st + 4, 4, 1, 0, 0, 0⟩] (stB d a anew a (tsL a anew) (tsS anew) (30 + 10 * (a + 1)) (30 + 11 * (a + 1))) := by
  have hS : 0 ≤ tsS anew ∧ tsS anew < 100 := by unfold tsS; split <;> omega
  have hLL : (tsL a anew).length ≤ 1 := by unfold tsL; split <;> simp
  cases a with
  | zero =>
    obtain ⟨hm, hact⟩ := ts_act (nl := 30) (st := 30) (at_ := ((0 : Nat) : Int)) hd ⟨by omega, ha⟩ hn
    have h := ts_fire1 (dl := 0) (now := 0) hd ⟨by omega, ha⟩ ⟨hn.2, hn.1⟩ (by omega) (by omega) (by omega) (by omega) (by omega) hS hLL hm hact
    have h2 := Ex.append h (Ex.nil _ _)
    exact ⟨30, h2⟩
  | succ a =>
    have hl0 : Lim (stA d ((a + 1 : Nat) : Int) 0 30 30) := by simp [Lim, stA, tk2]
    have r0 := round_idle (ps := [tsP d, tsQ ((a + 1 : Nat) : Int) anew (tsX anew)]) (i := 0) hl0 rfl (by simp [stA]) (by simp [stA]) (by simp [stA]) (fun it hit => by cases hit; show (0 : Int) + 0 < ((a + 1 : Nat) : Int); omega)
    have r0 : Ex [tsP d, tsQ ((a + 1 : Nat) : Int) anew (tsX anew)] (stA d ((a + 1 : Nat) : Int) 0 30 30) (roundE 0) [] (stA d ((a + 1 : Nat) : Int) 0 40 41) := r0
    have r1 : Ex [tsP d, tsQ ((a + 1 : Nat) : Int) anew (tsX anew)] (stA d ((a + 1 : Nat) : Int) 0 40 41) (roundsE 1 a) [] (stA d ((a + 1 : Nat) : Int) (0 + a) (40 + 10 * a) (41 + 11 * a)) := rounds_idle (k := a) (i := 1) (by omega) (by simp [Lim, stA, tk2]) rfl rfl (by show 40 + 10 * a + 20 < 100000; omega) (by show (41 : Int) + 11 * a + 20 < 100000; omega) (by show (0 : Int) + a < 100000; omega) (fun it hit => by cases hit; show (0 : Int) + a < ((a + 1 : Nat) : Int); omega)
    obtain ⟨hm, hact⟩ := ts_act (nl := 40 + 10 * a) (st := 41 + 11 * a) (at_ := ((a + 1 : Nat) : Int)) hd ⟨by omega, ha⟩ hn
    have r2 := ts_fire1 (dl := 1) (now := 0 + (a : Int)) (nl := 40 + 10 * a) (st := 41 + 11 * a) hd ⟨by omega, ha⟩ ⟨hn.2, hn.1⟩ (by omega) (by omega) (by omega) (by omega) (by omega) hS hLL hm hact
    have r3 := Ex.append r0 (Ex.append r1 r2)
    refine ⟨41 + 11 * a, ?_⟩
    have e1 : roundsE 0 (a + 1 + 1) = roundE 0 ++ (roundsE 1 a ++ (.adv 1 :: manyE 0 10)) := by
      rw [show a + 1 + 1 = 1 + (a + 1) from by omega, roundsE_add, roundsE_add]
      have h1 : roundsE 0 1 = roundE 0 := by simp [roundsE]
      have h2 : roundsE (0 + 1 + a) 1 = .adv 1 :: manyE 0 10 := by
        simp only [roundsE, List.append_nil, roundE]
        rw [if_neg (by omega)]
      rw [h1, h2]
    rw [e1]
    have e2 : 40 + 10 * a + 10 = 30 + 10 * (a + 1 + 1) := by omega
    have e3 : 41 + 11 * (a : Int) + 11 = 30 + 11 * (((a + 1 : Nat) : Int) + 1) := by omega
    rw [e2, e3] at r3
    exact r3
set_option maxHeartbeats 1000000 in
theorem ts_last {d : Int} {a b : Nat} {nl : Nat} {st : Int} (ha : a ≤ 100) (hb : b ≤ 100) (hnl : nl ≤ 10000) (hst : 0 ≤ st ∧ st ≤ 10000) :
    ∃ evs s', Ex [tsP d, tsQ a b (tsX b)] (stB d a b a (tsL a b) (tsS b) nl st) (roundsE (a + 1) (210 - a)) evs s' ∧ evs.length ≤ 10 ∧ toldM evs 1 = [] ∧ toldM evs 0 = if (b : Int) = 0 then [] else [(a : Int) + b] := by
  cases b with
  | zero =>
    have r := rounds_idle (ps := [tsP d, tsQ a ((0 : Nat) : Int) (tsX ((0 : Nat) : Int))]) (k := 210 - a) (i := a + 1) (s := stB d a ((0 : Nat) : Int) a [] 2 nl st) (by omega) (by simp [Lim, stB, tk2]; omega) rfl rfl (by show nl + 10 * (210 - a) + 20 < 100000; omega) (by show st + 11 * ((210 - a : Nat) : Int) + 20 < 100000; omega) (by show (a : Int) + ((210 - a : Nat) : Int) < 100000; omega) (fun it hit => by cases hit)
    exact ⟨[], _, r, by simp, rfl, rfl⟩
  | succ b =>
    have hne : ((b + 1 : Nat) : Int) ≠ 0 := by omega
    have hL : tsL (a : Int) ((b + 1 : Nat) : Int) = [⟨0, (a : Int) + ((b + 1 : Nat) : Int), 3⟩] := by unfold tsL; rw [if_neg hne]
    have hS : tsS ((b + 1 : Nat) : Int) = 3 := by unfold tsS; rw [if_neg hne]
    rw [hL, hS]
    have r1 : Ex [tsP d, tsQ a ((b + 1 : Nat) : Int) (tsX ((b + 1 : Nat) : Int))] (stB d a ((b + 1 : Nat) : Int) a [⟨0, (a : Int) + ((b + 1 : Nat) : Int), 3⟩] 3 nl st) (roundsE (a + 1) b) [] (stB d a ((b + 1 : Nat) : Int) ((a : Int) + b) [⟨0, (a : Int) + ((b + 1 : Nat) : Int), 3⟩] 3 (nl + 10 * b) (st + 11 * b)) := rounds_idle (k := b) (i := a + 1) (by omega) (by simp [Lim, stB, tk2]; omega) rfl rfl (by show nl + 10 * b + 20 < 100000; omega) (by show st + 11 * (b : Int) + 20 < 100000; omega) (by show (a : Int) + b < 100000; omega) (fun it hit => by cases hit; show (a : Int) + b < (a : Int) + ((b + 1 : Nat) : Int); omega)
    have r2 := ts_fire0 (d := d) (at_ := a) (anew := ((b + 1 : Nat) : Int)) (x := tsX ((b + 1 : Nat) : Int)) (dl := 1) (now := (a : Int) + b) (w := (a : Int) + ((b + 1 : Nat) : Int)) (sq := 3) (nl := nl + 10 * b) (st := st + 11 * b) (by omega) (by omega) (by omega) (by omega) (by omega) (by omega) (by omega)
    have r3 := rounds_idle (ps := [tsP d, tsQ a ((b + 1 : Nat) : Int) (tsX ((b + 1 : Nat) : Int))]) (k := 209 - a - b) (i := a + 1 + b + 1) (s := stC d a ((b + 1 : Nat) : Int) ((a : Int) + ((b + 1 : Nat) : Int)) ((a : Int) + ((b + 1 : Nat) : Int)) 3 (nl + 10 * b + 10) (st + 11 * b + 11)) (by omega) (by simp [Lim, stC, tk2]; omega) rfl rfl (by show nl + 10 * b + 10 + 10 * (209 - a - b) + 20 < 100000; omega) (by show st + 11 * (b : Int) + 11 + 11 * ((209 - a - b : Nat) : Int) + 20 < 100000; omega) (by show (a : Int) + ((b + 1 : Nat) : Int) + ((209 - a - b : Nat) : Int) < 100000; omega) (fun it hit => by cases hit)
    have r4 := Ex.append r1 (Ex.append r2 r3)
    have e1 : roundsE (a + 1) (210 - a) = roundsE (a + 1) b ++ ((.adv 1 :: manyE 0 10) ++ roundsE (a + 1 + b + 1) (209 - a - b)) := by
      rw [show 210 - a = b + (1 + (209 - a - b)) from by omega, roundsE_add, roundsE_add]
      have h2 : roundsE (a + 1 + b) 1 = .adv 1 :: manyE 0 10 := by
        simp only [roundsE, List.append_nil, roundE]
        rw [if_neg (by omega)]
      rw [h2]
    rw [e1]
    refine ⟨_, _, r4, by simp, by simp [toldM], ?_⟩
    rw [if_neg hne]
    simp [toldM]
theorem ts_all {d at_ anew : Int} (hd : 1 ≤ d ∧ d ≤ 100) (ha : 0 ≤ at_ ∧ at_ < d) (hn : 0 ≤ anew ∧ anew ≤ 100) :
    ∃ e1 s1 e2 s2, Ex [tsP d, tsQ at_ anew (tsX anew)] initS (manyE 0 30) e1 s1 ∧ Ex [tsP d, tsQ at_ anew (tsX anew)] s1 (roundsE 0 211) e2 s2 ∧ e1.length + e2.length ≤ 100 ∧ toldM (e1 ++ e2) 1 = [1] ∧ toldM (e1 ++ e2) 0 = if anew = 0 then [] else [at_ + anew] := by
  obtain ⟨a, rfl⟩ := Int.eq_ofNat_of_zero_le ha.1
  obtain ⟨b, rfl⟩ := Int.eq_ofNat_of_zero_le hn.1
  have r1 := ts_start (x := tsX (b : Int)) (anew := (b : Int)) hd ha
  obtain ⟨st, r2⟩ := ts_first (anew := (b : Int)) hd ha.2 hn
  obtain ⟨e3, s3, r3, hl3, h1, h0⟩ := ts_last (d := d) (a := a) (b := b) (nl := 30 + 10 * (a + 1)) (st := 30 + 11 * ((a : Int) + 1)) (by omega) (by omega) (by omega) (by omega)
  have r4 := Ex.append r2 r3
  have e : roundsE 0 211 = roundsE 0 (a + 1) ++ roundsE (a + 1) (210 - a) := by
    rw [show 211 = (a + 1) + (210 - a) from by omega, roundsE_add]
    simp
  refine ⟨_, _, _, _, r1, by rw [e]; exact r4, by simp; omega, ?_, ?_⟩
  · rw [toldM_append, toldM_append, h1]
    simp [toldM]
  · rw [toldM_append, toldM_append, h0]
    simp [toldM]
end Go.Proofs.YtjnkphhlkoapbaaGreat
