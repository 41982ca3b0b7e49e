/-
  Package expire: Take.
-/
import Derived.Test.YtgjgopcomgclkaaEy
namespace Go.Proofs.Ytgjgopcomgclkaa
open Go.RowKit
set_option linter.unusedVariables false
set_option linter.unusedSimpArgs false

/-- A box of what is due, handed back with a word. -/
theorem res_boxD {fn : Func} {p u : Tmp} (hr : fn.results = #[.cell p 58, .tmp u]) {tmps : Array Value} {w : World} {g : Nat} {a b c v : Value} (hb : Blk w g 58 #[a, b, c]) (hp : tmps.getD p undef = .pointer (some ⟨g, 0, none⟩)) (hv : tmps.getD u undef = v) :
    (results fn tmps).run Try.prog w = .ok (.tuple #[.agg #[a, b, c], v]) w := by
  have c0 := hb.cell 0
  have c1 := hb.cell 1
  have c2 := hb.cell 2
  simp only [List.getElem?_toArray, List.getElem?_cons_zero, List.getElem?_cons_succ] at c0 c1 c2
  rw [results_cell_tmp hr, hp, hv]
  go_simp
def dueV (id when now : Int) : Value := .agg #[.int .i64 id, .int .i64 when, .int .i64 now]

set_option maxHeartbeats 1000000 in
theorem ttake_none {q : Nat} {G : Nat → Prop} {L : List It} {sq : Int} {pf : Int → Option Int} (now : Int) (w : World) (h : TimAt w q G L sq pf) (hn : ∀ x, L[0]? = some x → now < 0 ∨ now < x.when) :
    Calls Try.prog 33 #[.pointer (some ⟨q, 0, none⟩), .int .i64 now] w fun e w' => e = .returned (.tuple #[dueV 0 0 0, .bool false]) ∧ Made w w' := by
  have H := Lib.hid (fun (w' : World) (hm : Made w w') => tnext_c w' (h.made hm))
  clear h
  unfold dueV
  cases hL : L[0]? with
  | none =>
    rw [hL] at H
    simp only [optT, Option.getD_none, zeroT, Option.isSome_none] at H
    clear hn hL
    go_enter Try.func33, Try.ntmps33
    go_wp2_with fail
    refine (H.out _ (alloc_made _ _)).mono ?_
    rintro e w1 ⟨rfl, hm⟩
    have hB1 := (Blk.new w 58 #[.int .i64 0, .int .i64 0, .int .i64 0]).turns hm (fun h => h)
    have b0 := hB1.cell 0
    have b1 := hB1.cell 1
    have b2 := hB1.cell 2
    have g0 := hB1.free 0
    have g1 := hB1.free 1
    have g2 := hB1.free 2
    have hb4 := hB1.lt
    simp only [List.getElem?_toArray, List.getElem?_cons_zero, List.getElem?_cons_succ] at b0 b1 b2
    have HM := Lib.hid ((alloc_made w _).trans hm)
    have HB := Lib.hid hB1
    clear hm hB1 H
    go_wp2_with fail
    refine bodyPost_ret (res_boxD rfl (HB.out.put3 _ _ _) rfl rfl) rfl ?_
    exact ⟨rfl, HM.out.then (set3 _ w.heap.size) (fun b hb e => by omega)⟩
  | some x =>
    have hx := hn x hL
    rw [hL] at H
    simp only [optT, Option.getD_some, Option.isSome_some] at H
    clear hn hL
    by_cases hneg : now < 0
    · clear hx
      go_enter Try.func33, Try.ntmps33
      go_wp2_with fail
      refine (H.out _ (alloc_made _ _)).mono ?_
      rintro e w1 ⟨rfl, hm⟩
      have hB1 := (Blk.new w 58 #[.int .i64 0, .int .i64 0, .int .i64 0]).turns hm (fun h => h)
      have b0 := hB1.cell 0
      have b1 := hB1.cell 1
      have b2 := hB1.cell 2
      have g0 := hB1.free 0
      have g1 := hB1.free 1
      have g2 := hB1.free 2
      have hb4 := hB1.lt
      simp only [List.getElem?_toArray, List.getElem?_cons_zero, List.getElem?_cons_succ] at b0 b1 b2
      have HM := Lib.hid ((alloc_made w _).trans hm)
      have HB := Lib.hid hB1
      clear hm hB1 H
      go_wp2_with fail
      refine bodyPost_ret (res_boxD rfl (HB.out.put3 _ _ _) rfl rfl) rfl ?_
      exact ⟨rfl, HM.out.then (set3 _ w.heap.size) (fun b hb e => by omega)⟩
    · have hx2 : now < x.when := by omega
      clear hx
      go_enter Try.func33, Try.ntmps33
      go_wp2_with fail
      refine (H.out _ (alloc_made _ _)).mono ?_
      rintro e w1 ⟨rfl, hm⟩
      have hB1 := (Blk.new w 58 #[.int .i64 0, .int .i64 0, .int .i64 0]).turns hm (fun h => h)
      have b0 := hB1.cell 0
      have b1 := hB1.cell 1
      have b2 := hB1.cell 2
      have g0 := hB1.free 0
      have g1 := hB1.free 1
      have g2 := hB1.free 2
      have hb4 := hB1.lt
      simp only [List.getElem?_toArray, List.getElem?_cons_zero, List.getElem?_cons_succ] at b0 b1 b2
      have HM := Lib.hid ((alloc_made w _).trans hm)
      have HB := Lib.hid hB1
      clear hm hB1 H
      go_wp2_with fail
      refine bodyPost_ret (res_boxD rfl (HB.out.put3 _ _ _) rfl rfl) rfl ?_
      exact ⟨rfl, HM.out.then (set3 _ w.heap.size) (fun b hb e => by omega)⟩

/-- What Take leaves of the row: whether it comes again. -/
def again (x : It) (pd now : Int) : Prop := (nextZ x.when pd now).2 = 0 ∧ now < (nextZ x.when pd now).1
theorem again_bd {x : It} {pd now : Int} (h : again x pd now) (h0 : 0 ≤ now) : 0 ≤ (nextZ x.when pd now).1 ∧ (nextZ x.when pd now).1 ≤ 4611686018427387904 ∧ 1 ≤ pd ∧ pd ≤ 4611686018427387904 := by
  obtain ⟨h1, h2⟩ := h
  unfold nextZ at h1 h2 ⊢
  by_cases hb : pd < 1 ∨ x.when < 0 ∨ now < 0 ∨ 4611686018427387904 < x.when ∨ 4611686018427387904 < pd ∨ 4611686018427387904 < now
  · rw [if_pos hb] at h1; cases h1
  · rw [if_neg hb] at h2 ⊢
    by_cases hw : now < x.when
    · rw [if_pos hw] at h2 ⊢
      simp only at h2 ⊢
      omega
    · rw [if_neg hw] at h2 ⊢
      simp only at h2 ⊢
      have := heldZ_bd (heldZ now + heldZ (pd - (now - x.when) % pd))
      unfold addZ at h2 ⊢
      omega

set_option maxHeartbeats 4000000 in
set_option maxRecDepth 100000 in
theorem ttake_c {q : Nat} {G : Nat → Prop} {x : It} {l : List It} {sq : Int} {pf : Int → Option Int} (now pd : Int) (w : World) (h : TimAt w q G (x :: l) sq pf) (hsq : sq < 1000000) (hn : 0 ≤ now) (hx : x.when ≤ now) (hpd : pf x.id = some pd) :
    Calls Try.prog 33 #[.pointer (some ⟨q, 0, none⟩), .int .i64 now] w fun e w' => e = .returned (.tuple #[dueV x.id x.when now, .bool true]) ∧
      ∃ G', (again x pd now → TimAt w' q G' (insL ⟨x.id, (nextZ x.when pd now).1, sq + 1⟩ l) (sq + 1) (pset pf x.id pd)) ∧ (¬ again x pd now → TimAt w' q G' l sq (pdel pf x.id)) ∧ Stp w w' G G' := by
  have HG := Lib.hid h.gb
  obtain ⟨p, mb, F, h⟩ := h
  have hde := delL_head h.heap.uniq
  have HNX := Lib.hid (fun (w' : World) (hm : Made w w') => tnext_c w' (TimAt.made ⟨p, mb, F, h⟩ hm))
  simp only [List.getElem?_cons_zero, optT, Option.getD_some, Option.isSome_some] at HNX
  have HT := Lib.hid h
  have hfnl : findL x.id l = none := by rw [← hde]; exact findL_del _ _
  have HDE := Lib.hid hde
  have HFN := Lib.hid hfnl
  have hpv : (pv pf x.id).getD (.int .i64 0) = .int .i64 pd := by unfold pv; rw [hpd]; rfl
  have HPV := Lib.hid hpv
  have HPD := Lib.hid hpd
  have hq0 := h.blk.lt
  clear h hde hfnl hpv hpd
  have n1 : ¬ now < 0 := by omega
  have n2 : ¬ now < x.when := by omega
  unfold dueV
  go_enter Try.func33, Try.ntmps33
  go_wp2_with fail
  refine (HNX.out _ (alloc_made _ _)).mono ?_
  rintro e w1 ⟨rfl, hm⟩
  have HB := Lib.hid ((Blk.new w 58 #[.int .i64 0, .int .i64 0, .int .i64 0]).turns hm (fun h => h))
  have HM1 := Lib.hid ((alloc_made w (.cells #[.int .i64 0, .int .i64 0, .int .i64 0] 58)).trans hm)
  have HT1 := Lib.hid (HT.out.made HM1.out)
  have c0 := HT1.out.blk.cell 0
  simp only [List.getElem?_toArray, List.getElem?_cons_zero, List.getElem?_cons_succ] at c0
  have HPO := Lib.hid (hpop_c w1 HT1.out.heap (by omega))
  unfold aggT at HPO
  clear hm HNX
  go_wp2_with fail
  refine HPO.out.mono ?_
  rintro e w2 ⟨rfl, hh, hs⟩
  -- the state behind the pop, with the box of the item
  have hbx : Blk (w2.alloc (.cells #[.int .i64 x.id, .int .i64 x.when, .int .i64 x.seq] 30)) w2.heap.size 30 #[.int .i64 x.id, .int .i64 x.when, .int .i64 x.seq] := Blk.new w2 _ _
  have ht2 : Turns F w1 (w2.alloc (.cells #[.int .i64 x.id, .int .i64 x.when, .int .i64 x.seq] 30)) := hs.t.alloc _
  have hb1 := HB.out.lt
  have hbF : ¬ F w.heap.size := fun hf => by have := HT.out.heap.fb _ hf; omega
  have HB2 := Lib.hid (HB.out.turns ht2 hbF)
  have HQ2 := Lib.hid (HT1.out.blk.turns ht2 HT.out.nq)
  have HP2 := Lib.hid (HT1.out.map.turns ht2 HT.out.nm)
  have HH2 := Lib.hid (hh.made (alloc_made w2 (.cells #[.int .i64 x.id, .int .i64 x.when, .int .i64 x.seq] 30)))
  have HT2 := Lib.hid (HM1.out.mono (S' := G) (fun _ _ h => h.elim) |>.then ht2 (fun b _ hf => HT.out.ga b hf))
  have HX2 := Lib.hid hbx
  have hsz2 := ht2.size
  have hq8 : w1.heap.size ≤ w2.heap.size := hs.t.size
  clear hh hs hbx ht2 HB HT1 HPO c0 HM1
  go_wp2_with fail
  generalize hbq : w2.heap.size = bx at *
  generalize w2.alloc (.cells #[.int .i64 x.id, .int .i64 x.when, .int .i64 x.seq] 30) = W at *
  clear hbq w2
  refine wp_region_held_drew (S := (fun w' => Made W w')) (by kernel_rfl) ?_ (fun hHeld => ?_)
  · exact (Turns.refl _ _).drew
  refine takeH (i := 0) (d := some 38) (v := ?_) rfl rfl (by kernel_rfl) (by kernel_rfl) (by kernel_rfl) (fun _ _ _ h => h) (Or.inl ⟨by rfl, ?_⟩) (by assumption) ?_
  rotate_left
  · intro w hSw
    try dsimp only at hSw
    go_simp
    try with_reducible rfl
  try simp only [Act.put, List.setIfInBounds_toArray, List.set_cons_zero, List.set_cons_succ]
  refine takeH (i := 1) (d := some 39) (v := ?_) rfl rfl (by kernel_rfl) (by kernel_rfl) (by kernel_rfl) (fun _ _ _ h => h) (Or.inl ⟨by rfl, ?_⟩) (by assumption) ?_
  rotate_left
  · intro w hSw
    try dsimp only at hSw
    go_simp
    try with_reducible rfl
  try simp only [Act.put, List.setIfInBounds_toArray, List.set_cons_zero, List.set_cons_succ]
  refine takeH (i := 2) (d := some 40) (v := ?_) rfl rfl (by kernel_rfl) (by kernel_rfl) (by kernel_rfl) (fun _ _ _ h => h) (Or.inl ⟨by rfl, ?_⟩) (by assumption) ?_
  rotate_left
  · intro w hSw
    try dsimp only at hSw
    go_simp
    try with_reducible rfl
  try simp only [Act.put, List.setIfInBounds_toArray, List.set_cons_zero, List.set_cons_succ]
  refine takeH (i := 3) (d := some 41) (v := ?_) rfl rfl (by kernel_rfl) (by kernel_rfl) (by kernel_rfl) (fun _ _ _ h => h) (Or.inl ⟨by rfl, ?_⟩) (by assumption) ?_
  rotate_left
  · intro w hSw
    try dsimp only at hSw
    have hb2 := HQ2.out.made hSw
    have d0 := hb2.cell 1
    simp only [List.getElem?_toArray, List.getElem?_cons_zero, List.getElem?_cons_succ] at d0
    clear hb2
    go_simp
    try with_reducible rfl
  try simp only [Act.put, List.setIfInBounds_toArray, List.set_cons_zero, List.set_cons_succ]
  refine takeH (i := 4) (d := some 42) (v := ?_) rfl rfl (by kernel_rfl) (by kernel_rfl) (by kernel_rfl) (fun _ _ _ h => h) (Or.inl ⟨by rfl, ?_⟩) (by assumption) ?_
  rotate_left
  · intro w hSw
    try dsimp only at hSw
    go_simp
    try with_reducible rfl
  try simp only [Act.put, List.setIfInBounds_toArray, List.set_cons_zero, List.set_cons_succ]
  refine takeH (i := 5) (d := some 43) (v := ?_) rfl rfl (by kernel_rfl) (by kernel_rfl) (by kernel_rfl) (fun _ _ _ h => h) (Or.inl ⟨by rfl, ?_⟩) (by assumption) ?_
  rotate_left
  · intro w hSw
    try dsimp only at hSw
    have hb2 := HX2.out.made hSw
    have d0 := hb2.cell 0
    simp only [List.getElem?_toArray, List.getElem?_cons_zero, List.getElem?_cons_succ] at d0
    clear hb2
    go_simp
    try with_reducible rfl
  try simp only [Act.put, List.setIfInBounds_toArray, List.set_cons_zero, List.set_cons_succ]
  refine takeH (i := 6) (d := some 44) (v := ?_) rfl rfl (by kernel_rfl) (by kernel_rfl) (by kernel_rfl) (fun _ _ _ h => h) (Or.inl ⟨by rfl, ?_⟩) (by assumption) ?_
  rotate_left
  · intro w hSw
    try dsimp only at hSw
    have hlk := (HP2.out.turns hSw (fun h => h)).look (P := Try.prog) Try.underlying87 Try.underlying3 (zero_int _) x.id false
    simp only [Bool.false_eq_true, if_false] at hlk
    rw [HPV.out] at hlk
    go_simp
    try with_reducible rfl
  try simp only [Act.put, List.setIfInBounds_toArray, List.set_cons_zero, List.set_cons_succ]
  refine takeH (i := 7) (d := some 10) (v := ?_) rfl rfl (by kernel_rfl) (by kernel_rfl) (by kernel_rfl) (fun _ _ _ h => h) (Or.inl ⟨by rfl, ?_⟩) (by assumption) ?_
  rotate_left
  · intro w hSw
    try dsimp only at hSw
    go_simp
    try with_reducible rfl
  try simp only [Act.put, List.setIfInBounds_toArray, List.set_cons_zero, List.set_cons_succ]
  refine wpAnyH_done (by kernel_rfl) ?_ _
  have HB3 := Lib.hid (HB2.out.made hHeld)
  have HQ3 := Lib.hid (HQ2.out.made hHeld)
  have HP3 := Lib.hid (HP2.out.turns hHeld (fun h => h))
  have HH3 := Lib.hid (HH2.out.made hHeld)
  have HT3 := Lib.hid (HT2.out.then hHeld (fun _ _ h => h.elim))
  have HX3 := Lib.hid (HX2.out.made hHeld)
  clear hHeld HB2 HQ2 HP2 HH2 HT2 HX2
  try clear hHeld
  go_wp2_with fail
  generalize W.drew = W3 at *
  refine wp_region_held_drew (S := (fun w' => Blk w' q 93 #[.pointer (some ⟨p, 0, none⟩), .map (some mb)] ∧ Blk w' bx 30 #[.int .i64 x.id, .int .i64 x.when, .int .i64 x.seq])) (by kernel_rfl) ?_ (fun hHeld => ?_)
  · exact ⟨HQ3.out.made ((Turns.refl _ _).drew), HX3.out.made ((Turns.refl _ _).drew)⟩
  refine takeH (i := 0) (d := some 45) (v := ?_) rfl rfl (by kernel_rfl) (by kernel_rfl) (by kernel_rfl) (fun _ _ _ h => h) (Or.inl ⟨by rfl, ?_⟩) (by assumption) ?_
  rotate_left
  · intro w hSw
    try dsimp only at hSw
    go_simp
    try with_reducible rfl
  try simp only [Act.put, List.setIfInBounds_toArray, List.set_cons_zero, List.set_cons_succ]
  refine takeH (i := 1) (d := some 46) (v := ?_) rfl rfl (by kernel_rfl) (by kernel_rfl) (by kernel_rfl) (fun _ _ _ h => h) (Or.inl ⟨by rfl, ?_⟩) (by assumption) ?_
  rotate_left
  · intro w hSw
    try dsimp only at hSw
    go_simp
    try with_reducible rfl
  try simp only [Act.put, List.setIfInBounds_toArray, List.set_cons_zero, List.set_cons_succ]
  refine takeH (i := 2) (d := some 47) (v := ?_) rfl rfl (by kernel_rfl) (by kernel_rfl) (by kernel_rfl) (fun _ _ _ h => h) (Or.inl ⟨by rfl, ?_⟩) (by assumption) ?_
  rotate_left
  · intro w hSw
    try dsimp only at hSw
    go_simp
    try with_reducible rfl
  try simp only [Act.put, List.setIfInBounds_toArray, List.set_cons_zero, List.set_cons_succ]
  refine takeH (i := 3) (d := some 48) (v := ?_) rfl rfl (by kernel_rfl) (by kernel_rfl) (by kernel_rfl) (fun _ _ _ h => h) (Or.inl ⟨by rfl, ?_⟩) (by assumption) ?_
  rotate_left
  · intro w hSw
    try dsimp only at hSw
    have d0 := hSw.1.cell 1
    simp only [List.getElem?_toArray, List.getElem?_cons_zero, List.getElem?_cons_succ] at d0
    go_simp
    try with_reducible rfl
  try simp only [Act.put, List.setIfInBounds_toArray, List.set_cons_zero, List.set_cons_succ]
  refine takeH (i := 4) (d := some 49) (v := ?_) rfl rfl (by kernel_rfl) (by kernel_rfl) (by kernel_rfl) (fun _ _ _ h => h) (Or.inl ⟨by rfl, ?_⟩) (by assumption) ?_
  rotate_left
  · intro w hSw
    try dsimp only at hSw
    go_simp
    try with_reducible rfl
  try simp only [Act.put, List.setIfInBounds_toArray, List.set_cons_zero, List.set_cons_succ]
  refine takeH (i := 5) (d := some 50) (v := ?_) rfl rfl (by kernel_rfl) (by kernel_rfl) (by kernel_rfl) (fun _ _ _ h => h) (Or.inl ⟨by rfl, ?_⟩) (by assumption) ?_
  rotate_left
  · intro w hSw
    try dsimp only at hSw
    have d0 := hSw.2.cell 0
    simp only [List.getElem?_toArray, List.getElem?_cons_zero, List.getElem?_cons_succ] at d0
    go_simp
    try with_reducible rfl
  try simp only [Act.put, List.setIfInBounds_toArray, List.set_cons_zero, List.set_cons_succ]
  refine wpAnyH_ready (rs := [6]) (by kernel_rfl) (by simp) ?_
  refine AllReadyH.cons rfl (fun K hK => ?_) AllReadyH.nil
  obtain ⟨w4, hrun, hmap4, ht4, -⟩ := (HP3.out.turns ((Turns.refl (fun _ => False) W3).drew) (fun h => h)).drop (P := Try.prog) Try.underlying87 Try.underlying3 x.id 0
  go_simp
  refine hK.out _ _ ?_ (fun hHeld => ?_)
  · exact ⟨(HQ3.out.made ((Turns.refl _ _).drew)).turns ht4 HT.out.qm, (HX3.out.made ((Turns.refl _ _).drew)).turns ht4 (by have := HT.out.map.lt; omega)⟩
  clear hK K
  try simp only [Act.put, List.setIfInBounds_toArray, List.set_cons_zero, List.set_cons_succ]
  refine wpAnyH_done (by kernel_rfl) ?_ _
  have hd : Made W3 W3.drew := (Turns.refl _ _).drew
  have hmw := HT.out.map.lt
  rw [pv_del] at hmap4
  have hm4n : ¬ w.heap.size = mb := by omega
  have HB4 := Lib.hid ((HB3.out.made hd).turns ht4 hm4n)
  have HX4 := Lib.hid (hHeld.2)
  have HTM := Lib.hid ({ blk := hHeld.1, heap := (HH3.out.made hd).turns ht4 (fun k hk e => HT.out.nm (by rw [← e]; exact hk)), map := hmap4, nq := HT.out.nq, nm := HT.out.nm, qm := HT.out.qm, ga := HT.out.ga, gq := HT.out.gq, gm := HT.out.gm, gb := fun k hk => Nat.lt_of_lt_of_le (HG.out k hk) (Nat.le_trans HT3.out.size (Nat.le_trans hd.size ht4.size)), per := (by have := per_del HT.out.per x.id; rw [HDE.out] at this; exact this) : TimIn w4 q p mb F G l sq (pdel pf x.id) })
  have HT4 := Lib.hid ((HT3.out.then hd (fun _ _ h => h.elim)).then ht4 (fun b _ e => by rw [e]; exact HT.out.gm))
  clear hHeld hmap4 ht4 hrun HB3 HQ3 HP3 HH3 HT3 HX3 hd
  try clear hHeld
  have hnx := next_c x.when pd now w4
  generalize hz : nextZ x.when pd now = nz at *
  obtain ⟨nx, er⟩ := nz
  simp only at hnx
  have HNX := Lib.hid hnx
  have HZ := Lib.hid hz
  clear hnx hz
  have hb4l := HB4.out.lt
  have hx4l := HX4.out.lt
  have d0 := HX4.out.cell 0
  simp only [List.getElem?_toArray, List.getElem?_cons_zero, List.getElem?_cons_succ] at d0
  by_cases hag : again x pd now
  · have hbd := again_bd hag hn
    have hag2 := hag
    unfold again at hag2
    rw [HZ.out] at hag2 hbd
    simp only at hag2 hbd
    obtain ⟨rfl, hlt⟩ := hag2
    have HAR := Lib.hid (tarm_c x.id nx pd w4 ⟨p, mb, F, HTM.out⟩ hsq hbd.1 (by omega) hbd.2.1 hbd.2.2.2)
    have HAG := Lib.hid hag
    clear hag hbd
    go_wp2_with fail
    refine HNX.out.mono ?_
    rintro e w5 ⟨rfl, rfl⟩
    go_wp2_with fail
    refine HAR.out.mono ?_
    rintro e w5 ⟨rfl, G5, ht5, hs5⟩
    rw [delL_none HFN.out, pset_del] at ht5
    have HTT := Lib.hid ht5
    have HS5 := Lib.hid hs5
    have HB5 := Lib.hid (HB4.out.turns hs5.t (fun hf => by have := HG.out _ hf; omega))
    have HX5 := Lib.hid (HX4.out.turns hs5.t (fun hf => by have := HG.out _ hf; omega))
    clear ht5 hs5 d0 HAR HNX
    have d0 := HX5.out.cell 0
    have b0 := HB5.out.cell 0
    have b1 := HB5.out.cell 1
    have b2 := HB5.out.cell 2
    have g0 := HB5.out.free 0
    have g1 := HB5.out.free 1
    have g2 := HB5.out.free 2
    simp only [List.getElem?_toArray, List.getElem?_cons_zero, List.getElem?_cons_succ] at b0 b1 b2 d0
    go_wp2_with fail
    refine bodyPost_ret (res_boxD rfl (HB5.out.put3 _ _ _) rfl rfl) rfl ?_
    have hng : ∀ k, G5 k → k ≠ w.heap.size := fun k hk e => by
      subst e
      rcases HS5.out.f _ hk with h | h
      · have := HG.out _ h; omega
      · omega
    refine ⟨rfl, G5, fun _ => ?_, fun h => absurd HAG.out h, ⟨?_, fun k hk => ?_⟩⟩
    · rw [HZ.out]
      exact HTT.out.turns (set3 _ w.heap.size) hng
    · exact (HT4.out.then HS5.out.t (fun _ _ h => h)).then (set3 _ w.heap.size) (fun b hb e => by omega)
    · rcases HS5.out.f k hk with h | h
      · exact .inl h
      · exact .inr (Nat.le_trans HT4.out.size h)
  · have HAG := Lib.hid hag
    have b0 := HB4.out.cell 0
    have b1 := HB4.out.cell 1
    have b2 := HB4.out.cell 2
    have g0 := HB4.out.free 0
    have g1 := HB4.out.free 1
    have g2 := HB4.out.free 2
    simp only [List.getElem?_toArray, List.getElem?_cons_zero, List.getElem?_cons_succ] at b0 b1 b2
    unfold again at hag
    rw [HZ.out] at hag
    simp only at hag
    by_cases her : er = 0
    · have hlt : ¬ now < nx := fun h => hag ⟨her, h⟩
      subst her
      clear hag
      go_wp2_with fail
      refine HNX.out.mono ?_
      rintro e w5 ⟨rfl, rfl⟩
      go_wp2_with fail
      refine bodyPost_ret (res_boxD rfl (HB4.out.put3 _ _ _) rfl rfl) rfl ?_
      refine ⟨rfl, G, fun h => absurd h HAG.out, fun _ => TimAt.turns ⟨p, mb, F, HTM.out⟩ (set3 _ w.heap.size) (fun k hk e => ?_), ⟨?_, fun k hk => .inl hk⟩⟩
      · have := HG.out k hk; omega
      · exact HT4.out.then (set3 _ w.heap.size) (fun b hb e => by omega)
    · have herb : (er == 0) = false := beq_eq_false_iff_ne.mpr her
      clear hag
      go_wp2_with fail
      refine HNX.out.mono ?_
      rintro e w5 ⟨rfl, rfl⟩
      go_wp2_with fail
      refine bodyPost_ret (res_boxD rfl (HB4.out.put3 _ _ _) rfl rfl) rfl ?_
      refine ⟨rfl, G, fun h => absurd h HAG.out, fun _ => TimAt.turns ⟨p, mb, F, HTM.out⟩ (set3 _ w.heap.size) (fun k hk e => ?_), ⟨?_, fun k hk => .inl hk⟩⟩
      · have := HG.out k hk; omega
      · exact HT4.out.then (set3 _ w.heap.size) (fun b hb e => by omega)
end Go.Proofs.Ytgjgopcomgclkaa
