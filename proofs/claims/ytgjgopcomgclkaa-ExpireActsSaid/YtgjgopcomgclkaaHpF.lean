/-
  Contract of package heap: Remove.
-/
import Derived.Test.YtgjgopcomgclkaaHpE
import Derived.Test.YtgjgopcomgclkaaHpD
import Derived.Laws.ResultCell
namespace Go.Proofs.Ytgjgopcomgclkaa
open Go.RowKit
set_option linter.unusedVariables false
set_option linter.unusedSimpArgs false

theorem Blk.put3 {w : World} {g : Nat} {t : TypeId} {a b c : Value} (h : Blk w g t #[a, b, c]) (x y z : Value) : Blk (((w.setCell ⟨g, 0, none⟩ x).setCell ⟨g, 1, none⟩ y).setCell ⟨g, 2, none⟩ z) g t #[x, y, z] := ((h.put 0 x).put 1 y).put 2 z
theorem set3 (w : World) (g : Nat) {x y z : Value} : Turns (fun k => k = g) w (((w.setCell ⟨g, 0, none⟩ x).setCell ⟨g, 1, none⟩ y).setCell ⟨g, 2, none⟩ z) :=
  (((Turns.refl (fun k => k = g) w).setCell (p := ⟨g, 0, none⟩) (fun _ => rfl) _).setCell (p := ⟨g, 1, none⟩) (fun _ => rfl) _).setCell (p := ⟨g, 2, none⟩) (fun _ => rfl) _
theorem own3 {g n cap mb b p : Nat} (h : (Value.slice (some ⟨g, 0, none⟩) n cap).ownBlock = some b ∨ b = mb) : b = p ∨ b = mb ∨ b = g := by
  simp only [Value.ownBlock, Option.some.injEq] at h
  omega
/-- A box of an item, handed back with a word. -/
theorem res_box {fn : Func} {p u : Tmp} (hr : fn.results = #[.cell p 30, .tmp u]) {tmps : Array Value} {w : World} {g : Nat} {a b c v : Value} (hb : Blk w g 30 #[a, b, c]) (hp : tmps.getD p undef = .pointer (some ⟨g, 0, none⟩)) (hv : tmps.getD u undef = v) :
    (results fn tmps).run Try.prog w = .ok (.tuple #[.agg #[a, b, c], v]) w := by
  have c0 := hb.cell 0
  have c1 := hb.cell 1
  have c2 := hb.cell 2
  simp only [List.getElem?_toArray, List.getElem?_cons_zero, List.getElem?_cons_succ] at c0 c1 c2
  rw [results_cell_tmp hr, hp, hv]
  go_simp

theorem hrem_nil (id : Int) (w : World) : Calls Try.prog 40 #[.pointer none, .int .i64 id] w fun e w' => e = .returned (.tuple #[aggT zeroT, .bool false]) ∧ Made w w' := by
  have H := Lib.hid (fun (w' : World) => hfind_nil id w')
  unfold aggT zeroT at *
  go_enter Try.func40, Try.ntmps40
  go_wp2_with fail
  refine (H.out _).mono ?_
  rintro e w' ⟨rfl, hm⟩
  have hB1 := (Blk.new w 30 #[.int .i64 0, .int .i64 0, .int .i64 0]).turns hm (fun h => h)
  have b0 := hB1.cell 0
  have b1 := hB1.cell 1
  have b2 := hB1.cell 2
  have g0 := hB1.free 0
  have g1 := hB1.free 1
  have g2 := hB1.free 2
  have hb4 := hB1.lt
  simp only [List.getElem?_toArray, List.getElem?_cons_zero, List.getElem?_cons_succ] at b0 b1 b2
  have HM := Lib.hid (((Turns.refl (fun _ => False) w).alloc _).trans hm)
  have HB := Lib.hid hB1
  clear hm hB1
  go_wp2_with fail
  refine bodyPost_ret (res_box rfl ((HB.out.put3 _ _ _).alloc _) rfl rfl) rfl ?_
  exact ⟨rfl, ((((HM.out.setCell (p := ⟨w.heap.size, 0, none⟩) (fun h => absurd h (Nat.lt_irrefl _)) _).setCell (p := ⟨w.heap.size, 1, none⟩) (fun h => absurd h (Nat.lt_irrefl _)) _).setCell (p := ⟨w.heap.size, 2, none⟩) (fun h => absurd h (Nat.lt_irrefl _)) _).alloc _)⟩

theorem hrem_none {p : Nat} {F : Nat → Prop} {L : List It} {sq : Int} (id : Int) (w : World) (h : HeapAt w p F L sq) (hx : findL id L = none) : Calls Try.prog 40 #[.pointer (some ⟨p, 0, none⟩), .int .i64 id] w fun e w' => e = .returned (.tuple #[aggT zeroT, .bool false]) ∧ Made w w' := by
  have H := Lib.hid (fun (w' : World) (hm : Made w w') => hfind_c id w' (h.made hm))
  rw [hx] at H
  have HM := Lib.hid (fun (o : Obj) => ((Turns.refl (fun _ => False) w).alloc o))
  clear h hx
  simp only [optT, Option.getD_none, zeroT, Option.isSome_none, aggT] at H ⊢
  go_enter Try.func40, Try.ntmps40
  go_wp2_with fail
  refine (H.out _ (HM.out _)).mono ?_
  rintro e w' ⟨rfl, hm⟩
  have hB1 := (Blk.new w 30 #[.int .i64 0, .int .i64 0, .int .i64 0]).turns hm (fun h => h)
  have b0 := hB1.cell 0
  have b1 := hB1.cell 1
  have b2 := hB1.cell 2
  have g0 := hB1.free 0
  have g1 := hB1.free 1
  have g2 := hB1.free 2
  have hb4 := hB1.lt
  simp only [List.getElem?_toArray, List.getElem?_cons_zero, List.getElem?_cons_succ] at b0 b1 b2
  have HMA := Lib.hid ((HM.out _).trans hm)
  have HB := Lib.hid hB1
  clear hm hB1 HM
  go_wp2_with fail
  refine bodyPost_ret (res_box rfl ((HB.out.put3 _ _ _).alloc _) rfl rfl) rfl ?_
  exact ⟨rfl, ((((HMA.out.setCell (p := ⟨w.heap.size, 0, none⟩) (fun h => absurd h (Nat.lt_irrefl _)) _).setCell (p := ⟨w.heap.size, 1, none⟩) (fun h => absurd h (Nat.lt_irrefl _)) _).setCell (p := ⟨w.heap.size, 2, none⟩) (fun h => absurd h (Nat.lt_irrefl _)) _).alloc _)⟩

/-- The row cut at its end. -/
theorem Owns.cut {w : World} {g cap n : Nat} {ys : List It} (h : Owns encT 30 3 w (.slice (some ⟨g, 0, none⟩) (n + 1) cap) ys) (hn : ys.length = n + 1) : Owns encT 30 3 w (.slice (some ⟨g, 0, none⟩) n cap) ys.dropLast := by
  have hl : ys.dropLast.length = n := by rw [List.length_dropLast]; omega
  unfold Owns at h ⊢
  rw [hl]
  refine ⟨by rw [flat_length encT_len, hl], ?_⟩
  rcases h.2 with ⟨h0, _⟩ | ⟨g', cap', cur, hv, hb, hg, h1, h2, h3, h4⟩
  · cases h0
  · simp only [Value.slice.injEq, Option.some.injEq, Addr.mk.injEq, and_true, true_and] at hv
    obtain ⟨rfl, _, rfl⟩ := hv
    refine .inr ⟨g, cap, cur, rfl, hb, hg, by omega, h2, h3, ?_⟩
    obtain ⟨z, hz⟩ := get_of_lt (xs := ys) (k := n) (by omega)
    have e := cut_end hn hz
    have e2 : flat encT ys = flat encT ys.dropLast ++ encT z := by
      conv => lhs; rw [e]
      rw [flat_append]
      simp [flat]
    rw [hn, e2] at h4
    have : cur.toList.take (n * 3) = (cur.toList.take ((n + 1) * 3)).take (n * 3) := by rw [List.take_take]; congr 1; omega
    rw [this, h4, List.take_left' (by rw [flat_length encT_len, hl])]

set_option maxHeartbeats 4000000 in
set_option maxRecDepth 100000 in
theorem hrem_in {p mb : Nat} {lv : Value} {sq : Int} {ys : List It} {f : Int → Option Value} {F : Nat → Prop} {L : List It} (id : Int) (w : World) (h : HeapIn w p mb lv sq ys f F L) (hsq : sq ≤ 1000000) {k : Nat} {x : It} (hf : findL id L = some x) (hk : ys[k]? = some x) (hid : x.id = id) :
    Calls Try.prog 40 #[.pointer (some ⟨p, 0, none⟩), .int .i64 id] w fun e w' => e = .returned (.tuple #[aggT x, .bool true]) ∧ ∃ lv' ys' f', HRaw w' p mb lv' sq ys' f' ∧ PosOK f' ys' ∧ HOrd ys' ∧ (x :: ys').Perm ys ∧ lv'.ownBlock = lv.ownBlock ∧ Turns (fun k => k = p ∨ k = mb ∨ lv.ownBlock = some k) w w' := by
  rcases h.raw.own.form with ⟨rfl, h0⟩ | ⟨g, cap, rfl, hg, hl, hm⟩
  · rw [h0] at hk; simp at hk
  have hkl := (List.getElem?_eq_some_iff.1 hk).1
  obtain ⟨n, hn⟩ : ∃ n, ys.length = n + 1 := ⟨ys.length - 1, by omega⟩
  have hsz : (ys.length : Int) ≤ sq := by have := h.len; have := h.perm.length_eq; omega
  obtain ⟨z, hz⟩ := get_of_lt (xs := ys) (k := n) (by omega)
  have hfk : f id = some (.int .i64 k) := by rw [← hid]; exact h.pos.get hk
  have H := Lib.hid (fun (w' : World) (hm : Made w w') => hfind_in id w' (h.turns hm (fun _ _ h => h)))
  rw [hf] at H
  simp only [optT, Option.getD_some, Option.isSome_some, aggT] at H ⊢
  have HM := Lib.hid (fun (o : Obj) => ((Turns.refl (fun _ => False) w).alloc o))
  have HR := Lib.hid h.raw
  have HO := Lib.hid h.ord
  have HU := Lib.hid h.uniq
  have HP := Lib.hid h.pos
  have HK := Lib.hid hk
  have HZ := Lib.hid hz
  have HFK := Lib.hid hfk
  have HID := Lib.hid hid
  have HN := Lib.hid hn
  have hpl := h.raw.blk.lt
  have hml := h.raw.map.lt
  have hB := Blk.new w 30 #[.int .i64 0, .int .i64 0, .int .i64 0]
  clear h hf hk hid hfk hz
  go_enter Try.func40, Try.ntmps40
  go_wp2_with fail
  refine (H.out _ (HM.out _)).mono ?_
  rintro e w1 ⟨rfl, hm⟩
  have hB1 := hB.turns hm (fun h => h)
  have HMA := Lib.hid ((HM.out _).trans hm)
  have hX := Blk.new w1 30 (encT x).toArray
  unfold encT at hX
  have hb4 := hB1.lt
  have HR1 := Lib.hid ((HR.out.made HMA.out).made ((Turns.refl (fun _ => False) w1).alloc (.cells #[.int .i64 x.id, .int .i64 x.when, .int .i64 x.seq] 30)))
  have HB4 := Lib.hid (hB1.alloc (.cells #[.int .i64 x.id, .int .i64 x.when, .int .i64 x.seq] 30))
  have HB6 := Lib.hid hX
  have HMB := Lib.hid (HMA.out.alloc (.cells #[.int .i64 x.id, .int .i64 x.when, .int .i64 x.seq] 30))
  clear H HM hB hm hB1 hX HR HMA
  go_wp2_with fail
  generalize w1.alloc (.cells #[.int .i64 x.id, .int .i64 x.when, .int .i64 x.seq] 30) = W1 at *
  generalize hb6 : w1.heap.size = q6 at *
  clear hb6 w1
  have hwn : IntKind.i64.wrap ((ys.length : Int) - 1) = (n : Int) := by rw [show (ys.length : Int) - 1 = (n : Int) from by omega]; exact wrap_in _ (by omega)
  have hwn3 : (ys.length : Int) - 1 = (n : Int) := by omega
  refine wp_region_held_drew (S := (fun w' => Made W1 w')) (by kernel_rfl) ?_ (fun hHeld => ?_)
  · exact (Turns.refl _ _).drew
  refine takeH (i := 0) (d := some 20) (v := ?_) rfl rfl (by kernel_rfl) (by kernel_rfl) (by kernel_rfl) (fun _ _ _ h => h) (Or.inl ⟨by rfl, ?_⟩) (by assumption) ?_
  rotate_left
  · intro w hSw
    try dsimp only at hSw
    go_simp
    try with_reducible rfl
  try simp only [Act.put, List.setIfInBounds_toArray, List.set_cons_zero, List.set_cons_succ]
  refine takeH (i := 1) (d := some 21) (v := ?_) rfl rfl (by kernel_rfl) (by kernel_rfl) (by kernel_rfl) (fun _ _ _ h => h) (Or.inl ⟨by rfl, ?_⟩) (by assumption) ?_
  rotate_left
  · intro w hSw
    try dsimp only at hSw
    go_simp
    try with_reducible rfl
  try simp only [Act.put, List.setIfInBounds_toArray, List.set_cons_zero, List.set_cons_succ]
  refine takeH (i := 2) (d := some 22) (v := ?_) rfl rfl (by kernel_rfl) (by kernel_rfl) (by kernel_rfl) (fun _ _ _ h => h) (Or.inl ⟨by rfl, ?_⟩) (by assumption) ?_
  rotate_left
  · intro w hSw
    try dsimp only at hSw
    go_simp
    try with_reducible rfl
  try simp only [Act.put, List.setIfInBounds_toArray, List.set_cons_zero, List.set_cons_succ]
  refine takeH (i := 3) (d := some 23) (v := ?_) rfl rfl (by kernel_rfl) (by kernel_rfl) (by kernel_rfl) (fun _ _ _ h => h) (Or.inl ⟨by rfl, ?_⟩) (by assumption) ?_
  rotate_left
  · intro w hSw
    try dsimp only at hSw
    have hb2 := HR1.out.blk.turns hSw (fun h => h)
    have d0 := hb2.cell 1
    simp only [List.getElem?_toArray, List.getElem?_cons_zero, List.getElem?_cons_succ] at d0
    clear hb2
    go_simp
    try with_reducible rfl
  try simp only [Act.put, List.setIfInBounds_toArray, List.set_cons_zero, List.set_cons_succ]
  refine takeH (i := 4) (d := some 24) (v := ?_) rfl rfl (by kernel_rfl) (by kernel_rfl) (by kernel_rfl) (fun _ _ _ h => h) (Or.inl ⟨by rfl, ?_⟩) (by assumption) ?_
  rotate_left
  · intro w hSw
    try dsimp only at hSw
    go_simp
    try with_reducible rfl
  try simp only [Act.put, List.setIfInBounds_toArray, List.set_cons_zero, List.set_cons_succ]
  refine takeH (i := 5) (d := some 25) (v := ?_) rfl rfl (by kernel_rfl) (by kernel_rfl) (by kernel_rfl) (fun _ _ _ h => h) (Or.inl ⟨by rfl, ?_⟩) (by assumption) ?_
  rotate_left
  · intro w hSw
    try dsimp only at hSw
    have hlk := (HR1.out.map.turns hSw (fun h => h)).look Try.underlying87 Try.underlying3 (zero_int _) id false
    rw [HFK.out] at hlk
    simp only [Option.getD_some, Bool.false_eq_true, if_false] at hlk
    go_simp
    try with_reducible rfl
  try simp only [Act.put, List.setIfInBounds_toArray, List.set_cons_zero, List.set_cons_succ]
  refine takeH (i := 6) (d := some 26) (v := ?_) rfl rfl (by kernel_rfl) (by kernel_rfl) (by kernel_rfl) (fun _ _ _ h => h) (Or.inl ⟨by rfl, ?_⟩) (by assumption) ?_
  rotate_left
  · intro w hSw
    try dsimp only at hSw
    go_simp
    try with_reducible rfl
  try simp only [Act.put, List.setIfInBounds_toArray, List.set_cons_zero, List.set_cons_succ]
  refine takeH (i := 7) (d := some 27) (v := ?_) rfl rfl (by kernel_rfl) (by kernel_rfl) (by kernel_rfl) (fun _ _ _ h => h) (Or.inl ⟨by rfl, ?_⟩) (by assumption) ?_
  rotate_left
  · intro w hSw
    try dsimp only at hSw
    go_simp
    try with_reducible rfl
  try simp only [Act.put, List.setIfInBounds_toArray, List.set_cons_zero, List.set_cons_succ]
  refine takeH (i := 8) (d := some 28) (v := ?_) rfl rfl (by kernel_rfl) (by kernel_rfl) (by kernel_rfl) (fun _ _ _ h => h) (Or.inl ⟨by rfl, ?_⟩) (by assumption) ?_
  rotate_left
  · intro w hSw
    try dsimp only at hSw
    go_simp
    try with_reducible rfl
  try simp only [Act.put, List.setIfInBounds_toArray, List.set_cons_zero, List.set_cons_succ]
  refine takeH (i := 9) (d := some 29) (v := ?_) rfl rfl (by kernel_rfl) (by kernel_rfl) (by kernel_rfl) (fun _ _ _ h => h) (Or.inl ⟨by rfl, ?_⟩) (by assumption) ?_
  rotate_left
  · intro w hSw
    try dsimp only at hSw
    have hb2 := HR1.out.blk.turns hSw (fun h => h)
    have d0 := hb2.cell 0
    simp only [List.getElem?_toArray, List.getElem?_cons_zero, List.getElem?_cons_succ] at d0
    clear hb2
    go_simp
    try with_reducible rfl
  try simp only [Act.put, List.setIfInBounds_toArray, List.set_cons_zero, List.set_cons_succ]
  refine takeH (i := 10) (d := some 30) (v := ?_) rfl rfl (by kernel_rfl) (by kernel_rfl) (by kernel_rfl) (fun _ _ _ h => h) (Or.inl ⟨by rfl, ?_⟩) (by assumption) ?_
  rotate_left
  · intro w hSw
    try dsimp only at hSw
    go_simp
    try with_reducible rfl
  try simp only [Act.put, List.setIfInBounds_toArray, List.set_cons_zero, List.set_cons_succ]
  refine takeH (i := 11) (d := some 31) (v := ?_) rfl rfl (by kernel_rfl) (by kernel_rfl) (by kernel_rfl) (fun _ _ _ h => h) (Or.inl ⟨by rfl, ?_⟩) (by assumption) ?_
  rotate_left
  · intro w hSw
    try dsimp only at hSw
    go_simp
    try with_reducible rfl
  try simp only [Act.put, List.setIfInBounds_toArray, List.set_cons_zero, List.set_cons_succ]
  refine takeH (i := 12) (d := some 8) (v := ?_) rfl rfl (by kernel_rfl) (by kernel_rfl) (by kernel_rfl) (fun _ _ _ h => h) (Or.inl ⟨by rfl, ?_⟩) (by assumption) ?_
  rotate_left
  · intro w hSw
    try dsimp only at hSw
    go_simp
    try with_reducible rfl
  try simp only [Act.put, List.setIfInBounds_toArray, List.set_cons_zero, List.set_cons_succ]
  refine takeH (i := 13) (d := some 9) (v := ?_) rfl rfl (by kernel_rfl) (by kernel_rfl) (by kernel_rfl) (fun _ _ _ h => h) (Or.inl ⟨by rfl, ?_⟩) (by assumption) ?_
  rotate_left
  · intro w hSw
    try dsimp only at hSw
    go_simp
    try with_reducible rfl
  try simp only [Act.put, List.setIfInBounds_toArray, List.set_cons_zero, List.set_cons_succ]
  refine wpAnyH_done (by kernel_rfl) ?_ _
  have HR2 := Lib.hid (HR1.out.made hHeld)
  have HC4 := Lib.hid (HB4.out.turns hHeld (fun h => h))
  have HC6 := Lib.hid (HB6.out.turns hHeld (fun h => h))
  have HMC := Lib.hid (HMB.out.trans hHeld)
  clear hHeld HR1 HB4 HB6 HMB
  try clear hHeld
  generalize W1.drew = W2 at *
  clear W1
  have c0 := HR2.out.blk.cell 0
  have c1 := HR2.out.blk.cell 1
  simp only [List.getElem?_toArray, List.getElem?_cons_zero, List.getElem?_cons_succ] at c0 c1
  have f0 := HR2.out.blk.free 0
  have e0 : W2.cell? ⟨g, n * 3, none⟩ = some (.int .i64 z.id) := Owns.cell encT_len HR2.out.own HZ.out (j := 0) rfl
  have e1 : W2.cell? ⟨g, n * 3 + 1, none⟩ = some (.int .i64 z.when) := Owns.cell encT_len HR2.out.own HZ.out (j := 1) rfl
  have e2 : W2.cell? ⟨g, n * 3 + 2, none⟩ = some (.int .i64 z.seq) := Owns.cell encT_len HR2.out.own HZ.out (j := 2) rfl
  have hp2 := HR2.out.blk.lt
  have hm2 := HR2.out.map.lt
  have hg2 : g < W2.heap.size := HR2.out.own.lt rfl
  have i1 : (0 : Int) ≤ (n : Int) := Int.natCast_nonneg _
  have i2 : (n : Int) < (ys.length : Int) := by omega
  have i3 : (n : Int) ≤ (ys.length : Int) := by omega
  have i4 : (n : Int) ≤ (cap : Int) := by omega
  have hcut := Owns.cut (by have := HR2.out.own; rwa [hn] at this) hn
  have hr3 : HRaw ((W2.setCell ⟨p, 0, none⟩ (.slice (some ⟨g, 0, none⟩) n cap)).alloc (.cells #[.int .i64 z.id, .int .i64 z.when, .int .i64 z.seq] 30)) p mb (.slice (some ⟨g, 0, none⟩) n cap) sq ys.dropLast f := by
    have ht3 : Turns (fun k => k = p) W2 ((W2.setCell ⟨p, 0, none⟩ (.slice (some ⟨g, 0, none⟩) n cap)).alloc (.cells #[.int .i64 z.id, .int .i64 z.when, .int .i64 z.seq] 30)) := ((Turns.refl (fun k => k = p) W2).setCell (p := ⟨p, 0, none⟩) (fun _ => rfl) _).alloc _
    refine ⟨(HR2.out.blk.put 0 _).alloc _, hcut.turns ht3 (fun k hk e => HR2.out.np (by rw [e] at hk; exact hk)), HR2.out.map.turns ht3 (fun e => HR2.out.pm e.symm), fun e => HR2.out.np e, fun e => HR2.out.nm e, HR2.out.pm⟩
  have ht3 : Turns (fun k => k = p ∨ k = mb ∨ k = g) W2 ((W2.setCell ⟨p, 0, none⟩ (.slice (some ⟨g, 0, none⟩) n cap)).alloc (.cells #[.int .i64 z.id, .int .i64 z.when, .int .i64 z.seq] 30)) := ((Turns.refl _ W2).setCell (p := ⟨p, 0, none⟩) (fun _ => .inl rfl) _).alloc _
  have hb10 := Blk.new (W2.setCell ⟨p, 0, none⟩ (.slice (some ⟨g, 0, none⟩) n cap)) 30 #[.int .i64 z.id, .int .i64 z.when, .int .i64 z.seq]
  have hs3 : (W2.setCell ⟨p, 0, none⟩ (.slice (some ⟨g, 0, none⟩) n cap)).heap.size = W2.heap.size := by simp [World.setCell]
  rw [hs3] at hb10
  have hq4 := HC4.out.lt
  have hq6 := HC6.out.lt
  have HR3 := Lib.hid hr3
  have HT3 := Lib.hid ht3
  have HB10 := Lib.hid hb10
  have HD4 := Lib.hid (HC4.out.turns ht3 (by omega))
  have HD6 := Lib.hid (HC6.out.turns ht3 (by omega))
  clear hcut hr3 ht3 hb10 hs3
  obtain ⟨w4, hrun, hmap4, ht4, hsz4⟩ := HR3.out.map.drop (P := Try.prog) Try.underlying87 Try.underlying3 id 0
  have hgm : ¬ g = mb := fun e => HR3.out.nm (by rw [← e]; rfl)
  have hr4 : HRaw w4 p mb (.slice (some ⟨g, 0, none⟩) n cap) sq ys.dropLast (del f id) := ⟨HR3.out.blk.turns ht4 (fun e => HR3.out.pm e), HR3.out.own.turns ht4 (fun k hk e => HR3.out.nm (by rw [hk, e])), hmap4, HR3.out.np, HR3.out.nm, HR3.out.pm⟩
  have HR4 := Lib.hid hr4
  have HE4' := Lib.hid (HD4.out.turns ht4 (by omega))
  have HE6' := Lib.hid (HD6.out.turns ht4 (by omega))
  have HE10 := Lib.hid (HB10.out.turns ht4 (by omega))
  have HTD := Lib.hid (((HMC.out.mono (S' := fun k => k = p ∨ k = mb ∨ k = g) (fun _ _ h => h.elim)).then HT3.out (fun _ _ h => h)).then ht4 (fun _ _ h => .inr (.inl h)))
  clear hmap4 ht4 hsz4 hr4 HR3 HT3 HB10 HD4 HD6 HR2 HC4 HC6 HMC
  have c0' := HR4.out.blk.cell 0
  have c1' := HR4.out.blk.cell 1
  have d0 := HE10.out.cell 0
  have d1 := HE10.out.cell 1
  have d2 := HE10.out.cell 2
  simp only [List.getElem?_toArray, List.getElem?_cons_zero, List.getElem?_cons_succ] at c0' c1' d0 d1 d2
  by_cases hkn : k < n
  · have hkn2 : (k : Int) < (n : Int) := by omega
    have hkd : k < ys.dropLast.length := by rw [List.length_dropLast]; omega
    have hzs : (ys.dropLast.set k z)[k]? = some z := List.getElem?_set_self hkd
    have hpm := cut_mid HN.out hkn HK.out HZ.out
    have hps := PosOK.cut_mid HU.out HP.out HN.out hkn HK.out HZ.out
    rw [HID.out] at hps
    have huz : Uniq (ys.dropLast.set k z) := by
      have h1 := HU.out.perm hpm
      rw [Uniq.iff, List.map_cons, List.nodup_cons] at h1
      exact (Uniq.iff _).2 h1.2
    have hga := HO.out.cut.set_GA k z
    have hlz : (ys.dropLast.set k z).length = n := by rw [List.length_set, List.length_dropLast]; omega
    have HZS := Lib.hid hzs
    have HPM := Lib.hid hpm
    have HPS := Lib.hid hps
    have HUZ := Lib.hid huz
    have HGA := Lib.hid hga
    have HLZ := Lib.hid hlz
    have HPUT := Lib.hid (put_c p mb _ sq ys.dropLast (del f id) k z w4 HR4.out hkd)
    clear hzs hpm hps huz hga hlz
    unfold aggT at HPUT
    go_wp2_with fail
    clear hrun c0 c1 f0 e0 e1 e2
    refine HPUT.out.mono ?_
    rintro e w5 ⟨⟨v, rfl⟩, hraw5, ht5⟩
    generalize ys.dropLast.set k z = zs at *
    have HR5 := Lib.hid hraw5
    have HT5 := Lib.hid ht5
    clear hraw5 ht5 HPUT c0' c1' d0 d1 d2
    go_wp2_with fail
    refine (up_c p mb _ sq zs _ k z w5 HR5.out HZS.out HUZ.out (by rw [upd_idem]; exact HPS.out) (by have := HLZ.out; omega)).mono ?_
    rintro e w6 ⟨⟨v6, rfl⟩, ⟨f6, hraw6, hpos6⟩, ht6⟩
    have hpu := upL_perm k zs
    have hdn := upL_dnA HUZ.out HZS.out HGA.out
    have hu6 := HUZ.out.perm hpu
    obtain ⟨j, hj⟩ := List.getElem?_of_mem (hpu.mem_iff.2 (List.mem_of_getElem? HZS.out))
    have hfj := hpos6.get hj
    have hdnj := hdn j z hj rfl
    have hl6 : (upL zs k).length = n := by rw [hpu.length_eq]; exact HLZ.out
    generalize upL zs k = us at *
    have HR6 := Lib.hid hraw6
    have HP6 := Lib.hid hpos6
    have HT6 := Lib.hid ht6
    have HPU := Lib.hid hpu
    have HU6 := Lib.hid hu6
    have HJ := Lib.hid hj
    have HFJ := Lib.hid hfj
    have HDN := Lib.hid hdnj
    have HL6 := Lib.hid hl6
    have hF10 := Lib.hid ((HE10.out.turns HT5.out (by simp [Value.ownBlock]; omega)).turns HT6.out (by simp [Value.ownBlock]; omega))
    have hF4 := Lib.hid ((HE4'.out.turns HT5.out (by simp [Value.ownBlock]; omega)).turns HT6.out (by simp [Value.ownBlock]; omega))
    have hF6 := Lib.hid ((HE6'.out.turns HT5.out (by simp [Value.ownBlock]; omega)).turns HT6.out (by simp [Value.ownBlock]; omega))
    have hp6 := HR6.out.blk.lt
    clear hraw6 hpos6 ht6 hpu hdn hu6 hj hfj hdnj hl6
    go_wp2_with fail
    refine wp_region_held_drew (S := (fun w' => Blk w' p 89 #[.slice (some ⟨g, 0, none⟩) n cap, .map (some mb), .int .i64 sq] ∧ Blk w' W2.heap.size 30 #[.int .i64 z.id, .int .i64 z.when, .int .i64 z.seq])) (by kernel_rfl) ?_ (fun hHeld => ?_)
    · exact ⟨HR6.out.blk.turns ((Turns.refl (fun _ => False) _).drew) (fun h => h), hF10.out.turns ((Turns.refl (fun _ => False) _).drew) (fun h => h)⟩
    refine takeH (i := 0) (d := some 63) (v := ?_) rfl rfl (by kernel_rfl) (by kernel_rfl) (by kernel_rfl) (fun _ _ _ h => h) (Or.inl ⟨by rfl, ?_⟩) (by assumption) ?_
    rotate_left
    · intro w hSw
      try dsimp only at hSw
      go_simp
      try with_reducible rfl
    try simp only [Act.put, List.setIfInBounds_toArray, List.set_cons_zero, List.set_cons_succ]
    refine takeH (i := 1) (d := some 64) (v := ?_) rfl rfl (by kernel_rfl) (by kernel_rfl) (by kernel_rfl) (fun _ _ _ h => h) (Or.inl ⟨by rfl, ?_⟩) (by assumption) ?_
    rotate_left
    · intro w hSw
      try dsimp only at hSw
      go_simp
      try with_reducible rfl
    try simp only [Act.put, List.setIfInBounds_toArray, List.set_cons_zero, List.set_cons_succ]
    refine takeH (i := 2) (d := some 65) (v := ?_) rfl rfl (by kernel_rfl) (by kernel_rfl) (by kernel_rfl) (fun _ _ _ h => h) (Or.inl ⟨by rfl, ?_⟩) (by assumption) ?_
    rotate_left
    · intro w hSw
      try dsimp only at hSw
      go_simp
      try with_reducible rfl
    try simp only [Act.put, List.setIfInBounds_toArray, List.set_cons_zero, List.set_cons_succ]
    refine takeH (i := 3) (d := some 66) (v := ?_) rfl rfl (by kernel_rfl) (by kernel_rfl) (by kernel_rfl) (fun _ _ _ h => h) (Or.inl ⟨by rfl, ?_⟩) (by assumption) ?_
    rotate_left
    · intro w hSw
      try dsimp only at hSw
      go_simp
      try with_reducible rfl
    try simp only [Act.put, List.setIfInBounds_toArray, List.set_cons_zero, List.set_cons_succ]
    refine takeH (i := 4) (d := some 67) (v := ?_) rfl rfl (by kernel_rfl) (by kernel_rfl) (by kernel_rfl) (fun _ _ _ h => h) (Or.inl ⟨by rfl, ?_⟩) (by assumption) ?_
    rotate_left
    · intro w hSw
      try dsimp only at hSw
      have d0 := hSw.1.cell 1
      simp only [List.getElem?_toArray, List.getElem?_cons_zero, List.getElem?_cons_succ] at d0
      go_simp
      try with_reducible rfl
    try simp only [Act.put, List.setIfInBounds_toArray, List.set_cons_zero, List.set_cons_succ]
    refine takeH (i := 5) (d := some 68) (v := ?_) rfl rfl (by kernel_rfl) (by kernel_rfl) (by kernel_rfl) (fun _ _ _ h => h) (Or.inl ⟨by rfl, ?_⟩) (by assumption) ?_
    rotate_left
    · intro w hSw
      try dsimp only at hSw
      go_simp
      try with_reducible rfl
    try simp only [Act.put, List.setIfInBounds_toArray, List.set_cons_zero, List.set_cons_succ]
    refine takeH (i := 6) (d := some 69) (v := ?_) rfl rfl (by kernel_rfl) (by kernel_rfl) (by kernel_rfl) (fun _ _ _ h => h) (Or.inl ⟨by rfl, ?_⟩) (by assumption) ?_
    rotate_left
    · intro w hSw
      try dsimp only at hSw
      have d0 := hSw.2.cell 0
      simp only [List.getElem?_toArray, List.getElem?_cons_zero, List.getElem?_cons_succ] at d0
      go_simp
      try with_reducible rfl
    try simp only [Act.put, List.setIfInBounds_toArray, List.set_cons_zero, List.set_cons_succ]
    refine wpAnyH_ready (rs := [7]) (by kernel_rfl) (by simp) ?_
    refine AllReadyH.cons rfl (fun K hK => ?_) AllReadyH.nil
    have hlk := (HR6.out.made ((Turns.refl (fun _ => False) w6).drew)).map.look (P := Try.prog) Try.underlying87 Try.underlying3 (zero_int _) z.id false
    rw [HFJ.out] at hlk
    simp only [Option.getD_some, Bool.false_eq_true, if_false] at hlk
    go_simp
    refine hK.out _ _ ?_ (fun hHeld => ?_)
    · exact hHeld
    clear hK K
    try simp only [Act.put, List.setIfInBounds_toArray, List.set_cons_zero, List.set_cons_succ]
    refine wpAnyH_ready (rs := [8]) (by kernel_rfl) (by simp) ?_
    refine AllReadyH.cons rfl (fun K hK => ?_) AllReadyH.nil
    go_simp
    refine (down_c p mb _ sq us f6 j z _ (HR6.out.made ((Turns.refl (fun _ => False) w6).drew)) HJ.out HU6.out (by rw [upd_self HFJ.out]; exact HP6.out) (by have := HL6.out; omega)).mono ?_
    rintro e w7 ⟨⟨v7, rfl⟩, ⟨f7, hraw7, hpos7⟩, ht7⟩
    go_wp2_with fail
    refine hK.out _ _ ?_ (fun hHeld => ?_)
    · exact ⟨hraw7.blk, hF10.out.turns (((Turns.refl (fun _ => False) w6).drew.mono (S' := fun k => k = p ∨ k = mb ∨ k = g) (fun _ _ h => h.elim)).then ht7 (fun b _ h => own3 h)) (by omega)⟩
    clear hK K
    try simp only [Act.put, List.setIfInBounds_toArray, List.set_cons_zero, List.set_cons_succ]
    refine wpAnyH_done (by kernel_rfl) ?_ _
    have ht7' : Turns (fun k => k = p ∨ k = mb ∨ k = g) w6 w7 := ((Turns.refl (fun _ => False) w6).drew.mono (S' := fun k => k = p ∨ k = mb ∨ k = g) (fun _ _ h => h.elim)).then ht7 (fun b _ h => by
      rcases h with h | h
      · simp only [Value.ownBlock, Option.some.injEq] at h; exact .inr (.inr h.symm)
      · exact .inr (.inl h))
    have HT7 := Lib.hid (((HTD.out.then HT5.out (fun b _ h => by
      rcases h with h | h
      · simp only [Value.ownBlock, Option.some.injEq] at h; exact .inr (.inr h.symm)
      · exact .inr (.inl h))).then HT6.out (fun b _ h => by
      rcases h with h | h
      · simp only [Value.ownBlock, Option.some.injEq] at h; exact .inr (.inr h.symm)
      · exact .inr (.inl h))).then ht7' (fun _ _ h => h))
    have HG4 := Lib.hid (hF4.out.turns ht7' (by omega))
    have HG6 := Lib.hid (hF6.out.turns ht7' (by omega))
    have HR7 := Lib.hid hraw7
    have HP7 := Lib.hid hpos7
    clear hHeld hraw7 hpos7 ht7 ht7'
    try clear hHeld
    have b0 := HG4.out.cell 0
    have b1 := HG4.out.cell 1
    have b2 := HG4.out.cell 2
    have g0 := HG4.out.free 0
    have g1 := HG4.out.free 1
    have g2 := HG4.out.free 2
    have k0 := HG6.out.cell 0
    have k1 := HG6.out.cell 1
    have k2 := HG6.out.cell 2
    simp only [List.getElem?_toArray, List.getElem?_cons_zero, List.getElem?_cons_succ] at b0 b1 b2 k0 k1 k2
    go_wp2_with fail
    refine bodyPost_ret (res_box rfl (HG4.out.put3 _ _ _) rfl rfl) rfl ?_
    have hdp := downL_perm (us.length - j) j us (Nat.le_refl _)
    refine ⟨rfl, _, _, _, HR7.out.turns (set3 _ (w.heap.size)) (by omega) (by omega) (by simp [Value.ownBlock]; omega), HP7.out, downL_heap _ j us (Nat.le_refl _) (List.getElem?_eq_some_iff.1 HJ.out).1 HDN.out, ((hdp.trans HPU.out).cons x).trans HPM.out, rfl, ?_⟩
    refine (HT7.out.mono (fun b _ h => ?_)).then (set3 _ (w.heap.size)) (fun b hb e => by omega)
    rcases h with h | h | h
    · exact .inl h
    · exact .inr (.inl h)
    · exact .inr (.inr (by rw [h]; rfl))
  · have hkn2 : ¬ (k : Int) < (n : Int) := by omega
    obtain rfl : k = n := by omega
    have hxz : z = x := by have h1 := HK.out; rw [HZ.out] at h1; cases h1; rfl
    subst hxz
    have b0 := HE4'.out.cell 0
    have b1 := HE4'.out.cell 1
    have b2 := HE4'.out.cell 2
    have g0 := HE4'.out.free 0
    have g1 := HE4'.out.free 1
    have g2 := HE4'.out.free 2
    have k0 := HE6'.out.cell 0
    have k1 := HE6'.out.cell 1
    have k2 := HE6'.out.cell 2
    simp only [List.getElem?_toArray, List.getElem?_cons_zero, List.getElem?_cons_succ] at b0 b1 b2 k0 k1 k2
    go_wp2_with fail
    refine bodyPost_ret (res_box rfl (HE4'.out.put3 _ _ _) rfl rfl) rfl ?_
    refine ⟨rfl, _, _, _, HR4.out.turns (set3 _ (w.heap.size)) (by omega) (by omega) (by simp [Value.ownBlock]; omega), ?_, HO.out.cut, ?_, rfl, ?_⟩
    · have := PosOK.cut_end HU.out HP.out HN.out HZ.out
      rw [HID.out] at this
      exact this
    · have h1 := cut_end HN.out HZ.out
      have h2 := List.perm_append_comm (l₁ := [z]) (l₂ := ys.dropLast)
      rw [← h1] at h2
      exact h2
    · refine (HTD.out.mono (fun b _ h => ?_)).then (set3 _ (w.heap.size)) (fun b hb e => by omega)
      rcases h with h | h | h
      · exact .inl h
      · exact .inr (.inl h)
      · exact .inr (.inr (by rw [h]; rfl))
end Go.Proofs.Ytgjgopcomgclkaa
