/-
  Package expire: Arm, Armed, Take.
-/
import Derived.Test.YtgjgopcomgclkaaEx
namespace Go.Proofs.Ytgjgopcomgclkaa
open Go.RowKit
set_option linter.unusedVariables false
set_option linter.unusedSimpArgs false

section
attribute [local go_sem] mx2 mn2 mx_two mn_two
theorem tarm_nil (id when period : Int) (w : World) : Calls Try.prog 29 #[.pointer none, .int .i64 id, .int .i64 when, .int .i64 period] w fun e w' => e = .returned (.int .i64 1) ∧ w = w' := by
  go_enter Try.func29, Try.ntmps29
  go_wp2
  go_ret
  exact ⟨rfl, rfl⟩
theorem tarm_bad (a : Addr) (id when period : Int) (w : World) (hbad : when < 0 ∨ period < 0 ∨ 4611686018427387904 < when ∨ 4611686018427387904 < period) : Calls Try.prog 29 #[.pointer (some a), .int .i64 id, .int .i64 when, .int .i64 period] w fun e w' => e = .returned (.int .i64 1) ∧ w = w' := by
  by_cases h2 : when < 0 ∨ period < 0
  · have h2' : (if period < when then period else when) < 0 := by split <;> omega
    generalize hm : (if period < when then period else when) = m at h2'
    clear h2 hbad
    go_enter Try.func29, Try.ntmps29
    go_wp2
    go_ret
    exact ⟨rfl, rfl⟩
  · have h2' : ¬ (if period < when then period else when) < 0 := by split <;> omega
    have h3' : 4611686018427387904 < (if when < period then period else when) := by split <;> omega
    generalize hm : (if period < when then period else when) = m at h2'
    generalize hx : (if when < period then period else when) = x at h3'
    clear h2 hbad
    go_enter Try.func29, Try.ntmps29
    go_wp2
    go_ret
    exact ⟨rfl, rfl⟩
theorem pset_del (pf : Int → Option Int) (id p : Int) : pset (pdel pf id) id p = pset pf id p := by
  funext j; unfold pset pdel; split <;> rfl
set_option maxHeartbeats 1000000 in
theorem tarm_c {q : Nat} {G : Nat → Prop} {L : List It} {sq : Int} {pf : Int → Option Int} (id when period : Int) (w : World) (h : TimAt w q G L sq pf) (hsq : sq < 1000000) (h1 : 0 ≤ when) (h2 : 0 ≤ period) (h3 : when ≤ 4611686018427387904) (h4 : period ≤ 4611686018427387904) :
    Calls Try.prog 29 #[.pointer (some ⟨q, 0, none⟩), .int .i64 id, .int .i64 when, .int .i64 period] w fun e w' => e = .returned (.int .i64 0) ∧ ∃ G', TimAt w' q G' (insL ⟨id, when, sq + 1⟩ (delL id L)) (sq + 1) (pset pf id period) ∧ Stp w w' G G' := by
  obtain ⟨p, mb, F, h⟩ := h
  have h2' : ¬ (if period < when then period else when) < 0 := by split <;> omega
  have h3' : ¬ 4611686018427387904 < (if when < period then period else when) := by split <;> omega
  generalize hm : (if period < when then period else when) = m at h2'
  generalize hx : (if when < period then period else when) = x at h3'
  have HST := Lib.hid (tstop_in id w h (by omega))
  have HG := Lib.hid h.gb
  clear h
  go_enter Try.func29, Try.ntmps29
  go_wp2_with fail
  refine HST.out.mono ?_
  rintro e w1 ⟨rfl, hh, ht⟩
  have c0 := hh.blk.cell 0
  have c1 := hh.blk.cell 1
  simp only [List.getElem?_toArray, List.getElem?_cons_zero, List.getElem?_cons_succ] at c0 c1
  obtain ⟨w2, hrun, hmap2, ht2, -⟩ := hh.map.store (P := Try.prog) Try.underlying87 Try.underlying3 id (.int .i64 period)
  rw [pv_set, pset_del] at hmap2
  have hb2 := hh.blk.turns ht2 hh.qm
  have hh2 : HeapAt w2 p F (delL id L) sq := hh.heap.turns ht2 (fun k hk e => hh.nm (by rw [← e]; exact hk))
  have c3 := hb2.cell 0
  simp only [List.getElem?_toArray, List.getElem?_cons_zero, List.getElem?_cons_succ] at c3
  have HA := Lib.hid (hadd_c id when w2 hh2 (findL_del id L) hsq)
  have HB2 := Lib.hid hb2
  have HM2 := Lib.hid hmap2
  have HT2 := Lib.hid ht2
  have HT := Lib.hid ht
  have HH := Lib.hid hh
  clear hh ht hmap2 ht2 hb2 hh2 HST
  go_wp2_with fail
  refine HA.out.mono ?_
  rintro e w3 ⟨rfl, F3, hh3, hs3⟩
  have HH3 := Lib.hid hh3
  have HS3 := Lib.hid hs3
  clear hh3 hs3 HA
  go_wp2_with fail
  go_ret
  have htw : Turns G w w2 := HT.out.then HT2.out (fun b _ e => by rw [e]; exact HH.out.gm)
  have htf : Turns G w w3 := htw.then HS3.out.t (fun b hb hf => HH.out.ga b hf)
  have hmlt := HM2.out.lt
  have hqlt := HB2.out.lt
  have hnf : ∀ b, b < w2.heap.size → ¬ F b → ¬ F3 b := fun b hb hn h3 => (HS3.out.f b h3).elim hn (fun h => by omega)
  refine ⟨rfl, fun k => G k ∨ F3 k, ⟨p, mb, F3, { blk := HB2.out.turns HS3.out.t HH.out.nq, heap := HH3.out, map := HM2.out.turns HS3.out.t HH.out.nm, nq := hnf q hqlt HH.out.nq, nm := hnf mb hmlt HH.out.nm, qm := HH.out.qm, ga := fun k hk => .inr hk, gq := .inl HH.out.gq, gm := .inl HH.out.gm, gb := ?_, per := ?_ }⟩, ⟨htf, ?_⟩⟩
  · intro k hk
    rcases hk with hk | hk
    · exact Nat.lt_of_lt_of_le (HG.out k hk) htf.size
    · exact HH3.out.fb k hk
  · rw [← pset_del]
    exact per_set HH.out.per id period when (sq + 1)
  · intro k hk
    rcases hk with hk | hk
    · exact .inl hk
    · rcases HS3.out.f k hk with h | h
      · exact .inl (HH.out.ga k h)
      · exact .inr (by have := htw.size; omega)
end

theorem tarmed_nil (id : Int) (w : World) : Calls Try.prog 35 #[.pointer none, .int .i64 id] w fun e w' => e = .returned (.tuple #[.int .i64 0, .int .i64 0, .bool false]) ∧ w = w' := by
  go_enter Try.func35, Try.ntmps35
  go_wp2
  go_returns
  exact ⟨rfl, rfl⟩
theorem pv_getD (pf : Int → Option Int) (id : Int) : (pv pf id).getD (.int .i64 0) = .int .i64 ((pf id).getD 0) := by
  unfold pv
  cases pf id <;> rfl
set_option maxHeartbeats 1000000 in
theorem tarmed_c {q : Nat} {G : Nat → Prop} {L : List It} {sq : Int} {pf : Int → Option Int} (id : Int) (w : World) (h : TimAt w q G L sq pf) :
    Calls Try.prog 35 #[.pointer (some ⟨q, 0, none⟩), .int .i64 id] w fun e w' => e = .returned (.tuple #[.int .i64 (optT (findL id L)).when, .int .i64 ((pf id).getD 0), .bool (findL id L).isSome]) ∧ Made w w' := by
  obtain ⟨p, mb, F, h⟩ := h
  have c0 := h.blk.cell 0
  simp only [List.getElem?_toArray, List.getElem?_cons_zero, List.getElem?_cons_succ] at c0
  have HF := Lib.hid (hfind_c id w h.heap)
  have HT := Lib.hid h
  have hpv := pv_getD pf id
  have HPV := Lib.hid hpv
  clear h hpv
  unfold aggT at HF
  generalize optT (findL id L) = x at *
  generalize (findL id L).isSome = r at *
  generalize (pf id).getD 0 = pd at *
  go_enter Try.func35, Try.ntmps35
  go_wp2_with fail
  refine HF.out.mono ?_
  rintro e w1 ⟨rfl, hm⟩
  have HMB := Lib.hid (hm.alloc (.cells #[.int .i64 x.id, .int .i64 x.when, .int .i64 x.seq] 30))
  have HX := Lib.hid (Blk.new w1 30 #[.int .i64 x.id, .int .i64 x.when, .int .i64 x.seq])
  clear hm HF
  go_wp2_with fail
  generalize hbx : w1.heap.size = bx at *
  generalize w1.alloc (.cells #[.int .i64 x.id, .int .i64 x.when, .int .i64 x.seq] 30) = W at *
  clear hbx w1
  refine wp_region_held_drew (S := (fun w' => Made W w')) (by kernel_rfl) ?_ (fun hHeld => ?_)
  · exact (Turns.refl _ _).drew
  refine takeH (i := 0) (d := some 19) (v := ?_) rfl rfl (by kernel_rfl) (by kernel_rfl) (by kernel_rfl) (fun _ _ _ h => h) (Or.inl ⟨by rfl, ?_⟩) (by assumption) ?_
  rotate_left
  · intro w hSw
    try dsimp only at hSw
    go_simp
    try with_reducible rfl
  try simp only [Act.put, List.setIfInBounds_toArray, List.set_cons_zero, List.set_cons_succ]
  refine takeH (i := 1) (d := some 20) (v := ?_) rfl rfl (by kernel_rfl) (by kernel_rfl) (by kernel_rfl) (fun _ _ _ h => h) (Or.inl ⟨by rfl, ?_⟩) (by assumption) ?_
  rotate_left
  · intro w hSw
    try dsimp only at hSw
    have hb2 := HX.out.made hSw
    have d0 := hb2.cell 1
    simp only [List.getElem?_toArray, List.getElem?_cons_zero, List.getElem?_cons_succ] at d0
    clear hb2
    go_simp
    try with_reducible rfl
  try simp only [Act.put, List.setIfInBounds_toArray, List.set_cons_zero, List.set_cons_succ]
  refine takeH (i := 2) (d := some 21) (v := ?_) rfl rfl (by kernel_rfl) (by kernel_rfl) (by kernel_rfl) (fun _ _ _ h => h) (Or.inl ⟨by rfl, ?_⟩) (by assumption) ?_
  rotate_left
  · intro w hSw
    try dsimp only at hSw
    go_simp
    try with_reducible rfl
  try simp only [Act.put, List.setIfInBounds_toArray, List.set_cons_zero, List.set_cons_succ]
  refine takeH (i := 3) (d := some 22) (v := ?_) rfl rfl (by kernel_rfl) (by kernel_rfl) (by kernel_rfl) (fun _ _ _ h => h) (Or.inl ⟨by rfl, ?_⟩) (by assumption) ?_
  rotate_left
  · intro w hSw
    try dsimp only at hSw
    go_simp
    try with_reducible rfl
  try simp only [Act.put, List.setIfInBounds_toArray, List.set_cons_zero, List.set_cons_succ]
  refine takeH (i := 4) (d := some 23) (v := ?_) rfl rfl (by kernel_rfl) (by kernel_rfl) (by kernel_rfl) (fun _ _ _ h => h) (Or.inl ⟨by rfl, ?_⟩) (by assumption) ?_
  rotate_left
  · intro w hSw
    try dsimp only at hSw
    go_simp
    try with_reducible rfl
  try simp only [Act.put, List.setIfInBounds_toArray, List.set_cons_zero, List.set_cons_succ]
  refine takeH (i := 5) (d := some 24) (v := ?_) rfl rfl (by kernel_rfl) (by kernel_rfl) (by kernel_rfl) (fun _ _ _ h => h) (Or.inl ⟨by rfl, ?_⟩) (by assumption) ?_
  rotate_left
  · intro w hSw
    try dsimp only at hSw
    have hb2 := (HT.out.made (HMB.out.trans hSw)).blk
    have d0 := hb2.cell 1
    simp only [List.getElem?_toArray, List.getElem?_cons_zero, List.getElem?_cons_succ] at d0
    clear hb2
    go_simp
    try with_reducible rfl
  try simp only [Act.put, List.setIfInBounds_toArray, List.set_cons_zero, List.set_cons_succ]
  refine takeH (i := 6) (d := some 25) (v := ?_) rfl rfl (by kernel_rfl) (by kernel_rfl) (by kernel_rfl) (fun _ _ _ h => h) (Or.inl ⟨by rfl, ?_⟩) (by assumption) ?_
  rotate_left
  · intro w hSw
    try dsimp only at hSw
    go_simp
    try with_reducible rfl
  try simp only [Act.put, List.setIfInBounds_toArray, List.set_cons_zero, List.set_cons_succ]
  refine takeH (i := 7) (d := some 26) (v := ?_) rfl rfl (by kernel_rfl) (by kernel_rfl) (by kernel_rfl) (fun _ _ _ h => h) (Or.inl ⟨by rfl, ?_⟩) (by assumption) ?_
  rotate_left
  · intro w hSw
    try dsimp only at hSw
    have hlk := (HT.out.made (HMB.out.trans hSw)).map.look (P := Try.prog) Try.underlying87 Try.underlying3 (zero_int _) id false
    simp only [Bool.false_eq_true, if_false] at hlk
    rw [HPV.out] at hlk
    go_simp
    try with_reducible rfl
  try simp only [Act.put, List.setIfInBounds_toArray, List.set_cons_zero, List.set_cons_succ]
  refine takeH (i := 8) (d := some 27) (v := ?_) rfl rfl (by kernel_rfl) (by kernel_rfl) (by kernel_rfl) (fun _ _ _ h => h) (Or.inl ⟨by rfl, ?_⟩) (by assumption) ?_
  rotate_left
  · intro w hSw
    try dsimp only at hSw
    go_simp
    try with_reducible rfl
  try simp only [Act.put, List.setIfInBounds_toArray, List.set_cons_zero, List.set_cons_succ]
  refine takeH (i := 9) (d := some 4) (v := ?_) rfl rfl (by kernel_rfl) (by kernel_rfl) (by kernel_rfl) (fun _ _ _ h => h) (Or.inl ⟨by rfl, ?_⟩) (by assumption) ?_
  rotate_left
  · intro w hSw
    try dsimp only at hSw
    go_simp
    try with_reducible rfl
  try simp only [Act.put, List.setIfInBounds_toArray, List.set_cons_zero, List.set_cons_succ]
  refine takeH (i := 10) (d := some 5) (v := ?_) rfl rfl (by kernel_rfl) (by kernel_rfl) (by kernel_rfl) (fun _ _ _ h => h) (Or.inl ⟨by rfl, ?_⟩) (by assumption) ?_
  rotate_left
  · intro w hSw
    try dsimp only at hSw
    go_simp
    try with_reducible rfl
  try simp only [Act.put, List.setIfInBounds_toArray, List.set_cons_zero, List.set_cons_succ]
  refine takeH (i := 11) (d := some 6) (v := ?_) rfl rfl (by kernel_rfl) (by kernel_rfl) (by kernel_rfl) (fun _ _ _ h => h) (Or.inl ⟨by rfl, ?_⟩) (by assumption) ?_
  rotate_left
  · intro w hSw
    try dsimp only at hSw
    go_simp
    try with_reducible rfl
  try simp only [Act.put, List.setIfInBounds_toArray, List.set_cons_zero, List.set_cons_succ]
  refine wpAnyH_done (by kernel_rfl) ?_ _
  have HM3 := Lib.hid (HMB.out.trans hHeld)
  clear hHeld
  try clear hHeld
  go_wp2_with fail
  go_returns
  exact ⟨rfl, HM3.out⟩
end Go.Proofs.Ytgjgopcomgclkaa
