/-
  Contracts of package heap: put.
-/
import Derived.Test.YtgjgopcomgclkaaHpA
namespace Go.Proofs.Ytgjgopcomgclkaa
open Go.RowKit
set_option linter.unusedVariables false
set_option linter.unusedSimpArgs false

/-- The heap behind a pointer, as its three parts. -/
structure HRaw (w : World) (p mb : Nat) (lv : Value) (sq : Int) (ys : List It) (f : Int → Option Value) : Prop where
  blk : Blk w p 89 #[lv, .map (some mb), .int .i64 sq]
  own : Owns encT 30 3 w lv ys
  map : MapI w mb f
  np : lv.ownBlock ≠ some p
  nm : lv.ownBlock ≠ some mb
  pm : p ≠ mb
theorem HRaw.turns {S : Nat → Prop} {w w' : World} {p mb : Nat} {lv : Value} {sq : Int} {ys : List It} {f : Int → Option Value} (h : HRaw w p mb lv sq ys f) (ht : Turns S w w') (h1 : ¬ S p) (h2 : ¬ S mb) (h3 : ∀ k, lv.ownBlock = some k → ¬ S k) : HRaw w' p mb lv sq ys f :=
  ⟨h.blk.turns ht h1, h.own.turns ht h3, h.map.turns ht h2, h.np, h.nm, h.pm⟩
theorem HRaw.made {w w' : World} {p mb : Nat} {lv : Value} {sq : Int} {ys : List It} {f : Int → Option Value} (h : HRaw w p mb lv sq ys f) (ht : Made w w') : HRaw w' p mb lv sq ys f := h.turns ht (fun h => h) (fun h => h) (fun _ _ h => h)
def upd (f : Int → Option Value) (k : Int) (v : Value) : Int → Option Value := fun j => if j = k then some v else f j

theorem own_put3 {w : World} {g cap i : Nat} {ys : List It} (h : Owns encT 30 3 w (.slice (some ⟨g, 0, none⟩) ys.length cap) ys) (hi : i < ys.length) (x : It) :
    Owns encT 30 3 (((w.setCell ⟨g, i * 3, none⟩ (.int .i64 x.id)).setCell ⟨g, i * 3 + 1, none⟩ (.int .i64 x.when)).setCell ⟨g, i * 3 + 2, none⟩ (.int .i64 x.seq)) (.slice (some ⟨g, 0, none⟩) ys.length cap) (ys.set i x) := by
  obtain ⟨y, hy⟩ := get_of_lt (xs := ys) (k := i) hi
  have h1 := Owns.put encT_len h (i := i) (x := y) (x' := ⟨x.id, y.when, y.seq⟩) (j := 0) (u := .int .i64 x.id) hy rfl (by decide)
  have l1 : (ys.set i ⟨x.id, y.when, y.seq⟩).length = ys.length := List.length_set
  rw [← l1] at h1
  have h2 := Owns.put encT_len h1 (i := i) (x := ⟨x.id, y.when, y.seq⟩) (x' := ⟨x.id, x.when, y.seq⟩) (j := 1) (u := .int .i64 x.when) (by rw [List.getElem?_set_self hi]) rfl (by decide)
  rw [List.set_set] at h2
  rw [l1, ← (List.length_set : (ys.set i ⟨x.id, x.when, y.seq⟩).length = ys.length)] at h2
  have h3 := Owns.put encT_len h2 (i := i) (x := ⟨x.id, x.when, y.seq⟩) (x' := x) (j := 2) (u := .int .i64 x.seq) (by rw [List.getElem?_set_self hi]) rfl (by decide)
  rw [List.set_set, List.length_set] at h3
  exact h3

set_option maxHeartbeats 1000000 in
theorem put_c (p mb : Nat) (lv : Value) (sq : Int) (ys : List It) (f : Int → Option Value) (i : Nat) (x : It) (w : World) (h : HRaw w p mb lv sq ys f) (hi : i < ys.length) :
    Calls Try.prog 53 #[.pointer (some ⟨p, 0, none⟩), .int .i64 i, aggT x] w fun e w' => (∃ v, e = .returned v) ∧ HRaw w' p mb lv sq (ys.set i x) (upd f x.id (.int .i64 i)) ∧ Turns (fun k => lv.ownBlock = some k ∨ k = mb) w w' := by
  rcases h.own.form with ⟨_, h0⟩ | ⟨g, cap, rfl, hg, hlc, hcm⟩
  · subst h0; simp at hi
  have hB : Blk (w.alloc (.cells (encT x).toArray 30)) w.heap.size 30 (encT x).toArray := Blk.new w _ _
  have hH := h.made ((Turns.refl (fun _ => False) w).alloc (.cells (encT x).toArray 30))
  have hM : Made w (w.alloc (.cells (encT x).toArray 30)) := (Turns.refl _ _).alloc _
  have hpl := h.blk.lt
  have hml := h.map.lt
  clear h
  unfold aggT
  go_enter Try.func53, Try.ntmps53
  go_wp2_with fail
  unfold encT at hB hH hM
  generalize (w.alloc (.cells [.int .i64 x.id, .int .i64 x.when, .int .i64 x.seq].toArray 30)) = W at *
  generalize hbe : w.heap.size = bx at *
  have HB := Lib.hid hB
  have HH := Lib.hid hH
  have HM := Lib.hid hM
  have HBE := Lib.hid hbe
  have i1 : (0 : Int) ≤ (i : Int) := Int.natCast_nonneg _
  have i2 : (i : Int) < (ys.length : Int) := by omega
  obtain ⟨y, hy⟩ := get_of_lt (xs := ys) (k := i) hi
  have f0 : W.frozen? ⟨g, i * 3, none⟩ = false := HH.out.own.free _
  have f1 : W.frozen? ⟨g, i * 3 + 1, none⟩ = false := HH.out.own.free _
  have f2 : W.frozen? ⟨g, i * 3 + 2, none⟩ = false := HH.out.own.free _
  have e0 : W.cell? ⟨g, i * 3, none⟩ = some (.int .i64 y.id) := Owns.cell encT_len HH.out.own hy (j := 0) rfl
  have e1 : W.cell? ⟨g, i * 3 + 1, none⟩ = some (.int .i64 y.when) := Owns.cell encT_len HH.out.own hy (j := 1) rfl
  have e2 : W.cell? ⟨g, i * 3 + 2, none⟩ = some (.int .i64 y.seq) := Owns.cell encT_len HH.out.own hy (j := 2) rfl
  clear hy
  have t3 : Turns (fun k => k = g) W (((W.setCell ⟨g, i * 3, none⟩ (.int .i64 x.id)).setCell ⟨g, i * 3 + 1, none⟩ (.int .i64 x.when)).setCell ⟨g, i * 3 + 2, none⟩ (.int .i64 x.seq)).drew := Turns.drew ((((Turns.refl (fun k => k = g) W).setCell (p := ⟨g, i * 3, none⟩) (fun _ => rfl) _).setCell (p := ⟨g, i * 3 + 1, none⟩) (fun _ => rfl) _).setCell (p := ⟨g, i * 3 + 2, none⟩) (fun _ => rfl) _)
  have o3 : Owns encT 30 3 (((W.setCell ⟨g, i * 3, none⟩ (.int .i64 x.id)).setCell ⟨g, i * 3 + 1, none⟩ (.int .i64 x.when)).setCell ⟨g, i * 3 + 2, none⟩ (.int .i64 x.seq)).drew _ _ := own_put3 HH.out.own hi x
  have hgp : ¬ p = g := fun e => HH.out.np (by rw [e]; rfl)
  have hgm : ¬ mb = g := fun e => HH.out.nm (by rw [e]; rfl)
  have T3 := Lib.hid t3
  have O3 := Lib.hid o3
  have HGP := Lib.hid hgp
  have HGM := Lib.hid hgm
  clear hB hH hM hbe t3 o3 hgp hgm
  refine wp_region_held_drew (S := (fun w' => Blk w' p 89 #[.slice (some ⟨g, 0, none⟩) ys.length cap, .map (some mb), .int .i64 sq] ∧ Blk w' bx 30 (encT x).toArray)) (by kernel_rfl) ?_ (fun hHeld => ?_)
  · exact ⟨HH.out.blk, HB.out⟩
  refine takeH (i := 0) (d := some 6) (v := ?_) rfl rfl (by kernel_rfl) (by kernel_rfl) (by kernel_rfl) (fun _ _ _ h => h) (Or.inl ⟨by rfl, ?_⟩) (by assumption) ?_
  rotate_left
  · intro w hSw
    try dsimp only at hSw
    go_simp
    try with_reducible rfl
  try simp only [Act.put, List.setIfInBounds_toArray, List.set_cons_zero, List.set_cons_succ]
  refine takeH (i := 1) (d := some 7) (v := ?_) rfl rfl (by kernel_rfl) (by kernel_rfl) (by kernel_rfl) (fun _ _ _ h => h) (Or.inl ⟨by rfl, ?_⟩) (by assumption) ?_
  rotate_left
  · intro w hSw
    try dsimp only at hSw
    go_simp
    try with_reducible rfl
  try simp only [Act.put, List.setIfInBounds_toArray, List.set_cons_zero, List.set_cons_succ]
  refine takeH (i := 2) (d := some 8) (v := ?_) rfl rfl (by kernel_rfl) (by kernel_rfl) (by kernel_rfl) (fun _ _ _ h => h) (Or.inl ⟨by rfl, ?_⟩) (by assumption) ?_
  rotate_left
  · intro w hSw
    try dsimp only at hSw
    go_simp
    try with_reducible rfl
  try simp only [Act.put, List.setIfInBounds_toArray, List.set_cons_zero, List.set_cons_succ]
  refine takeH (i := 3) (d := some 9) (v := ?_) rfl rfl (by kernel_rfl) (by kernel_rfl) (by kernel_rfl) (fun _ _ _ h => h) (Or.inl ⟨by rfl, ?_⟩) (by assumption) ?_
  rotate_left
  · intro w hSw
    try dsimp only at hSw
    have c0 := hSw.1.cell 0
    have d0 := hSw.2.cell 0
    have d1 := hSw.2.cell 1
    have d2 := hSw.2.cell 2
    simp only [encT, List.getElem?_toArray, List.getElem?_cons_zero, List.getElem?_cons_succ] at c0 d0 d1 d2
    go_simp
    try with_reducible rfl
  try simp only [Act.put, List.setIfInBounds_toArray, List.set_cons_zero, List.set_cons_succ]
  refine takeH (i := 4) (d := some 10) (v := ?_) rfl rfl (by kernel_rfl) (by kernel_rfl) (by kernel_rfl) (fun _ _ _ h => h) (Or.inl ⟨by rfl, ?_⟩) (by assumption) ?_
  rotate_left
  · intro w hSw
    try dsimp only at hSw
    go_simp
    try with_reducible rfl
  try simp only [Act.put, List.setIfInBounds_toArray, List.set_cons_zero, List.set_cons_succ]
  refine takeH (i := 5) (d := some 11) (v := ?_) rfl rfl (by kernel_rfl) (by kernel_rfl) (by kernel_rfl) (fun _ _ _ h => h) (Or.inl ⟨by rfl, ?_⟩) (by assumption) ?_
  rotate_left
  · intro w hSw
    try dsimp only at hSw
    have c0 := hSw.1.cell 0
    have d0 := hSw.2.cell 0
    have d1 := hSw.2.cell 1
    have d2 := hSw.2.cell 2
    simp only [encT, List.getElem?_toArray, List.getElem?_cons_zero, List.getElem?_cons_succ] at c0 d0 d1 d2
    go_simp
    try with_reducible rfl
  try simp only [Act.put, List.setIfInBounds_toArray, List.set_cons_zero, List.set_cons_succ]
  refine takeH (i := 6) (d := some 12) (v := ?_) rfl rfl (by kernel_rfl) (by kernel_rfl) (by kernel_rfl) (fun _ _ _ h => h) (Or.inl ⟨by rfl, ?_⟩) (by assumption) ?_
  rotate_left
  · intro w hSw
    try dsimp only at hSw
    go_simp
    try with_reducible rfl
  try simp only [Act.put, List.setIfInBounds_toArray, List.set_cons_zero, List.set_cons_succ]
  refine wpAnyH_ready (rs := [7]) (by kernel_rfl) (by simp) ?_
  refine AllReadyH.cons rfl (fun K hK => ?_) AllReadyH.nil
  go_simp
  refine hK.out _ _ ?_ (fun hHeld => ?_)
  · exact ⟨HH.out.blk.turns T3.out (fun e => by have := HGP.out; omega), HB.out.turns T3.out (fun e => by omega)⟩
  clear hK K
  try simp only [Act.put, List.setIfInBounds_toArray, List.set_cons_zero, List.set_cons_succ]
  refine wpAnyH_done (by kernel_rfl) ?_ _
  go_wp2_with fail
  have hR : HRaw (((W.setCell ⟨g, i * 3, none⟩ (.int .i64 x.id)).setCell ⟨g, i * 3 + 1, none⟩ (.int .i64 x.when)).setCell ⟨g, i * 3 + 2, none⟩ (.int .i64 x.seq)).drew p mb (.slice (some ⟨g, 0, none⟩) ys.length cap) sq (ys.set i x) f :=
    ⟨hHeld.1, O3.out, HH.out.map.turns T3.out HGM.out, HH.out.np, HH.out.nm, HH.out.pm⟩
  have hB2 := hHeld.2
  have hT := T3.out
  clear hHeld f0 f1 f2 e0 e1 e2 T3 O3
  try clear hHeld
  generalize (((W.setCell ⟨g, i * 3, none⟩ (.int .i64 x.id)).setCell ⟨g, i * 3 + 1, none⟩ (.int .i64 x.when)).setCell ⟨g, i * 3 + 2, none⟩ (.int .i64 x.seq)).drew = W2 at *
  obtain ⟨w5, hrun, hm5, ht5, hsz5⟩ := MapI.store (P := Try.prog) (w := W2.drew) (b := mb) (f := f) hR.map Try.underlying87 Try.underlying3 x.id (.int .i64 i)
  have HR2 := Lib.hid hR
  have HB2 := Lib.hid hB2
  have HT2 := Lib.hid hT
  have HM5 := Lib.hid hm5
  have HT5 := Lib.hid ht5
  clear hR hB2 hT hm5 ht5 hsz5
  refine wp_region_held_drew (S := (fun w' => Blk w' p 89 #[.slice (some ⟨g, 0, none⟩) ys.length cap, .map (some mb), .int .i64 sq] ∧ Blk w' bx 30 (encT x).toArray)) (by kernel_rfl) ?_ (fun hHeld => ?_)
  · exact ⟨HR2.out.blk, HB2.out⟩
  refine takeH (i := 0) (d := some 13) (v := ?_) rfl rfl (by kernel_rfl) (by kernel_rfl) (by kernel_rfl) (fun _ _ _ h => h) (Or.inl ⟨by rfl, ?_⟩) (by assumption) ?_
  rotate_left
  · intro w hSw
    try dsimp only at hSw
    go_simp
    try with_reducible rfl
  try simp only [Act.put, List.setIfInBounds_toArray, List.set_cons_zero, List.set_cons_succ]
  refine takeH (i := 1) (d := some 14) (v := ?_) rfl rfl (by kernel_rfl) (by kernel_rfl) (by kernel_rfl) (fun _ _ _ h => h) (Or.inl ⟨by rfl, ?_⟩) (by assumption) ?_
  rotate_left
  · intro w hSw
    try dsimp only at hSw
    go_simp
    try with_reducible rfl
  try simp only [Act.put, List.setIfInBounds_toArray, List.set_cons_zero, List.set_cons_succ]
  refine takeH (i := 2) (d := some 15) (v := ?_) rfl rfl (by kernel_rfl) (by kernel_rfl) (by kernel_rfl) (fun _ _ _ h => h) (Or.inl ⟨by rfl, ?_⟩) (by assumption) ?_
  rotate_left
  · intro w hSw
    try dsimp only at hSw
    go_simp
    try with_reducible rfl
  try simp only [Act.put, List.setIfInBounds_toArray, List.set_cons_zero, List.set_cons_succ]
  refine takeH (i := 3) (d := some 16) (v := ?_) rfl rfl (by kernel_rfl) (by kernel_rfl) (by kernel_rfl) (fun _ _ _ h => h) (Or.inl ⟨by rfl, ?_⟩) (by assumption) ?_
  rotate_left
  · intro w hSw
    try dsimp only at hSw
    have c1 := hSw.1.cell 1
    have d0 := hSw.2.cell 0
    simp only [encT, List.getElem?_toArray, List.getElem?_cons_zero, List.getElem?_cons_succ] at c1 d0
    go_simp
    try with_reducible rfl
  try simp only [Act.put, List.setIfInBounds_toArray, List.set_cons_zero, List.set_cons_succ]
  refine takeH (i := 4) (d := some 17) (v := ?_) rfl rfl (by kernel_rfl) (by kernel_rfl) (by kernel_rfl) (fun _ _ _ h => h) (Or.inl ⟨by rfl, ?_⟩) (by assumption) ?_
  rotate_left
  · intro w hSw
    try dsimp only at hSw
    go_simp
    try with_reducible rfl
  try simp only [Act.put, List.setIfInBounds_toArray, List.set_cons_zero, List.set_cons_succ]
  refine takeH (i := 5) (d := some 18) (v := ?_) rfl rfl (by kernel_rfl) (by kernel_rfl) (by kernel_rfl) (fun _ _ _ h => h) (Or.inl ⟨by rfl, ?_⟩) (by assumption) ?_
  rotate_left
  · intro w hSw
    try dsimp only at hSw
    have c1 := hSw.1.cell 1
    have d0 := hSw.2.cell 0
    simp only [encT, List.getElem?_toArray, List.getElem?_cons_zero, List.getElem?_cons_succ] at c1 d0
    go_simp
    try with_reducible rfl
  try simp only [Act.put, List.setIfInBounds_toArray, List.set_cons_zero, List.set_cons_succ]
  refine takeH (i := 6) (d := some 19) (v := ?_) rfl rfl (by kernel_rfl) (by kernel_rfl) (by kernel_rfl) (fun _ _ _ h => h) (Or.inl ⟨by rfl, ?_⟩) (by assumption) ?_
  rotate_left
  · intro w hSw
    try dsimp only at hSw
    go_simp
    try with_reducible rfl
  try simp only [Act.put, List.setIfInBounds_toArray, List.set_cons_zero, List.set_cons_succ]
  refine wpAnyH_ready (rs := [7]) (by kernel_rfl) (by simp) ?_
  refine AllReadyH.cons rfl (fun K hK => ?_) AllReadyH.nil
  go_simp
  refine hK.out _ _ ?_ (fun hHeld => ?_)
  · exact ⟨(HR2.out.blk.turns (Turns.refl (fun _ => False) _).drew (fun h => h)).turns HT5.out (fun e => HR2.out.pm e), (HB2.out.turns (Turns.refl (fun _ => False) _).drew (fun h => h)).turns HT5.out (fun e => by omega)⟩
  clear hK K
  try simp only [Act.put, List.setIfInBounds_toArray, List.set_cons_zero, List.set_cons_succ]
  refine wpAnyH_done (by kernel_rfl) ?_ _
  go_wp2_with fail
  go_end0
  refine ⟨⟨_, rfl⟩, ⟨hHeld.1, Owns.turns (w := W2.drew) (S := fun k => k = mb) HR2.out.own HT5.out (fun k hk e => ?_), HM5.out, HR2.out.np, HR2.out.nm, HR2.out.pm⟩, ?_⟩
  · simp only [Value.ownBlock, Option.some.injEq] at hk
    exact HGM.out (by omega)
  · refine Turns.then (HM.out.mono (fun _ _ h => h.elim)) (Turns.then (S := fun k => k = g ∨ k = mb) (HT2.out.mono (fun k _ h => .inl h)).drew HT5.out (fun b _ h => .inr h)) (fun b _ h => ?_)
    rcases h with h | h
    · exact .inl (by rw [h]; rfl)
    · exact .inr h
end Go.Proofs.Ytgjgopcomgclkaa
