/-
  Contract of package heap: Add.
-/
import Derived.Test.YtgjgopcomgclkaaHpC
import Derived.Test.YtgjgopcomgclkaaHpU
namespace Go.Proofs.Ytgjgopcomgclkaa
open Go.RowKit
set_option linter.unusedVariables false
set_option linter.unusedSimpArgs false

theorem hadd_nil (id when : Int) (w : World) : Calls Try.prog 17 #[.pointer none, .int .i64 id, .int .i64 when] w fun e w' => e = .returned (.int .i64 1) ∧ w = w' := by
  go_enter Try.func17, Try.ntmps17
  go_wp2
  go_ret
  exact ⟨rfl, rfl⟩
theorem hadd_there {p : Nat} {F : Nat → Prop} {L : List It} {sq : Int} (id when : Int) (w : World) (h : HeapAt w p F L sq) {x : It} (hx : findL id L = some x) : Calls Try.prog 17 #[.pointer (some ⟨p, 0, none⟩), .int .i64 id, .int .i64 when] w fun e w' => e = .returned (.int .i64 1) ∧ w = w' := by
  obtain ⟨mb, lv, ys, f, h⟩ := h
  have c1 := h.raw.blk.cell 1
  simp only [List.getElem?_toArray, List.getElem?_cons_zero, List.getElem?_cons_succ] at c1
  have H := Lib.hid (h.raw.map.look Try.underlying87 Try.underlying3 (zero_int _) id true)
  rcases h.find id with ⟨hf, hfi, _⟩ | ⟨k, y, hf, hfi, hk, hid, hy⟩
  · rw [hx] at hf; cases hf
  · rw [hfi] at H
    clear h hf hk hx
    simp only [Option.getD_some, Option.isSome_some] at H
    go_enter Try.func17, Try.ntmps17
    go_wp2_with (at_lookup; refine wpList_lookrun _ rfl _ _ 87 true rfl _ _ _ rfl rfl H.out ?_)
    go_ret
    exact ⟨rfl, rfl⟩

/-- What the append and the store leave. -/
theorem heap_added {w W w1 : World} {p mb : Nat} {lv : Value} {sq : Int} {ys : List It} {f : Int → Option Value} {x : It} {o : Obj} {gg cap : Nat} (HR : HRaw W p mb lv sq ys f) (HT : Turns (fun k => k = p) w W)
    (hgrow : (W.alloc o).drew.grownBy w1 lv.ownBlock) (hown : w1.ownsRow 0 30 3 (.slice (some ⟨gg, 0, none⟩) (ys.length + 1) cap) (ys.length + 1) (flat encT ys ++ encT x))
    (hat : lv.ownBlock = some gg ∨ gg = W.heap.size + 1) :
    HRaw (w1.setCell ⟨p, 0, none⟩ (.slice (some ⟨gg, 0, none⟩) (ys.length + 1) cap)) p mb (.slice (some ⟨gg, 0, none⟩) (ys.length + 1) cap) sq (ys ++ [x]) f ∧ Turns (fun k => k = p ∨ lv.ownBlock = some k) w (w1.setCell ⟨p, 0, none⟩ (.slice (some ⟨gg, 0, none⟩) (ys.length + 1) cap)) := by
  have hpl := HR.blk.lt
  have hml := HR.map.lt
  have hg : ¬ gg = p := by
    rcases hat with h | h
    · intro e; subst e; exact HR.np h
    · omega
  have hgm : ¬ gg = mb := by
    rcases hat with h | h
    · intro e; subst e; exact HR.nm h
    · omega
  have tt : Turns (fun k => lv.ownBlock = some k) W w1 := (((Turns.refl _ W).alloc o).drew).grown hgrow (fun k hk _ => hk)
  have hp1 : Blk w1 p 89 #[lv, .map (some mb), .int .i64 sq] := HR.blk.turns tt HR.np
  have hm1 : MapI w1 mb f := HR.map.turns tt HR.nm
  have ht1 : Turns (fun k => k = p) w1 (w1.setCell ⟨p, 0, none⟩ (.slice (some ⟨gg, 0, none⟩) (ys.length + 1) cap)) := (Turns.refl (fun k => k = p) w1).setCell (p := ⟨p, 0, none⟩) (fun _ => rfl) _
  refine ⟨⟨hp1.put 0 _, ?_, hm1.turns ht1 (fun h => HR.pm h.symm), ?_, ?_, HR.pm⟩, ?_⟩
  · have := Turns.owns ht1 hown (fun k hk => by
      simp only [Value.ownBlock, Option.some.injEq] at hk
      omega)
    unfold Owns
    rw [flat_append, List.length_append]
    simpa [flat] using this
  · simp only [Value.ownBlock, ne_eq, Option.some.injEq]
    exact hg
  · simp only [Value.ownBlock, ne_eq, Option.some.injEq]
    exact hgm
  · exact ((HT.mono (fun _ _ h => .inl h)).then tt (fun b _ h => .inr h)).setCell (p := ⟨p, 0, none⟩) (fun _ => .inl rfl) _

set_option maxHeartbeats 1000000 in
set_option maxRecDepth 100000 in
theorem hadd_raw {p mb : Nat} {lv : Value} {sq : Int} {ys : List It} {f : Int → Option Value} (id when : Int) (w : World) (h : HRaw w p mb lv sq ys f) (hp : PosOK f ys) (hu : Uniq ys) (hnn : ∀ z ∈ ys, z.id ≠ id) (hn : (ys.length : Int) ≤ sq) (hsq : sq < 1000000) :
    Calls Try.prog 17 #[.pointer (some ⟨p, 0, none⟩), .int .i64 id, .int .i64 when] w fun e w' => e = .returned (.int .i64 0) ∧ ∃ lv' f', HRaw w' p mb lv' (sq + 1) (upL (ys ++ [⟨id, when, sq + 1⟩]) ys.length) f' ∧ PosOK f' (upL (ys ++ [⟨id, when, sq + 1⟩]) ys.length) ∧
      Turns (fun k => k = p ∨ k = mb ∨ lv.ownBlock = some k) w w' ∧ (∀ k, lv'.ownBlock = some k → lv.ownBlock = some k ∨ w.heap.size ≤ k) := by
  have c1 := h.blk.cell 1
  have c2 := h.blk.cell 2
  simp only [List.getElem?_toArray, List.getElem?_cons_zero, List.getElem?_cons_succ] at c1 c2
  have f2 := h.blk.free 2
  have H := Lib.hid (h.map.look Try.underlying87 Try.underlying3 (zero_int _) id true)
  rw [hp.none hnn] at H
  simp only [Option.getD_none, Option.isSome_none] at H
  have hwr : IntKind.i64.wrap (sq + 1) = sq + 1 := wrap_in _ (by omega)
  have hpl := h.blk.lt
  have hml := h.map.lt
  have hlo := fun k (hk : lv.ownBlock = some k) => h.own.lt hk
  have ht0 : Turns (fun k => k = p) w (w.setCell ⟨p, 2, none⟩ (.int .i64 (sq + 1))) := (Turns.refl (fun k => k = p) w).setCell (p := ⟨p, 2, none⟩) (fun _ => rfl) _
  have hr0 : HRaw (w.setCell ⟨p, 2, none⟩ (.int .i64 (sq + 1))) p mb lv (sq + 1) ys f := ⟨h.blk.put 2 _, h.own.turns ht0 (fun k hk e => h.np (by rw [hk, e])), h.map.turns ht0 (fun e => h.pm e.symm), h.np, h.nm, h.pm⟩
  have HR := Lib.hid hr0
  have HT := Lib.hid ht0
  have HLO := Lib.hid hlo
  have HP := Lib.hid hp
  have HU := Lib.hid hu
  have HNN := Lib.hid hnn
  clear h ht0 hr0 hlo hp hu hnn
  obtain ⟨i0, hi0, hz0, hz1, hz2⟩ := info_parts Try.infoT
  go_enter Try.func17, Try.ntmps17
  go_wp2_with (at_lookup; refine wpList_lookrun _ rfl _ _ 87 true rfl _ _ _ rfl rfl H.out ?_)
  clear c1 c2 f2 H
  generalize (w.setCell ⟨p, 2, none⟩ (.int .i64 (sq + 1))) = W at *
  have c0 := HR.out.blk.cell 0
  have c2 := HR.out.blk.cell 2
  simp only [List.getElem?_toArray, List.getElem?_cons_zero, List.getElem?_cons_succ] at c0 c2
  have f0 := HR.out.blk.free 0
  have hWp := HR.out.blk.lt
  go_region_law
    ((refine step_append_lies _ (by rfl) _ _ _ (by rfl) 0 30 i0 _ 3 24 Try.underlying39 hi0 hz0 hz1 hz2 rfl (by omega) lv ys.length (flat encT ys) (by rfl) (World.ownsRow.drew (World.ownsRow.alloc HR.out.own _))
        ⟨W.heap.size, 0, none⟩ 1 1 (encT ⟨id, when, sq + 1⟩) (by rfl) (by rfl) (World.news_of_block (cs := (encT ⟨id, when, sq + 1⟩).toArray) (t := 30) (fr := (0, 0)) (heap_alloc_new W _)) (by simp [encT, Value.oneCell'])
        (by omega) (by unfold maxLen; omega) (by omega) (by simp) (W.heap.size + 1) (by simp) ?_; intro gg cap w1 hown1 hgrow hat hlt; have hfz1 : w1.frozen? ⟨p, 0, none⟩ = false := (hgrow.frozen_far ⟨p, 0, none⟩ (by simp; omega) (fun e => HR.out.np e.symm)).trans ((HR.out.blk.alloc _).free 0); have hcz1 : w1.cell? ⟨p, 0, none⟩ = some lv := (hgrow.cell_far ⟨p, 0, none⟩ (by simp; omega) (fun e => HR.out.np e.symm)).trans ((HR.out.blk.alloc _).cell 0)))
  all_goals
    have hra := heap_added (x := ⟨id, when, sq + 1⟩) HR.out HT.out hgrow hown1 hat
    clear hgrow hown1 hfz1 hcz1 c0 c2 f0
    generalize w1.setCell _ _ = W1 at *
    have HRA := Lib.hid hra.1
    have HTA := Lib.hid hra.2
    have HAT := Lib.hid hat
    clear hra hat
    have c0 := HRA.out.blk.cell 0
    simp only [List.getElem?_toArray, List.getElem?_cons_zero, List.getElem?_cons_succ] at c0
    have hw2 : IntKind.i64.wrap (((ys.length + 1 : Nat) : Int) - 1) = (ys.length : Int) := by rw [show (((ys.length + 1 : Nat) : Int) - 1) = (ys.length : Int) from by omega]; exact wrap_in _ (by omega)
    have hw3 : IntKind.i64.wrap ((ys.length : Int) + 1 - 1) = (ys.length : Int) := by rw [show ((ys.length : Int) + 1 - 1) = (ys.length : Int) from by omega]; exact wrap_in _ (by omega)
    have hw4 : (ys.length : Int) + 1 - 1 = (ys.length : Int) := by omega
    go_wp2_with fail
    refine (up_c p mb _ _ _ f ys.length ⟨id, when, sq + 1⟩ _ HRA.out (by simp) (HU.out.add HNN.out) (HP.out.add HNN.out) (by rw [List.length_append, List.length_singleton]; omega)).mono ?_
    rintro e w2 ⟨⟨v, rfl⟩, ⟨f', hraw2, hpos2⟩, ht2⟩
    have HR2 := Lib.hid hraw2
    have HP2 := Lib.hid hpos2
    have HT2 := Lib.hid ht2
    clear hraw2 hpos2 ht2 c0
    go_wp2_with fail
    go_ret
    refine ⟨rfl, _, f', HR2.out, HP2.out, ?_, ?_⟩
    · refine (HTA.out.mono (fun b _ h => ?_)).then HT2.out (fun b hb h => ?_)
      · rcases h with h | h
        · exact .inl h
        · exact .inr (.inr h)
      · rcases h with h | h
        · simp only [Value.ownBlock, Option.some.injEq] at h
          rcases HAT.out with h2 | h2
          · exact .inr (.inr (by rw [h2, h]))
          · have := HT.out.size; omega
        · exact .inr (.inl h)
    · intro k hk
      simp only [Value.ownBlock, Option.some.injEq] at hk
      subst hk
      rcases HAT.out with h2 | h2
      · exact .inl h2
      · exact .inr (by have := HT.out.size; omega)

theorem hadd_c {p : Nat} {F : Nat → Prop} {L : List It} {sq : Int} (id when : Int) (w : World) (h : HeapAt w p F L sq) (hx : findL id L = none) (hsq : sq < 1000000) :
    Calls Try.prog 17 #[.pointer (some ⟨p, 0, none⟩), .int .i64 id, .int .i64 when] w fun e w' => e = .returned (.int .i64 0) ∧ ∃ F', HeapAt w' p F' (insL ⟨id, when, sq + 1⟩ L) (sq + 1) ∧ Stp w w' F F' := by
  obtain ⟨mb, lv, ys, f, h⟩ := h
  have hnL := (findL_none id).1 hx
  have hn : ∀ z ∈ ys, z.id ≠ id := fun z hz => hnL z (h.perm.mem_iff.1 hz)
  have hlen := h.perm.length_eq
  have hl := h.len
  refine (hadd_raw id when w h.raw h.pos h.uniq hn (by omega) hsq).mono ?_
  rintro e w' ⟨rfl, lv', f', hr, hp, ht, hlv⟩
  have hperm : (upL (ys ++ [⟨id, when, sq + 1⟩]) ys.length).Perm (⟨id, when, sq + 1⟩ :: L) := (upL_perm _ _).trans ((List.perm_append_comm).trans (by simpa using h.perm))
  refine ⟨rfl, fun k => F k ∨ lv'.ownBlock = some k, ⟨mb, lv', _, f', { raw := hr, pos := hp, uniq := (h.uniq.add hn).perm (upL_perm _ _), ord := upL_heap _ _ (by simp) (h.ord.add _), perm := hperm.trans (insL_perm _ _).symm, rise := insL_rise h.rise (fun y hy => ?_), seqs := ?_, len := by rw [insL_len]; omega, fp := .inl h.fp, fm := .inl h.fm, fl := fun k hk => .inr hk, fb := ?_ }⟩, ⟨?_, ?_⟩⟩
  · have := (h.seqs y hy).2
    unfold lt
    simp only
    omega
  · intro x hx
    rcases (insL_mem _ _ _).1 hx with rfl | hx
    · exact ⟨by simp only; omega, by simp⟩
    · have := h.seqs x hx
      exact ⟨this.1, by omega⟩
  · intro k hk
    rcases hk with hk | hk
    · exact Nat.lt_of_lt_of_le (h.fb k hk) ht.size
    · exact hr.own.lt hk
  · refine ht.mono (fun k _ hk => ?_)
    rcases hk with rfl | rfl | hk
    · exact h.fp
    · exact h.fm
    · exact h.fl k hk
  · intro k hk
    rcases hk with hk | hk
    · exact .inl hk
    · rcases hlv k hk with h2 | h2
      · exact .inl (h.fl k h2)
      · exact .inr h2
end Go.Proofs.Ytgjgopcomgclkaa
