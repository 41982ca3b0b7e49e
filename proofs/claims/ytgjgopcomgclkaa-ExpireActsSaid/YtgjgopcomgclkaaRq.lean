/-
  The document's heap: put.
-/
import Derived.Test.YtgjgopcomgclkaaRg2
import Derived.Test.YtgjgopcomgclkaaRp
import Derived.Test.YtgjgopcomgclkaaGr
namespace Go.Proofs.Ytgjgopcomgclkaa
open Go.RowKit
set_option linter.unusedVariables false
set_option linter.unusedSimpArgs false

theorem ref_set {W w3 : World} {b : Nat} {t : TypeId} {rest : List Value} {lv v3 : Value} {L M : List It} {sq : Int} (HR : RefH W b t rest lv L sq) (hg : Grow encT 68 3 W w3 v3 M) :
    RefH (w3.setCell ⟨b, 0, none⟩ v3) b t rest v3 M sq ∧ Turns (fun c => c = b) W (w3.setCell ⟨b, 0, none⟩ v3) := by
  have hbl := HR.blk.lt
  have hb2 := HR.blk.turns hg.made (fun h => h)
  have ht3 : Turns (fun c => c = b) w3 (w3.setCell ⟨b, 0, none⟩ v3) := (Turns.refl (fun c => c = b) w3).setCell (p := ⟨b, 0, none⟩) (fun _ => rfl) _
  refine ⟨⟨?_, ?_, fun e => by have := hg.far b e; omega⟩, (hg.made.mono (fun _ _ h => h.elim)).then ht3 (fun _ _ h => h)⟩
  · have := hb2.put 0 v3
    simpa using this
  · exact hg.own.turns ht3 (fun c hc e => by subst e; have := hg.far c hc; omega)
theorem fillIt {i : TypeInfo} (h : i.size = 3) (a b c : Value) : Instr.fill (fun k => some (k * i.size, i.size)) ((Array.range (1 * i.size)).map ((Value.agg #[.int .i64 0, .int .i64 0, .int .i64 0]).cells[· % (Value.agg #[.int .i64 0, .int .i64 0, .int .i64 0]).cells.size]!)) [(0, .agg #[a, b, c])] = some #[a, b, c] := by
  rw [h]
  first | kernel_rfl | simp [Instr.fill]
theorem encT_one1 (x : It) : ∀ u ∈ encT x, u.oneCell' = true := fun u hu => by
  simp only [encT, List.mem_cons, List.not_mem_nil, or_false] at hu
  rcases hu with rfl | rfl | rfl <;> rfl
theorem ref_cells {W : World} {b : Nat} {t : TypeId} {rest : List Value} {lv : Value} {L : List It} {sq : Int} (HR : RefH W b t rest lv L sq) : ∀ w, Made W w → w.cell? ⟨b, 0, none⟩ = some lv ∧ w.cell? ⟨b, 1, none⟩ = some (.int .i64 sq) ∧ Made W w := by
  intro w hm
  have h := HR.blk.turns hm (fun h => h)
  have c0 := h.cell 0
  have c1 := h.cell 1
  simp only [List.getElem?_toArray, List.getElem?_cons_zero, List.getElem?_cons_succ] at c0 c1
  exact ⟨c0, c1, hm⟩

set_option maxHeartbeats 4000000 in
set_option maxRecDepth 100000 in
theorem rput_nil {b : Nat} {t : TypeId} {rest : List Value} {sq : Int} (id when : Int) (w : World) (h : RefH w b t rest (.slice none 0 0) [] sq) (hsq : 0 ≤ sq ∧ sq < 1000000) :
    Calls Try.prog 49 #[.pointer (some ⟨b, 0, none⟩), .int .i64 id, .int .i64 when] w fun e w' => (∃ v, e = .returned v) ∧ ∃ lv', RefH w' b t rest lv' [⟨id, when, sq + 1⟩] (sq + 1) ∧ Turns (fun c => c = b) w w' ∧ (∀ c, lv'.ownBlock = some c → w.heap.size ≤ c) := by
  obtain ⟨i0, hi0, hz0, hz1, hz2⟩ := info_parts Try.infoR
  have c0 := h.blk.cell 0
  have c1 := h.blk.cell 1
  simp only [List.getElem?_toArray, List.getElem?_cons_zero, List.getElem?_cons_succ] at c0 c1
  have f1 := h.blk.free 1
  have hwr : IntKind.i64.wrap (sq + 1) = sq + 1 := wrap_in _ (by omega)
  have ht0 : Turns (fun c => c = b) w (w.setCell ⟨b, 1, none⟩ (.int .i64 (sq + 1))) := (Turns.refl (fun c => c = b) w).setCell (p := ⟨b, 1, none⟩) (fun _ => rfl) _
  have hr0 : RefH (w.setCell ⟨b, 1, none⟩ (.int .i64 (sq + 1))) b t rest (.slice none 0 0) [] (sq + 1) := ⟨by have := h.blk.put 1 (.int .i64 (sq + 1)); simpa using this, h.own.turns ht0 (fun c hc e => h.ne (by rw [hc, e])), h.ne⟩
  have HR := Lib.hid hr0
  have HT := Lib.hid ht0
  have hbl := h.blk.lt
  clear h ht0 hr0
  go_enter Try.func49, Try.ntmps49
  go_wp2_with fail
  clear c0 c1 f1
  generalize w.setCell ⟨b, 1, none⟩ (.int .i64 (sq + 1)) = W at *
  have c0 := HR.out.blk.cell 0
  simp only [List.getElem?_toArray, List.getElem?_cons_zero, List.getElem?_cons_succ] at c0
  have KS := Lib.hid (ref_cells HR.out)
  go_loopw [6] (fun v6 wr => v6 = .int .i64 0 ∧ W = wr) (fun v6 _ => 0)
  case atStart => exact ⟨rfl, rfl⟩
  case round =>
    obtain ⟨rfl, rfl⟩ := hrel
    go_wp2_with fail
    have SRC8 := Lib.hid (show ∀ w, Made W w → SrcAt encT w (.slice none 0 0) ([] : List It) from fun w _ => SrcAt.nothing)
    have FZ := Lib.hid (show ∀ w, Made W w → w.frozen? ⟨b, 0, none⟩ = false from fun w hm => (HR.out.blk.turns hm (fun h => h)).free 0)
    refine wp_region_z (S := fun w' => w'.cell? ⟨b, 0, none⟩ = some (.slice none 0 0) ∧ w'.cell? ⟨b, 1, none⟩ = some (.int .i64 (sq + 1)) ∧ Made W w') 27 (by kernel_rfl) ?_ (fun hHeld => ?_)
    · exact KS.out _ (Turns.drew (Turns.refl _ W))
    generalize W.drew = w0 at *
    refine takeZ (i := 0) (d := some 36) (v := ?_) rfl rfl (by kernel_rfl) (by kernel_rfl) (by kernel_rfl) (by kernel_rfl) (fun _ _ _ h => h) (Or.inl ⟨by rfl, ?_⟩) (by assumption) ?_
    rotate_left
    · intro w hSw
      try dsimp only at hSw
      go_simp
      try with_reducible rfl
    try simp only [Act.put, List.setIfInBounds_toArray, List.set_cons_zero, List.set_cons_succ]
    refine takeZ (i := 2) (d := some 38) (v := ?_) rfl rfl (by kernel_rfl) (by kernel_rfl) (by kernel_rfl) (by kernel_rfl) (fun _ _ _ h => h) (Or.inl ⟨by rfl, ?_⟩) (by assumption) ?_
    rotate_left
    · intro w hSw
      try dsimp only at hSw
      go_simp
      try with_reducible rfl
    try simp only [Act.put, List.setIfInBounds_toArray, List.set_cons_zero, List.set_cons_succ]
    refine takeZ (i := 3) (d := some 39) (v := ?_) rfl rfl (by kernel_rfl) (by kernel_rfl) (by kernel_rfl) (by kernel_rfl) (fun _ _ _ h => h) (Or.inl ⟨by rfl, ?_⟩) (by assumption) ?_
    rotate_left
    · intro w hSw
      try dsimp only at hSw
      go_simp
      try with_reducible rfl
    try simp only [Act.put, List.setIfInBounds_toArray, List.set_cons_zero, List.set_cons_succ]
    refine takeZ (i := 4) (d := some 40) (v := ?_) rfl rfl (by kernel_rfl) (by kernel_rfl) (by kernel_rfl) (by kernel_rfl) (fun _ _ _ h => h) (Or.inl ⟨by rfl, ?_⟩) (by assumption) ?_
    rotate_left
    · intro w hSw
      try dsimp only at hSw
      go_simp
      try with_reducible rfl
    try simp only [Act.put, List.setIfInBounds_toArray, List.set_cons_zero, List.set_cons_succ]
    refine takeZ (i := 5) (d := some 41) (v := ?_) rfl rfl (by kernel_rfl) (by kernel_rfl) (by kernel_rfl) (by kernel_rfl) (fun _ _ _ h => h) (Or.inl ⟨by rfl, ?_⟩) (by assumption) ?_
    rotate_left
    · intro w hSw
      try dsimp only at hSw
      have h0 := hSw.1
      go_simp
      try with_reducible rfl
    try simp only [Act.put, List.setIfInBounds_toArray, List.set_cons_zero, List.set_cons_succ]
    refine takeZ (i := 6) (d := some 42) (v := ?_) rfl rfl (by kernel_rfl) (by kernel_rfl) (by kernel_rfl) (by kernel_rfl) (fun _ _ _ h => h) (Or.inl ⟨by rfl, ?_⟩) (by assumption) ?_
    rotate_left
    · intro w hSw
      try dsimp only at hSw
      go_simp
      try with_reducible rfl
    try simp only [Act.put, List.setIfInBounds_toArray, List.set_cons_zero, List.set_cons_succ]
    refine takeZ (i := 7) (d := some 43) (v := ?_) rfl rfl (by kernel_rfl) (by kernel_rfl) (by kernel_rfl) (by kernel_rfl) (fun _ _ _ h => h) (Or.inl ⟨by rfl, ?_⟩) (by assumption) ?_
    rotate_left
    · intro w hSw
      try dsimp only at hSw
      go_simp
      try with_reducible rfl
    try simp only [Act.put, List.setIfInBounds_toArray, List.set_cons_zero, List.set_cons_succ]
    refine takeZ (i := 9) (d := some 45) (v := ?_) rfl rfl (by kernel_rfl) (by kernel_rfl) (by kernel_rfl) (by kernel_rfl) (fun _ _ _ h => h) (Or.inl ⟨by rfl, ?_⟩) (by assumption) ?_
    rotate_left
    · intro w hSw
      try dsimp only at hSw
      go_simp
      try with_reducible rfl
    try simp only [Act.put, List.setIfInBounds_toArray, List.set_cons_zero, List.set_cons_succ]
    refine takeZ (i := 10) (d := some 46) (v := ?_) rfl rfl (by kernel_rfl) (by kernel_rfl) (by kernel_rfl) (by kernel_rfl) (fun _ _ _ h => h) (Or.inl ⟨by rfl, ?_⟩) (by assumption) ?_
    rotate_left
    · intro w hSw
      try dsimp only at hSw
      go_simp
      try with_reducible rfl
    try simp only [Act.put, List.setIfInBounds_toArray, List.set_cons_zero, List.set_cons_succ]
    refine takeZ (i := 11) (d := some 47) (v := ?_) rfl rfl (by kernel_rfl) (by kernel_rfl) (by kernel_rfl) (by kernel_rfl) (fun _ _ _ h => h) (Or.inl ⟨by rfl, ?_⟩) (by assumption) ?_
    rotate_left
    · intro w hSw
      try dsimp only at hSw
      go_simp
      try with_reducible rfl
    try simp only [Act.put, List.setIfInBounds_toArray, List.set_cons_zero, List.set_cons_succ]
    refine takeZ (i := 12) (d := some 48) (v := ?_) rfl rfl (by kernel_rfl) (by kernel_rfl) (by kernel_rfl) (by kernel_rfl) (fun _ _ _ h => h) (Or.inl ⟨by rfl, ?_⟩) (by assumption) ?_
    rotate_left
    · intro w hSw
      try dsimp only at hSw
      go_simp
      try with_reducible rfl
    try simp only [Act.put, List.setIfInBounds_toArray, List.set_cons_zero, List.set_cons_succ]
    refine takeZ (i := 13) (d := some 49) (v := ?_) rfl rfl (by kernel_rfl) (by kernel_rfl) (by kernel_rfl) (by kernel_rfl) (fun _ _ _ h => h) (Or.inl ⟨by rfl, ?_⟩) (by assumption) ?_
    rotate_left
    · intro w hSw
      try dsimp only at hSw
      go_simp
      try with_reducible rfl
    try simp only [Act.put, List.setIfInBounds_toArray, List.set_cons_zero, List.set_cons_succ]
    refine takeZ (i := 14) (d := some 50) (v := ?_) rfl rfl (by kernel_rfl) (by kernel_rfl) (by kernel_rfl) (by kernel_rfl) (fun _ _ _ h => h) (Or.inl ⟨by rfl, ?_⟩) (by assumption) ?_
    rotate_left
    · intro w hSw
      try dsimp only at hSw
      have h1 := hSw.2.1
      go_simp
      try with_reducible rfl
    try simp only [Act.put, List.setIfInBounds_toArray, List.set_cons_zero, List.set_cons_succ]
    refine takeZ (i := 15) (d := some 51) (v := ?_) rfl rfl (by kernel_rfl) (by kernel_rfl) (by kernel_rfl) (by kernel_rfl) (fun _ _ _ h => h) (Or.inl ⟨by rfl, ?_⟩) (by assumption) ?_
    rotate_left
    · intro w hSw
      try dsimp only at hSw
      go_simp
      try with_reducible rfl
    try simp only [Act.put, List.setIfInBounds_toArray, List.set_cons_zero, List.set_cons_succ]
    refine takeZ (i := 18) (d := some 54) (v := ?_) rfl rfl (by kernel_rfl) (by kernel_rfl) (by kernel_rfl) (by kernel_rfl) (fun _ _ _ h => h) (Or.inl ⟨by rfl, ?_⟩) (by assumption) ?_
    rotate_left
    · intro w hSw
      try dsimp only at hSw
      go_simp
      try with_reducible rfl
    try simp only [Act.put, List.setIfInBounds_toArray, List.set_cons_zero, List.set_cons_succ]
    refine takeZ (i := 19) (d := some 55) (v := ?_) rfl rfl (by kernel_rfl) (by kernel_rfl) (by kernel_rfl) (by kernel_rfl) (fun _ _ _ h => h) (Or.inl ⟨by rfl, ?_⟩) (by assumption) ?_
    rotate_left
    · intro w hSw
      try dsimp only at hSw
      go_simp
      try with_reducible rfl
    try simp only [Act.put, List.setIfInBounds_toArray, List.set_cons_zero, List.set_cons_succ]
    refine takeZ (i := 20) (d := some 56) (v := ?_) rfl rfl (by kernel_rfl) (by kernel_rfl) (by kernel_rfl) (by kernel_rfl) (fun _ _ _ h => h) (Or.inl ⟨by rfl, ?_⟩) (by assumption) ?_
    rotate_left
    · intro w hSw
      try dsimp only at hSw
      go_simp
      try with_reducible rfl
    try simp only [Act.put, List.setIfInBounds_toArray, List.set_cons_zero, List.set_cons_succ]
    refine takeZ (i := 21) (d := some 57) (v := ?_) rfl rfl (by kernel_rfl) (by kernel_rfl) (by kernel_rfl) (by kernel_rfl) (fun _ _ _ h => h) (Or.inl ⟨by rfl, ?_⟩) (by assumption) ?_
    rotate_left
    · intro w hSw
      try dsimp only at hSw
      have h0 := hSw.1
      go_simp
      try with_reducible rfl
    try simp only [Act.put, List.setIfInBounds_toArray, List.set_cons_zero, List.set_cons_succ]
    refine takeZ (i := 22) (d := some 58) (v := ?_) rfl rfl (by kernel_rfl) (by kernel_rfl) (by kernel_rfl) (by kernel_rfl) (fun _ _ _ h => h) (Or.inl ⟨by rfl, ?_⟩) (by assumption) ?_
    rotate_left
    · intro w hSw
      try dsimp only at hSw
      go_simp
      try with_reducible rfl
    try simp only [Act.put, List.setIfInBounds_toArray, List.set_cons_zero, List.set_cons_succ]
    refine takeZ (i := 23) (d := some 59) (v := ?_) rfl rfl (by kernel_rfl) (by kernel_rfl) (by kernel_rfl) (by kernel_rfl) (fun _ _ _ h => h) (Or.inl ⟨by rfl, ?_⟩) (by assumption) ?_
    rotate_left
    · intro w hSw
      try dsimp only at hSw
      go_simp
      try with_reducible rfl
    try simp only [Act.put, List.setIfInBounds_toArray, List.set_cons_zero, List.set_cons_succ]
    refine wpAnyZ_ready (rs := [1, 16]) (by kernel_rfl) (by simp) ?_
    refine AllReadyZ.cons rfl (fun K hK => ?_) ?_
    · refine step_empty encT 3 rfl _ (by rfl) i0 _ Try.underlying47 hi0 hz0 hHeld.2.2 ?_
      intro bE wE hGE hTE hLE
      refine hK.out _ _ ?_ (fun hHeld => ?_)
      · exact KS.out _ hGE.made
      clear hK K
      try simp only [Act.put, List.setIfInBounds_toArray, List.set_cons_zero, List.set_cons_succ]
      clear hTE
      refine wpAnyZ_ready (rs := [8, 16]) (by kernel_rfl) (by simp) ?_
      refine AllReadyZ.cons rfl (fun K hK => ?_) ?_
      · refine step_grow rfl _ _ _ (by rfl) i0 _ 24 Try.underlying47 hi0 hz0 hz1 hz2 rfl (by omega) encT_len encT_one1 (by rfl) hGE (by rfl) (SRC8.out _ hHeld.2.2) (by simp [maxLen]) (by simp [maxLen]) ?_
        intro v1 w1 hG1 hF1 hS1 hO1
        refine hK.out _ _ ?_ (fun hHeld => ?_)
        · exact KS.out _ hG1.made
        clear hK K
        try simp only [Act.put, List.setIfInBounds_toArray, List.set_cons_zero, List.set_cons_succ]
        clear hF1 hS1 hO1 hGE
        refine wpAnyZ_ready (rs := [16]) (by kernel_rfl) (by simp) ?_
        refine AllReadyZ.cons rfl (fun K hK => ?_) ?_
        · refine step_single rfl _ (.tmp 51) (by rfl) i0 _ Try.underlying47 hi0 hz0 (by rw [hz1]; decide) (by rw [hz1]; decide) #[.int .i64 id, .int .i64 when, .int .i64 (sq + 1)] (by rfl) (fillIt hz1 _ _ _) ?_
          intro bX wX hTX hBX hLX
          refine hK.out _ _ ?_ (fun hHeld => ?_)
          · exact KS.out _ (hHeld.2.2.trans hTX)
          clear hK K
          try simp only [Act.put, List.setIfInBounds_toArray, List.set_cons_zero, List.set_cons_succ]
          have hBXlt := hBX.lt
          replace hG1 := hG1.turns hTX (fun _ _ h => h) (fun _ _ h => h)
          clear hTX
          refine wpAnyZ_ready (rs := [17]) (by kernel_rfl) (by simp) ?_
          refine AllReadyZ.cons rfl (fun K hK => ?_) ?_
          · refine step_grow rfl _ _ _ (by rfl) i0 _ 24 Try.underlying47 hi0 hz0 hz1 hz2 rfl (by omega) encT_len encT_one1 (by rfl) hG1 (by rfl) (SrcAt.block (N := [(⟨id, when, sq + 1⟩ : It)]) hBX rfl (by simp [flat, encT])) (by simp [maxLen]) (by simp [maxLen]) ?_
            intro v2 w2 hG2 hF2 hS2 hO2
            refine hK.out _ _ ?_ (fun hHeld => ?_)
            · exact KS.out _ hG2.made
            clear hK K
            try simp only [Act.put, List.setIfInBounds_toArray, List.set_cons_zero, List.set_cons_succ]
            clear hF2 hS2 hO2 hG1
            refine wpAnyZ_ready (rs := [24]) (by kernel_rfl) (by simp) ?_
            refine AllReadyZ.cons rfl (fun K hK => ?_) ?_
            · refine step_grow rfl _ _ _ (by rfl) i0 _ 24 Try.underlying47 hi0 hz0 hz1 hz2 rfl (by omega) encT_len encT_one1 (by rfl) hG2 (by rfl) (SRC8.out _ hHeld.2.2) (by simp [maxLen]) (by simp [maxLen]) ?_
              intro v3 w3 hG3 hF3 hS3 hO3
              obtain ⟨a3, n3, c3, rfl⟩ : ∃ a n c, v3 = .slice a n c := by obtain ⟨a, c, h⟩ := owns_slice hG3.own; exact ⟨_, _, _, h⟩
              refine hK.out _ _ ?_ (fun hHeld => ?_)
              · exact KS.out _ hG3.made
              clear hK K
              try simp only [Act.put, List.setIfInBounds_toArray, List.set_cons_zero, List.set_cons_succ]
              clear hF3 hS3 hO3 hG2
              refine wpAnyZ_ready (rs := [25]) (by kernel_rfl) (by simp) ?_
              refine AllReadyZ.cons rfl (fun K hK => ?_) AllReadyZ.nil
              go_simp
              refine hK.out _ _ hHeld (fun hHeld => ?_)
              clear hK K
              try simp only [Act.put, List.setIfInBounds_toArray, List.set_cons_zero, List.set_cons_succ]
              refine takeZ (i := 26) (d := some 62) (v := ?_) rfl rfl (by kernel_rfl) (by kernel_rfl) (by kernel_rfl) (by kernel_rfl) (fun _ _ _ h => h) (Or.inl ⟨by rfl, ?_⟩) (by assumption) ?_
              rotate_left
              · intro w hSw
                try dsimp only at hSw
                go_simp
                try with_reducible rfl
              try simp only [Act.put, List.setIfInBounds_toArray, List.set_cons_zero, List.set_cons_succ]
              refine wpAnyZ_ready (rs := [27]) (by kernel_rfl) (by simp) ?_
              refine AllReadyZ.last rfl (fun K hK => ?_) ?_
              · have hc3 := hHeld.1
                have hf3 := FZ.out _ hHeld.2.2
                go_simp
                refine hK.out _ _ ?_
                clear hK K
                try simp only [Act.put, List.setIfInBounds_toArray, List.set_cons_zero, List.set_cons_succ]
                refine wpAnyZ_done (by kernel_rfl) ?_ _
                have hfin := ref_set HR.out hG3
                have hfr := hG3.far
                clear hHeld c0
                go_wp2_with fail
                go_end0
                exact ⟨⟨_, rfl⟩, _, hfin.1, HT.out.then hfin.2 (fun _ _ h => h), fun c hc => by have := hfr c hc; have := HT.out.size; omega⟩
              exact AllReadyZ.nil
            exact AllReadyZ.nil
          exact AllReadyZ.nil
        exact AllReadyZ.nil
      refine AllReadyZ.cons rfl (fun K hK => ?_) ?_
      · refine step_single rfl _ (.tmp 51) (by rfl) i0 _ Try.underlying47 hi0 hz0 (by rw [hz1]; decide) (by rw [hz1]; decide) #[.int .i64 id, .int .i64 when, .int .i64 (sq + 1)] (by rfl) (fillIt hz1 _ _ _) ?_
        intro bX wX hTX hBX hLX
        refine hK.out _ _ ?_ (fun hHeld => ?_)
        · exact KS.out _ (hHeld.2.2.trans hTX)
        clear hK K
        try simp only [Act.put, List.setIfInBounds_toArray, List.set_cons_zero, List.set_cons_succ]
        have hBXlt := hBX.lt
        have hne : bE ≠ bX := by have h : bE < wE.heap.size := hGE.own.lt rfl; omega
        replace hGE := hGE.turns hTX (fun _ _ h => h) (fun _ _ h => h)
        clear hTX
        refine wpAnyZ_ready (rs := [8]) (by kernel_rfl) (by simp) ?_
        refine AllReadyZ.cons rfl (fun K hK => ?_) ?_
        · refine step_grow rfl _ _ _ (by rfl) i0 _ 24 Try.underlying47 hi0 hz0 hz1 hz2 rfl (by omega) encT_len encT_one1 (by rfl) hGE (by rfl) (SRC8.out _ hHeld.2.2) (by simp [maxLen]) (by simp [maxLen]) ?_
          intro v1 w1 hG1 hF1 hS1 hO1
          refine hK.out _ _ ?_ (fun hHeld => ?_)
          · exact KS.out _ hG1.made
          clear hK K
          try simp only [Act.put, List.setIfInBounds_toArray, List.set_cons_zero, List.set_cons_succ]
          replace hBX : Blk w1 bX _ _ := (hF1 bX hBX.lt (fun e => hne (by simpa [Value.ownBlock] using e))).trans hBX
          clear hF1 hS1 hO1 hGE
          refine wpAnyZ_ready (rs := [17]) (by kernel_rfl) (by simp) ?_
          refine AllReadyZ.cons rfl (fun K hK => ?_) ?_
          · refine step_grow rfl _ _ _ (by rfl) i0 _ 24 Try.underlying47 hi0 hz0 hz1 hz2 rfl (by omega) encT_len encT_one1 (by rfl) hG1 (by rfl) (SrcAt.block (N := [(⟨id, when, sq + 1⟩ : It)]) hBX rfl (by simp [flat, encT])) (by simp [maxLen]) (by simp [maxLen]) ?_
            intro v2 w2 hG2 hF2 hS2 hO2
            refine hK.out _ _ ?_ (fun hHeld => ?_)
            · exact KS.out _ hG2.made
            clear hK K
            try simp only [Act.put, List.setIfInBounds_toArray, List.set_cons_zero, List.set_cons_succ]
            clear hF2 hS2 hO2 hG1
            refine wpAnyZ_ready (rs := [24]) (by kernel_rfl) (by simp) ?_
            refine AllReadyZ.cons rfl (fun K hK => ?_) ?_
            · refine step_grow rfl _ _ _ (by rfl) i0 _ 24 Try.underlying47 hi0 hz0 hz1 hz2 rfl (by omega) encT_len encT_one1 (by rfl) hG2 (by rfl) (SRC8.out _ hHeld.2.2) (by simp [maxLen]) (by simp [maxLen]) ?_
              intro v3 w3 hG3 hF3 hS3 hO3
              obtain ⟨a3, n3, c3, rfl⟩ : ∃ a n c, v3 = .slice a n c := by obtain ⟨a, c, h⟩ := owns_slice hG3.own; exact ⟨_, _, _, h⟩
              refine hK.out _ _ ?_ (fun hHeld => ?_)
              · exact KS.out _ hG3.made
              clear hK K
              try simp only [Act.put, List.setIfInBounds_toArray, List.set_cons_zero, List.set_cons_succ]
              clear hF3 hS3 hO3 hG2
              refine wpAnyZ_ready (rs := [25]) (by kernel_rfl) (by simp) ?_
              refine AllReadyZ.cons rfl (fun K hK => ?_) AllReadyZ.nil
              go_simp
              refine hK.out _ _ hHeld (fun hHeld => ?_)
              clear hK K
              try simp only [Act.put, List.setIfInBounds_toArray, List.set_cons_zero, List.set_cons_succ]
              refine takeZ (i := 26) (d := some 62) (v := ?_) rfl rfl (by kernel_rfl) (by kernel_rfl) (by kernel_rfl) (by kernel_rfl) (fun _ _ _ h => h) (Or.inl ⟨by rfl, ?_⟩) (by assumption) ?_
              rotate_left
              · intro w hSw
                try dsimp only at hSw
                go_simp
                try with_reducible rfl
              try simp only [Act.put, List.setIfInBounds_toArray, List.set_cons_zero, List.set_cons_succ]
              refine wpAnyZ_ready (rs := [27]) (by kernel_rfl) (by simp) ?_
              refine AllReadyZ.last rfl (fun K hK => ?_) ?_
              · have hc3 := hHeld.1
                have hf3 := FZ.out _ hHeld.2.2
                go_simp
                refine hK.out _ _ ?_
                clear hK K
                try simp only [Act.put, List.setIfInBounds_toArray, List.set_cons_zero, List.set_cons_succ]
                refine wpAnyZ_done (by kernel_rfl) ?_ _
                have hfin := ref_set HR.out hG3
                have hfr := hG3.far
                clear hHeld c0
                go_wp2_with fail
                go_end0
                exact ⟨⟨_, rfl⟩, _, hfin.1, HT.out.then hfin.2 (fun _ _ h => h), fun c hc => by have := hfr c hc; have := HT.out.size; omega⟩
              exact AllReadyZ.nil
            exact AllReadyZ.nil
          exact AllReadyZ.nil
        exact AllReadyZ.nil
      exact AllReadyZ.nil
    refine AllReadyZ.cons rfl (fun K hK => ?_) ?_
    · refine step_single rfl _ (.tmp 51) (by rfl) i0 _ Try.underlying47 hi0 hz0 (by rw [hz1]; decide) (by rw [hz1]; decide) #[.int .i64 id, .int .i64 when, .int .i64 (sq + 1)] (by rfl) (fillIt hz1 _ _ _) ?_
      intro bX wX hTX hBX hLX
      refine hK.out _ _ ?_ (fun hHeld => ?_)
      · exact KS.out _ (hHeld.2.2.trans hTX)
      clear hK K
      try simp only [Act.put, List.setIfInBounds_toArray, List.set_cons_zero, List.set_cons_succ]
      have hBXlt := hBX.lt
      clear hTX
      refine wpAnyZ_ready (rs := [1]) (by kernel_rfl) (by simp) ?_
      refine AllReadyZ.cons rfl (fun K hK => ?_) ?_
      · refine step_empty encT 3 rfl _ (by rfl) i0 _ Try.underlying47 hi0 hz0 hHeld.2.2 ?_
        intro bE wE hGE hTE hLE
        refine hK.out _ _ ?_ (fun hHeld => ?_)
        · exact KS.out _ hGE.made
        clear hK K
        try simp only [Act.put, List.setIfInBounds_toArray, List.set_cons_zero, List.set_cons_succ]
        replace hBX := hBX.turns hTE (fun h => h)
        have hne : bE ≠ bX := by have := hLX; have := hBXlt; omega
        clear hTE
        refine wpAnyZ_ready (rs := [8]) (by kernel_rfl) (by simp) ?_
        refine AllReadyZ.cons rfl (fun K hK => ?_) ?_
        · refine step_grow rfl _ _ _ (by rfl) i0 _ 24 Try.underlying47 hi0 hz0 hz1 hz2 rfl (by omega) encT_len encT_one1 (by rfl) hGE (by rfl) (SRC8.out _ hHeld.2.2) (by simp [maxLen]) (by simp [maxLen]) ?_
          intro v1 w1 hG1 hF1 hS1 hO1
          refine hK.out _ _ ?_ (fun hHeld => ?_)
          · exact KS.out _ hG1.made
          clear hK K
          try simp only [Act.put, List.setIfInBounds_toArray, List.set_cons_zero, List.set_cons_succ]
          replace hBX : Blk w1 bX _ _ := (hF1 bX hBX.lt (fun e => hne (by simpa [Value.ownBlock] using e))).trans hBX
          clear hF1 hS1 hO1 hGE
          refine wpAnyZ_ready (rs := [17]) (by kernel_rfl) (by simp) ?_
          refine AllReadyZ.cons rfl (fun K hK => ?_) ?_
          · refine step_grow rfl _ _ _ (by rfl) i0 _ 24 Try.underlying47 hi0 hz0 hz1 hz2 rfl (by omega) encT_len encT_one1 (by rfl) hG1 (by rfl) (SrcAt.block (N := [(⟨id, when, sq + 1⟩ : It)]) hBX rfl (by simp [flat, encT])) (by simp [maxLen]) (by simp [maxLen]) ?_
            intro v2 w2 hG2 hF2 hS2 hO2
            refine hK.out _ _ ?_ (fun hHeld => ?_)
            · exact KS.out _ hG2.made
            clear hK K
            try simp only [Act.put, List.setIfInBounds_toArray, List.set_cons_zero, List.set_cons_succ]
            clear hF2 hS2 hO2 hG1
            refine wpAnyZ_ready (rs := [24]) (by kernel_rfl) (by simp) ?_
            refine AllReadyZ.cons rfl (fun K hK => ?_) ?_
            · refine step_grow rfl _ _ _ (by rfl) i0 _ 24 Try.underlying47 hi0 hz0 hz1 hz2 rfl (by omega) encT_len encT_one1 (by rfl) hG2 (by rfl) (SRC8.out _ hHeld.2.2) (by simp [maxLen]) (by simp [maxLen]) ?_
              intro v3 w3 hG3 hF3 hS3 hO3
              obtain ⟨a3, n3, c3, rfl⟩ : ∃ a n c, v3 = .slice a n c := by obtain ⟨a, c, h⟩ := owns_slice hG3.own; exact ⟨_, _, _, h⟩
              refine hK.out _ _ ?_ (fun hHeld => ?_)
              · exact KS.out _ hG3.made
              clear hK K
              try simp only [Act.put, List.setIfInBounds_toArray, List.set_cons_zero, List.set_cons_succ]
              clear hF3 hS3 hO3 hG2
              refine wpAnyZ_ready (rs := [25]) (by kernel_rfl) (by simp) ?_
              refine AllReadyZ.cons rfl (fun K hK => ?_) AllReadyZ.nil
              go_simp
              refine hK.out _ _ hHeld (fun hHeld => ?_)
              clear hK K
              try simp only [Act.put, List.setIfInBounds_toArray, List.set_cons_zero, List.set_cons_succ]
              refine takeZ (i := 26) (d := some 62) (v := ?_) rfl rfl (by kernel_rfl) (by kernel_rfl) (by kernel_rfl) (by kernel_rfl) (fun _ _ _ h => h) (Or.inl ⟨by rfl, ?_⟩) (by assumption) ?_
              rotate_left
              · intro w hSw
                try dsimp only at hSw
                go_simp
                try with_reducible rfl
              try simp only [Act.put, List.setIfInBounds_toArray, List.set_cons_zero, List.set_cons_succ]
              refine wpAnyZ_ready (rs := [27]) (by kernel_rfl) (by simp) ?_
              refine AllReadyZ.last rfl (fun K hK => ?_) ?_
              · have hc3 := hHeld.1
                have hf3 := FZ.out _ hHeld.2.2
                go_simp
                refine hK.out _ _ ?_
                clear hK K
                try simp only [Act.put, List.setIfInBounds_toArray, List.set_cons_zero, List.set_cons_succ]
                refine wpAnyZ_done (by kernel_rfl) ?_ _
                have hfin := ref_set HR.out hG3
                have hfr := hG3.far
                clear hHeld c0
                go_wp2_with fail
                go_end0
                exact ⟨⟨_, rfl⟩, _, hfin.1, HT.out.then hfin.2 (fun _ _ h => h), fun c hc => by have := hfr c hc; have := HT.out.size; omega⟩
              exact AllReadyZ.nil
            exact AllReadyZ.nil
          exact AllReadyZ.nil
        exact AllReadyZ.nil
      exact AllReadyZ.nil
    exact AllReadyZ.nil
theorem ins_cut {L : List It} {k : Nat} (id when sq : Int) (hr : L.Pairwise lt) (hs : ∀ x ∈ L, x.seq ≤ sq) (hk : k ≤ L.length) (hd : ∀ y ∈ L.drop k, when < y.when) (ht : k = 0 ∨ ∃ m y, k = m + 1 ∧ L[m]? = some y ∧ ¬ when < y.when) :
    insL ⟨id, when, sq + 1⟩ L = L.take k ++ ⟨id, when, sq + 1⟩ :: L.drop k := by
  refine insL_at L k hk (fun y hy h => ?_) (fun y hy => .inl (hd y hy))
  rcases ht with rfl | ⟨m, z, rfl, hz, hw⟩
  · rw [List.take_zero] at hy
    cases hy
  · have hyL := List.mem_of_mem_take hy
    have hsy := hs y hyL
    have hle : y.when ≤ z.when := by
      obtain ⟨i, hi⟩ := List.mem_iff_getElem?.1 hy
      rw [List.getElem?_take] at hi
      split at hi
      · rename_i him
        rcases Nat.lt_or_ge i m with h1 | h1
        · obtain ⟨hil, rfl⟩ := List.getElem?_eq_some_iff.1 hi
          obtain ⟨hml, rfl⟩ := List.getElem?_eq_some_iff.1 hz
          have := List.pairwise_iff_getElem.1 hr i m hil hml h1
          unfold lt at this
          omega
        · obtain rfl : i = m := by omega
          rw [hi] at hz
          cases hz
          omega
      · cases hi
    unfold lt at h
    simp only at h
    omega

set_option maxHeartbeats 4000000 in
set_option maxRecDepth 100000 in
theorem rput_some {b : Nat} {t : TypeId} {rest : List Value} {g cap : Nat} {L : List It} {sq : Int} (id when : Int) (w : World) (h : RefH w b t rest (.slice (some ⟨g, 0, none⟩) L.length cap) L sq) (hn : L.length ≤ 1000000) (hlc : L.length ≤ cap) (hcm : cap ≤ maxLen) (hsq : 0 ≤ sq ∧ sq < 1000000) (hr : L.Pairwise lt) (hs : ∀ x ∈ L, x.seq ≤ sq) :
    Calls Try.prog 49 #[.pointer (some ⟨b, 0, none⟩), .int .i64 id, .int .i64 when] w fun e w' => (∃ v, e = .returned v) ∧ ∃ lv', RefH w' b t rest lv' (insL ⟨id, when, sq + 1⟩ L) (sq + 1) ∧ Turns (fun c => c = b) w w' ∧ (∀ c, lv'.ownBlock = some c → w.heap.size ≤ c) := by
  obtain ⟨i0, hi0, hz0, hz1, hz2⟩ := info_parts Try.infoR
  have c0 := h.blk.cell 0
  have c1 := h.blk.cell 1
  simp only [List.getElem?_toArray, List.getElem?_cons_zero, List.getElem?_cons_succ] at c0 c1
  have f1 := h.blk.free 1
  have hwr : IntKind.i64.wrap (sq + 1) = sq + 1 := wrap_in _ (by omega)
  have ht0 : Turns (fun c => c = b) w (w.setCell ⟨b, 1, none⟩ (.int .i64 (sq + 1))) := (Turns.refl (fun c => c = b) w).setCell (p := ⟨b, 1, none⟩) (fun _ => rfl) _
  have hr0 : RefH (w.setCell ⟨b, 1, none⟩ (.int .i64 (sq + 1))) b t rest (.slice (some ⟨g, 0, none⟩) L.length cap) L (sq + 1) := ⟨by have := h.blk.put 1 (.int .i64 (sq + 1)); simpa using this, h.own.turns ht0 (fun c hc e => h.ne (by rw [hc, e])), h.ne⟩
  have HR := Lib.hid hr0
  have HT := Lib.hid ht0
  have HRI := Lib.hid hr
  have HSQ := Lib.hid hs
  have hbl := h.blk.lt
  clear h ht0 hr0 hr hs
  go_enter Try.func49, Try.ntmps49
  go_wp2_with fail
  clear c0 c1 f1
  generalize w.setCell ⟨b, 1, none⟩ (.int .i64 (sq + 1)) = W at *
  have c0 := HR.out.blk.cell 0
  simp only [List.getElem?_toArray, List.getElem?_cons_zero, List.getElem?_cons_succ] at c0
  have KS := Lib.hid (ref_cells HR.out)
  have FZ := Lib.hid (show ∀ w, Made W w → w.frozen? ⟨b, 0, none⟩ = false from fun w hm => (HR.out.blk.turns hm (fun h => h)).free 0)
  go_loopw [6] (fun v6 wr => ∃ k : Nat, k ≤ L.length ∧ v6 = .int .i64 k ∧ W = wr ∧ (∀ y ∈ L.drop k, when < y.when)) (fun v6 _ => (intOf v6).toNat)
  case atStart => exact ⟨L.length, Nat.le_refl _, rfl, rfl, fun y hy => by rw [List.drop_length] at hy; cases hy⟩
  case round =>
    obtain ⟨k, hk, rfl, rfl, hdr⟩ := hrel
    have i1 : (0 : Int) ≤ (k : Int) := Int.natCast_nonneg _
    have i2 : (k : Int) ≤ (L.length : Int) := by omega
    have i3 : (k : Int) ≤ (cap : Int) := by omega
    have SRC8 := Lib.hid (show ∀ w, Made W w → SrcAt encT w (.slice (some ⟨g, 0, none⟩) k cap) (L.take k) from fun w hm => SrcAt.pre encT_len (HR.out.own.turns hm (fun _ _ h => h)) hk)
    by_cases hk0 : k = 0
    · have HI := Lib.hid (ins_cut id when sq HRI.out HSQ.out hk hdr (.inl hk0))
      have hkI : ¬ (0 : Int) < (k : Int) := by omega
      have HK0 := Lib.hid hk0
      clear hk0 hdr
      go_wp2_with fail
      have i1 : (0 : Int) ≤ (k : Int) := Int.natCast_nonneg _
      by_cases hcap : cap = k
      · subst hcap
        have SRC24 := Lib.hid (show ∀ w, Made W w → SrcAt encT w (.slice (some ⟨g, 0, none⟩) 0 0) (L.drop cap) from fun w _ => SrcAt.none_left (by omega))
        refine wp_region_z (S := fun w' => w'.cell? ⟨b, 0, none⟩ = some (.slice (some ⟨g, 0, none⟩) L.length cap) ∧ w'.cell? ⟨b, 1, none⟩ = some (.int .i64 (sq + 1)) ∧ Made W w') 27 (by kernel_rfl) ?_ (fun hHeld => ?_)
        · exact KS.out _ (Turns.drew (Turns.refl _ W))
        generalize W.drew = w0 at *
        refine takeZ (i := 0) (d := some 36) (v := ?_) rfl rfl (by kernel_rfl) (by kernel_rfl) (by kernel_rfl) (by kernel_rfl) (fun _ _ _ h => h) (Or.inl ⟨by rfl, ?_⟩) (by assumption) ?_
        rotate_left
        · intro w hSw
          try dsimp only at hSw
          go_simp
          try with_reducible rfl
        try simp only [Act.put, List.setIfInBounds_toArray, List.set_cons_zero, List.set_cons_succ]
        refine takeZ (i := 2) (d := some 38) (v := ?_) rfl rfl (by kernel_rfl) (by kernel_rfl) (by kernel_rfl) (by kernel_rfl) (fun _ _ _ h => h) (Or.inl ⟨by rfl, ?_⟩) (by assumption) ?_
        rotate_left
        · intro w hSw
          try dsimp only at hSw
          go_simp
          try with_reducible rfl
        try simp only [Act.put, List.setIfInBounds_toArray, List.set_cons_zero, List.set_cons_succ]
        refine takeZ (i := 3) (d := some 39) (v := ?_) rfl rfl (by kernel_rfl) (by kernel_rfl) (by kernel_rfl) (by kernel_rfl) (fun _ _ _ h => h) (Or.inl ⟨by rfl, ?_⟩) (by assumption) ?_
        rotate_left
        · intro w hSw
          try dsimp only at hSw
          go_simp
          try with_reducible rfl
        try simp only [Act.put, List.setIfInBounds_toArray, List.set_cons_zero, List.set_cons_succ]
        refine takeZ (i := 4) (d := some 40) (v := ?_) rfl rfl (by kernel_rfl) (by kernel_rfl) (by kernel_rfl) (by kernel_rfl) (fun _ _ _ h => h) (Or.inl ⟨by rfl, ?_⟩) (by assumption) ?_
        rotate_left
        · intro w hSw
          try dsimp only at hSw
          go_simp
          try with_reducible rfl
        try simp only [Act.put, List.setIfInBounds_toArray, List.set_cons_zero, List.set_cons_succ]
        refine takeZ (i := 5) (d := some 41) (v := ?_) rfl rfl (by kernel_rfl) (by kernel_rfl) (by kernel_rfl) (by kernel_rfl) (fun _ _ _ h => h) (Or.inl ⟨by rfl, ?_⟩) (by assumption) ?_
        rotate_left
        · intro w hSw
          try dsimp only at hSw
          have h0 := hSw.1
          go_simp
          try with_reducible rfl
        try simp only [Act.put, List.setIfInBounds_toArray, List.set_cons_zero, List.set_cons_succ]
        refine takeZ (i := 6) (d := some 42) (v := ?_) rfl rfl (by kernel_rfl) (by kernel_rfl) (by kernel_rfl) (by kernel_rfl) (fun _ _ _ h => h) (Or.inl ⟨by rfl, ?_⟩) (by assumption) ?_
        rotate_left
        · intro w hSw
          try dsimp only at hSw
          go_simp
          try with_reducible rfl
        try simp only [Act.put, List.setIfInBounds_toArray, List.set_cons_zero, List.set_cons_succ]
        refine takeZ (i := 7) (d := some 43) (v := ?_) rfl rfl (by kernel_rfl) (by kernel_rfl) (by kernel_rfl) (by kernel_rfl) (fun _ _ _ h => h) (Or.inl ⟨by rfl, ?_⟩) (by assumption) ?_
        rotate_left
        · intro w hSw
          try dsimp only at hSw
          go_simp
          try with_reducible rfl
        try simp only [Act.put, List.setIfInBounds_toArray, List.set_cons_zero, List.set_cons_succ]
        refine takeZ (i := 9) (d := some 45) (v := ?_) rfl rfl (by kernel_rfl) (by kernel_rfl) (by kernel_rfl) (by kernel_rfl) (fun _ _ _ h => h) (Or.inl ⟨by rfl, ?_⟩) (by assumption) ?_
        rotate_left
        · intro w hSw
          try dsimp only at hSw
          go_simp
          try with_reducible rfl
        try simp only [Act.put, List.setIfInBounds_toArray, List.set_cons_zero, List.set_cons_succ]
        refine takeZ (i := 10) (d := some 46) (v := ?_) rfl rfl (by kernel_rfl) (by kernel_rfl) (by kernel_rfl) (by kernel_rfl) (fun _ _ _ h => h) (Or.inl ⟨by rfl, ?_⟩) (by assumption) ?_
        rotate_left
        · intro w hSw
          try dsimp only at hSw
          go_simp
          try with_reducible rfl
        try simp only [Act.put, List.setIfInBounds_toArray, List.set_cons_zero, List.set_cons_succ]
        refine takeZ (i := 11) (d := some 47) (v := ?_) rfl rfl (by kernel_rfl) (by kernel_rfl) (by kernel_rfl) (by kernel_rfl) (fun _ _ _ h => h) (Or.inl ⟨by rfl, ?_⟩) (by assumption) ?_
        rotate_left
        · intro w hSw
          try dsimp only at hSw
          go_simp
          try with_reducible rfl
        try simp only [Act.put, List.setIfInBounds_toArray, List.set_cons_zero, List.set_cons_succ]
        refine takeZ (i := 12) (d := some 48) (v := ?_) rfl rfl (by kernel_rfl) (by kernel_rfl) (by kernel_rfl) (by kernel_rfl) (fun _ _ _ h => h) (Or.inl ⟨by rfl, ?_⟩) (by assumption) ?_
        rotate_left
        · intro w hSw
          try dsimp only at hSw
          go_simp
          try with_reducible rfl
        try simp only [Act.put, List.setIfInBounds_toArray, List.set_cons_zero, List.set_cons_succ]
        refine takeZ (i := 13) (d := some 49) (v := ?_) rfl rfl (by kernel_rfl) (by kernel_rfl) (by kernel_rfl) (by kernel_rfl) (fun _ _ _ h => h) (Or.inl ⟨by rfl, ?_⟩) (by assumption) ?_
        rotate_left
        · intro w hSw
          try dsimp only at hSw
          go_simp
          try with_reducible rfl
        try simp only [Act.put, List.setIfInBounds_toArray, List.set_cons_zero, List.set_cons_succ]
        refine takeZ (i := 14) (d := some 50) (v := ?_) rfl rfl (by kernel_rfl) (by kernel_rfl) (by kernel_rfl) (by kernel_rfl) (fun _ _ _ h => h) (Or.inl ⟨by rfl, ?_⟩) (by assumption) ?_
        rotate_left
        · intro w hSw
          try dsimp only at hSw
          have h1 := hSw.2.1
          go_simp
          try with_reducible rfl
        try simp only [Act.put, List.setIfInBounds_toArray, List.set_cons_zero, List.set_cons_succ]
        refine takeZ (i := 15) (d := some 51) (v := ?_) rfl rfl (by kernel_rfl) (by kernel_rfl) (by kernel_rfl) (by kernel_rfl) (fun _ _ _ h => h) (Or.inl ⟨by rfl, ?_⟩) (by assumption) ?_
        rotate_left
        · intro w hSw
          try dsimp only at hSw
          go_simp
          try with_reducible rfl
        try simp only [Act.put, List.setIfInBounds_toArray, List.set_cons_zero, List.set_cons_succ]
        refine takeZ (i := 18) (d := some 54) (v := ?_) rfl rfl (by kernel_rfl) (by kernel_rfl) (by kernel_rfl) (by kernel_rfl) (fun _ _ _ h => h) (Or.inl ⟨by rfl, ?_⟩) (by assumption) ?_
        rotate_left
        · intro w hSw
          try dsimp only at hSw
          go_simp
          try with_reducible rfl
        try simp only [Act.put, List.setIfInBounds_toArray, List.set_cons_zero, List.set_cons_succ]
        refine takeZ (i := 19) (d := some 55) (v := ?_) rfl rfl (by kernel_rfl) (by kernel_rfl) (by kernel_rfl) (by kernel_rfl) (fun _ _ _ h => h) (Or.inl ⟨by rfl, ?_⟩) (by assumption) ?_
        rotate_left
        · intro w hSw
          try dsimp only at hSw
          go_simp
          try with_reducible rfl
        try simp only [Act.put, List.setIfInBounds_toArray, List.set_cons_zero, List.set_cons_succ]
        refine takeZ (i := 20) (d := some 56) (v := ?_) rfl rfl (by kernel_rfl) (by kernel_rfl) (by kernel_rfl) (by kernel_rfl) (fun _ _ _ h => h) (Or.inl ⟨by rfl, ?_⟩) (by assumption) ?_
        rotate_left
        · intro w hSw
          try dsimp only at hSw
          go_simp
          try with_reducible rfl
        try simp only [Act.put, List.setIfInBounds_toArray, List.set_cons_zero, List.set_cons_succ]
        refine takeZ (i := 21) (d := some 57) (v := ?_) rfl rfl (by kernel_rfl) (by kernel_rfl) (by kernel_rfl) (by kernel_rfl) (fun _ _ _ h => h) (Or.inl ⟨by rfl, ?_⟩) (by assumption) ?_
        rotate_left
        · intro w hSw
          try dsimp only at hSw
          have h0 := hSw.1
          go_simp
          try with_reducible rfl
        try simp only [Act.put, List.setIfInBounds_toArray, List.set_cons_zero, List.set_cons_succ]
        refine takeZ (i := 22) (d := some 58) (v := ?_) rfl rfl (by kernel_rfl) (by kernel_rfl) (by kernel_rfl) (by kernel_rfl) (fun _ _ _ h => h) (Or.inl ⟨by rfl, ?_⟩) (by assumption) ?_
        rotate_left
        · intro w hSw
          try dsimp only at hSw
          go_simp
          try with_reducible rfl
        try simp only [Act.put, List.setIfInBounds_toArray, List.set_cons_zero, List.set_cons_succ]
        refine takeZ (i := 23) (d := some 59) (v := ?_) rfl rfl (by kernel_rfl) (by kernel_rfl) (by kernel_rfl) (by kernel_rfl) (fun _ _ _ h => h) (Or.inl ⟨by rfl, ?_⟩) (by assumption) ?_
        rotate_left
        · intro w hSw
          try dsimp only at hSw
          go_simp
          try with_reducible rfl
        try simp only [Act.put, List.setIfInBounds_toArray, List.set_cons_zero, List.set_cons_succ]
        refine wpAnyZ_ready (rs := [1, 16]) (by kernel_rfl) (by simp) ?_
        refine AllReadyZ.cons rfl (fun K hK => ?_) ?_
        · refine step_empty encT 3 rfl _ (by rfl) i0 _ Try.underlying47 hi0 hz0 hHeld.2.2 ?_
          intro bE wE hGE hTE hLE
          refine hK.out _ _ ?_ (fun hHeld => ?_)
          · exact KS.out _ hGE.made
          clear hK K
          try simp only [Act.put, List.setIfInBounds_toArray, List.set_cons_zero, List.set_cons_succ]
          clear hTE
          refine wpAnyZ_ready (rs := [8, 16]) (by kernel_rfl) (by simp) ?_
          refine AllReadyZ.cons rfl (fun K hK => ?_) ?_
          · refine step_grow rfl _ _ _ (by rfl) i0 _ 24 Try.underlying47 hi0 hz0 hz1 hz2 rfl (by omega) encT_len encT_one1 (by rfl) hGE (by rfl) (SRC8.out _ hHeld.2.2) (by simp only [List.length_append, List.length_take, List.length_drop, List.length_nil, List.length_cons, maxLen]; omega) (by simp only [List.length_append, List.length_take, List.length_drop, List.length_nil, List.length_cons, maxLen]; omega) ?_
            intro v1 w1 hG1 hF1 hS1 hO1
            refine hK.out _ _ ?_ (fun hHeld => ?_)
            · exact KS.out _ hG1.made
            clear hK K
            try simp only [Act.put, List.setIfInBounds_toArray, List.set_cons_zero, List.set_cons_succ]
            clear hF1 hS1 hO1 hGE
            refine wpAnyZ_ready (rs := [16]) (by kernel_rfl) (by simp) ?_
            refine AllReadyZ.cons rfl (fun K hK => ?_) ?_
            · refine step_single rfl _ (.tmp 51) (by rfl) i0 _ Try.underlying47 hi0 hz0 (by rw [hz1]; decide) (by rw [hz1]; decide) #[.int .i64 id, .int .i64 when, .int .i64 (sq + 1)] (by rfl) (fillIt hz1 _ _ _) ?_
              intro bX wX hTX hBX hLX
              refine hK.out _ _ ?_ (fun hHeld => ?_)
              · exact KS.out _ (hHeld.2.2.trans hTX)
              clear hK K
              try simp only [Act.put, List.setIfInBounds_toArray, List.set_cons_zero, List.set_cons_succ]
              have hBXlt := hBX.lt
              replace hG1 := hG1.turns hTX (fun _ _ h => h) (fun _ _ h => h)
              clear hTX
              refine wpAnyZ_ready (rs := [17]) (by kernel_rfl) (by simp) ?_
              refine AllReadyZ.cons rfl (fun K hK => ?_) ?_
              · refine step_grow rfl _ _ _ (by rfl) i0 _ 24 Try.underlying47 hi0 hz0 hz1 hz2 rfl (by omega) encT_len encT_one1 (by rfl) hG1 (by rfl) (SrcAt.block (N := [(⟨id, when, sq + 1⟩ : It)]) hBX rfl (by simp [flat, encT])) (by simp only [List.length_append, List.length_take, List.length_drop, List.length_nil, List.length_cons, maxLen]; omega) (by simp only [List.length_append, List.length_take, List.length_drop, List.length_nil, List.length_cons, maxLen]; omega) ?_
                intro v2 w2 hG2 hF2 hS2 hO2
                refine hK.out _ _ ?_ (fun hHeld => ?_)
                · exact KS.out _ hG2.made
                clear hK K
                try simp only [Act.put, List.setIfInBounds_toArray, List.set_cons_zero, List.set_cons_succ]
                clear hF2 hS2 hO2 hG1
                refine wpAnyZ_ready (rs := [24]) (by kernel_rfl) (by simp) ?_
                refine AllReadyZ.cons rfl (fun K hK => ?_) ?_
                · refine step_grow rfl _ _ _ (by rfl) i0 _ 24 Try.underlying47 hi0 hz0 hz1 hz2 rfl (by omega) encT_len encT_one1 (by rfl) hG2 (by rfl) (SRC24.out _ hHeld.2.2) (by simp only [List.length_append, List.length_take, List.length_drop, List.length_nil, List.length_cons, maxLen]; omega) (by simp only [List.length_append, List.length_take, List.length_drop, List.length_nil, List.length_cons, maxLen]; omega) ?_
                  intro v3 w3 hG3 hF3 hS3 hO3
                  obtain ⟨a3, n3, c3, rfl⟩ : ∃ a n c, v3 = .slice a n c := by obtain ⟨a, c, h⟩ := owns_slice hG3.own; exact ⟨_, _, _, h⟩
                  refine hK.out _ _ ?_ (fun hHeld => ?_)
                  · exact KS.out _ hG3.made
                  clear hK K
                  try simp only [Act.put, List.setIfInBounds_toArray, List.set_cons_zero, List.set_cons_succ]
                  clear hF3 hS3 hO3 hG2
                  refine wpAnyZ_ready (rs := [25]) (by kernel_rfl) (by simp) ?_
                  refine AllReadyZ.cons rfl (fun K hK => ?_) AllReadyZ.nil
                  go_simp
                  refine hK.out _ _ hHeld (fun hHeld => ?_)
                  clear hK K
                  try simp only [Act.put, List.setIfInBounds_toArray, List.set_cons_zero, List.set_cons_succ]
                  refine takeZ (i := 26) (d := some 62) (v := ?_) rfl rfl (by kernel_rfl) (by kernel_rfl) (by kernel_rfl) (by kernel_rfl) (fun _ _ _ h => h) (Or.inl ⟨by rfl, ?_⟩) (by assumption) ?_
                  rotate_left
                  · intro w hSw
                    try dsimp only at hSw
                    go_simp
                    try with_reducible rfl
                  try simp only [Act.put, List.setIfInBounds_toArray, List.set_cons_zero, List.set_cons_succ]
                  refine wpAnyZ_ready (rs := [27]) (by kernel_rfl) (by simp) ?_
                  refine AllReadyZ.last rfl (fun K hK => ?_) ?_
                  · have hc3 := hHeld.1
                    have hf3 := FZ.out _ hHeld.2.2
                    go_simp
                    refine hK.out _ _ ?_
                    clear hK K
                    try simp only [Act.put, List.setIfInBounds_toArray, List.set_cons_zero, List.set_cons_succ]
                    refine wpAnyZ_done (by kernel_rfl) ?_ _
                    have hfin := ref_set HR.out hG3
                    have hfr := hG3.far
                    clear hHeld c0
                    go_wp2_with fail
                    go_end0
                    refine ⟨⟨_, rfl⟩, _, by rw [HI.out]; simpa using hfin.1, HT.out.then hfin.2 (fun _ _ h => h), fun c hc => by have := hfr c hc; have := HT.out.size; omega⟩
                  exact AllReadyZ.nil
                exact AllReadyZ.nil
              exact AllReadyZ.nil
            exact AllReadyZ.nil
          refine AllReadyZ.cons rfl (fun K hK => ?_) ?_
          · refine step_single rfl _ (.tmp 51) (by rfl) i0 _ Try.underlying47 hi0 hz0 (by rw [hz1]; decide) (by rw [hz1]; decide) #[.int .i64 id, .int .i64 when, .int .i64 (sq + 1)] (by rfl) (fillIt hz1 _ _ _) ?_
            intro bX wX hTX hBX hLX
            refine hK.out _ _ ?_ (fun hHeld => ?_)
            · exact KS.out _ (hHeld.2.2.trans hTX)
            clear hK K
            try simp only [Act.put, List.setIfInBounds_toArray, List.set_cons_zero, List.set_cons_succ]
            have hBXlt := hBX.lt
            have hne : bE ≠ bX := by have h : bE < wE.heap.size := hGE.own.lt rfl; omega
            replace hGE := hGE.turns hTX (fun _ _ h => h) (fun _ _ h => h)
            clear hTX
            refine wpAnyZ_ready (rs := [8]) (by kernel_rfl) (by simp) ?_
            refine AllReadyZ.cons rfl (fun K hK => ?_) ?_
            · refine step_grow rfl _ _ _ (by rfl) i0 _ 24 Try.underlying47 hi0 hz0 hz1 hz2 rfl (by omega) encT_len encT_one1 (by rfl) hGE (by rfl) (SRC8.out _ hHeld.2.2) (by simp only [List.length_append, List.length_take, List.length_drop, List.length_nil, List.length_cons, maxLen]; omega) (by simp only [List.length_append, List.length_take, List.length_drop, List.length_nil, List.length_cons, maxLen]; omega) ?_
              intro v1 w1 hG1 hF1 hS1 hO1
              refine hK.out _ _ ?_ (fun hHeld => ?_)
              · exact KS.out _ hG1.made
              clear hK K
              try simp only [Act.put, List.setIfInBounds_toArray, List.set_cons_zero, List.set_cons_succ]
              replace hBX : Blk w1 bX _ _ := (hF1 bX hBX.lt (fun e => hne (by simpa [Value.ownBlock] using e))).trans hBX
              clear hF1 hS1 hO1 hGE
              refine wpAnyZ_ready (rs := [17]) (by kernel_rfl) (by simp) ?_
              refine AllReadyZ.cons rfl (fun K hK => ?_) ?_
              · refine step_grow rfl _ _ _ (by rfl) i0 _ 24 Try.underlying47 hi0 hz0 hz1 hz2 rfl (by omega) encT_len encT_one1 (by rfl) hG1 (by rfl) (SrcAt.block (N := [(⟨id, when, sq + 1⟩ : It)]) hBX rfl (by simp [flat, encT])) (by simp only [List.length_append, List.length_take, List.length_drop, List.length_nil, List.length_cons, maxLen]; omega) (by simp only [List.length_append, List.length_take, List.length_drop, List.length_nil, List.length_cons, maxLen]; omega) ?_
                intro v2 w2 hG2 hF2 hS2 hO2
                refine hK.out _ _ ?_ (fun hHeld => ?_)
                · exact KS.out _ hG2.made
                clear hK K
                try simp only [Act.put, List.setIfInBounds_toArray, List.set_cons_zero, List.set_cons_succ]
                clear hF2 hS2 hO2 hG1
                refine wpAnyZ_ready (rs := [24]) (by kernel_rfl) (by simp) ?_
                refine AllReadyZ.cons rfl (fun K hK => ?_) ?_
                · refine step_grow rfl _ _ _ (by rfl) i0 _ 24 Try.underlying47 hi0 hz0 hz1 hz2 rfl (by omega) encT_len encT_one1 (by rfl) hG2 (by rfl) (SRC24.out _ hHeld.2.2) (by simp only [List.length_append, List.length_take, List.length_drop, List.length_nil, List.length_cons, maxLen]; omega) (by simp only [List.length_append, List.length_take, List.length_drop, List.length_nil, List.length_cons, maxLen]; omega) ?_
                  intro v3 w3 hG3 hF3 hS3 hO3
                  obtain ⟨a3, n3, c3, rfl⟩ : ∃ a n c, v3 = .slice a n c := by obtain ⟨a, c, h⟩ := owns_slice hG3.own; exact ⟨_, _, _, h⟩
                  refine hK.out _ _ ?_ (fun hHeld => ?_)
                  · exact KS.out _ hG3.made
                  clear hK K
                  try simp only [Act.put, List.setIfInBounds_toArray, List.set_cons_zero, List.set_cons_succ]
                  clear hF3 hS3 hO3 hG2
                  refine wpAnyZ_ready (rs := [25]) (by kernel_rfl) (by simp) ?_
                  refine AllReadyZ.cons rfl (fun K hK => ?_) AllReadyZ.nil
                  go_simp
                  refine hK.out _ _ hHeld (fun hHeld => ?_)
                  clear hK K
                  try simp only [Act.put, List.setIfInBounds_toArray, List.set_cons_zero, List.set_cons_succ]
                  refine takeZ (i := 26) (d := some 62) (v := ?_) rfl rfl (by kernel_rfl) (by kernel_rfl) (by kernel_rfl) (by kernel_rfl) (fun _ _ _ h => h) (Or.inl ⟨by rfl, ?_⟩) (by assumption) ?_
                  rotate_left
                  · intro w hSw
                    try dsimp only at hSw
                    go_simp
                    try with_reducible rfl
                  try simp only [Act.put, List.setIfInBounds_toArray, List.set_cons_zero, List.set_cons_succ]
                  refine wpAnyZ_ready (rs := [27]) (by kernel_rfl) (by simp) ?_
                  refine AllReadyZ.last rfl (fun K hK => ?_) ?_
                  · have hc3 := hHeld.1
                    have hf3 := FZ.out _ hHeld.2.2
                    go_simp
                    refine hK.out _ _ ?_
                    clear hK K
                    try simp only [Act.put, List.setIfInBounds_toArray, List.set_cons_zero, List.set_cons_succ]
                    refine wpAnyZ_done (by kernel_rfl) ?_ _
                    have hfin := ref_set HR.out hG3
                    have hfr := hG3.far
                    clear hHeld c0
                    go_wp2_with fail
                    go_end0
                    refine ⟨⟨_, rfl⟩, _, by rw [HI.out]; simpa using hfin.1, HT.out.then hfin.2 (fun _ _ h => h), fun c hc => by have := hfr c hc; have := HT.out.size; omega⟩
                  exact AllReadyZ.nil
                exact AllReadyZ.nil
              exact AllReadyZ.nil
            exact AllReadyZ.nil
          exact AllReadyZ.nil
        refine AllReadyZ.cons rfl (fun K hK => ?_) ?_
        · refine step_single rfl _ (.tmp 51) (by rfl) i0 _ Try.underlying47 hi0 hz0 (by rw [hz1]; decide) (by rw [hz1]; decide) #[.int .i64 id, .int .i64 when, .int .i64 (sq + 1)] (by rfl) (fillIt hz1 _ _ _) ?_
          intro bX wX hTX hBX hLX
          refine hK.out _ _ ?_ (fun hHeld => ?_)
          · exact KS.out _ (hHeld.2.2.trans hTX)
          clear hK K
          try simp only [Act.put, List.setIfInBounds_toArray, List.set_cons_zero, List.set_cons_succ]
          have hBXlt := hBX.lt
          clear hTX
          refine wpAnyZ_ready (rs := [1]) (by kernel_rfl) (by simp) ?_
          refine AllReadyZ.cons rfl (fun K hK => ?_) ?_
          · refine step_empty encT 3 rfl _ (by rfl) i0 _ Try.underlying47 hi0 hz0 hHeld.2.2 ?_
            intro bE wE hGE hTE hLE
            refine hK.out _ _ ?_ (fun hHeld => ?_)
            · exact KS.out _ hGE.made
            clear hK K
            try simp only [Act.put, List.setIfInBounds_toArray, List.set_cons_zero, List.set_cons_succ]
            replace hBX := hBX.turns hTE (fun h => h)
            have hne : bE ≠ bX := by have := hLX; have := hBXlt; omega
            clear hTE
            refine wpAnyZ_ready (rs := [8]) (by kernel_rfl) (by simp) ?_
            refine AllReadyZ.cons rfl (fun K hK => ?_) ?_
            · refine step_grow rfl _ _ _ (by rfl) i0 _ 24 Try.underlying47 hi0 hz0 hz1 hz2 rfl (by omega) encT_len encT_one1 (by rfl) hGE (by rfl) (SRC8.out _ hHeld.2.2) (by simp only [List.length_append, List.length_take, List.length_drop, List.length_nil, List.length_cons, maxLen]; omega) (by simp only [List.length_append, List.length_take, List.length_drop, List.length_nil, List.length_cons, maxLen]; omega) ?_
              intro v1 w1 hG1 hF1 hS1 hO1
              refine hK.out _ _ ?_ (fun hHeld => ?_)
              · exact KS.out _ hG1.made
              clear hK K
              try simp only [Act.put, List.setIfInBounds_toArray, List.set_cons_zero, List.set_cons_succ]
              replace hBX : Blk w1 bX _ _ := (hF1 bX hBX.lt (fun e => hne (by simpa [Value.ownBlock] using e))).trans hBX
              clear hF1 hS1 hO1 hGE
              refine wpAnyZ_ready (rs := [17]) (by kernel_rfl) (by simp) ?_
              refine AllReadyZ.cons rfl (fun K hK => ?_) ?_
              · refine step_grow rfl _ _ _ (by rfl) i0 _ 24 Try.underlying47 hi0 hz0 hz1 hz2 rfl (by omega) encT_len encT_one1 (by rfl) hG1 (by rfl) (SrcAt.block (N := [(⟨id, when, sq + 1⟩ : It)]) hBX rfl (by simp [flat, encT])) (by simp only [List.length_append, List.length_take, List.length_drop, List.length_nil, List.length_cons, maxLen]; omega) (by simp only [List.length_append, List.length_take, List.length_drop, List.length_nil, List.length_cons, maxLen]; omega) ?_
                intro v2 w2 hG2 hF2 hS2 hO2
                refine hK.out _ _ ?_ (fun hHeld => ?_)
                · exact KS.out _ hG2.made
                clear hK K
                try simp only [Act.put, List.setIfInBounds_toArray, List.set_cons_zero, List.set_cons_succ]
                clear hF2 hS2 hO2 hG1
                refine wpAnyZ_ready (rs := [24]) (by kernel_rfl) (by simp) ?_
                refine AllReadyZ.cons rfl (fun K hK => ?_) ?_
                · refine step_grow rfl _ _ _ (by rfl) i0 _ 24 Try.underlying47 hi0 hz0 hz1 hz2 rfl (by omega) encT_len encT_one1 (by rfl) hG2 (by rfl) (SRC24.out _ hHeld.2.2) (by simp only [List.length_append, List.length_take, List.length_drop, List.length_nil, List.length_cons, maxLen]; omega) (by simp only [List.length_append, List.length_take, List.length_drop, List.length_nil, List.length_cons, maxLen]; omega) ?_
                  intro v3 w3 hG3 hF3 hS3 hO3
                  obtain ⟨a3, n3, c3, rfl⟩ : ∃ a n c, v3 = .slice a n c := by obtain ⟨a, c, h⟩ := owns_slice hG3.own; exact ⟨_, _, _, h⟩
                  refine hK.out _ _ ?_ (fun hHeld => ?_)
                  · exact KS.out _ hG3.made
                  clear hK K
                  try simp only [Act.put, List.setIfInBounds_toArray, List.set_cons_zero, List.set_cons_succ]
                  clear hF3 hS3 hO3 hG2
                  refine wpAnyZ_ready (rs := [25]) (by kernel_rfl) (by simp) ?_
                  refine AllReadyZ.cons rfl (fun K hK => ?_) AllReadyZ.nil
                  go_simp
                  refine hK.out _ _ hHeld (fun hHeld => ?_)
                  clear hK K
                  try simp only [Act.put, List.setIfInBounds_toArray, List.set_cons_zero, List.set_cons_succ]
                  refine takeZ (i := 26) (d := some 62) (v := ?_) rfl rfl (by kernel_rfl) (by kernel_rfl) (by kernel_rfl) (by kernel_rfl) (fun _ _ _ h => h) (Or.inl ⟨by rfl, ?_⟩) (by assumption) ?_
                  rotate_left
                  · intro w hSw
                    try dsimp only at hSw
                    go_simp
                    try with_reducible rfl
                  try simp only [Act.put, List.setIfInBounds_toArray, List.set_cons_zero, List.set_cons_succ]
                  refine wpAnyZ_ready (rs := [27]) (by kernel_rfl) (by simp) ?_
                  refine AllReadyZ.last rfl (fun K hK => ?_) ?_
                  · have hc3 := hHeld.1
                    have hf3 := FZ.out _ hHeld.2.2
                    go_simp
                    refine hK.out _ _ ?_
                    clear hK K
                    try simp only [Act.put, List.setIfInBounds_toArray, List.set_cons_zero, List.set_cons_succ]
                    refine wpAnyZ_done (by kernel_rfl) ?_ _
                    have hfin := ref_set HR.out hG3
                    have hfr := hG3.far
                    clear hHeld c0
                    go_wp2_with fail
                    go_end0
                    refine ⟨⟨_, rfl⟩, _, by rw [HI.out]; simpa using hfin.1, HT.out.then hfin.2 (fun _ _ h => h), fun c hc => by have := hfr c hc; have := HT.out.size; omega⟩
                  exact AllReadyZ.nil
                exact AllReadyZ.nil
              exact AllReadyZ.nil
            exact AllReadyZ.nil
          exact AllReadyZ.nil
        exact AllReadyZ.nil
      · have hc1 : ¬ (cap : Int) = (k : Int) := by omega
        have SRC24 := Lib.hid (show ∀ w, Made W w → SrcAt encT w (.slice (some ⟨g, k * 3, none⟩) (L.length - k) (cap - k)) (L.drop k) from fun w hm => SrcAt.post encT_len (HR.out.own.turns hm (fun _ _ h => h)) hk rfl rfl)
        refine wp_region_z (S := fun w' => w'.cell? ⟨b, 0, none⟩ = some (.slice (some ⟨g, 0, none⟩) L.length cap) ∧ w'.cell? ⟨b, 1, none⟩ = some (.int .i64 (sq + 1)) ∧ Made W w') 27 (by kernel_rfl) ?_ (fun hHeld => ?_)
        · exact KS.out _ (Turns.drew (Turns.refl _ W))
        generalize W.drew = w0 at *
        refine takeZ (i := 0) (d := some 36) (v := ?_) rfl rfl (by kernel_rfl) (by kernel_rfl) (by kernel_rfl) (by kernel_rfl) (fun _ _ _ h => h) (Or.inl ⟨by rfl, ?_⟩) (by assumption) ?_
        rotate_left
        · intro w hSw
          try dsimp only at hSw
          go_simp
          try with_reducible rfl
        try simp only [Act.put, List.setIfInBounds_toArray, List.set_cons_zero, List.set_cons_succ]
        refine takeZ (i := 2) (d := some 38) (v := ?_) rfl rfl (by kernel_rfl) (by kernel_rfl) (by kernel_rfl) (by kernel_rfl) (fun _ _ _ h => h) (Or.inl ⟨by rfl, ?_⟩) (by assumption) ?_
        rotate_left
        · intro w hSw
          try dsimp only at hSw
          go_simp
          try with_reducible rfl
        try simp only [Act.put, List.setIfInBounds_toArray, List.set_cons_zero, List.set_cons_succ]
        refine takeZ (i := 3) (d := some 39) (v := ?_) rfl rfl (by kernel_rfl) (by kernel_rfl) (by kernel_rfl) (by kernel_rfl) (fun _ _ _ h => h) (Or.inl ⟨by rfl, ?_⟩) (by assumption) ?_
        rotate_left
        · intro w hSw
          try dsimp only at hSw
          go_simp
          try with_reducible rfl
        try simp only [Act.put, List.setIfInBounds_toArray, List.set_cons_zero, List.set_cons_succ]
        refine takeZ (i := 4) (d := some 40) (v := ?_) rfl rfl (by kernel_rfl) (by kernel_rfl) (by kernel_rfl) (by kernel_rfl) (fun _ _ _ h => h) (Or.inl ⟨by rfl, ?_⟩) (by assumption) ?_
        rotate_left
        · intro w hSw
          try dsimp only at hSw
          go_simp
          try with_reducible rfl
        try simp only [Act.put, List.setIfInBounds_toArray, List.set_cons_zero, List.set_cons_succ]
        refine takeZ (i := 5) (d := some 41) (v := ?_) rfl rfl (by kernel_rfl) (by kernel_rfl) (by kernel_rfl) (by kernel_rfl) (fun _ _ _ h => h) (Or.inl ⟨by rfl, ?_⟩) (by assumption) ?_
        rotate_left
        · intro w hSw
          try dsimp only at hSw
          have h0 := hSw.1
          go_simp
          try with_reducible rfl
        try simp only [Act.put, List.setIfInBounds_toArray, List.set_cons_zero, List.set_cons_succ]
        refine takeZ (i := 6) (d := some 42) (v := ?_) rfl rfl (by kernel_rfl) (by kernel_rfl) (by kernel_rfl) (by kernel_rfl) (fun _ _ _ h => h) (Or.inl ⟨by rfl, ?_⟩) (by assumption) ?_
        rotate_left
        · intro w hSw
          try dsimp only at hSw
          go_simp
          try with_reducible rfl
        try simp only [Act.put, List.setIfInBounds_toArray, List.set_cons_zero, List.set_cons_succ]
        refine takeZ (i := 7) (d := some 43) (v := ?_) rfl rfl (by kernel_rfl) (by kernel_rfl) (by kernel_rfl) (by kernel_rfl) (fun _ _ _ h => h) (Or.inl ⟨by rfl, ?_⟩) (by assumption) ?_
        rotate_left
        · intro w hSw
          try dsimp only at hSw
          go_simp
          try with_reducible rfl
        try simp only [Act.put, List.setIfInBounds_toArray, List.set_cons_zero, List.set_cons_succ]
        refine takeZ (i := 9) (d := some 45) (v := ?_) rfl rfl (by kernel_rfl) (by kernel_rfl) (by kernel_rfl) (by kernel_rfl) (fun _ _ _ h => h) (Or.inl ⟨by rfl, ?_⟩) (by assumption) ?_
        rotate_left
        · intro w hSw
          try dsimp only at hSw
          go_simp
          try with_reducible rfl
        try simp only [Act.put, List.setIfInBounds_toArray, List.set_cons_zero, List.set_cons_succ]
        refine takeZ (i := 10) (d := some 46) (v := ?_) rfl rfl (by kernel_rfl) (by kernel_rfl) (by kernel_rfl) (by kernel_rfl) (fun _ _ _ h => h) (Or.inl ⟨by rfl, ?_⟩) (by assumption) ?_
        rotate_left
        · intro w hSw
          try dsimp only at hSw
          go_simp
          try with_reducible rfl
        try simp only [Act.put, List.setIfInBounds_toArray, List.set_cons_zero, List.set_cons_succ]
        refine takeZ (i := 11) (d := some 47) (v := ?_) rfl rfl (by kernel_rfl) (by kernel_rfl) (by kernel_rfl) (by kernel_rfl) (fun _ _ _ h => h) (Or.inl ⟨by rfl, ?_⟩) (by assumption) ?_
        rotate_left
        · intro w hSw
          try dsimp only at hSw
          go_simp
          try with_reducible rfl
        try simp only [Act.put, List.setIfInBounds_toArray, List.set_cons_zero, List.set_cons_succ]
        refine takeZ (i := 12) (d := some 48) (v := ?_) rfl rfl (by kernel_rfl) (by kernel_rfl) (by kernel_rfl) (by kernel_rfl) (fun _ _ _ h => h) (Or.inl ⟨by rfl, ?_⟩) (by assumption) ?_
        rotate_left
        · intro w hSw
          try dsimp only at hSw
          go_simp
          try with_reducible rfl
        try simp only [Act.put, List.setIfInBounds_toArray, List.set_cons_zero, List.set_cons_succ]
        refine takeZ (i := 13) (d := some 49) (v := ?_) rfl rfl (by kernel_rfl) (by kernel_rfl) (by kernel_rfl) (by kernel_rfl) (fun _ _ _ h => h) (Or.inl ⟨by rfl, ?_⟩) (by assumption) ?_
        rotate_left
        · intro w hSw
          try dsimp only at hSw
          go_simp
          try with_reducible rfl
        try simp only [Act.put, List.setIfInBounds_toArray, List.set_cons_zero, List.set_cons_succ]
        refine takeZ (i := 14) (d := some 50) (v := ?_) rfl rfl (by kernel_rfl) (by kernel_rfl) (by kernel_rfl) (by kernel_rfl) (fun _ _ _ h => h) (Or.inl ⟨by rfl, ?_⟩) (by assumption) ?_
        rotate_left
        · intro w hSw
          try dsimp only at hSw
          have h1 := hSw.2.1
          go_simp
          try with_reducible rfl
        try simp only [Act.put, List.setIfInBounds_toArray, List.set_cons_zero, List.set_cons_succ]
        refine takeZ (i := 15) (d := some 51) (v := ?_) rfl rfl (by kernel_rfl) (by kernel_rfl) (by kernel_rfl) (by kernel_rfl) (fun _ _ _ h => h) (Or.inl ⟨by rfl, ?_⟩) (by assumption) ?_
        rotate_left
        · intro w hSw
          try dsimp only at hSw
          go_simp
          try with_reducible rfl
        try simp only [Act.put, List.setIfInBounds_toArray, List.set_cons_zero, List.set_cons_succ]
        refine takeZ (i := 18) (d := some 54) (v := ?_) rfl rfl (by kernel_rfl) (by kernel_rfl) (by kernel_rfl) (by kernel_rfl) (fun _ _ _ h => h) (Or.inl ⟨by rfl, ?_⟩) (by assumption) ?_
        rotate_left
        · intro w hSw
          try dsimp only at hSw
          go_simp
          try with_reducible rfl
        try simp only [Act.put, List.setIfInBounds_toArray, List.set_cons_zero, List.set_cons_succ]
        refine takeZ (i := 19) (d := some 55) (v := ?_) rfl rfl (by kernel_rfl) (by kernel_rfl) (by kernel_rfl) (by kernel_rfl) (fun _ _ _ h => h) (Or.inl ⟨by rfl, ?_⟩) (by assumption) ?_
        rotate_left
        · intro w hSw
          try dsimp only at hSw
          go_simp
          try with_reducible rfl
        try simp only [Act.put, List.setIfInBounds_toArray, List.set_cons_zero, List.set_cons_succ]
        refine takeZ (i := 20) (d := some 56) (v := ?_) rfl rfl (by kernel_rfl) (by kernel_rfl) (by kernel_rfl) (by kernel_rfl) (fun _ _ _ h => h) (Or.inl ⟨by rfl, ?_⟩) (by assumption) ?_
        rotate_left
        · intro w hSw
          try dsimp only at hSw
          go_simp
          try with_reducible rfl
        try simp only [Act.put, List.setIfInBounds_toArray, List.set_cons_zero, List.set_cons_succ]
        refine takeZ (i := 21) (d := some 57) (v := ?_) rfl rfl (by kernel_rfl) (by kernel_rfl) (by kernel_rfl) (by kernel_rfl) (fun _ _ _ h => h) (Or.inl ⟨by rfl, ?_⟩) (by assumption) ?_
        rotate_left
        · intro w hSw
          try dsimp only at hSw
          have h0 := hSw.1
          go_simp
          try with_reducible rfl
        try simp only [Act.put, List.setIfInBounds_toArray, List.set_cons_zero, List.set_cons_succ]
        refine takeZ (i := 22) (d := some 58) (v := ?_) rfl rfl (by kernel_rfl) (by kernel_rfl) (by kernel_rfl) (by kernel_rfl) (fun _ _ _ h => h) (Or.inl ⟨by rfl, ?_⟩) (by assumption) ?_
        rotate_left
        · intro w hSw
          try dsimp only at hSw
          go_simp
          try with_reducible rfl
        try simp only [Act.put, List.setIfInBounds_toArray, List.set_cons_zero, List.set_cons_succ]
        refine takeZ (i := 23) (d := some 59) (v := ?_) rfl rfl (by kernel_rfl) (by kernel_rfl) (by kernel_rfl) (by kernel_rfl) (fun _ _ _ h => h) (Or.inl ⟨by rfl, ?_⟩) (by assumption) ?_
        rotate_left
        · intro w hSw
          try dsimp only at hSw
          go_simp
          try with_reducible rfl
        try simp only [Act.put, List.setIfInBounds_toArray, List.set_cons_zero, List.set_cons_succ]
        refine wpAnyZ_ready (rs := [1, 16]) (by kernel_rfl) (by simp) ?_
        refine AllReadyZ.cons rfl (fun K hK => ?_) ?_
        · refine step_empty encT 3 rfl _ (by rfl) i0 _ Try.underlying47 hi0 hz0 hHeld.2.2 ?_
          intro bE wE hGE hTE hLE
          refine hK.out _ _ ?_ (fun hHeld => ?_)
          · exact KS.out _ hGE.made
          clear hK K
          try simp only [Act.put, List.setIfInBounds_toArray, List.set_cons_zero, List.set_cons_succ]
          clear hTE
          refine wpAnyZ_ready (rs := [8, 16]) (by kernel_rfl) (by simp) ?_
          refine AllReadyZ.cons rfl (fun K hK => ?_) ?_
          · refine step_grow rfl _ _ _ (by rfl) i0 _ 24 Try.underlying47 hi0 hz0 hz1 hz2 rfl (by omega) encT_len encT_one1 (by rfl) hGE (by rfl) (SRC8.out _ hHeld.2.2) (by simp only [List.length_append, List.length_take, List.length_drop, List.length_nil, List.length_cons, maxLen]; omega) (by simp only [List.length_append, List.length_take, List.length_drop, List.length_nil, List.length_cons, maxLen]; omega) ?_
            intro v1 w1 hG1 hF1 hS1 hO1
            refine hK.out _ _ ?_ (fun hHeld => ?_)
            · exact KS.out _ hG1.made
            clear hK K
            try simp only [Act.put, List.setIfInBounds_toArray, List.set_cons_zero, List.set_cons_succ]
            clear hF1 hS1 hO1 hGE
            refine wpAnyZ_ready (rs := [16]) (by kernel_rfl) (by simp) ?_
            refine AllReadyZ.cons rfl (fun K hK => ?_) ?_
            · refine step_single rfl _ (.tmp 51) (by rfl) i0 _ Try.underlying47 hi0 hz0 (by rw [hz1]; decide) (by rw [hz1]; decide) #[.int .i64 id, .int .i64 when, .int .i64 (sq + 1)] (by rfl) (fillIt hz1 _ _ _) ?_
              intro bX wX hTX hBX hLX
              refine hK.out _ _ ?_ (fun hHeld => ?_)
              · exact KS.out _ (hHeld.2.2.trans hTX)
              clear hK K
              try simp only [Act.put, List.setIfInBounds_toArray, List.set_cons_zero, List.set_cons_succ]
              have hBXlt := hBX.lt
              replace hG1 := hG1.turns hTX (fun _ _ h => h) (fun _ _ h => h)
              clear hTX
              refine wpAnyZ_ready (rs := [17]) (by kernel_rfl) (by simp) ?_
              refine AllReadyZ.cons rfl (fun K hK => ?_) ?_
              · refine step_grow rfl _ _ _ (by rfl) i0 _ 24 Try.underlying47 hi0 hz0 hz1 hz2 rfl (by omega) encT_len encT_one1 (by rfl) hG1 (by rfl) (SrcAt.block (N := [(⟨id, when, sq + 1⟩ : It)]) hBX rfl (by simp [flat, encT])) (by simp only [List.length_append, List.length_take, List.length_drop, List.length_nil, List.length_cons, maxLen]; omega) (by simp only [List.length_append, List.length_take, List.length_drop, List.length_nil, List.length_cons, maxLen]; omega) ?_
                intro v2 w2 hG2 hF2 hS2 hO2
                refine hK.out _ _ ?_ (fun hHeld => ?_)
                · exact KS.out _ hG2.made
                clear hK K
                try simp only [Act.put, List.setIfInBounds_toArray, List.set_cons_zero, List.set_cons_succ]
                clear hF2 hS2 hO2 hG1
                refine wpAnyZ_ready (rs := [24]) (by kernel_rfl) (by simp) ?_
                refine AllReadyZ.cons rfl (fun K hK => ?_) ?_
                · refine step_grow rfl _ _ _ (by rfl) i0 _ 24 Try.underlying47 hi0 hz0 hz1 hz2 rfl (by omega) encT_len encT_one1 (by rfl) hG2 (by rfl) (SRC24.out _ hHeld.2.2) (by simp only [List.length_append, List.length_take, List.length_drop, List.length_nil, List.length_cons, maxLen]; omega) (by simp only [List.length_append, List.length_take, List.length_drop, List.length_nil, List.length_cons, maxLen]; omega) ?_
                  intro v3 w3 hG3 hF3 hS3 hO3
                  obtain ⟨a3, n3, c3, rfl⟩ : ∃ a n c, v3 = .slice a n c := by obtain ⟨a, c, h⟩ := owns_slice hG3.own; exact ⟨_, _, _, h⟩
                  refine hK.out _ _ ?_ (fun hHeld => ?_)
                  · exact KS.out _ hG3.made
                  clear hK K
                  try simp only [Act.put, List.setIfInBounds_toArray, List.set_cons_zero, List.set_cons_succ]
                  clear hF3 hS3 hO3 hG2
                  refine wpAnyZ_ready (rs := [25]) (by kernel_rfl) (by simp) ?_
                  refine AllReadyZ.cons rfl (fun K hK => ?_) AllReadyZ.nil
                  go_simp
                  refine hK.out _ _ hHeld (fun hHeld => ?_)
                  clear hK K
                  try simp only [Act.put, List.setIfInBounds_toArray, List.set_cons_zero, List.set_cons_succ]
                  refine takeZ (i := 26) (d := some 62) (v := ?_) rfl rfl (by kernel_rfl) (by kernel_rfl) (by kernel_rfl) (by kernel_rfl) (fun _ _ _ h => h) (Or.inl ⟨by rfl, ?_⟩) (by assumption) ?_
                  rotate_left
                  · intro w hSw
                    try dsimp only at hSw
                    go_simp
                    try with_reducible rfl
                  try simp only [Act.put, List.setIfInBounds_toArray, List.set_cons_zero, List.set_cons_succ]
                  refine wpAnyZ_ready (rs := [27]) (by kernel_rfl) (by simp) ?_
                  refine AllReadyZ.last rfl (fun K hK => ?_) ?_
                  · have hc3 := hHeld.1
                    have hf3 := FZ.out _ hHeld.2.2
                    go_simp
                    refine hK.out _ _ ?_
                    clear hK K
                    try simp only [Act.put, List.setIfInBounds_toArray, List.set_cons_zero, List.set_cons_succ]
                    refine wpAnyZ_done (by kernel_rfl) ?_ _
                    have hfin := ref_set HR.out hG3
                    have hfr := hG3.far
                    clear hHeld c0
                    go_wp2_with fail
                    go_end0
                    refine ⟨⟨_, rfl⟩, _, by rw [HI.out]; simpa using hfin.1, HT.out.then hfin.2 (fun _ _ h => h), fun c hc => by have := hfr c hc; have := HT.out.size; omega⟩
                  exact AllReadyZ.nil
                exact AllReadyZ.nil
              exact AllReadyZ.nil
            exact AllReadyZ.nil
          refine AllReadyZ.cons rfl (fun K hK => ?_) ?_
          · refine step_single rfl _ (.tmp 51) (by rfl) i0 _ Try.underlying47 hi0 hz0 (by rw [hz1]; decide) (by rw [hz1]; decide) #[.int .i64 id, .int .i64 when, .int .i64 (sq + 1)] (by rfl) (fillIt hz1 _ _ _) ?_
            intro bX wX hTX hBX hLX
            refine hK.out _ _ ?_ (fun hHeld => ?_)
            · exact KS.out _ (hHeld.2.2.trans hTX)
            clear hK K
            try simp only [Act.put, List.setIfInBounds_toArray, List.set_cons_zero, List.set_cons_succ]
            have hBXlt := hBX.lt
            have hne : bE ≠ bX := by have h : bE < wE.heap.size := hGE.own.lt rfl; omega
            replace hGE := hGE.turns hTX (fun _ _ h => h) (fun _ _ h => h)
            clear hTX
            refine wpAnyZ_ready (rs := [8]) (by kernel_rfl) (by simp) ?_
            refine AllReadyZ.cons rfl (fun K hK => ?_) ?_
            · refine step_grow rfl _ _ _ (by rfl) i0 _ 24 Try.underlying47 hi0 hz0 hz1 hz2 rfl (by omega) encT_len encT_one1 (by rfl) hGE (by rfl) (SRC8.out _ hHeld.2.2) (by simp only [List.length_append, List.length_take, List.length_drop, List.length_nil, List.length_cons, maxLen]; omega) (by simp only [List.length_append, List.length_take, List.length_drop, List.length_nil, List.length_cons, maxLen]; omega) ?_
              intro v1 w1 hG1 hF1 hS1 hO1
              refine hK.out _ _ ?_ (fun hHeld => ?_)
              · exact KS.out _ hG1.made
              clear hK K
              try simp only [Act.put, List.setIfInBounds_toArray, List.set_cons_zero, List.set_cons_succ]
              replace hBX : Blk w1 bX _ _ := (hF1 bX hBX.lt (fun e => hne (by simpa [Value.ownBlock] using e))).trans hBX
              clear hF1 hS1 hO1 hGE
              refine wpAnyZ_ready (rs := [17]) (by kernel_rfl) (by simp) ?_
              refine AllReadyZ.cons rfl (fun K hK => ?_) ?_
              · refine step_grow rfl _ _ _ (by rfl) i0 _ 24 Try.underlying47 hi0 hz0 hz1 hz2 rfl (by omega) encT_len encT_one1 (by rfl) hG1 (by rfl) (SrcAt.block (N := [(⟨id, when, sq + 1⟩ : It)]) hBX rfl (by simp [flat, encT])) (by simp only [List.length_append, List.length_take, List.length_drop, List.length_nil, List.length_cons, maxLen]; omega) (by simp only [List.length_append, List.length_take, List.length_drop, List.length_nil, List.length_cons, maxLen]; omega) ?_
                intro v2 w2 hG2 hF2 hS2 hO2
                refine hK.out _ _ ?_ (fun hHeld => ?_)
                · exact KS.out _ hG2.made
                clear hK K
                try simp only [Act.put, List.setIfInBounds_toArray, List.set_cons_zero, List.set_cons_succ]
                clear hF2 hS2 hO2 hG1
                refine wpAnyZ_ready (rs := [24]) (by kernel_rfl) (by simp) ?_
                refine AllReadyZ.cons rfl (fun K hK => ?_) ?_
                · refine step_grow rfl _ _ _ (by rfl) i0 _ 24 Try.underlying47 hi0 hz0 hz1 hz2 rfl (by omega) encT_len encT_one1 (by rfl) hG2 (by rfl) (SRC24.out _ hHeld.2.2) (by simp only [List.length_append, List.length_take, List.length_drop, List.length_nil, List.length_cons, maxLen]; omega) (by simp only [List.length_append, List.length_take, List.length_drop, List.length_nil, List.length_cons, maxLen]; omega) ?_
                  intro v3 w3 hG3 hF3 hS3 hO3
                  obtain ⟨a3, n3, c3, rfl⟩ : ∃ a n c, v3 = .slice a n c := by obtain ⟨a, c, h⟩ := owns_slice hG3.own; exact ⟨_, _, _, h⟩
                  refine hK.out _ _ ?_ (fun hHeld => ?_)
                  · exact KS.out _ hG3.made
                  clear hK K
                  try simp only [Act.put, List.setIfInBounds_toArray, List.set_cons_zero, List.set_cons_succ]
                  clear hF3 hS3 hO3 hG2
                  refine wpAnyZ_ready (rs := [25]) (by kernel_rfl) (by simp) ?_
                  refine AllReadyZ.cons rfl (fun K hK => ?_) AllReadyZ.nil
                  go_simp
                  refine hK.out _ _ hHeld (fun hHeld => ?_)
                  clear hK K
                  try simp only [Act.put, List.setIfInBounds_toArray, List.set_cons_zero, List.set_cons_succ]
                  refine takeZ (i := 26) (d := some 62) (v := ?_) rfl rfl (by kernel_rfl) (by kernel_rfl) (by kernel_rfl) (by kernel_rfl) (fun _ _ _ h => h) (Or.inl ⟨by rfl, ?_⟩) (by assumption) ?_
                  rotate_left
                  · intro w hSw
                    try dsimp only at hSw
                    go_simp
                    try with_reducible rfl
                  try simp only [Act.put, List.setIfInBounds_toArray, List.set_cons_zero, List.set_cons_succ]
                  refine wpAnyZ_ready (rs := [27]) (by kernel_rfl) (by simp) ?_
                  refine AllReadyZ.last rfl (fun K hK => ?_) ?_
                  · have hc3 := hHeld.1
                    have hf3 := FZ.out _ hHeld.2.2
                    go_simp
                    refine hK.out _ _ ?_
                    clear hK K
                    try simp only [Act.put, List.setIfInBounds_toArray, List.set_cons_zero, List.set_cons_succ]
                    refine wpAnyZ_done (by kernel_rfl) ?_ _
                    have hfin := ref_set HR.out hG3
                    have hfr := hG3.far
                    clear hHeld c0
                    go_wp2_with fail
                    go_end0
                    refine ⟨⟨_, rfl⟩, _, by rw [HI.out]; simpa using hfin.1, HT.out.then hfin.2 (fun _ _ h => h), fun c hc => by have := hfr c hc; have := HT.out.size; omega⟩
                  exact AllReadyZ.nil
                exact AllReadyZ.nil
              exact AllReadyZ.nil
            exact AllReadyZ.nil
          exact AllReadyZ.nil
        refine AllReadyZ.cons rfl (fun K hK => ?_) ?_
        · refine step_single rfl _ (.tmp 51) (by rfl) i0 _ Try.underlying47 hi0 hz0 (by rw [hz1]; decide) (by rw [hz1]; decide) #[.int .i64 id, .int .i64 when, .int .i64 (sq + 1)] (by rfl) (fillIt hz1 _ _ _) ?_
          intro bX wX hTX hBX hLX
          refine hK.out _ _ ?_ (fun hHeld => ?_)
          · exact KS.out _ (hHeld.2.2.trans hTX)
          clear hK K
          try simp only [Act.put, List.setIfInBounds_toArray, List.set_cons_zero, List.set_cons_succ]
          have hBXlt := hBX.lt
          clear hTX
          refine wpAnyZ_ready (rs := [1]) (by kernel_rfl) (by simp) ?_
          refine AllReadyZ.cons rfl (fun K hK => ?_) ?_
          · refine step_empty encT 3 rfl _ (by rfl) i0 _ Try.underlying47 hi0 hz0 hHeld.2.2 ?_
            intro bE wE hGE hTE hLE
            refine hK.out _ _ ?_ (fun hHeld => ?_)
            · exact KS.out _ hGE.made
            clear hK K
            try simp only [Act.put, List.setIfInBounds_toArray, List.set_cons_zero, List.set_cons_succ]
            replace hBX := hBX.turns hTE (fun h => h)
            have hne : bE ≠ bX := by have := hLX; have := hBXlt; omega
            clear hTE
            refine wpAnyZ_ready (rs := [8]) (by kernel_rfl) (by simp) ?_
            refine AllReadyZ.cons rfl (fun K hK => ?_) ?_
            · refine step_grow rfl _ _ _ (by rfl) i0 _ 24 Try.underlying47 hi0 hz0 hz1 hz2 rfl (by omega) encT_len encT_one1 (by rfl) hGE (by rfl) (SRC8.out _ hHeld.2.2) (by simp only [List.length_append, List.length_take, List.length_drop, List.length_nil, List.length_cons, maxLen]; omega) (by simp only [List.length_append, List.length_take, List.length_drop, List.length_nil, List.length_cons, maxLen]; omega) ?_
              intro v1 w1 hG1 hF1 hS1 hO1
              refine hK.out _ _ ?_ (fun hHeld => ?_)
              · exact KS.out _ hG1.made
              clear hK K
              try simp only [Act.put, List.setIfInBounds_toArray, List.set_cons_zero, List.set_cons_succ]
              replace hBX : Blk w1 bX _ _ := (hF1 bX hBX.lt (fun e => hne (by simpa [Value.ownBlock] using e))).trans hBX
              clear hF1 hS1 hO1 hGE
              refine wpAnyZ_ready (rs := [17]) (by kernel_rfl) (by simp) ?_
              refine AllReadyZ.cons rfl (fun K hK => ?_) ?_
              · refine step_grow rfl _ _ _ (by rfl) i0 _ 24 Try.underlying47 hi0 hz0 hz1 hz2 rfl (by omega) encT_len encT_one1 (by rfl) hG1 (by rfl) (SrcAt.block (N := [(⟨id, when, sq + 1⟩ : It)]) hBX rfl (by simp [flat, encT])) (by simp only [List.length_append, List.length_take, List.length_drop, List.length_nil, List.length_cons, maxLen]; omega) (by simp only [List.length_append, List.length_take, List.length_drop, List.length_nil, List.length_cons, maxLen]; omega) ?_
                intro v2 w2 hG2 hF2 hS2 hO2
                refine hK.out _ _ ?_ (fun hHeld => ?_)
                · exact KS.out _ hG2.made
                clear hK K
                try simp only [Act.put, List.setIfInBounds_toArray, List.set_cons_zero, List.set_cons_succ]
                clear hF2 hS2 hO2 hG1
                refine wpAnyZ_ready (rs := [24]) (by kernel_rfl) (by simp) ?_
                refine AllReadyZ.cons rfl (fun K hK => ?_) ?_
                · refine step_grow rfl _ _ _ (by rfl) i0 _ 24 Try.underlying47 hi0 hz0 hz1 hz2 rfl (by omega) encT_len encT_one1 (by rfl) hG2 (by rfl) (SRC24.out _ hHeld.2.2) (by simp only [List.length_append, List.length_take, List.length_drop, List.length_nil, List.length_cons, maxLen]; omega) (by simp only [List.length_append, List.length_take, List.length_drop, List.length_nil, List.length_cons, maxLen]; omega) ?_
                  intro v3 w3 hG3 hF3 hS3 hO3
                  obtain ⟨a3, n3, c3, rfl⟩ : ∃ a n c, v3 = .slice a n c := by obtain ⟨a, c, h⟩ := owns_slice hG3.own; exact ⟨_, _, _, h⟩
                  refine hK.out _ _ ?_ (fun hHeld => ?_)
                  · exact KS.out _ hG3.made
                  clear hK K
                  try simp only [Act.put, List.setIfInBounds_toArray, List.set_cons_zero, List.set_cons_succ]
                  clear hF3 hS3 hO3 hG2
                  refine wpAnyZ_ready (rs := [25]) (by kernel_rfl) (by simp) ?_
                  refine AllReadyZ.cons rfl (fun K hK => ?_) AllReadyZ.nil
                  go_simp
                  refine hK.out _ _ hHeld (fun hHeld => ?_)
                  clear hK K
                  try simp only [Act.put, List.setIfInBounds_toArray, List.set_cons_zero, List.set_cons_succ]
                  refine takeZ (i := 26) (d := some 62) (v := ?_) rfl rfl (by kernel_rfl) (by kernel_rfl) (by kernel_rfl) (by kernel_rfl) (fun _ _ _ h => h) (Or.inl ⟨by rfl, ?_⟩) (by assumption) ?_
                  rotate_left
                  · intro w hSw
                    try dsimp only at hSw
                    go_simp
                    try with_reducible rfl
                  try simp only [Act.put, List.setIfInBounds_toArray, List.set_cons_zero, List.set_cons_succ]
                  refine wpAnyZ_ready (rs := [27]) (by kernel_rfl) (by simp) ?_
                  refine AllReadyZ.last rfl (fun K hK => ?_) ?_
                  · have hc3 := hHeld.1
                    have hf3 := FZ.out _ hHeld.2.2
                    go_simp
                    refine hK.out _ _ ?_
                    clear hK K
                    try simp only [Act.put, List.setIfInBounds_toArray, List.set_cons_zero, List.set_cons_succ]
                    refine wpAnyZ_done (by kernel_rfl) ?_ _
                    have hfin := ref_set HR.out hG3
                    have hfr := hG3.far
                    clear hHeld c0
                    go_wp2_with fail
                    go_end0
                    refine ⟨⟨_, rfl⟩, _, by rw [HI.out]; simpa using hfin.1, HT.out.then hfin.2 (fun _ _ h => h), fun c hc => by have := hfr c hc; have := HT.out.size; omega⟩
                  exact AllReadyZ.nil
                exact AllReadyZ.nil
              exact AllReadyZ.nil
            exact AllReadyZ.nil
          exact AllReadyZ.nil
        exact AllReadyZ.nil
    · obtain ⟨m, hkm⟩ : ∃ m, k = m + 1 := ⟨k - 1, by omega⟩
      obtain ⟨y, hy⟩ := get_of_lt (xs := L) (k := m) (by omega)
      have e1 := Owns.cell encT_len HR.out.own hy (j := 1) rfl
      have m0 : (0 : Int) < (k : Int) := by omega
      have m1 : IntKind.i64.wrap ((k : Int) - 1) = (m : Int) := by rw [show (k : Int) - 1 = (m : Int) from by omega]; exact wrap_in _ (by omega)
      have m3 : (0 : Int) ≤ (m : Int) := Int.natCast_nonneg _
      have m4 : (m : Int) < (L.length : Int) := by omega
      have HKM := Lib.hid hkm
      by_cases hlt : when < y.when
      · have hdr' : ∀ z ∈ L.drop m, when < z.when := by
          intro z hz
          rw [show L.drop m = y :: L.drop (m + 1) from by
            obtain ⟨hl, rfl⟩ := List.getElem?_eq_some_iff.1 hy
            exact List.drop_eq_getElem_cons hl] at hz
          rcases List.mem_cons.1 hz with rfl | hz
          · exact hlt
          · exact hdr z (by rw [hkm]; exact hz)
        have HDR := Lib.hid hdr'
        clear hdr hdr' hy hkm hk0
        go_wp2_with fail
        go_roundw
        case rel => exact ⟨m, by have := HKM.out; omega, by first | rfl | go_num, by trivial, HDR.out⟩
        case measure => simp [intOf]; have := HKM.out; omega
      · have HI := Lib.hid (ins_cut id when sq HRI.out HSQ.out hk hdr (.inr ⟨m, y, hkm, hy, hlt⟩))
        clear hdr hy hkm hk0
        go_wp2_with fail
        clear e1 m1 m3 m4
        have i1 : (0 : Int) ≤ (k : Int) := Int.natCast_nonneg _
        by_cases hcap : cap = k
        · subst hcap
          have SRC24 := Lib.hid (show ∀ w, Made W w → SrcAt encT w (.slice (some ⟨g, 0, none⟩) 0 0) (L.drop cap) from fun w _ => SrcAt.none_left (by omega))
          refine wp_region_z (S := fun w' => w'.cell? ⟨b, 0, none⟩ = some (.slice (some ⟨g, 0, none⟩) L.length cap) ∧ w'.cell? ⟨b, 1, none⟩ = some (.int .i64 (sq + 1)) ∧ Made W w') 27 (by kernel_rfl) ?_ (fun hHeld => ?_)
          · exact KS.out _ (Turns.drew (Turns.refl _ W))
          generalize W.drew = w0 at *
          refine takeZ (i := 0) (d := some 36) (v := ?_) rfl rfl (by kernel_rfl) (by kernel_rfl) (by kernel_rfl) (by kernel_rfl) (fun _ _ _ h => h) (Or.inl ⟨by rfl, ?_⟩) (by assumption) ?_
          rotate_left
          · intro w hSw
            try dsimp only at hSw
            go_simp
            try with_reducible rfl
          try simp only [Act.put, List.setIfInBounds_toArray, List.set_cons_zero, List.set_cons_succ]
          refine takeZ (i := 2) (d := some 38) (v := ?_) rfl rfl (by kernel_rfl) (by kernel_rfl) (by kernel_rfl) (by kernel_rfl) (fun _ _ _ h => h) (Or.inl ⟨by rfl, ?_⟩) (by assumption) ?_
          rotate_left
          · intro w hSw
            try dsimp only at hSw
            go_simp
            try with_reducible rfl
          try simp only [Act.put, List.setIfInBounds_toArray, List.set_cons_zero, List.set_cons_succ]
          refine takeZ (i := 3) (d := some 39) (v := ?_) rfl rfl (by kernel_rfl) (by kernel_rfl) (by kernel_rfl) (by kernel_rfl) (fun _ _ _ h => h) (Or.inl ⟨by rfl, ?_⟩) (by assumption) ?_
          rotate_left
          · intro w hSw
            try dsimp only at hSw
            go_simp
            try with_reducible rfl
          try simp only [Act.put, List.setIfInBounds_toArray, List.set_cons_zero, List.set_cons_succ]
          refine takeZ (i := 4) (d := some 40) (v := ?_) rfl rfl (by kernel_rfl) (by kernel_rfl) (by kernel_rfl) (by kernel_rfl) (fun _ _ _ h => h) (Or.inl ⟨by rfl, ?_⟩) (by assumption) ?_
          rotate_left
          · intro w hSw
            try dsimp only at hSw
            go_simp
            try with_reducible rfl
          try simp only [Act.put, List.setIfInBounds_toArray, List.set_cons_zero, List.set_cons_succ]
          refine takeZ (i := 5) (d := some 41) (v := ?_) rfl rfl (by kernel_rfl) (by kernel_rfl) (by kernel_rfl) (by kernel_rfl) (fun _ _ _ h => h) (Or.inl ⟨by rfl, ?_⟩) (by assumption) ?_
          rotate_left
          · intro w hSw
            try dsimp only at hSw
            have h0 := hSw.1
            go_simp
            try with_reducible rfl
          try simp only [Act.put, List.setIfInBounds_toArray, List.set_cons_zero, List.set_cons_succ]
          refine takeZ (i := 6) (d := some 42) (v := ?_) rfl rfl (by kernel_rfl) (by kernel_rfl) (by kernel_rfl) (by kernel_rfl) (fun _ _ _ h => h) (Or.inl ⟨by rfl, ?_⟩) (by assumption) ?_
          rotate_left
          · intro w hSw
            try dsimp only at hSw
            go_simp
            try with_reducible rfl
          try simp only [Act.put, List.setIfInBounds_toArray, List.set_cons_zero, List.set_cons_succ]
          refine takeZ (i := 7) (d := some 43) (v := ?_) rfl rfl (by kernel_rfl) (by kernel_rfl) (by kernel_rfl) (by kernel_rfl) (fun _ _ _ h => h) (Or.inl ⟨by rfl, ?_⟩) (by assumption) ?_
          rotate_left
          · intro w hSw
            try dsimp only at hSw
            go_simp
            try with_reducible rfl
          try simp only [Act.put, List.setIfInBounds_toArray, List.set_cons_zero, List.set_cons_succ]
          refine takeZ (i := 9) (d := some 45) (v := ?_) rfl rfl (by kernel_rfl) (by kernel_rfl) (by kernel_rfl) (by kernel_rfl) (fun _ _ _ h => h) (Or.inl ⟨by rfl, ?_⟩) (by assumption) ?_
          rotate_left
          · intro w hSw
            try dsimp only at hSw
            go_simp
            try with_reducible rfl
          try simp only [Act.put, List.setIfInBounds_toArray, List.set_cons_zero, List.set_cons_succ]
          refine takeZ (i := 10) (d := some 46) (v := ?_) rfl rfl (by kernel_rfl) (by kernel_rfl) (by kernel_rfl) (by kernel_rfl) (fun _ _ _ h => h) (Or.inl ⟨by rfl, ?_⟩) (by assumption) ?_
          rotate_left
          · intro w hSw
            try dsimp only at hSw
            go_simp
            try with_reducible rfl
          try simp only [Act.put, List.setIfInBounds_toArray, List.set_cons_zero, List.set_cons_succ]
          refine takeZ (i := 11) (d := some 47) (v := ?_) rfl rfl (by kernel_rfl) (by kernel_rfl) (by kernel_rfl) (by kernel_rfl) (fun _ _ _ h => h) (Or.inl ⟨by rfl, ?_⟩) (by assumption) ?_
          rotate_left
          · intro w hSw
            try dsimp only at hSw
            go_simp
            try with_reducible rfl
          try simp only [Act.put, List.setIfInBounds_toArray, List.set_cons_zero, List.set_cons_succ]
          refine takeZ (i := 12) (d := some 48) (v := ?_) rfl rfl (by kernel_rfl) (by kernel_rfl) (by kernel_rfl) (by kernel_rfl) (fun _ _ _ h => h) (Or.inl ⟨by rfl, ?_⟩) (by assumption) ?_
          rotate_left
          · intro w hSw
            try dsimp only at hSw
            go_simp
            try with_reducible rfl
          try simp only [Act.put, List.setIfInBounds_toArray, List.set_cons_zero, List.set_cons_succ]
          refine takeZ (i := 13) (d := some 49) (v := ?_) rfl rfl (by kernel_rfl) (by kernel_rfl) (by kernel_rfl) (by kernel_rfl) (fun _ _ _ h => h) (Or.inl ⟨by rfl, ?_⟩) (by assumption) ?_
          rotate_left
          · intro w hSw
            try dsimp only at hSw
            go_simp
            try with_reducible rfl
          try simp only [Act.put, List.setIfInBounds_toArray, List.set_cons_zero, List.set_cons_succ]
          refine takeZ (i := 14) (d := some 50) (v := ?_) rfl rfl (by kernel_rfl) (by kernel_rfl) (by kernel_rfl) (by kernel_rfl) (fun _ _ _ h => h) (Or.inl ⟨by rfl, ?_⟩) (by assumption) ?_
          rotate_left
          · intro w hSw
            try dsimp only at hSw
            have h1 := hSw.2.1
            go_simp
            try with_reducible rfl
          try simp only [Act.put, List.setIfInBounds_toArray, List.set_cons_zero, List.set_cons_succ]
          refine takeZ (i := 15) (d := some 51) (v := ?_) rfl rfl (by kernel_rfl) (by kernel_rfl) (by kernel_rfl) (by kernel_rfl) (fun _ _ _ h => h) (Or.inl ⟨by rfl, ?_⟩) (by assumption) ?_
          rotate_left
          · intro w hSw
            try dsimp only at hSw
            go_simp
            try with_reducible rfl
          try simp only [Act.put, List.setIfInBounds_toArray, List.set_cons_zero, List.set_cons_succ]
          refine takeZ (i := 18) (d := some 54) (v := ?_) rfl rfl (by kernel_rfl) (by kernel_rfl) (by kernel_rfl) (by kernel_rfl) (fun _ _ _ h => h) (Or.inl ⟨by rfl, ?_⟩) (by assumption) ?_
          rotate_left
          · intro w hSw
            try dsimp only at hSw
            go_simp
            try with_reducible rfl
          try simp only [Act.put, List.setIfInBounds_toArray, List.set_cons_zero, List.set_cons_succ]
          refine takeZ (i := 19) (d := some 55) (v := ?_) rfl rfl (by kernel_rfl) (by kernel_rfl) (by kernel_rfl) (by kernel_rfl) (fun _ _ _ h => h) (Or.inl ⟨by rfl, ?_⟩) (by assumption) ?_
          rotate_left
          · intro w hSw
            try dsimp only at hSw
            go_simp
            try with_reducible rfl
          try simp only [Act.put, List.setIfInBounds_toArray, List.set_cons_zero, List.set_cons_succ]
          refine takeZ (i := 20) (d := some 56) (v := ?_) rfl rfl (by kernel_rfl) (by kernel_rfl) (by kernel_rfl) (by kernel_rfl) (fun _ _ _ h => h) (Or.inl ⟨by rfl, ?_⟩) (by assumption) ?_
          rotate_left
          · intro w hSw
            try dsimp only at hSw
            go_simp
            try with_reducible rfl
          try simp only [Act.put, List.setIfInBounds_toArray, List.set_cons_zero, List.set_cons_succ]
          refine takeZ (i := 21) (d := some 57) (v := ?_) rfl rfl (by kernel_rfl) (by kernel_rfl) (by kernel_rfl) (by kernel_rfl) (fun _ _ _ h => h) (Or.inl ⟨by rfl, ?_⟩) (by assumption) ?_
          rotate_left
          · intro w hSw
            try dsimp only at hSw
            have h0 := hSw.1
            go_simp
            try with_reducible rfl
          try simp only [Act.put, List.setIfInBounds_toArray, List.set_cons_zero, List.set_cons_succ]
          refine takeZ (i := 22) (d := some 58) (v := ?_) rfl rfl (by kernel_rfl) (by kernel_rfl) (by kernel_rfl) (by kernel_rfl) (fun _ _ _ h => h) (Or.inl ⟨by rfl, ?_⟩) (by assumption) ?_
          rotate_left
          · intro w hSw
            try dsimp only at hSw
            go_simp
            try with_reducible rfl
          try simp only [Act.put, List.setIfInBounds_toArray, List.set_cons_zero, List.set_cons_succ]
          refine takeZ (i := 23) (d := some 59) (v := ?_) rfl rfl (by kernel_rfl) (by kernel_rfl) (by kernel_rfl) (by kernel_rfl) (fun _ _ _ h => h) (Or.inl ⟨by rfl, ?_⟩) (by assumption) ?_
          rotate_left
          · intro w hSw
            try dsimp only at hSw
            go_simp
            try with_reducible rfl
          try simp only [Act.put, List.setIfInBounds_toArray, List.set_cons_zero, List.set_cons_succ]
          refine wpAnyZ_ready (rs := [1, 16]) (by kernel_rfl) (by simp) ?_
          refine AllReadyZ.cons rfl (fun K hK => ?_) ?_
          · refine step_empty encT 3 rfl _ (by rfl) i0 _ Try.underlying47 hi0 hz0 hHeld.2.2 ?_
            intro bE wE hGE hTE hLE
            refine hK.out _ _ ?_ (fun hHeld => ?_)
            · exact KS.out _ hGE.made
            clear hK K
            try simp only [Act.put, List.setIfInBounds_toArray, List.set_cons_zero, List.set_cons_succ]
            clear hTE
            refine wpAnyZ_ready (rs := [8, 16]) (by kernel_rfl) (by simp) ?_
            refine AllReadyZ.cons rfl (fun K hK => ?_) ?_
            · refine step_grow rfl _ _ _ (by rfl) i0 _ 24 Try.underlying47 hi0 hz0 hz1 hz2 rfl (by omega) encT_len encT_one1 (by rfl) hGE (by rfl) (SRC8.out _ hHeld.2.2) (by simp only [List.length_append, List.length_take, List.length_drop, List.length_nil, List.length_cons, maxLen]; omega) (by simp only [List.length_append, List.length_take, List.length_drop, List.length_nil, List.length_cons, maxLen]; omega) ?_
              intro v1 w1 hG1 hF1 hS1 hO1
              refine hK.out _ _ ?_ (fun hHeld => ?_)
              · exact KS.out _ hG1.made
              clear hK K
              try simp only [Act.put, List.setIfInBounds_toArray, List.set_cons_zero, List.set_cons_succ]
              clear hF1 hS1 hO1 hGE
              refine wpAnyZ_ready (rs := [16]) (by kernel_rfl) (by simp) ?_
              refine AllReadyZ.cons rfl (fun K hK => ?_) ?_
              · refine step_single rfl _ (.tmp 51) (by rfl) i0 _ Try.underlying47 hi0 hz0 (by rw [hz1]; decide) (by rw [hz1]; decide) #[.int .i64 id, .int .i64 when, .int .i64 (sq + 1)] (by rfl) (fillIt hz1 _ _ _) ?_
                intro bX wX hTX hBX hLX
                refine hK.out _ _ ?_ (fun hHeld => ?_)
                · exact KS.out _ (hHeld.2.2.trans hTX)
                clear hK K
                try simp only [Act.put, List.setIfInBounds_toArray, List.set_cons_zero, List.set_cons_succ]
                have hBXlt := hBX.lt
                replace hG1 := hG1.turns hTX (fun _ _ h => h) (fun _ _ h => h)
                clear hTX
                refine wpAnyZ_ready (rs := [17]) (by kernel_rfl) (by simp) ?_
                refine AllReadyZ.cons rfl (fun K hK => ?_) ?_
                · refine step_grow rfl _ _ _ (by rfl) i0 _ 24 Try.underlying47 hi0 hz0 hz1 hz2 rfl (by omega) encT_len encT_one1 (by rfl) hG1 (by rfl) (SrcAt.block (N := [(⟨id, when, sq + 1⟩ : It)]) hBX rfl (by simp [flat, encT])) (by simp only [List.length_append, List.length_take, List.length_drop, List.length_nil, List.length_cons, maxLen]; omega) (by simp only [List.length_append, List.length_take, List.length_drop, List.length_nil, List.length_cons, maxLen]; omega) ?_
                  intro v2 w2 hG2 hF2 hS2 hO2
                  refine hK.out _ _ ?_ (fun hHeld => ?_)
                  · exact KS.out _ hG2.made
                  clear hK K
                  try simp only [Act.put, List.setIfInBounds_toArray, List.set_cons_zero, List.set_cons_succ]
                  clear hF2 hS2 hO2 hG1
                  refine wpAnyZ_ready (rs := [24]) (by kernel_rfl) (by simp) ?_
                  refine AllReadyZ.cons rfl (fun K hK => ?_) ?_
                  · refine step_grow rfl _ _ _ (by rfl) i0 _ 24 Try.underlying47 hi0 hz0 hz1 hz2 rfl (by omega) encT_len encT_one1 (by rfl) hG2 (by rfl) (SRC24.out _ hHeld.2.2) (by simp only [List.length_append, List.length_take, List.length_drop, List.length_nil, List.length_cons, maxLen]; omega) (by simp only [List.length_append, List.length_take, List.length_drop, List.length_nil, List.length_cons, maxLen]; omega) ?_
                    intro v3 w3 hG3 hF3 hS3 hO3
                    obtain ⟨a3, n3, c3, rfl⟩ : ∃ a n c, v3 = .slice a n c := by obtain ⟨a, c, h⟩ := owns_slice hG3.own; exact ⟨_, _, _, h⟩
                    refine hK.out _ _ ?_ (fun hHeld => ?_)
                    · exact KS.out _ hG3.made
                    clear hK K
                    try simp only [Act.put, List.setIfInBounds_toArray, List.set_cons_zero, List.set_cons_succ]
                    clear hF3 hS3 hO3 hG2
                    refine wpAnyZ_ready (rs := [25]) (by kernel_rfl) (by simp) ?_
                    refine AllReadyZ.cons rfl (fun K hK => ?_) AllReadyZ.nil
                    go_simp
                    refine hK.out _ _ hHeld (fun hHeld => ?_)
                    clear hK K
                    try simp only [Act.put, List.setIfInBounds_toArray, List.set_cons_zero, List.set_cons_succ]
                    refine takeZ (i := 26) (d := some 62) (v := ?_) rfl rfl (by kernel_rfl) (by kernel_rfl) (by kernel_rfl) (by kernel_rfl) (fun _ _ _ h => h) (Or.inl ⟨by rfl, ?_⟩) (by assumption) ?_
                    rotate_left
                    · intro w hSw
                      try dsimp only at hSw
                      go_simp
                      try with_reducible rfl
                    try simp only [Act.put, List.setIfInBounds_toArray, List.set_cons_zero, List.set_cons_succ]
                    refine wpAnyZ_ready (rs := [27]) (by kernel_rfl) (by simp) ?_
                    refine AllReadyZ.last rfl (fun K hK => ?_) ?_
                    · have hc3 := hHeld.1
                      have hf3 := FZ.out _ hHeld.2.2
                      go_simp
                      refine hK.out _ _ ?_
                      clear hK K
                      try simp only [Act.put, List.setIfInBounds_toArray, List.set_cons_zero, List.set_cons_succ]
                      refine wpAnyZ_done (by kernel_rfl) ?_ _
                      have hfin := ref_set HR.out hG3
                      have hfr := hG3.far
                      clear hHeld c0
                      go_wp2_with fail
                      go_end0
                      refine ⟨⟨_, rfl⟩, _, by rw [HI.out]; simpa using hfin.1, HT.out.then hfin.2 (fun _ _ h => h), fun c hc => by have := hfr c hc; have := HT.out.size; omega⟩
                    exact AllReadyZ.nil
                  exact AllReadyZ.nil
                exact AllReadyZ.nil
              exact AllReadyZ.nil
            refine AllReadyZ.cons rfl (fun K hK => ?_) ?_
            · refine step_single rfl _ (.tmp 51) (by rfl) i0 _ Try.underlying47 hi0 hz0 (by rw [hz1]; decide) (by rw [hz1]; decide) #[.int .i64 id, .int .i64 when, .int .i64 (sq + 1)] (by rfl) (fillIt hz1 _ _ _) ?_
              intro bX wX hTX hBX hLX
              refine hK.out _ _ ?_ (fun hHeld => ?_)
              · exact KS.out _ (hHeld.2.2.trans hTX)
              clear hK K
              try simp only [Act.put, List.setIfInBounds_toArray, List.set_cons_zero, List.set_cons_succ]
              have hBXlt := hBX.lt
              have hne : bE ≠ bX := by have h : bE < wE.heap.size := hGE.own.lt rfl; omega
              replace hGE := hGE.turns hTX (fun _ _ h => h) (fun _ _ h => h)
              clear hTX
              refine wpAnyZ_ready (rs := [8]) (by kernel_rfl) (by simp) ?_
              refine AllReadyZ.cons rfl (fun K hK => ?_) ?_
              · refine step_grow rfl _ _ _ (by rfl) i0 _ 24 Try.underlying47 hi0 hz0 hz1 hz2 rfl (by omega) encT_len encT_one1 (by rfl) hGE (by rfl) (SRC8.out _ hHeld.2.2) (by simp only [List.length_append, List.length_take, List.length_drop, List.length_nil, List.length_cons, maxLen]; omega) (by simp only [List.length_append, List.length_take, List.length_drop, List.length_nil, List.length_cons, maxLen]; omega) ?_
                intro v1 w1 hG1 hF1 hS1 hO1
                refine hK.out _ _ ?_ (fun hHeld => ?_)
                · exact KS.out _ hG1.made
                clear hK K
                try simp only [Act.put, List.setIfInBounds_toArray, List.set_cons_zero, List.set_cons_succ]
                replace hBX : Blk w1 bX _ _ := (hF1 bX hBX.lt (fun e => hne (by simpa [Value.ownBlock] using e))).trans hBX
                clear hF1 hS1 hO1 hGE
                refine wpAnyZ_ready (rs := [17]) (by kernel_rfl) (by simp) ?_
                refine AllReadyZ.cons rfl (fun K hK => ?_) ?_
                · refine step_grow rfl _ _ _ (by rfl) i0 _ 24 Try.underlying47 hi0 hz0 hz1 hz2 rfl (by omega) encT_len encT_one1 (by rfl) hG1 (by rfl) (SrcAt.block (N := [(⟨id, when, sq + 1⟩ : It)]) hBX rfl (by simp [flat, encT])) (by simp only [List.length_append, List.length_take, List.length_drop, List.length_nil, List.length_cons, maxLen]; omega) (by simp only [List.length_append, List.length_take, List.length_drop, List.length_nil, List.length_cons, maxLen]; omega) ?_
                  intro v2 w2 hG2 hF2 hS2 hO2
                  refine hK.out _ _ ?_ (fun hHeld => ?_)
                  · exact KS.out _ hG2.made
                  clear hK K
                  try simp only [Act.put, List.setIfInBounds_toArray, List.set_cons_zero, List.set_cons_succ]
                  clear hF2 hS2 hO2 hG1
                  refine wpAnyZ_ready (rs := [24]) (by kernel_rfl) (by simp) ?_
                  refine AllReadyZ.cons rfl (fun K hK => ?_) ?_
                  · refine step_grow rfl _ _ _ (by rfl) i0 _ 24 Try.underlying47 hi0 hz0 hz1 hz2 rfl (by omega) encT_len encT_one1 (by rfl) hG2 (by rfl) (SRC24.out _ hHeld.2.2) (by simp only [List.length_append, List.length_take, List.length_drop, List.length_nil, List.length_cons, maxLen]; omega) (by simp only [List.length_append, List.length_take, List.length_drop, List.length_nil, List.length_cons, maxLen]; omega) ?_
                    intro v3 w3 hG3 hF3 hS3 hO3
                    obtain ⟨a3, n3, c3, rfl⟩ : ∃ a n c, v3 = .slice a n c := by obtain ⟨a, c, h⟩ := owns_slice hG3.own; exact ⟨_, _, _, h⟩
                    refine hK.out _ _ ?_ (fun hHeld => ?_)
                    · exact KS.out _ hG3.made
                    clear hK K
                    try simp only [Act.put, List.setIfInBounds_toArray, List.set_cons_zero, List.set_cons_succ]
                    clear hF3 hS3 hO3 hG2
                    refine wpAnyZ_ready (rs := [25]) (by kernel_rfl) (by simp) ?_
                    refine AllReadyZ.cons rfl (fun K hK => ?_) AllReadyZ.nil
                    go_simp
                    refine hK.out _ _ hHeld (fun hHeld => ?_)
                    clear hK K
                    try simp only [Act.put, List.setIfInBounds_toArray, List.set_cons_zero, List.set_cons_succ]
                    refine takeZ (i := 26) (d := some 62) (v := ?_) rfl rfl (by kernel_rfl) (by kernel_rfl) (by kernel_rfl) (by kernel_rfl) (fun _ _ _ h => h) (Or.inl ⟨by rfl, ?_⟩) (by assumption) ?_
                    rotate_left
                    · intro w hSw
                      try dsimp only at hSw
                      go_simp
                      try with_reducible rfl
                    try simp only [Act.put, List.setIfInBounds_toArray, List.set_cons_zero, List.set_cons_succ]
                    refine wpAnyZ_ready (rs := [27]) (by kernel_rfl) (by simp) ?_
                    refine AllReadyZ.last rfl (fun K hK => ?_) ?_
                    · have hc3 := hHeld.1
                      have hf3 := FZ.out _ hHeld.2.2
                      go_simp
                      refine hK.out _ _ ?_
                      clear hK K
                      try simp only [Act.put, List.setIfInBounds_toArray, List.set_cons_zero, List.set_cons_succ]
                      refine wpAnyZ_done (by kernel_rfl) ?_ _
                      have hfin := ref_set HR.out hG3
                      have hfr := hG3.far
                      clear hHeld c0
                      go_wp2_with fail
                      go_end0
                      refine ⟨⟨_, rfl⟩, _, by rw [HI.out]; simpa using hfin.1, HT.out.then hfin.2 (fun _ _ h => h), fun c hc => by have := hfr c hc; have := HT.out.size; omega⟩
                    exact AllReadyZ.nil
                  exact AllReadyZ.nil
                exact AllReadyZ.nil
              exact AllReadyZ.nil
            exact AllReadyZ.nil
          refine AllReadyZ.cons rfl (fun K hK => ?_) ?_
          · refine step_single rfl _ (.tmp 51) (by rfl) i0 _ Try.underlying47 hi0 hz0 (by rw [hz1]; decide) (by rw [hz1]; decide) #[.int .i64 id, .int .i64 when, .int .i64 (sq + 1)] (by rfl) (fillIt hz1 _ _ _) ?_
            intro bX wX hTX hBX hLX
            refine hK.out _ _ ?_ (fun hHeld => ?_)
            · exact KS.out _ (hHeld.2.2.trans hTX)
            clear hK K
            try simp only [Act.put, List.setIfInBounds_toArray, List.set_cons_zero, List.set_cons_succ]
            have hBXlt := hBX.lt
            clear hTX
            refine wpAnyZ_ready (rs := [1]) (by kernel_rfl) (by simp) ?_
            refine AllReadyZ.cons rfl (fun K hK => ?_) ?_
            · refine step_empty encT 3 rfl _ (by rfl) i0 _ Try.underlying47 hi0 hz0 hHeld.2.2 ?_
              intro bE wE hGE hTE hLE
              refine hK.out _ _ ?_ (fun hHeld => ?_)
              · exact KS.out _ hGE.made
              clear hK K
              try simp only [Act.put, List.setIfInBounds_toArray, List.set_cons_zero, List.set_cons_succ]
              replace hBX := hBX.turns hTE (fun h => h)
              have hne : bE ≠ bX := by have := hLX; have := hBXlt; omega
              clear hTE
              refine wpAnyZ_ready (rs := [8]) (by kernel_rfl) (by simp) ?_
              refine AllReadyZ.cons rfl (fun K hK => ?_) ?_
              · refine step_grow rfl _ _ _ (by rfl) i0 _ 24 Try.underlying47 hi0 hz0 hz1 hz2 rfl (by omega) encT_len encT_one1 (by rfl) hGE (by rfl) (SRC8.out _ hHeld.2.2) (by simp only [List.length_append, List.length_take, List.length_drop, List.length_nil, List.length_cons, maxLen]; omega) (by simp only [List.length_append, List.length_take, List.length_drop, List.length_nil, List.length_cons, maxLen]; omega) ?_
                intro v1 w1 hG1 hF1 hS1 hO1
                refine hK.out _ _ ?_ (fun hHeld => ?_)
                · exact KS.out _ hG1.made
                clear hK K
                try simp only [Act.put, List.setIfInBounds_toArray, List.set_cons_zero, List.set_cons_succ]
                replace hBX : Blk w1 bX _ _ := (hF1 bX hBX.lt (fun e => hne (by simpa [Value.ownBlock] using e))).trans hBX
                clear hF1 hS1 hO1 hGE
                refine wpAnyZ_ready (rs := [17]) (by kernel_rfl) (by simp) ?_
                refine AllReadyZ.cons rfl (fun K hK => ?_) ?_
                · refine step_grow rfl _ _ _ (by rfl) i0 _ 24 Try.underlying47 hi0 hz0 hz1 hz2 rfl (by omega) encT_len encT_one1 (by rfl) hG1 (by rfl) (SrcAt.block (N := [(⟨id, when, sq + 1⟩ : It)]) hBX rfl (by simp [flat, encT])) (by simp only [List.length_append, List.length_take, List.length_drop, List.length_nil, List.length_cons, maxLen]; omega) (by simp only [List.length_append, List.length_take, List.length_drop, List.length_nil, List.length_cons, maxLen]; omega) ?_
                  intro v2 w2 hG2 hF2 hS2 hO2
                  refine hK.out _ _ ?_ (fun hHeld => ?_)
                  · exact KS.out _ hG2.made
                  clear hK K
                  try simp only [Act.put, List.setIfInBounds_toArray, List.set_cons_zero, List.set_cons_succ]
                  clear hF2 hS2 hO2 hG1
                  refine wpAnyZ_ready (rs := [24]) (by kernel_rfl) (by simp) ?_
                  refine AllReadyZ.cons rfl (fun K hK => ?_) ?_
                  · refine step_grow rfl _ _ _ (by rfl) i0 _ 24 Try.underlying47 hi0 hz0 hz1 hz2 rfl (by omega) encT_len encT_one1 (by rfl) hG2 (by rfl) (SRC24.out _ hHeld.2.2) (by simp only [List.length_append, List.length_take, List.length_drop, List.length_nil, List.length_cons, maxLen]; omega) (by simp only [List.length_append, List.length_take, List.length_drop, List.length_nil, List.length_cons, maxLen]; omega) ?_
                    intro v3 w3 hG3 hF3 hS3 hO3
                    obtain ⟨a3, n3, c3, rfl⟩ : ∃ a n c, v3 = .slice a n c := by obtain ⟨a, c, h⟩ := owns_slice hG3.own; exact ⟨_, _, _, h⟩
                    refine hK.out _ _ ?_ (fun hHeld => ?_)
                    · exact KS.out _ hG3.made
                    clear hK K
                    try simp only [Act.put, List.setIfInBounds_toArray, List.set_cons_zero, List.set_cons_succ]
                    clear hF3 hS3 hO3 hG2
                    refine wpAnyZ_ready (rs := [25]) (by kernel_rfl) (by simp) ?_
                    refine AllReadyZ.cons rfl (fun K hK => ?_) AllReadyZ.nil
                    go_simp
                    refine hK.out _ _ hHeld (fun hHeld => ?_)
                    clear hK K
                    try simp only [Act.put, List.setIfInBounds_toArray, List.set_cons_zero, List.set_cons_succ]
                    refine takeZ (i := 26) (d := some 62) (v := ?_) rfl rfl (by kernel_rfl) (by kernel_rfl) (by kernel_rfl) (by kernel_rfl) (fun _ _ _ h => h) (Or.inl ⟨by rfl, ?_⟩) (by assumption) ?_
                    rotate_left
                    · intro w hSw
                      try dsimp only at hSw
                      go_simp
                      try with_reducible rfl
                    try simp only [Act.put, List.setIfInBounds_toArray, List.set_cons_zero, List.set_cons_succ]
                    refine wpAnyZ_ready (rs := [27]) (by kernel_rfl) (by simp) ?_
                    refine AllReadyZ.last rfl (fun K hK => ?_) ?_
                    · have hc3 := hHeld.1
                      have hf3 := FZ.out _ hHeld.2.2
                      go_simp
                      refine hK.out _ _ ?_
                      clear hK K
                      try simp only [Act.put, List.setIfInBounds_toArray, List.set_cons_zero, List.set_cons_succ]
                      refine wpAnyZ_done (by kernel_rfl) ?_ _
                      have hfin := ref_set HR.out hG3
                      have hfr := hG3.far
                      clear hHeld c0
                      go_wp2_with fail
                      go_end0
                      refine ⟨⟨_, rfl⟩, _, by rw [HI.out]; simpa using hfin.1, HT.out.then hfin.2 (fun _ _ h => h), fun c hc => by have := hfr c hc; have := HT.out.size; omega⟩
                    exact AllReadyZ.nil
                  exact AllReadyZ.nil
                exact AllReadyZ.nil
              exact AllReadyZ.nil
            exact AllReadyZ.nil
          exact AllReadyZ.nil
        · have hc1 : ¬ (cap : Int) = (k : Int) := by omega
          have SRC24 := Lib.hid (show ∀ w, Made W w → SrcAt encT w (.slice (some ⟨g, k * 3, none⟩) (L.length - k) (cap - k)) (L.drop k) from fun w hm => SrcAt.post encT_len (HR.out.own.turns hm (fun _ _ h => h)) hk rfl rfl)
          refine wp_region_z (S := fun w' => w'.cell? ⟨b, 0, none⟩ = some (.slice (some ⟨g, 0, none⟩) L.length cap) ∧ w'.cell? ⟨b, 1, none⟩ = some (.int .i64 (sq + 1)) ∧ Made W w') 27 (by kernel_rfl) ?_ (fun hHeld => ?_)
          · exact KS.out _ (Turns.drew (Turns.refl _ W))
          generalize W.drew = w0 at *
          refine takeZ (i := 0) (d := some 36) (v := ?_) rfl rfl (by kernel_rfl) (by kernel_rfl) (by kernel_rfl) (by kernel_rfl) (fun _ _ _ h => h) (Or.inl ⟨by rfl, ?_⟩) (by assumption) ?_
          rotate_left
          · intro w hSw
            try dsimp only at hSw
            go_simp
            try with_reducible rfl
          try simp only [Act.put, List.setIfInBounds_toArray, List.set_cons_zero, List.set_cons_succ]
          refine takeZ (i := 2) (d := some 38) (v := ?_) rfl rfl (by kernel_rfl) (by kernel_rfl) (by kernel_rfl) (by kernel_rfl) (fun _ _ _ h => h) (Or.inl ⟨by rfl, ?_⟩) (by assumption) ?_
          rotate_left
          · intro w hSw
            try dsimp only at hSw
            go_simp
            try with_reducible rfl
          try simp only [Act.put, List.setIfInBounds_toArray, List.set_cons_zero, List.set_cons_succ]
          refine takeZ (i := 3) (d := some 39) (v := ?_) rfl rfl (by kernel_rfl) (by kernel_rfl) (by kernel_rfl) (by kernel_rfl) (fun _ _ _ h => h) (Or.inl ⟨by rfl, ?_⟩) (by assumption) ?_
          rotate_left
          · intro w hSw
            try dsimp only at hSw
            go_simp
            try with_reducible rfl
          try simp only [Act.put, List.setIfInBounds_toArray, List.set_cons_zero, List.set_cons_succ]
          refine takeZ (i := 4) (d := some 40) (v := ?_) rfl rfl (by kernel_rfl) (by kernel_rfl) (by kernel_rfl) (by kernel_rfl) (fun _ _ _ h => h) (Or.inl ⟨by rfl, ?_⟩) (by assumption) ?_
          rotate_left
          · intro w hSw
            try dsimp only at hSw
            go_simp
            try with_reducible rfl
          try simp only [Act.put, List.setIfInBounds_toArray, List.set_cons_zero, List.set_cons_succ]
          refine takeZ (i := 5) (d := some 41) (v := ?_) rfl rfl (by kernel_rfl) (by kernel_rfl) (by kernel_rfl) (by kernel_rfl) (fun _ _ _ h => h) (Or.inl ⟨by rfl, ?_⟩) (by assumption) ?_
          rotate_left
          · intro w hSw
            try dsimp only at hSw
            have h0 := hSw.1
            go_simp
            try with_reducible rfl
          try simp only [Act.put, List.setIfInBounds_toArray, List.set_cons_zero, List.set_cons_succ]
          refine takeZ (i := 6) (d := some 42) (v := ?_) rfl rfl (by kernel_rfl) (by kernel_rfl) (by kernel_rfl) (by kernel_rfl) (fun _ _ _ h => h) (Or.inl ⟨by rfl, ?_⟩) (by assumption) ?_
          rotate_left
          · intro w hSw
            try dsimp only at hSw
            go_simp
            try with_reducible rfl
          try simp only [Act.put, List.setIfInBounds_toArray, List.set_cons_zero, List.set_cons_succ]
          refine takeZ (i := 7) (d := some 43) (v := ?_) rfl rfl (by kernel_rfl) (by kernel_rfl) (by kernel_rfl) (by kernel_rfl) (fun _ _ _ h => h) (Or.inl ⟨by rfl, ?_⟩) (by assumption) ?_
          rotate_left
          · intro w hSw
            try dsimp only at hSw
            go_simp
            try with_reducible rfl
          try simp only [Act.put, List.setIfInBounds_toArray, List.set_cons_zero, List.set_cons_succ]
          refine takeZ (i := 9) (d := some 45) (v := ?_) rfl rfl (by kernel_rfl) (by kernel_rfl) (by kernel_rfl) (by kernel_rfl) (fun _ _ _ h => h) (Or.inl ⟨by rfl, ?_⟩) (by assumption) ?_
          rotate_left
          · intro w hSw
            try dsimp only at hSw
            go_simp
            try with_reducible rfl
          try simp only [Act.put, List.setIfInBounds_toArray, List.set_cons_zero, List.set_cons_succ]
          refine takeZ (i := 10) (d := some 46) (v := ?_) rfl rfl (by kernel_rfl) (by kernel_rfl) (by kernel_rfl) (by kernel_rfl) (fun _ _ _ h => h) (Or.inl ⟨by rfl, ?_⟩) (by assumption) ?_
          rotate_left
          · intro w hSw
            try dsimp only at hSw
            go_simp
            try with_reducible rfl
          try simp only [Act.put, List.setIfInBounds_toArray, List.set_cons_zero, List.set_cons_succ]
          refine takeZ (i := 11) (d := some 47) (v := ?_) rfl rfl (by kernel_rfl) (by kernel_rfl) (by kernel_rfl) (by kernel_rfl) (fun _ _ _ h => h) (Or.inl ⟨by rfl, ?_⟩) (by assumption) ?_
          rotate_left
          · intro w hSw
            try dsimp only at hSw
            go_simp
            try with_reducible rfl
          try simp only [Act.put, List.setIfInBounds_toArray, List.set_cons_zero, List.set_cons_succ]
          refine takeZ (i := 12) (d := some 48) (v := ?_) rfl rfl (by kernel_rfl) (by kernel_rfl) (by kernel_rfl) (by kernel_rfl) (fun _ _ _ h => h) (Or.inl ⟨by rfl, ?_⟩) (by assumption) ?_
          rotate_left
          · intro w hSw
            try dsimp only at hSw
            go_simp
            try with_reducible rfl
          try simp only [Act.put, List.setIfInBounds_toArray, List.set_cons_zero, List.set_cons_succ]
          refine takeZ (i := 13) (d := some 49) (v := ?_) rfl rfl (by kernel_rfl) (by kernel_rfl) (by kernel_rfl) (by kernel_rfl) (fun _ _ _ h => h) (Or.inl ⟨by rfl, ?_⟩) (by assumption) ?_
          rotate_left
          · intro w hSw
            try dsimp only at hSw
            go_simp
            try with_reducible rfl
          try simp only [Act.put, List.setIfInBounds_toArray, List.set_cons_zero, List.set_cons_succ]
          refine takeZ (i := 14) (d := some 50) (v := ?_) rfl rfl (by kernel_rfl) (by kernel_rfl) (by kernel_rfl) (by kernel_rfl) (fun _ _ _ h => h) (Or.inl ⟨by rfl, ?_⟩) (by assumption) ?_
          rotate_left
          · intro w hSw
            try dsimp only at hSw
            have h1 := hSw.2.1
            go_simp
            try with_reducible rfl
          try simp only [Act.put, List.setIfInBounds_toArray, List.set_cons_zero, List.set_cons_succ]
          refine takeZ (i := 15) (d := some 51) (v := ?_) rfl rfl (by kernel_rfl) (by kernel_rfl) (by kernel_rfl) (by kernel_rfl) (fun _ _ _ h => h) (Or.inl ⟨by rfl, ?_⟩) (by assumption) ?_
          rotate_left
          · intro w hSw
            try dsimp only at hSw
            go_simp
            try with_reducible rfl
          try simp only [Act.put, List.setIfInBounds_toArray, List.set_cons_zero, List.set_cons_succ]
          refine takeZ (i := 18) (d := some 54) (v := ?_) rfl rfl (by kernel_rfl) (by kernel_rfl) (by kernel_rfl) (by kernel_rfl) (fun _ _ _ h => h) (Or.inl ⟨by rfl, ?_⟩) (by assumption) ?_
          rotate_left
          · intro w hSw
            try dsimp only at hSw
            go_simp
            try with_reducible rfl
          try simp only [Act.put, List.setIfInBounds_toArray, List.set_cons_zero, List.set_cons_succ]
          refine takeZ (i := 19) (d := some 55) (v := ?_) rfl rfl (by kernel_rfl) (by kernel_rfl) (by kernel_rfl) (by kernel_rfl) (fun _ _ _ h => h) (Or.inl ⟨by rfl, ?_⟩) (by assumption) ?_
          rotate_left
          · intro w hSw
            try dsimp only at hSw
            go_simp
            try with_reducible rfl
          try simp only [Act.put, List.setIfInBounds_toArray, List.set_cons_zero, List.set_cons_succ]
          refine takeZ (i := 20) (d := some 56) (v := ?_) rfl rfl (by kernel_rfl) (by kernel_rfl) (by kernel_rfl) (by kernel_rfl) (fun _ _ _ h => h) (Or.inl ⟨by rfl, ?_⟩) (by assumption) ?_
          rotate_left
          · intro w hSw
            try dsimp only at hSw
            go_simp
            try with_reducible rfl
          try simp only [Act.put, List.setIfInBounds_toArray, List.set_cons_zero, List.set_cons_succ]
          refine takeZ (i := 21) (d := some 57) (v := ?_) rfl rfl (by kernel_rfl) (by kernel_rfl) (by kernel_rfl) (by kernel_rfl) (fun _ _ _ h => h) (Or.inl ⟨by rfl, ?_⟩) (by assumption) ?_
          rotate_left
          · intro w hSw
            try dsimp only at hSw
            have h0 := hSw.1
            go_simp
            try with_reducible rfl
          try simp only [Act.put, List.setIfInBounds_toArray, List.set_cons_zero, List.set_cons_succ]
          refine takeZ (i := 22) (d := some 58) (v := ?_) rfl rfl (by kernel_rfl) (by kernel_rfl) (by kernel_rfl) (by kernel_rfl) (fun _ _ _ h => h) (Or.inl ⟨by rfl, ?_⟩) (by assumption) ?_
          rotate_left
          · intro w hSw
            try dsimp only at hSw
            go_simp
            try with_reducible rfl
          try simp only [Act.put, List.setIfInBounds_toArray, List.set_cons_zero, List.set_cons_succ]
          refine takeZ (i := 23) (d := some 59) (v := ?_) rfl rfl (by kernel_rfl) (by kernel_rfl) (by kernel_rfl) (by kernel_rfl) (fun _ _ _ h => h) (Or.inl ⟨by rfl, ?_⟩) (by assumption) ?_
          rotate_left
          · intro w hSw
            try dsimp only at hSw
            go_simp
            try with_reducible rfl
          try simp only [Act.put, List.setIfInBounds_toArray, List.set_cons_zero, List.set_cons_succ]
          refine wpAnyZ_ready (rs := [1, 16]) (by kernel_rfl) (by simp) ?_
          refine AllReadyZ.cons rfl (fun K hK => ?_) ?_
          · refine step_empty encT 3 rfl _ (by rfl) i0 _ Try.underlying47 hi0 hz0 hHeld.2.2 ?_
            intro bE wE hGE hTE hLE
            refine hK.out _ _ ?_ (fun hHeld => ?_)
            · exact KS.out _ hGE.made
            clear hK K
            try simp only [Act.put, List.setIfInBounds_toArray, List.set_cons_zero, List.set_cons_succ]
            clear hTE
            refine wpAnyZ_ready (rs := [8, 16]) (by kernel_rfl) (by simp) ?_
            refine AllReadyZ.cons rfl (fun K hK => ?_) ?_
            · refine step_grow rfl _ _ _ (by rfl) i0 _ 24 Try.underlying47 hi0 hz0 hz1 hz2 rfl (by omega) encT_len encT_one1 (by rfl) hGE (by rfl) (SRC8.out _ hHeld.2.2) (by simp only [List.length_append, List.length_take, List.length_drop, List.length_nil, List.length_cons, maxLen]; omega) (by simp only [List.length_append, List.length_take, List.length_drop, List.length_nil, List.length_cons, maxLen]; omega) ?_
              intro v1 w1 hG1 hF1 hS1 hO1
              refine hK.out _ _ ?_ (fun hHeld => ?_)
              · exact KS.out _ hG1.made
              clear hK K
              try simp only [Act.put, List.setIfInBounds_toArray, List.set_cons_zero, List.set_cons_succ]
              clear hF1 hS1 hO1 hGE
              refine wpAnyZ_ready (rs := [16]) (by kernel_rfl) (by simp) ?_
              refine AllReadyZ.cons rfl (fun K hK => ?_) ?_
              · refine step_single rfl _ (.tmp 51) (by rfl) i0 _ Try.underlying47 hi0 hz0 (by rw [hz1]; decide) (by rw [hz1]; decide) #[.int .i64 id, .int .i64 when, .int .i64 (sq + 1)] (by rfl) (fillIt hz1 _ _ _) ?_
                intro bX wX hTX hBX hLX
                refine hK.out _ _ ?_ (fun hHeld => ?_)
                · exact KS.out _ (hHeld.2.2.trans hTX)
                clear hK K
                try simp only [Act.put, List.setIfInBounds_toArray, List.set_cons_zero, List.set_cons_succ]
                have hBXlt := hBX.lt
                replace hG1 := hG1.turns hTX (fun _ _ h => h) (fun _ _ h => h)
                clear hTX
                refine wpAnyZ_ready (rs := [17]) (by kernel_rfl) (by simp) ?_
                refine AllReadyZ.cons rfl (fun K hK => ?_) ?_
                · refine step_grow rfl _ _ _ (by rfl) i0 _ 24 Try.underlying47 hi0 hz0 hz1 hz2 rfl (by omega) encT_len encT_one1 (by rfl) hG1 (by rfl) (SrcAt.block (N := [(⟨id, when, sq + 1⟩ : It)]) hBX rfl (by simp [flat, encT])) (by simp only [List.length_append, List.length_take, List.length_drop, List.length_nil, List.length_cons, maxLen]; omega) (by simp only [List.length_append, List.length_take, List.length_drop, List.length_nil, List.length_cons, maxLen]; omega) ?_
                  intro v2 w2 hG2 hF2 hS2 hO2
                  refine hK.out _ _ ?_ (fun hHeld => ?_)
                  · exact KS.out _ hG2.made
                  clear hK K
                  try simp only [Act.put, List.setIfInBounds_toArray, List.set_cons_zero, List.set_cons_succ]
                  clear hF2 hS2 hO2 hG1
                  refine wpAnyZ_ready (rs := [24]) (by kernel_rfl) (by simp) ?_
                  refine AllReadyZ.cons rfl (fun K hK => ?_) ?_
                  · refine step_grow rfl _ _ _ (by rfl) i0 _ 24 Try.underlying47 hi0 hz0 hz1 hz2 rfl (by omega) encT_len encT_one1 (by rfl) hG2 (by rfl) (SRC24.out _ hHeld.2.2) (by simp only [List.length_append, List.length_take, List.length_drop, List.length_nil, List.length_cons, maxLen]; omega) (by simp only [List.length_append, List.length_take, List.length_drop, List.length_nil, List.length_cons, maxLen]; omega) ?_
                    intro v3 w3 hG3 hF3 hS3 hO3
                    obtain ⟨a3, n3, c3, rfl⟩ : ∃ a n c, v3 = .slice a n c := by obtain ⟨a, c, h⟩ := owns_slice hG3.own; exact ⟨_, _, _, h⟩
                    refine hK.out _ _ ?_ (fun hHeld => ?_)
                    · exact KS.out _ hG3.made
                    clear hK K
                    try simp only [Act.put, List.setIfInBounds_toArray, List.set_cons_zero, List.set_cons_succ]
                    clear hF3 hS3 hO3 hG2
                    refine wpAnyZ_ready (rs := [25]) (by kernel_rfl) (by simp) ?_
                    refine AllReadyZ.cons rfl (fun K hK => ?_) AllReadyZ.nil
                    go_simp
                    refine hK.out _ _ hHeld (fun hHeld => ?_)
                    clear hK K
                    try simp only [Act.put, List.setIfInBounds_toArray, List.set_cons_zero, List.set_cons_succ]
                    refine takeZ (i := 26) (d := some 62) (v := ?_) rfl rfl (by kernel_rfl) (by kernel_rfl) (by kernel_rfl) (by kernel_rfl) (fun _ _ _ h => h) (Or.inl ⟨by rfl, ?_⟩) (by assumption) ?_
                    rotate_left
                    · intro w hSw
                      try dsimp only at hSw
                      go_simp
                      try with_reducible rfl
                    try simp only [Act.put, List.setIfInBounds_toArray, List.set_cons_zero, List.set_cons_succ]
                    refine wpAnyZ_ready (rs := [27]) (by kernel_rfl) (by simp) ?_
                    refine AllReadyZ.last rfl (fun K hK => ?_) ?_
                    · have hc3 := hHeld.1
                      have hf3 := FZ.out _ hHeld.2.2
                      go_simp
                      refine hK.out _ _ ?_
                      clear hK K
                      try simp only [Act.put, List.setIfInBounds_toArray, List.set_cons_zero, List.set_cons_succ]
                      refine wpAnyZ_done (by kernel_rfl) ?_ _
                      have hfin := ref_set HR.out hG3
                      have hfr := hG3.far
                      clear hHeld c0
                      go_wp2_with fail
                      go_end0
                      refine ⟨⟨_, rfl⟩, _, by rw [HI.out]; simpa using hfin.1, HT.out.then hfin.2 (fun _ _ h => h), fun c hc => by have := hfr c hc; have := HT.out.size; omega⟩
                    exact AllReadyZ.nil
                  exact AllReadyZ.nil
                exact AllReadyZ.nil
              exact AllReadyZ.nil
            refine AllReadyZ.cons rfl (fun K hK => ?_) ?_
            · refine step_single rfl _ (.tmp 51) (by rfl) i0 _ Try.underlying47 hi0 hz0 (by rw [hz1]; decide) (by rw [hz1]; decide) #[.int .i64 id, .int .i64 when, .int .i64 (sq + 1)] (by rfl) (fillIt hz1 _ _ _) ?_
              intro bX wX hTX hBX hLX
              refine hK.out _ _ ?_ (fun hHeld => ?_)
              · exact KS.out _ (hHeld.2.2.trans hTX)
              clear hK K
              try simp only [Act.put, List.setIfInBounds_toArray, List.set_cons_zero, List.set_cons_succ]
              have hBXlt := hBX.lt
              have hne : bE ≠ bX := by have h : bE < wE.heap.size := hGE.own.lt rfl; omega
              replace hGE := hGE.turns hTX (fun _ _ h => h) (fun _ _ h => h)
              clear hTX
              refine wpAnyZ_ready (rs := [8]) (by kernel_rfl) (by simp) ?_
              refine AllReadyZ.cons rfl (fun K hK => ?_) ?_
              · refine step_grow rfl _ _ _ (by rfl) i0 _ 24 Try.underlying47 hi0 hz0 hz1 hz2 rfl (by omega) encT_len encT_one1 (by rfl) hGE (by rfl) (SRC8.out _ hHeld.2.2) (by simp only [List.length_append, List.length_take, List.length_drop, List.length_nil, List.length_cons, maxLen]; omega) (by simp only [List.length_append, List.length_take, List.length_drop, List.length_nil, List.length_cons, maxLen]; omega) ?_
                intro v1 w1 hG1 hF1 hS1 hO1
                refine hK.out _ _ ?_ (fun hHeld => ?_)
                · exact KS.out _ hG1.made
                clear hK K
                try simp only [Act.put, List.setIfInBounds_toArray, List.set_cons_zero, List.set_cons_succ]
                replace hBX : Blk w1 bX _ _ := (hF1 bX hBX.lt (fun e => hne (by simpa [Value.ownBlock] using e))).trans hBX
                clear hF1 hS1 hO1 hGE
                refine wpAnyZ_ready (rs := [17]) (by kernel_rfl) (by simp) ?_
                refine AllReadyZ.cons rfl (fun K hK => ?_) ?_
                · refine step_grow rfl _ _ _ (by rfl) i0 _ 24 Try.underlying47 hi0 hz0 hz1 hz2 rfl (by omega) encT_len encT_one1 (by rfl) hG1 (by rfl) (SrcAt.block (N := [(⟨id, when, sq + 1⟩ : It)]) hBX rfl (by simp [flat, encT])) (by simp only [List.length_append, List.length_take, List.length_drop, List.length_nil, List.length_cons, maxLen]; omega) (by simp only [List.length_append, List.length_take, List.length_drop, List.length_nil, List.length_cons, maxLen]; omega) ?_
                  intro v2 w2 hG2 hF2 hS2 hO2
                  refine hK.out _ _ ?_ (fun hHeld => ?_)
                  · exact KS.out _ hG2.made
                  clear hK K
                  try simp only [Act.put, List.setIfInBounds_toArray, List.set_cons_zero, List.set_cons_succ]
                  clear hF2 hS2 hO2 hG1
                  refine wpAnyZ_ready (rs := [24]) (by kernel_rfl) (by simp) ?_
                  refine AllReadyZ.cons rfl (fun K hK => ?_) ?_
                  · refine step_grow rfl _ _ _ (by rfl) i0 _ 24 Try.underlying47 hi0 hz0 hz1 hz2 rfl (by omega) encT_len encT_one1 (by rfl) hG2 (by rfl) (SRC24.out _ hHeld.2.2) (by simp only [List.length_append, List.length_take, List.length_drop, List.length_nil, List.length_cons, maxLen]; omega) (by simp only [List.length_append, List.length_take, List.length_drop, List.length_nil, List.length_cons, maxLen]; omega) ?_
                    intro v3 w3 hG3 hF3 hS3 hO3
                    obtain ⟨a3, n3, c3, rfl⟩ : ∃ a n c, v3 = .slice a n c := by obtain ⟨a, c, h⟩ := owns_slice hG3.own; exact ⟨_, _, _, h⟩
                    refine hK.out _ _ ?_ (fun hHeld => ?_)
                    · exact KS.out _ hG3.made
                    clear hK K
                    try simp only [Act.put, List.setIfInBounds_toArray, List.set_cons_zero, List.set_cons_succ]
                    clear hF3 hS3 hO3 hG2
                    refine wpAnyZ_ready (rs := [25]) (by kernel_rfl) (by simp) ?_
                    refine AllReadyZ.cons rfl (fun K hK => ?_) AllReadyZ.nil
                    go_simp
                    refine hK.out _ _ hHeld (fun hHeld => ?_)
                    clear hK K
                    try simp only [Act.put, List.setIfInBounds_toArray, List.set_cons_zero, List.set_cons_succ]
                    refine takeZ (i := 26) (d := some 62) (v := ?_) rfl rfl (by kernel_rfl) (by kernel_rfl) (by kernel_rfl) (by kernel_rfl) (fun _ _ _ h => h) (Or.inl ⟨by rfl, ?_⟩) (by assumption) ?_
                    rotate_left
                    · intro w hSw
                      try dsimp only at hSw
                      go_simp
                      try with_reducible rfl
                    try simp only [Act.put, List.setIfInBounds_toArray, List.set_cons_zero, List.set_cons_succ]
                    refine wpAnyZ_ready (rs := [27]) (by kernel_rfl) (by simp) ?_
                    refine AllReadyZ.last rfl (fun K hK => ?_) ?_
                    · have hc3 := hHeld.1
                      have hf3 := FZ.out _ hHeld.2.2
                      go_simp
                      refine hK.out _ _ ?_
                      clear hK K
                      try simp only [Act.put, List.setIfInBounds_toArray, List.set_cons_zero, List.set_cons_succ]
                      refine wpAnyZ_done (by kernel_rfl) ?_ _
                      have hfin := ref_set HR.out hG3
                      have hfr := hG3.far
                      clear hHeld c0
                      go_wp2_with fail
                      go_end0
                      refine ⟨⟨_, rfl⟩, _, by rw [HI.out]; simpa using hfin.1, HT.out.then hfin.2 (fun _ _ h => h), fun c hc => by have := hfr c hc; have := HT.out.size; omega⟩
                    exact AllReadyZ.nil
                  exact AllReadyZ.nil
                exact AllReadyZ.nil
              exact AllReadyZ.nil
            exact AllReadyZ.nil
          refine AllReadyZ.cons rfl (fun K hK => ?_) ?_
          · refine step_single rfl _ (.tmp 51) (by rfl) i0 _ Try.underlying47 hi0 hz0 (by rw [hz1]; decide) (by rw [hz1]; decide) #[.int .i64 id, .int .i64 when, .int .i64 (sq + 1)] (by rfl) (fillIt hz1 _ _ _) ?_
            intro bX wX hTX hBX hLX
            refine hK.out _ _ ?_ (fun hHeld => ?_)
            · exact KS.out _ (hHeld.2.2.trans hTX)
            clear hK K
            try simp only [Act.put, List.setIfInBounds_toArray, List.set_cons_zero, List.set_cons_succ]
            have hBXlt := hBX.lt
            clear hTX
            refine wpAnyZ_ready (rs := [1]) (by kernel_rfl) (by simp) ?_
            refine AllReadyZ.cons rfl (fun K hK => ?_) ?_
            · refine step_empty encT 3 rfl _ (by rfl) i0 _ Try.underlying47 hi0 hz0 hHeld.2.2 ?_
              intro bE wE hGE hTE hLE
              refine hK.out _ _ ?_ (fun hHeld => ?_)
              · exact KS.out _ hGE.made
              clear hK K
              try simp only [Act.put, List.setIfInBounds_toArray, List.set_cons_zero, List.set_cons_succ]
              replace hBX := hBX.turns hTE (fun h => h)
              have hne : bE ≠ bX := by have := hLX; have := hBXlt; omega
              clear hTE
              refine wpAnyZ_ready (rs := [8]) (by kernel_rfl) (by simp) ?_
              refine AllReadyZ.cons rfl (fun K hK => ?_) ?_
              · refine step_grow rfl _ _ _ (by rfl) i0 _ 24 Try.underlying47 hi0 hz0 hz1 hz2 rfl (by omega) encT_len encT_one1 (by rfl) hGE (by rfl) (SRC8.out _ hHeld.2.2) (by simp only [List.length_append, List.length_take, List.length_drop, List.length_nil, List.length_cons, maxLen]; omega) (by simp only [List.length_append, List.length_take, List.length_drop, List.length_nil, List.length_cons, maxLen]; omega) ?_
                intro v1 w1 hG1 hF1 hS1 hO1
                refine hK.out _ _ ?_ (fun hHeld => ?_)
                · exact KS.out _ hG1.made
                clear hK K
                try simp only [Act.put, List.setIfInBounds_toArray, List.set_cons_zero, List.set_cons_succ]
                replace hBX : Blk w1 bX _ _ := (hF1 bX hBX.lt (fun e => hne (by simpa [Value.ownBlock] using e))).trans hBX
                clear hF1 hS1 hO1 hGE
                refine wpAnyZ_ready (rs := [17]) (by kernel_rfl) (by simp) ?_
                refine AllReadyZ.cons rfl (fun K hK => ?_) ?_
                · refine step_grow rfl _ _ _ (by rfl) i0 _ 24 Try.underlying47 hi0 hz0 hz1 hz2 rfl (by omega) encT_len encT_one1 (by rfl) hG1 (by rfl) (SrcAt.block (N := [(⟨id, when, sq + 1⟩ : It)]) hBX rfl (by simp [flat, encT])) (by simp only [List.length_append, List.length_take, List.length_drop, List.length_nil, List.length_cons, maxLen]; omega) (by simp only [List.length_append, List.length_take, List.length_drop, List.length_nil, List.length_cons, maxLen]; omega) ?_
                  intro v2 w2 hG2 hF2 hS2 hO2
                  refine hK.out _ _ ?_ (fun hHeld => ?_)
                  · exact KS.out _ hG2.made
                  clear hK K
                  try simp only [Act.put, List.setIfInBounds_toArray, List.set_cons_zero, List.set_cons_succ]
                  clear hF2 hS2 hO2 hG1
                  refine wpAnyZ_ready (rs := [24]) (by kernel_rfl) (by simp) ?_
                  refine AllReadyZ.cons rfl (fun K hK => ?_) ?_
                  · refine step_grow rfl _ _ _ (by rfl) i0 _ 24 Try.underlying47 hi0 hz0 hz1 hz2 rfl (by omega) encT_len encT_one1 (by rfl) hG2 (by rfl) (SRC24.out _ hHeld.2.2) (by simp only [List.length_append, List.length_take, List.length_drop, List.length_nil, List.length_cons, maxLen]; omega) (by simp only [List.length_append, List.length_take, List.length_drop, List.length_nil, List.length_cons, maxLen]; omega) ?_
                    intro v3 w3 hG3 hF3 hS3 hO3
                    obtain ⟨a3, n3, c3, rfl⟩ : ∃ a n c, v3 = .slice a n c := by obtain ⟨a, c, h⟩ := owns_slice hG3.own; exact ⟨_, _, _, h⟩
                    refine hK.out _ _ ?_ (fun hHeld => ?_)
                    · exact KS.out _ hG3.made
                    clear hK K
                    try simp only [Act.put, List.setIfInBounds_toArray, List.set_cons_zero, List.set_cons_succ]
                    clear hF3 hS3 hO3 hG2
                    refine wpAnyZ_ready (rs := [25]) (by kernel_rfl) (by simp) ?_
                    refine AllReadyZ.cons rfl (fun K hK => ?_) AllReadyZ.nil
                    go_simp
                    refine hK.out _ _ hHeld (fun hHeld => ?_)
                    clear hK K
                    try simp only [Act.put, List.setIfInBounds_toArray, List.set_cons_zero, List.set_cons_succ]
                    refine takeZ (i := 26) (d := some 62) (v := ?_) rfl rfl (by kernel_rfl) (by kernel_rfl) (by kernel_rfl) (by kernel_rfl) (fun _ _ _ h => h) (Or.inl ⟨by rfl, ?_⟩) (by assumption) ?_
                    rotate_left
                    · intro w hSw
                      try dsimp only at hSw
                      go_simp
                      try with_reducible rfl
                    try simp only [Act.put, List.setIfInBounds_toArray, List.set_cons_zero, List.set_cons_succ]
                    refine wpAnyZ_ready (rs := [27]) (by kernel_rfl) (by simp) ?_
                    refine AllReadyZ.last rfl (fun K hK => ?_) ?_
                    · have hc3 := hHeld.1
                      have hf3 := FZ.out _ hHeld.2.2
                      go_simp
                      refine hK.out _ _ ?_
                      clear hK K
                      try simp only [Act.put, List.setIfInBounds_toArray, List.set_cons_zero, List.set_cons_succ]
                      refine wpAnyZ_done (by kernel_rfl) ?_ _
                      have hfin := ref_set HR.out hG3
                      have hfr := hG3.far
                      clear hHeld c0
                      go_wp2_with fail
                      go_end0
                      refine ⟨⟨_, rfl⟩, _, by rw [HI.out]; simpa using hfin.1, HT.out.then hfin.2 (fun _ _ h => h), fun c hc => by have := hfr c hc; have := HT.out.size; omega⟩
                    exact AllReadyZ.nil
                  exact AllReadyZ.nil
                exact AllReadyZ.nil
              exact AllReadyZ.nil
            exact AllReadyZ.nil
          exact AllReadyZ.nil
/-- put, whatever the row. -/
theorem rput_c {b : Nat} {t : TypeId} {rest : List Value} {lv : Value} {L : List It} {sq : Int} (id when : Int) (w : World) (h : RefH w b t rest lv L sq) (hn : L.length ≤ 1000000) (hsq : 0 ≤ sq ∧ sq < 1000000) (hr : L.Pairwise lt) (hs : ∀ x ∈ L, x.seq ≤ sq) :
    Calls Try.prog 49 #[.pointer (some ⟨b, 0, none⟩), .int .i64 id, .int .i64 when] w fun e w' => (∃ v, e = .returned v) ∧ ∃ lv', RefH w' b t rest lv' (insL ⟨id, when, sq + 1⟩ L) (sq + 1) ∧ Turns (fun c => c = b) w w' ∧ (∀ c, lv'.ownBlock = some c → w.heap.size ≤ c) := by
  rcases h.own.form with ⟨rfl, rfl⟩ | ⟨g, cap, rfl, hg, hlc, hcm⟩
  · exact rput_nil id when w h hsq
  · exact rput_some id when w h hn hlc hcm hsq hr hs
end Go.Proofs.Ytgjgopcomgclkaa
