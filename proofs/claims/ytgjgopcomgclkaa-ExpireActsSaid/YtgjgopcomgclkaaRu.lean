/-
  The document's timers: Stop.
-/
import Derived.Test.YtgjgopcomgclkaaRt
namespace Go.Proofs.Ytgjgopcomgclkaa
open Go.RowKit
set_option linter.unusedVariables false
set_option linter.unusedSimpArgs false

set_option maxHeartbeats 4000000 in
set_option maxRecDepth 100000 in
theorem rstop_h {b : Nat} {lv pv : Value} {L : List It} {sq : Int} {PL : List It} (id : Int) (w : World) (h : RTim w b lv pv L sq PL) (hl : L.length ≤ 1000000) (hn : PL.length ≤ 1000000) (hu : Uniq L) (hup : Uniq PL) :
    Calls Try.prog 32 #[.pointer (some ⟨b, 0, none⟩), .int .i64 id] w fun e w' => e = .returned (.bool (findL id L).isSome) ∧ ∃ lv' pv', RTim w' b lv' pv' (delL id L) sq (delL id PL) ∧ Turns (fun c => c = b) w w' ∧
      (∀ c, lv'.ownBlock = some c → lv.ownBlock = some c ∨ w.heap.size ≤ c) ∧ (∀ c, pv'.ownBlock = some c → pv.ownBlock = some c ∨ w.heap.size ≤ c) := by
  obtain ⟨i0, hi0, hz0, hz1, hz2⟩ := info_parts Try.infoR
  obtain ⟨x, hrm⟩ := rrem_any id w h.h hl hu
  generalize (findL id L).isSome = ok at *
  have HRM := Lib.hid hrm
  have HUP := Lib.hid hup
  have HH := Lib.hid h
  clear h hrm hu hup
  go_enter Try.func32, Try.ntmps32
  go_wp2_with fail
  refine HRM.out.mono ?_
  rintro e w1 ⟨rfl, lv1, hr1, ht1, hfa⟩
  have hrt : RTim w1 b lv1 pv (delL id L) sq PL := ⟨hr1, HH.out.p.turns ht1 (fun c hc e => HH.out.nb (by rw [hc, e])), HH.out.nb, fun c hc hl => (hfa c hl).elim (fun h => HH.out.nl c hc h) (fun h => by have := HH.out.p.lt hc; omega)⟩
  have HR1 := Lib.hid (hrt.made ((Turns.refl _ w1).alloc (.cells #[.int .i64 x.id, .int .i64 x.when, .int .i64 x.seq] 68)))
  have HT1 := Lib.hid (ht1.alloc (.cells #[.int .i64 x.id, .int .i64 x.when, .int .i64 x.seq] 68))
  have HFA := Lib.hid hfa
  clear hr1 ht1 hfa hrt HRM HH
  go_wp2_with fail
  generalize w1.alloc (.cells #[.int .i64 x.id, .int .i64 x.when, .int .i64 x.seq] 68) = W at *
  have c2 := HR1.out.cells.2.2
  obtain ⟨ap, cp, hpv⟩ := owns_slice HR1.out.p
  subst hpv
  have HNB := Lib.hid HR1.out.nb
  go_loopw [7] (fun v7 wr => ∃ j : Nat, j ≤ PL.length ∧ v7 = .int .i64 j ∧ W = wr ∧ (∀ y ∈ PL.take j, y.id ≠ id)) (fun v7 _ => PL.length - (intOf v7).toNat)
  case atStart => exact ⟨0, Nat.zero_le _, rfl, rfl, fun y hy => by simp at hy⟩
  case round =>
    obtain ⟨j, hj, rfl, rfl, hno⟩ := hrel
    have j1 : (0 : Int) ≤ (j : Int) := Int.natCast_nonneg _
    by_cases hjl : j < PL.length
    · rcases HR1.out.p.form with ⟨h0, h1⟩ | ⟨g, cap, hv, hg, hlc, hcm⟩
      · rw [h1] at hjl; simp at hjl
      simp only [Value.slice.injEq, true_and] at hv
      obtain ⟨rfl, rfl⟩ := hv
      have j2 : (j : Int) < (PL.length : Int) := by omega
      obtain ⟨y, hy⟩ := get_of_lt hjl
      have e0 := Owns.cell encT_len HR1.out.p hy (j := 0) rfl
      simp only [Nat.add_zero] at e0
      by_cases hyi : y.id = id
      · have hb : (y.id == id) = true := by simp [hyi]
        have HD := Lib.hid (show delL id PL = PL.take j ++ PL.drop (j + 1) by rw [← hyi, delL_at PL j y HUP.out hy, List.eraseIdx_eq_take_drop_succ])
        clear hyi hno hy hg
        go_wp2_with fail
        have HR2 := Lib.hid HR1.out
        have HT2 := Lib.hid HT1.out
        have KS := Lib.hid (show ∀ w', Made W w' → w'.cell? ⟨b, 2, none⟩ = some (.slice (some ⟨g, 0, none⟩) PL.length cp) ∧ Made W w' from fun w' hm => ⟨(HR2.out.made hm).cells.2.2, hm⟩)
        have FZ := Lib.hid (show ∀ w', Made W w' → w'.frozen? ⟨b, 2, none⟩ = false from fun w' hm => (HR2.out.made hm).h.blk.free 2)
        have SRC8 := Lib.hid (show ∀ w', Made W w' → SrcAt encT w' (.slice (some ⟨g, 0, none⟩) j cp) (PL.take j) from fun w' hm => SrcAt.pre encT_len (HR2.out.made hm).p (by omega))
        have j3 : (0 : Int) ≤ (j : Int) := Int.natCast_nonneg _
        have j4 : (j : Int) ≤ (PL.length : Int) := by omega
        have j5 : (j : Int) + 1 ≤ (PL.length : Int) := by omega
        have j6 : (j : Int) ≤ (cp : Int) := by omega
        have j7 : (j : Int) + 1 ≤ (cp : Int) := by omega
        have j8 : (0 : Int) ≤ (j : Int) + 1 := by omega
        have j9 : IntKind.i64.wrap ((j : Int) + 1) = (j : Int) + 1 := wrap_in _ (by omega)
        have hf2 : True := trivial
        by_cases hcap : cp = j + 1
        · have hll : PL.length = j + 1 := by omega
          have j10 : (j : Int) ≤ (j : Int) + 1 := by omega
          subst hcap
          have HLL := Lib.hid hll
          clear hll
          have SRC16 := Lib.hid (show ∀ w', Made W w' → SrcAt encT w' (.slice (some ⟨g, 0, none⟩) 0 0) (PL.drop (j + 1)) from fun w' _ => SrcAt.none_left (by have := HLL.out; omega))
          refine wp_region_z (S := fun w' => w'.cell? ⟨b, 2, none⟩ = some (.slice (some ⟨g, 0, none⟩) PL.length (j + 1)) ∧ Made W w') 19 (by kernel_rfl) ?_ (fun hHeld => ?_)
          · exact KS.out _ (Turns.drew (Turns.refl _ W))
          generalize W.drew = w0 at *
          refine takeZ (i := 0) (d := some 35) (v := ?_) rfl rfl (by kernel_rfl) (by kernel_rfl) (by kernel_rfl) (by kernel_rfl) (fun _ _ _ h => h) (Or.inl ⟨by rfl, ?_⟩) (by assumption) ?_
          rotate_left
          · intro w hSw
            try dsimp only at hSw
            go_simp
            try with_reducible rfl
          try simp only [Act.put, List.setIfInBounds_toArray, List.set_cons_zero, List.set_cons_succ]
          refine takeZ (i := 2) (d := some 37) (v := ?_) rfl rfl (by kernel_rfl) (by kernel_rfl) (by kernel_rfl) (by kernel_rfl) (fun _ _ _ h => h) (Or.inl ⟨by rfl, ?_⟩) (by assumption) ?_
          rotate_left
          · intro w hSw
            try dsimp only at hSw
            go_simp
            try with_reducible rfl
          try simp only [Act.put, List.setIfInBounds_toArray, List.set_cons_zero, List.set_cons_succ]
          refine takeZ (i := 3) (d := some 38) (v := ?_) rfl rfl (by kernel_rfl) (by kernel_rfl) (by kernel_rfl) (by kernel_rfl) (fun _ _ _ h => h) (Or.inl ⟨by rfl, ?_⟩) (by assumption) ?_
          rotate_left
          · intro w hSw
            try dsimp only at hSw
            go_simp
            try with_reducible rfl
          try simp only [Act.put, List.setIfInBounds_toArray, List.set_cons_zero, List.set_cons_succ]
          refine takeZ (i := 4) (d := some 39) (v := ?_) rfl rfl (by kernel_rfl) (by kernel_rfl) (by kernel_rfl) (by kernel_rfl) (fun _ _ _ h => h) (Or.inl ⟨by rfl, ?_⟩) (by assumption) ?_
          rotate_left
          · intro w hSw
            try dsimp only at hSw
            go_simp
            try with_reducible rfl
          try simp only [Act.put, List.setIfInBounds_toArray, List.set_cons_zero, List.set_cons_succ]
          refine takeZ (i := 5) (d := some 40) (v := ?_) rfl rfl (by kernel_rfl) (by kernel_rfl) (by kernel_rfl) (by kernel_rfl) (fun _ _ _ h => h) (Or.inl ⟨by rfl, ?_⟩) (by assumption) ?_
          rotate_left
          · intro w hSw
            try dsimp only at hSw
            have h0 := hSw.1
            go_simp
            try with_reducible rfl
          try simp only [Act.put, List.setIfInBounds_toArray, List.set_cons_zero, List.set_cons_succ]
          refine takeZ (i := 6) (d := some 41) (v := ?_) rfl rfl (by kernel_rfl) (by kernel_rfl) (by kernel_rfl) (by kernel_rfl) (fun _ _ _ h => h) (Or.inl ⟨by rfl, ?_⟩) (by assumption) ?_
          rotate_left
          · intro w hSw
            try dsimp only at hSw
            go_simp
            try with_reducible rfl
          try simp only [Act.put, List.setIfInBounds_toArray, List.set_cons_zero, List.set_cons_succ]
          refine takeZ (i := 7) (d := some 42) (v := ?_) rfl rfl (by kernel_rfl) (by kernel_rfl) (by kernel_rfl) (by kernel_rfl) (fun _ _ _ h => h) (Or.inl ⟨by rfl, ?_⟩) (by assumption) ?_
          rotate_left
          · intro w hSw
            try dsimp only at hSw
            go_simp
            try with_reducible rfl
          try simp only [Act.put, List.setIfInBounds_toArray, List.set_cons_zero, List.set_cons_succ]
          refine takeZ (i := 9) (d := some 44) (v := ?_) rfl rfl (by kernel_rfl) (by kernel_rfl) (by kernel_rfl) (by kernel_rfl) (fun _ _ _ h => h) (Or.inl ⟨by rfl, ?_⟩) (by assumption) ?_
          rotate_left
          · intro w hSw
            try dsimp only at hSw
            go_simp
            try with_reducible rfl
          try simp only [Act.put, List.setIfInBounds_toArray, List.set_cons_zero, List.set_cons_succ]
          refine takeZ (i := 10) (d := some 45) (v := ?_) rfl rfl (by kernel_rfl) (by kernel_rfl) (by kernel_rfl) (by kernel_rfl) (fun _ _ _ h => h) (Or.inl ⟨by rfl, ?_⟩) (by assumption) ?_
          rotate_left
          · intro w hSw
            try dsimp only at hSw
            go_simp
            try with_reducible rfl
          try simp only [Act.put, List.setIfInBounds_toArray, List.set_cons_zero, List.set_cons_succ]
          refine takeZ (i := 11) (d := some 46) (v := ?_) rfl rfl (by kernel_rfl) (by kernel_rfl) (by kernel_rfl) (by kernel_rfl) (fun _ _ _ h => h) (Or.inl ⟨by rfl, ?_⟩) (by assumption) ?_
          rotate_left
          · intro w hSw
            try dsimp only at hSw
            have h0 := hSw.1
            go_simp
            try with_reducible rfl
          try simp only [Act.put, List.setIfInBounds_toArray, List.set_cons_zero, List.set_cons_succ]
          refine takeZ (i := 12) (d := some 47) (v := ?_) rfl rfl (by kernel_rfl) (by kernel_rfl) (by kernel_rfl) (by kernel_rfl) (fun _ _ _ h => h) (Or.inl ⟨by rfl, ?_⟩) (by assumption) ?_
          rotate_left
          · intro w hSw
            try dsimp only at hSw
            go_simp
            try with_reducible rfl
          try simp only [Act.put, List.setIfInBounds_toArray, List.set_cons_zero, List.set_cons_succ]
          refine takeZ (i := 13) (d := some 48) (v := ?_) rfl rfl (by kernel_rfl) (by kernel_rfl) (by kernel_rfl) (by kernel_rfl) (fun _ _ _ h => h) (Or.inl ⟨by rfl, ?_⟩) (by assumption) ?_
          rotate_left
          · intro w hSw
            try dsimp only at hSw
            go_simp
            try with_reducible rfl
          try simp only [Act.put, List.setIfInBounds_toArray, List.set_cons_zero, List.set_cons_succ]
          refine takeZ (i := 14) (d := some 49) (v := ?_) rfl rfl (by kernel_rfl) (by kernel_rfl) (by kernel_rfl) (by kernel_rfl) (fun _ _ _ h => h) (Or.inl ⟨by rfl, ?_⟩) (by assumption) ?_
          rotate_left
          · intro w hSw
            try dsimp only at hSw
            go_simp
            try with_reducible rfl
          try simp only [Act.put, List.setIfInBounds_toArray, List.set_cons_zero, List.set_cons_succ]
          refine takeZ (i := 15) (d := some 50) (v := ?_) rfl rfl (by kernel_rfl) (by kernel_rfl) (by kernel_rfl) (by kernel_rfl) (fun _ _ _ h => h) (Or.inl ⟨by rfl, ?_⟩) (by assumption) ?_
          rotate_left
          · intro w hSw
            try dsimp only at hSw
            go_simp
            try with_reducible rfl
          try simp only [Act.put, List.setIfInBounds_toArray, List.set_cons_zero, List.set_cons_succ]
          refine wpAnyZ_ready (rs := [1]) (by kernel_rfl) (by simp) ?_
          refine AllReadyZ.cons rfl (fun K hK => ?_) AllReadyZ.nil
          refine step_empty encT 3 rfl _ (by rfl) i0 _ Try.underlying47 hi0 hz0 hHeld.2 ?_
          intro bE wE hGE hTE hLE
          refine hK.out _ _ ?_ (fun hHeld => ?_)
          · exact KS.out _ hGE.made
          clear hK K
          try simp only [Act.put, List.setIfInBounds_toArray, List.set_cons_zero, List.set_cons_succ]
          clear hTE
          refine wpAnyZ_ready (rs := [8]) (by kernel_rfl) (by simp) ?_
          refine AllReadyZ.cons rfl (fun K hK => ?_) AllReadyZ.nil
          refine step_grow rfl _ _ _ (by rfl) i0 _ 24 Try.underlying47 hi0 hz0 hz1 hz2 rfl (by omega) encT_len encT_one1 (by rfl) hGE (by rfl) (SRC8.out _ hHeld.2) (by simp only [List.length_append, List.length_take, List.length_drop, List.length_nil, List.length_cons, maxLen]; omega) (by simp only [List.length_append, List.length_take, List.length_drop, List.length_nil, List.length_cons, maxLen]; omega) ?_
          intro v1 w1 hG1 hF1 hS1 hO1
          refine hK.out _ _ ?_ (fun hHeld => ?_)
          · exact KS.out _ hG1.made
          clear hK K
          try simp only [Act.put, List.setIfInBounds_toArray, List.set_cons_zero, List.set_cons_succ]
          clear hF1 hS1 hO1 hGE
          refine wpAnyZ_ready (rs := [16]) (by kernel_rfl) (by simp) ?_
          refine AllReadyZ.cons rfl (fun K hK => ?_) AllReadyZ.nil
          refine step_grow rfl _ _ _ (by rfl) i0 _ 24 Try.underlying47 hi0 hz0 hz1 hz2 rfl (by omega) encT_len encT_one1 (by rfl) hG1 (by rfl) (SRC16.out _ hHeld.2) (by simp only [List.length_append, List.length_take, List.length_drop, List.length_nil, List.length_cons, maxLen]; omega) (by simp only [List.length_append, List.length_take, List.length_drop, List.length_nil, List.length_cons, maxLen]; omega) ?_
          intro v2 w2 hG2 hF2 hS2 hO2
          obtain ⟨a2, n2, c2, rfl⟩ : ∃ a n c, v2 = .slice a n c := by obtain ⟨a, c, h⟩ := owns_slice hG2.own; exact ⟨_, _, _, h⟩
          refine hK.out _ _ ?_ (fun hHeld => ?_)
          · exact KS.out _ hG2.made
          clear hK K
          try simp only [Act.put, List.setIfInBounds_toArray, List.set_cons_zero, List.set_cons_succ]
          clear hF2 hS2 hO2 hG1
          refine wpAnyZ_ready (rs := [17]) (by kernel_rfl) (by simp) ?_
          refine AllReadyZ.cons rfl (fun K hK => ?_) AllReadyZ.nil
          go_simp
          refine hK.out _ _ hHeld (fun hHeld => ?_)
          clear hK K
          try simp only [Act.put, List.setIfInBounds_toArray, List.set_cons_zero, List.set_cons_succ]
          refine takeZ (i := 18) (d := some 53) (v := ?_) rfl rfl (by kernel_rfl) (by kernel_rfl) (by kernel_rfl) (by kernel_rfl) (fun _ _ _ h => h) (Or.inl ⟨by rfl, ?_⟩) (by assumption) ?_
          rotate_left
          · intro w hSw
            try dsimp only at hSw
            go_simp
            try with_reducible rfl
          try simp only [Act.put, List.setIfInBounds_toArray, List.set_cons_zero, List.set_cons_succ]
          refine wpAnyZ_ready (rs := [19]) (by kernel_rfl) (by simp) ?_
          refine AllReadyZ.last rfl (fun K hK => ?_) AllReadyZ.nil
          have hc3 := hHeld.1
          have hf3 := FZ.out _ hHeld.2
          go_simp
          refine hK.out _ _ ?_
          clear hK K
          try simp only [Act.put, List.setIfInBounds_toArray, List.set_cons_zero, List.set_cons_succ]
          refine wpAnyZ_done (by kernel_rfl) ?_ _
          have hfin := rt_set HR2.out hG2
          have hfr := hG2.far
          clear hHeld
          try clear hHeld
          go_wp2_with fail
          go_ret
          refine ⟨rfl, lv1, _, by rw [HD.out]; simpa using hfin.1, HT2.out.then hfin.2 (fun _ _ h => h), HFA.out, fun c hc => .inr (by have := hfr c hc; have := HT2.out.size; omega)⟩
        · have hcap2 : ¬ (cp : Int) = (j : Int) + 1 := by omega
          have SRC16 := Lib.hid (show ∀ w', Made W w' → SrcAt encT w' (.slice (some ⟨g, (j + 1) * 3, none⟩) (PL.length - (j + 1)) (cp - (j + 1))) (PL.drop (j + 1)) from fun w' hm => SrcAt.post encT_len (HR2.out.made hm).p (by omega) rfl rfl)
          refine wp_region_z (S := fun w' => w'.cell? ⟨b, 2, none⟩ = some (.slice (some ⟨g, 0, none⟩) PL.length cp) ∧ Made W w') 19 (by kernel_rfl) ?_ (fun hHeld => ?_)
          · exact KS.out _ (Turns.drew (Turns.refl _ W))
          generalize W.drew = w0 at *
          refine takeZ (i := 0) (d := some 35) (v := ?_) rfl rfl (by kernel_rfl) (by kernel_rfl) (by kernel_rfl) (by kernel_rfl) (fun _ _ _ h => h) (Or.inl ⟨by rfl, ?_⟩) (by assumption) ?_
          rotate_left
          · intro w hSw
            try dsimp only at hSw
            go_simp
            try with_reducible rfl
          try simp only [Act.put, List.setIfInBounds_toArray, List.set_cons_zero, List.set_cons_succ]
          refine takeZ (i := 2) (d := some 37) (v := ?_) rfl rfl (by kernel_rfl) (by kernel_rfl) (by kernel_rfl) (by kernel_rfl) (fun _ _ _ h => h) (Or.inl ⟨by rfl, ?_⟩) (by assumption) ?_
          rotate_left
          · intro w hSw
            try dsimp only at hSw
            go_simp
            try with_reducible rfl
          try simp only [Act.put, List.setIfInBounds_toArray, List.set_cons_zero, List.set_cons_succ]
          refine takeZ (i := 3) (d := some 38) (v := ?_) rfl rfl (by kernel_rfl) (by kernel_rfl) (by kernel_rfl) (by kernel_rfl) (fun _ _ _ h => h) (Or.inl ⟨by rfl, ?_⟩) (by assumption) ?_
          rotate_left
          · intro w hSw
            try dsimp only at hSw
            go_simp
            try with_reducible rfl
          try simp only [Act.put, List.setIfInBounds_toArray, List.set_cons_zero, List.set_cons_succ]
          refine takeZ (i := 4) (d := some 39) (v := ?_) rfl rfl (by kernel_rfl) (by kernel_rfl) (by kernel_rfl) (by kernel_rfl) (fun _ _ _ h => h) (Or.inl ⟨by rfl, ?_⟩) (by assumption) ?_
          rotate_left
          · intro w hSw
            try dsimp only at hSw
            go_simp
            try with_reducible rfl
          try simp only [Act.put, List.setIfInBounds_toArray, List.set_cons_zero, List.set_cons_succ]
          refine takeZ (i := 5) (d := some 40) (v := ?_) rfl rfl (by kernel_rfl) (by kernel_rfl) (by kernel_rfl) (by kernel_rfl) (fun _ _ _ h => h) (Or.inl ⟨by rfl, ?_⟩) (by assumption) ?_
          rotate_left
          · intro w hSw
            try dsimp only at hSw
            have h0 := hSw.1
            go_simp
            try with_reducible rfl
          try simp only [Act.put, List.setIfInBounds_toArray, List.set_cons_zero, List.set_cons_succ]
          refine takeZ (i := 6) (d := some 41) (v := ?_) rfl rfl (by kernel_rfl) (by kernel_rfl) (by kernel_rfl) (by kernel_rfl) (fun _ _ _ h => h) (Or.inl ⟨by rfl, ?_⟩) (by assumption) ?_
          rotate_left
          · intro w hSw
            try dsimp only at hSw
            go_simp
            try with_reducible rfl
          try simp only [Act.put, List.setIfInBounds_toArray, List.set_cons_zero, List.set_cons_succ]
          refine takeZ (i := 7) (d := some 42) (v := ?_) rfl rfl (by kernel_rfl) (by kernel_rfl) (by kernel_rfl) (by kernel_rfl) (fun _ _ _ h => h) (Or.inl ⟨by rfl, ?_⟩) (by assumption) ?_
          rotate_left
          · intro w hSw
            try dsimp only at hSw
            go_simp
            try with_reducible rfl
          try simp only [Act.put, List.setIfInBounds_toArray, List.set_cons_zero, List.set_cons_succ]
          refine takeZ (i := 9) (d := some 44) (v := ?_) rfl rfl (by kernel_rfl) (by kernel_rfl) (by kernel_rfl) (by kernel_rfl) (fun _ _ _ h => h) (Or.inl ⟨by rfl, ?_⟩) (by assumption) ?_
          rotate_left
          · intro w hSw
            try dsimp only at hSw
            go_simp
            try with_reducible rfl
          try simp only [Act.put, List.setIfInBounds_toArray, List.set_cons_zero, List.set_cons_succ]
          refine takeZ (i := 10) (d := some 45) (v := ?_) rfl rfl (by kernel_rfl) (by kernel_rfl) (by kernel_rfl) (by kernel_rfl) (fun _ _ _ h => h) (Or.inl ⟨by rfl, ?_⟩) (by assumption) ?_
          rotate_left
          · intro w hSw
            try dsimp only at hSw
            go_simp
            try with_reducible rfl
          try simp only [Act.put, List.setIfInBounds_toArray, List.set_cons_zero, List.set_cons_succ]
          refine takeZ (i := 11) (d := some 46) (v := ?_) rfl rfl (by kernel_rfl) (by kernel_rfl) (by kernel_rfl) (by kernel_rfl) (fun _ _ _ h => h) (Or.inl ⟨by rfl, ?_⟩) (by assumption) ?_
          rotate_left
          · intro w hSw
            try dsimp only at hSw
            have h0 := hSw.1
            go_simp
            try with_reducible rfl
          try simp only [Act.put, List.setIfInBounds_toArray, List.set_cons_zero, List.set_cons_succ]
          refine takeZ (i := 12) (d := some 47) (v := ?_) rfl rfl (by kernel_rfl) (by kernel_rfl) (by kernel_rfl) (by kernel_rfl) (fun _ _ _ h => h) (Or.inl ⟨by rfl, ?_⟩) (by assumption) ?_
          rotate_left
          · intro w hSw
            try dsimp only at hSw
            go_simp
            try with_reducible rfl
          try simp only [Act.put, List.setIfInBounds_toArray, List.set_cons_zero, List.set_cons_succ]
          refine takeZ (i := 13) (d := some 48) (v := ?_) rfl rfl (by kernel_rfl) (by kernel_rfl) (by kernel_rfl) (by kernel_rfl) (fun _ _ _ h => h) (Or.inl ⟨by rfl, ?_⟩) (by assumption) ?_
          rotate_left
          · intro w hSw
            try dsimp only at hSw
            go_simp
            try with_reducible rfl
          try simp only [Act.put, List.setIfInBounds_toArray, List.set_cons_zero, List.set_cons_succ]
          refine takeZ (i := 14) (d := some 49) (v := ?_) rfl rfl (by kernel_rfl) (by kernel_rfl) (by kernel_rfl) (by kernel_rfl) (fun _ _ _ h => h) (Or.inl ⟨by rfl, ?_⟩) (by assumption) ?_
          rotate_left
          · intro w hSw
            try dsimp only at hSw
            go_simp
            try with_reducible rfl
          try simp only [Act.put, List.setIfInBounds_toArray, List.set_cons_zero, List.set_cons_succ]
          refine takeZ (i := 15) (d := some 50) (v := ?_) rfl rfl (by kernel_rfl) (by kernel_rfl) (by kernel_rfl) (by kernel_rfl) (fun _ _ _ h => h) (Or.inl ⟨by rfl, ?_⟩) (by assumption) ?_
          rotate_left
          · intro w hSw
            try dsimp only at hSw
            go_simp
            try with_reducible rfl
          try simp only [Act.put, List.setIfInBounds_toArray, List.set_cons_zero, List.set_cons_succ]
          refine wpAnyZ_ready (rs := [1]) (by kernel_rfl) (by simp) ?_
          refine AllReadyZ.cons rfl (fun K hK => ?_) AllReadyZ.nil
          refine step_empty encT 3 rfl _ (by rfl) i0 _ Try.underlying47 hi0 hz0 hHeld.2 ?_
          intro bE wE hGE hTE hLE
          refine hK.out _ _ ?_ (fun hHeld => ?_)
          · exact KS.out _ hGE.made
          clear hK K
          try simp only [Act.put, List.setIfInBounds_toArray, List.set_cons_zero, List.set_cons_succ]
          clear hTE
          refine wpAnyZ_ready (rs := [8]) (by kernel_rfl) (by simp) ?_
          refine AllReadyZ.cons rfl (fun K hK => ?_) AllReadyZ.nil
          refine step_grow rfl _ _ _ (by rfl) i0 _ 24 Try.underlying47 hi0 hz0 hz1 hz2 rfl (by omega) encT_len encT_one1 (by rfl) hGE (by rfl) (SRC8.out _ hHeld.2) (by simp only [List.length_append, List.length_take, List.length_drop, List.length_nil, List.length_cons, maxLen]; omega) (by simp only [List.length_append, List.length_take, List.length_drop, List.length_nil, List.length_cons, maxLen]; omega) ?_
          intro v1 w1 hG1 hF1 hS1 hO1
          refine hK.out _ _ ?_ (fun hHeld => ?_)
          · exact KS.out _ hG1.made
          clear hK K
          try simp only [Act.put, List.setIfInBounds_toArray, List.set_cons_zero, List.set_cons_succ]
          clear hF1 hS1 hO1 hGE
          refine wpAnyZ_ready (rs := [16]) (by kernel_rfl) (by simp) ?_
          refine AllReadyZ.cons rfl (fun K hK => ?_) AllReadyZ.nil
          refine step_grow rfl _ _ _ (by rfl) i0 _ 24 Try.underlying47 hi0 hz0 hz1 hz2 rfl (by omega) encT_len encT_one1 (by rfl) hG1 (by rfl) (SRC16.out _ hHeld.2) (by simp only [List.length_append, List.length_take, List.length_drop, List.length_nil, List.length_cons, maxLen]; omega) (by simp only [List.length_append, List.length_take, List.length_drop, List.length_nil, List.length_cons, maxLen]; omega) ?_
          intro v2 w2 hG2 hF2 hS2 hO2
          obtain ⟨a2, n2, c2, rfl⟩ : ∃ a n c, v2 = .slice a n c := by obtain ⟨a, c, h⟩ := owns_slice hG2.own; exact ⟨_, _, _, h⟩
          refine hK.out _ _ ?_ (fun hHeld => ?_)
          · exact KS.out _ hG2.made
          clear hK K
          try simp only [Act.put, List.setIfInBounds_toArray, List.set_cons_zero, List.set_cons_succ]
          clear hF2 hS2 hO2 hG1
          refine wpAnyZ_ready (rs := [17]) (by kernel_rfl) (by simp) ?_
          refine AllReadyZ.cons rfl (fun K hK => ?_) AllReadyZ.nil
          go_simp
          refine hK.out _ _ hHeld (fun hHeld => ?_)
          clear hK K
          try simp only [Act.put, List.setIfInBounds_toArray, List.set_cons_zero, List.set_cons_succ]
          refine takeZ (i := 18) (d := some 53) (v := ?_) rfl rfl (by kernel_rfl) (by kernel_rfl) (by kernel_rfl) (by kernel_rfl) (fun _ _ _ h => h) (Or.inl ⟨by rfl, ?_⟩) (by assumption) ?_
          rotate_left
          · intro w hSw
            try dsimp only at hSw
            go_simp
            try with_reducible rfl
          try simp only [Act.put, List.setIfInBounds_toArray, List.set_cons_zero, List.set_cons_succ]
          refine wpAnyZ_ready (rs := [19]) (by kernel_rfl) (by simp) ?_
          refine AllReadyZ.last rfl (fun K hK => ?_) AllReadyZ.nil
          have hc3 := hHeld.1
          have hf3 := FZ.out _ hHeld.2
          go_simp
          refine hK.out _ _ ?_
          clear hK K
          try simp only [Act.put, List.setIfInBounds_toArray, List.set_cons_zero, List.set_cons_succ]
          refine wpAnyZ_done (by kernel_rfl) ?_ _
          have hfin := rt_set HR2.out hG2
          have hfr := hG2.far
          clear hHeld
          try clear hHeld
          go_wp2_with fail
          go_ret
          refine ⟨rfl, lv1, _, by rw [HD.out]; simpa using hfin.1, HT2.out.then hfin.2 (fun _ _ h => h), HFA.out, fun c hc => .inr (by have := hfr c hc; have := HT2.out.size; omega)⟩
      · have hb : (y.id == id) = false := by simp [hyi]
        have hno2 : ∀ z ∈ PL.take (j + 1), z.id ≠ id := fun z hz => by
          rw [List.take_add_one, hy] at hz
          rcases List.mem_append.1 hz with hz | hz
          · exact hno z hz
          · simp only [Option.toList_some, List.mem_singleton] at hz
            rw [hz]
            exact hyi
        have HNO := Lib.hid hno2
        clear hy hyi hno hno2 hg
        go_wp2_with fail
        go_roundw
        case rel => exact ⟨j + 1, by omega, by go_num, by trivial, HNO.out⟩
        case measure => simp [intOf]; omega
    · have j2 : ¬ (j : Int) < (PL.length : Int) := by omega
      have hd : delL id PL = PL := by
        rw [List.take_of_length_le (by omega)] at hno
        unfold delL
        exact List.filter_eq_self.2 (fun x hx => by simpa using hno x hx)
      have HD := Lib.hid hd
      clear hd hno
      go_wp2_with fail
      go_ret
      exact ⟨rfl, lv1, _, by rw [HD.out]; exact HR1.out, HT1.out, HFA.out, fun c hc => .inl hc⟩
end Go.Proofs.Ytgjgopcomgclkaa
