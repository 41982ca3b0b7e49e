/-
  The document's timers: Arm, Armed.
-/
import Derived.Test.YtgjgopcomgclkaaRu
namespace Go.Proofs.Ytgjgopcomgclkaa
open Go.RowKit
set_option linter.unusedVariables false
set_option linter.unusedSimpArgs false

/-- .. with what is their own. -/
structure RTAt (w : World) (b : Nat) (F : Nat → Prop) (L : List It) (sq : Int) (PL : List It) : Prop where
  ref : ∃ lv pv, RTim w b lv pv L sq PL ∧ ∀ k, F k ↔ k = b ∨ lv.ownBlock = some k ∨ pv.ownBlock = some k
theorem RTAt.fb {w : World} {b : Nat} {F : Nat → Prop} {L : List It} {sq : Int} {PL : List It} (h : RTAt w b F L sq PL) : ∀ k, F k → k < w.heap.size := by
  obtain ⟨lv, pv, hr, hf⟩ := h.ref
  intro k hk
  rcases (hf k).1 hk with rfl | h | h
  · exact hr.h.blk.lt
  · exact hr.h.own.lt h
  · exact hr.p.lt h
theorem RTAt.turns {S : Nat → Prop} {w w' : World} {b : Nat} {F : Nat → Prop} {L : List It} {sq : Int} {PL : List It} (h : RTAt w b F L sq PL) (ht : Turns S w w') (hn : ∀ k, F k → ¬ S k) : RTAt w' b F L sq PL := by
  obtain ⟨lv, pv, hr, hf⟩ := h.ref
  exact ⟨lv, pv, hr.turns ht (hn b ((hf b).2 (.inl rfl))) (fun k hk => hn k ((hf k).2 (.inr (.inl hk)))) (fun k hk => hn k ((hf k).2 (.inr (.inr hk)))), hf⟩
theorem RTAt.made {w w' : World} {b : Nat} {F : Nat → Prop} {L : List It} {sq : Int} {PL : List It} (h : RTAt w b F L sq PL) (ht : Made w w') : RTAt w' b F L sq PL := h.turns ht (fun _ _ h => h)
theorem RTAt.anew {S : Nat → Prop} {w w' : World} {b : Nat} {lv pv lv' pv' : Value} {F : Nat → Prop} {L' : List It} {sq' : Int} {PL' : List It} (hf : ∀ k, F k ↔ k = b ∨ lv.ownBlock = some k ∨ pv.ownBlock = some k) (hr : RTim w' b lv' pv' L' sq' PL') (ht : Turns S w w') (hS : ∀ k, k < w.heap.size → S k → F k)
    (h1 : ∀ c, lv'.ownBlock = some c → lv.ownBlock = some c ∨ w.heap.size ≤ c) (h2 : ∀ c, pv'.ownBlock = some c → pv.ownBlock = some c ∨ w.heap.size ≤ c) : ∃ F', RTAt w' b F' L' sq' PL' ∧ Stp w w' F F' :=
  ⟨fun k => k = b ∨ lv'.ownBlock = some k ∨ pv'.ownBlock = some k, ⟨lv', pv', hr, fun _ => Iff.rfl⟩, ht.mono hS, fun k hk => by
    rcases hk with rfl | h | h
    · exact .inl ((hf _).2 (.inl rfl))
    · exact (h1 k h).imp (fun h => (hf k).2 (.inr (.inl h))) id
    · exact (h2 k h).imp (fun h => (hf k).2 (.inr (.inr h))) id⟩

theorem rstop_c {w : World} {b : Nat} {F : Nat → Prop} {L : List It} {sq : Int} {PL : List It} (id : Int) (h : RTAt w b F L sq PL) (hl : L.length ≤ 1000000) (hn : PL.length ≤ 1000000) (hu : Uniq L) (hup : Uniq PL) :
    Calls Try.prog 32 #[.pointer (some ⟨b, 0, none⟩), .int .i64 id] w fun e w' => e = .returned (.bool (findL id L).isSome) ∧ ∃ F', RTAt w' b F' (delL id L) sq (delL id PL) ∧ Stp w w' F F' := by
  obtain ⟨lv, pv, hr, hf⟩ := h.ref
  refine (rstop_h id w hr hl hn hu hup).mono ?_
  rintro e w' ⟨rfl, lv', pv', hr', ht, h1, h2⟩
  exact ⟨rfl, RTAt.anew hf hr' ht (fun k _ e => (hf k).2 (.inl e)) h1 h2⟩

theorem rarm_bad {b : Addr} (id when period : Int) (w : World) (hbad : when < 0 ∨ 4611686018427387904 < when ∨ period < 0 ∨ 4611686018427387904 < period) :
    Calls Try.prog 30 #[.pointer (some b), .int .i64 id, .int .i64 when, .int .i64 period] w fun e w' => e = .returned (.int .i64 1) ∧ w = w' := by
  have hc : when < 0 ∨ (¬ when < 0 ∧ 4611686018427387904 < when) ∨ (¬ when < 0 ∧ ¬ 4611686018427387904 < when ∧ period < 0) ∨ (¬ when < 0 ∧ ¬ 4611686018427387904 < when ∧ ¬ period < 0 ∧ 4611686018427387904 < period) := by omega
  clear hbad
  rcases hc with h1 | ⟨h1, h2⟩ | ⟨h1, h2, h3⟩ | ⟨h1, h2, h3, h4⟩
  all_goals
    go_enter Try.func30, Try.ntmps30
    go_wp2_with fail
    go_ret
    exact ⟨rfl, rfl⟩

/-- What an append to the periods leaves. -/
theorem rt_add {W w2 : World} {b : Nat} {lv pv v2 : Value} {L PL M : List It} {sq : Int} (HR : RTim W b lv pv L sq PL) (hg : W.grownBy w2 pv.ownBlock) (ho : Owns encT 68 3 w2 v2 M) (hO : v2.ownBlock = pv.ownBlock ∨ v2.ownBlock = some W.heap.size) :
    RTim (w2.setCell ⟨b, 2, none⟩ v2) b lv v2 L sq M ∧ Turns (fun c => c = b ∨ pv.ownBlock = some c) W (w2.setCell ⟨b, 2, none⟩ v2) ∧ (∀ c, v2.ownBlock = some c → pv.ownBlock = some c ∨ W.heap.size ≤ c) := by
  have hbl := HR.h.blk.lt
  have hb2 : Blk w2 b _ _ := (hg.block b hbl (fun e => HR.nb e.symm)).trans HR.h.blk
  have ht2 : Turns (fun c => pv.ownBlock = some c) W w2 := (Turns.refl _ W).grown hg (fun k hk _ => hk)
  have ht3 : Turns (fun c => c = b) w2 (w2.setCell ⟨b, 2, none⟩ v2) := (Turns.refl (fun c => c = b) w2).setCell (p := ⟨b, 2, none⟩) (fun _ => rfl) _
  have hv : ∀ c, v2.ownBlock = some c → pv.ownBlock = some c ∨ W.heap.size ≤ c := fun c hc => by
    rcases hO with e | e
    · exact .inl (by rw [← e]; exact hc)
    · rw [hc, Option.some.injEq] at e
      exact .inr (by omega)
  have hvb : ∀ c, v2.ownBlock = some c → c ≠ b := fun c hc e => by
    subst e
    rcases hv c hc with h | h
    · exact HR.nb h
    · omega
  refine ⟨⟨⟨?_, ?_, HR.h.ne⟩, ?_, fun e => hvb b e rfl, fun c hc hl => ?_⟩, (ht2.mono (fun k _ h => .inr h)).then ht3 (fun k _ h => .inl h), hv⟩
  · have := hb2.put 2 v2
    simpa using this
  · exact (HR.h.own.turns ht2 (fun c hc h => HR.nl c h hc)).turns ht3 (fun c hc e => HR.h.ne (by rw [hc, e]))
  · exact ho.turns ht3 (fun c hc e => hvb c hc e)
  · rcases hv c hc with h | h
    · exact HR.nl c h hl
    · have := HR.h.own.lt hl
      omega

set_option maxHeartbeats 4000000 in
set_option maxRecDepth 100000 in
theorem rarm_c {w : World} {b : Nat} {F : Nat → Prop} {L : List It} {sq : Int} {PL : List It} (id when period : Int) (h : RTAt w b F L sq PL) (hl : L.length ≤ 100000) (hn : PL.length ≤ 100000) (hu : Uniq L) (hup : Uniq PL) (hsq : 0 ≤ sq ∧ sq < 1000000) (hri : L.Pairwise lt) (hse : ∀ x ∈ L, x.seq ≤ sq)
    (h1 : 0 ≤ when) (h2 : when ≤ 4611686018427387904) (h3 : 0 ≤ period) (h4 : period ≤ 4611686018427387904) :
    Calls Try.prog 30 #[.pointer (some ⟨b, 0, none⟩), .int .i64 id, .int .i64 when, .int .i64 period] w fun e w' => e = .returned (.int .i64 0) ∧ ∃ F', RTAt w' b F' (insL ⟨id, when, sq + 1⟩ (delL id L)) (sq + 1) (delL id PL ++ [⟨id, period, 0⟩]) ∧ Stp w w' F F' := by
  obtain ⟨i0, hi0, hz0, hz1, hz2⟩ := info_parts Try.infoR
  have HST := Lib.hid (rstop_c id h (by omega) (by omega) hu hup)
  have HRI := Lib.hid (delL_rise hri id)
  have HSQ := Lib.hid (show ∀ x ∈ delL id L, x.seq ≤ sq from fun x hx => hse x (delL_mem.1 hx).1)
  have hl' : (delL id L).length ≤ 100000 := Nat.le_trans (delL_le L id) hl
  have hn' : (delL id PL).length ≤ 100000 := Nat.le_trans (delL_le PL id) hn
  have g1 : ¬ when < 0 := by omega
  have g2 : ¬ 4611686018427387904 < when := by omega
  have g3 : ¬ period < 0 := by omega
  have g4 : ¬ 4611686018427387904 < period := by omega
  clear h hu hup hri hse hl hn h1 h2 h3 h4
  generalize delL id L = L1 at *
  generalize delL id PL = P1 at *
  go_enter Try.func30, Try.ntmps30
  go_wp2_with fail
  refine HST.out.mono ?_
  rintro e w1 ⟨rfl, F1, hr1, hs1⟩
  have HS1 := Lib.hid hs1
  obtain ⟨lv, pv, hrt, hF⟩ := hr1.ref
  have HR1 := Lib.hid hrt
  have HF := Lib.hid hF
  have HP := Lib.hid (rput_c id when w1 hrt.h (by omega) hsq HRI.out HSQ.out)
  clear hr1 hs1 hrt hF HST
  go_wp2_with fail
  refine HP.out.mono ?_
  rintro e w2 ⟨⟨v, rfl⟩, lv2, hr2, ht2, hfar⟩
  have hrt2 : RTim w2 b lv2 pv (insL ⟨id, when, sq + 1⟩ L1) (sq + 1) P1 := ⟨hr2, HR1.out.p.turns ht2 (fun c hc e => HR1.out.nb (by rw [hc, e])), HR1.out.nb, fun c hc hl => by have := hfar c hl; have := HR1.out.p.lt hc; omega⟩
  have HA2 := Lib.hid (RTAt.anew (F := F1) HF.out hrt2 ht2 (fun k _ e => (HF.out k).2 (.inl e)) (fun c hc => .inr (hfar c hc)) (fun c hc => .inl hc))
  have HR2 := Lib.hid hrt2
  have HT2 := Lib.hid ht2
  have HFR := Lib.hid hfar
  clear hr2 ht2 hfar hrt2 HP HR1
  have c2 := HR2.out.cells.2.2
  have f2 := HR2.out.h.blk.free 2
  have hbl := HR2.out.h.blk.lt
  have HRA := Lib.hid (HR2.out.made ((Turns.refl _ w2).alloc (.cells #[.int .i64 id, .int .i64 period, .int .i64 0] 68)))
  have hoa := HRA.out.p
  unfold Owns at hoa
  have HOA := Lib.hid hoa
  clear hoa
  go_wp2_with (at_builtin; refine wpList_append_own_at _ rfl (.tmp 36) (.tmp 40) 47 rfl 0 68 i0 _ 3 24 Try.underlying47 hi0 hz0 hz1 hz2 rfl (by omega) pv P1.length (flat encT P1) rfl HOA.out ⟨w2.heap.size, 0, none⟩ 1 1 [.int .i64 id, .int .i64 period, .int .i64 0] rfl rfl (World.news_of_block (cs := #[.int .i64 id, .int .i64 period, .int .i64 0]) (t := 68) (fr := (0, 0)) (heap_alloc_new w2 _)) (encT_one1 ⟨id, period, 0⟩) (by unfold maxLen; omega) (by omega) (Nat.zero_le _) ?_)
  intro v3 w3 hown hgr _ hO
  have ho3 : Owns encT 68 3 w3 v3 (P1 ++ [⟨id, period, 0⟩]) := by
    unfold Owns
    rw [flat_append, List.length_append]
    exact hown
  have hfin := rt_add HRA.out hgr ho3 (by rw [World.size_alloc]; exact hO)
  have hcz : w3.cell? ⟨b, 2, none⟩ = some pv := (hgr.cell_far ⟨b, 2, none⟩ HRA.out.h.blk.lt (fun e => HRA.out.nb e.symm)).trans HRA.out.cells.2.2
  have hfz : w3.frozen? ⟨b, 2, none⟩ = false := (hgr.frozen_far ⟨b, 2, none⟩ HRA.out.h.blk.lt (fun e => HRA.out.nb e.symm)).trans (HRA.out.h.blk.free 2)
  obtain ⟨a3, n3, c3, rfl⟩ : ∃ a n c, v3 = .slice a n c := by obtain ⟨a, c, h⟩ := owns_slice ho3; exact ⟨_, _, _, h⟩
  have HFIN := Lib.hid hfin
  clear hown hgr hO ho3 hfin HOA c2 f2
  go_wp2_with fail
  go_ret
  refine ⟨rfl, ?_⟩
  obtain ⟨F2, hA2, hS2⟩ := HA2.out
  have htA := (Turns.refl (fun _ => False) w2).alloc (.cells #[.int .i64 id, .int .i64 period, .int .i64 0] 68)
  obtain ⟨f1, f2', f3⟩ := HFIN.out
  have hF2 : ∀ k, (k = b ∨ lv2.ownBlock = some k ∨ pv.ownBlock = some k) ↔ (k = b ∨ lv2.ownBlock = some k ∨ pv.ownBlock = some k) := fun _ => Iff.rfl
  obtain ⟨F3, hA3, hS3⟩ := RTAt.anew (F := fun k => k = b ∨ lv2.ownBlock = some k ∨ pv.ownBlock = some k) (w := w2) hF2 f1 ((htA.mono (fun _ _ h => h.elim)).then f2' (fun _ _ h => h)) (fun k _ h => h.imp (fun h => h) .inr) (fun c hc => .inl hc) (fun c hc => (f3 c hc).imp (fun h => h) (fun h => Nat.le_trans htA.size h))
  have hS2' : Stp w1 w2 F1 (fun k => k = b ∨ lv2.ownBlock = some k ∨ pv.ownBlock = some k) := ⟨HT2.out.mono (fun k _ e => (HF.out k).2 (.inl e)), fun k hk => by
    rcases hk with rfl | hk | hk
    · exact .inl ((HF.out _).2 (.inl rfl))
    · exact .inr (HFR.out k hk)
    · exact .inl ((HF.out k).2 (.inr (.inr hk)))⟩
  exact ⟨F3, hA3, (HS1.out.trans hS2').trans hS3⟩
end Go.Proofs.Ytgjgopcomgclkaa
