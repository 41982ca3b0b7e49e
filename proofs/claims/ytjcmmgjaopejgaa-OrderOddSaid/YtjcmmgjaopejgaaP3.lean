/-
  tarpaulinref17.SoundTrace.
-/
import Derived.Test.YtjcmmgjaopejgaaP2
namespace Go.Proofs.Ytjcmmgjaopejgaa
open Go.RowKit Go.Sort
set_option linter.unusedVariables false
set_option linter.unusedSimpArgs false

theorem snd_range {sts : List Int} {e : Ev} (h : e.kind < 1 ∨ 8 < e.kind) : sndStep sts e = none := by
  have hm : ∀ s b, mayM e.kind s b = false := fun s b => by
    unfold mayM
    rw [if_neg (by omega), if_neg (by omega), if_neg (by omega)]
    simp only [Bool.and_eq_false_iff, decide_eq_false_iff_not]
    omega
  unfold sndStep
  rw [if_neg (by omega)]
  cases atS sts e.task <;> simp [hm]
theorem set_same {sts : List Int} {k : Nat} {s : Int} (h : sts[k]? = some s) : sts.set k s = sts := by
  obtain ⟨hl, rfl⟩ := List.getElem?_eq_some_iff.1 h
  exact List.set_getElem_self hl
theorem atS_get {sts : List Int} {t s : Int} (h : atS sts t = some s) : sts[t.toNat]? = some s := by
  unfold atS at h
  split at h
  · exact h
  · cases h
theorem snd_mute {sts : List Int} {e : Ev} (h : 6 ≤ e.kind ∧ e.kind ≤ 8) : sndStep sts e = some sts := by
  have hm : ∀ s b, mayM e.kind s b = true := fun s b => by
    unfold mayM
    rw [if_neg (by omega), if_neg (by omega), if_neg (by omega)]
    simp only [Bool.and_eq_true, decide_eq_true_eq]
    omega
  unfold sndStep
  rw [if_neg (by omega)]
  cases ha : atS sts e.task with
  | none => simp [hm]
  | some s =>
    have hg : goSt s e.kind = s := by unfold goSt; rw [if_neg (by omega), if_neg (by omega), if_neg (by omega)]
    simp only [hm, if_true, hg, set_same (atS_get ha)]
/-- The task of each is its place. -/
def TK (ys : List St) : Prop := ∀ (i : Nat) (x : St), ys[i]? = some x → x.task = (i : Int)
theorem TK.set {ys : List St} (h : TK ys) {k : Nat} {x x' : St} (hk : ys[k]? = some x) (he : x'.task = x.task) : TK (ys.set k x') := fun i y hy => by
  obtain ⟨hl, _⟩ := List.getElem?_eq_some_iff.1 hk
  by_cases hi : i = k
  · subst hi
    rw [List.getElem?_set_self hl] at hy
    cases hy
    rw [he]
    exact h i x hk
  · rw [List.getElem?_set_ne (fun e => hi e.symm)] at hy
    exact h i y hy
theorem TK.add {ys : List St} (h : TK ys) {x : St} (hx : x.task = (ys.length : Int)) : TK (ys ++ [x]) := fun i y hy => by
  rcases Nat.lt_trichotomy i ys.length with hi | hi | hi
  · rw [List.getElem?_append_left hi] at hy
    exact h i y hy
  · subst hi
    simp at hy
    rw [← hy]
    exact hx
  · rw [List.getElem?_eq_none (by simp; omega)] at hy
    cases hy
theorem TK.at {ys : List St} (h : TK ys) {k : Nat} {x : St} {t : Int} (hk : ys[k]? = some x) (hx : x.task = t) : atS (ys.map St.state) t = some x.state ∧ t.toNat = k := by
  have h1 := h k x hk
  have ht : t.toNat = k := by omega
  refine ⟨?_, ht⟩
  unfold atS
  rw [if_pos (by omega), ht, List.getElem?_map, hk]
  rfl
theorem TK.no {ys : List St} (h : TK ys) {t : Int} (hn : ∀ y ∈ ys, y.task ≠ t) : atS (ys.map St.state) t = none := by
  unfold atS
  split
  · rename_i h0
    rw [List.getElem?_map]
    cases hy : ys[t.toNat]? with
    | none => rfl
    | some y => exact absurd (by have := h _ _ hy; omega) (hn y (List.mem_of_getElem? hy))
  · rfl
/-- A step of a task that is there. -/
theorem snd_there {ys : List St} {e : Ev} {k : Nat} {x x' : St} (h5 : e.kind ≠ 5) (ha : atS (ys.map St.state) e.task = some x.state) (ht : e.task.toNat = k) (hm : mayM e.kind x.state true = true) (hx : x'.state = goSt x.state e.kind) :
    sndStep (ys.map St.state) e = some ((ys.set k x').map St.state) := by
  unfold sndStep
  rw [if_neg h5, ha]
  simp only [hm, if_true]
  rw [List.map_set, ht, hx]
theorem snd_bad {ys : List St} {e : Ev} {x : St} (h5 : e.kind ≠ 5) (ha : atS (ys.map St.state) e.task = some x.state) (hm : mayM e.kind x.state true = false) : sndStep (ys.map St.state) e = none := by
  unfold sndStep
  rw [if_neg h5, ha]
  simp [hm]

set_option maxHeartbeats 8000000 in
set_option maxRecDepth 100000 in
theorem rsound_c (a : Option Addr) (len cap : Nat) (l : List Ev) (w : World) (hw : RowIn encE 6 w a len l) (hn : len ≤ 100000) :
    Calls Try.prog 11 #[.slice a len cap] w fun e w' => e = .returned (.bool (soundM l)) ∧ Made w w' := by
  obtain ⟨i0, hi0, hz0, hz1, hz2⟩ := info_parts Try.infoR
  obtain ⟨r, hr⟩ : ∃ r, soundM l = r := ⟨_, rfl⟩
  rw [hr]
  have HR := Lib.hid hr
  have HW := Lib.hid hw
  clear hw hr
  go_enter Try.func11, Try.ntmps11
  go_wp2_with fail
  have HG0 := Lib.hid (show Grow encS 40 4 w (w.alloc (.cells #[.int .i64 0, .int .i64 0, .int .i64 0, .int .i64 0] 40)) (.slice (some ⟨w.heap.size, 0, none⟩) 1 1) [⟨0, 0, 0, 0⟩] from
    ⟨Turns.alloc (Turns.refl (fun _ => False) w) _, ⟨rfl, .inr ⟨w.heap.size, 1, _, rfl, Nat.zero_le _, heap_alloc_new w _, Nat.le_refl _, by unfold maxLen; omega, rfl, rfl⟩⟩, fun c hc => by
      simp only [Value.ownBlock, Option.some.injEq] at hc
      omega⟩)
  generalize w.alloc (.cells #[.int .i64 0, .int .i64 0, .int .i64 0, .int .i64 0] 40) = W0 at *
  generalize hB0 : (Value.slice (some ⟨w.heap.size, 0, none⟩) 1 1) = V0 at *
  have HT0 := Lib.hid (show TK [⟨0, 0, 0, 0⟩] from fun i x hx => by
    cases i with
    | zero => simp at hx; rw [← hx]; rfl
    | succ i => simp at hx)
  go_loopw [3, 4] (fun v3 v4 wr => ∃ (j : Nat) (ys : List St), j ≤ len ∧ v4 = .int .i64 j ∧ Grow encS 40 4 w wr v3 ys ∧ sndGo (prevE l j) (ys.map St.state) (l.drop j) = r ∧ TK ys ∧ ys.length ≤ j + 1 ∧ 1 ≤ ys.length) (fun _ v4 _ => len - (intOf v4).toNat)
  case atStart => exact ⟨0, _, Nat.zero_le _, rfl, HG0.out, HR.out, HT0.out, Nat.le_refl _, Nat.le_refl _⟩
  case round =>
    obtain ⟨j, ys, hj, rfl, hg, hs, htk, hyl, hy1⟩ := hrel
    clear HG0 hB0 HT0
    have hyb : ys.length ≤ 1000000 := by omega
    rcases hg.own.form with ⟨h0, h1⟩ | ⟨g, cp, rfl, hgl, hlc, hcm⟩
    · rw [h1] at hy1
      simp at hy1
    have HG := Lib.hid hg
    have HS := Lib.hid hs
    have HTK := Lib.hid htk
    clear hg hs hgl htk
    have j1 : (0 : Int) ≤ (j : Int) := Int.natCast_nonneg _
    by_cases hjl : j < len
    · have j2 : (j : Int) < (len : Int) := by omega
      obtain ⟨hlen, h0 | ⟨bb, off, rfl, hb, hlies⟩⟩ := HW.out
      · omega
      obtain ⟨e, he⟩ := get_of_lt (xs := l) (k := j) (by omega)
      have HL := Lib.hid (fun (w' : World) (hm : Made w w') => hlies.keep fun o => hm.cell (p := ⟨bb, o, none⟩) hb (fun h => h))
      obtain ⟨c0, c1, c2, c3, c4, c5⟩ := ev_cells (HL.out _ HG.out.made) he
      have HE := Lib.hid he
      clear he hlies hb hlen
      obtain ⟨fl, hfl⟩ : ∃ fl, falls (prevE l j) e = fl := ⟨_, rfl⟩
      have HFL := Lib.hid hfl
      clear hfl
      obtain ⟨bad, hbad⟩ : ∃ bad, (decide (e.kind < 1) || decide (8 < e.kind) || fl) = bad := ⟨_, rfl⟩
      have HBAD := Lib.hid hbad
      clear hbad
      go_upto_region 6 with fail
      have HB := Lib.hid (Blk.new wr 26 #[.int .i64 e.step, .int .i64 e.kind, .int .i64 e.task, .int .i64 e.a, .int .i64 e.b, .int .i64 e.c])
      have HG1 := Lib.hid (HG.out.alloc (.cells #[.int .i64 e.step, .int .i64 e.kind, .int .i64 e.task, .int .i64 e.a, .int .i64 e.b, .int .i64 e.c] 26))
      have hgw : g < wr.heap.size := HG.out.own.lt rfl
      have hgB : g ≠ wr.heap.size := by omega
      clear HG c0 c1 c2 c3 c4 c5 hgw
      generalize wr.alloc (.cells #[.int .i64 e.step, .int .i64 e.kind, .int .i64 e.task, .int .i64 e.a, .int .i64 e.b, .int .i64 e.c] 26) = w1 at *
      generalize wr.heap.size = B at *
      go_cut [41] (fun v41 wx => w1.drew = wx ∧ v41 = .bool bad)
      case first =>
        have b0 := (HB.out.turns (Turns.drew (Turns.refl (fun _ => False) w1)) (fun h => h)).cell 0
        have b1 := (HB.out.turns (Turns.drew (Turns.refl (fun _ => False) w1)) (fun h => h)).cell 1
        simp only [List.getElem?_toArray, List.getElem?_cons_zero, List.getElem?_cons_succ] at b0 b1
        by_cases hk1 : e.kind < 1
        · have hbb : bad = true := by rw [← HBAD.out]; simp [hk1]
          have HBB := Lib.hid hbb
          clear hbb
          refine wp_region_held_drew (S := fun w' => w1.drew = w') (by kernel_rfl) ?_ (fun hHeld => ?_)
          · exact rfl
          refine takeH (i := 0) (d := some 19) (v := ?_) rfl rfl (by kernel_rfl) (by kernel_rfl) (by kernel_rfl) (fun _ _ _ h => h) (Or.inl ⟨by rfl, ?_⟩) (by assumption) ?_
          rotate_left
          · intro w hSw
            try dsimp only at hSw
            go_simp
            try with_reducible rfl
          try simp only [Act.put, List.setIfInBounds_toArray, List.set_cons_zero, List.set_cons_succ]
          refine takeH (i := 1) (d := some 20) (v := ?_) rfl rfl (by kernel_rfl) (by kernel_rfl) (by kernel_rfl) (fun _ _ _ h => h) (Or.inl ⟨by rfl, ?_⟩) (by assumption) ?_
          rotate_left
          · intro w hSw
            try dsimp only at hSw
            subst hSw
            go_simp
            try with_reducible rfl
          try simp only [Act.put, List.setIfInBounds_toArray, List.set_cons_zero, List.set_cons_succ]
          refine takeH (i := 2) (d := some 21) (v := ?_) rfl rfl (by kernel_rfl) (by kernel_rfl) (by kernel_rfl) (fun _ _ _ h => h) (Or.inl ⟨by rfl, ?_⟩) (by assumption) ?_
          rotate_left
          · intro w hSw
            try dsimp only at hSw
            go_simp
            try with_reducible rfl
          try simp only [Act.put, List.setIfInBounds_toArray, List.set_cons_zero, List.set_cons_succ]
          refine takeH (i := 3) (d := some 22) (v := ?_) rfl rfl (by kernel_rfl) (by kernel_rfl) (by kernel_rfl) (fun _ _ _ h => h) (Or.inl ⟨by rfl, ?_⟩) (by assumption) ?_
          rotate_left
          · intro w hSw
            try dsimp only at hSw
            go_simp
            try with_reducible rfl
          try simp only [Act.put, List.setIfInBounds_toArray, List.set_cons_zero, List.set_cons_succ]
          refine takeH (i := 4) (d := some 23) (v := undef) rfl rfl (by kernel_rfl) (by kernel_rfl) (by kernel_rfl) (fun _ _ _ h => h) (Or.inr ⟨by rfl, rfl⟩) (by assumption) ?_
          try simp only [Act.put, List.setIfInBounds_toArray, List.set_cons_zero, List.set_cons_succ]
          refine takeH (i := 5) (d := some 24) (v := undef) rfl rfl (by kernel_rfl) (by kernel_rfl) (by kernel_rfl) (fun _ _ _ h => h) (Or.inr ⟨by rfl, rfl⟩) (by assumption) ?_
          try simp only [Act.put, List.setIfInBounds_toArray, List.set_cons_zero, List.set_cons_succ]
          refine takeH (i := 6) (d := some 25) (v := undef) rfl rfl (by kernel_rfl) (by kernel_rfl) (by kernel_rfl) (fun _ _ _ h => h) (Or.inr ⟨by rfl, rfl⟩) (by assumption) ?_
          try simp only [Act.put, List.setIfInBounds_toArray, List.set_cons_zero, List.set_cons_succ]
          refine takeH (i := 7) (d := some 26) (v := ?_) rfl rfl (by kernel_rfl) (by kernel_rfl) (by kernel_rfl) (fun _ _ _ h => h) (Or.inl ⟨by rfl, ?_⟩) (by assumption) ?_
          rotate_left
          · intro w hSw
            try dsimp only at hSw
            go_simp
            try with_reducible rfl
          try simp only [Act.put, List.setIfInBounds_toArray, List.set_cons_zero, List.set_cons_succ]
          refine takeH (i := 8) (d := some 27) (v := ?_) rfl rfl (by kernel_rfl) (by kernel_rfl) (by kernel_rfl) (fun _ _ _ h => h) (Or.inl ⟨by rfl, ?_⟩) (by assumption) ?_
          rotate_left
          · intro w hSw
            try dsimp only at hSw
            go_simp
            try with_reducible rfl
          try simp only [Act.put, List.setIfInBounds_toArray, List.set_cons_zero, List.set_cons_succ]
          refine takeH (i := 9) (d := some 28) (v := undef) rfl rfl (by kernel_rfl) (by kernel_rfl) (by kernel_rfl) (fun _ _ _ h => h) (Or.inr ⟨by rfl, rfl⟩) (by assumption) ?_
          try simp only [Act.put, List.setIfInBounds_toArray, List.set_cons_zero, List.set_cons_succ]
          refine takeH (i := 10) (d := some 29) (v := undef) rfl rfl (by kernel_rfl) (by kernel_rfl) (by kernel_rfl) (fun _ _ _ h => h) (Or.inr ⟨by rfl, rfl⟩) (by assumption) ?_
          try simp only [Act.put, List.setIfInBounds_toArray, List.set_cons_zero, List.set_cons_succ]
          refine takeH (i := 11) (d := some 30) (v := undef) rfl rfl (by kernel_rfl) (by kernel_rfl) (by kernel_rfl) (fun _ _ _ h => h) (Or.inr ⟨by rfl, rfl⟩) (by assumption) ?_
          try simp only [Act.put, List.setIfInBounds_toArray, List.set_cons_zero, List.set_cons_succ]
          refine takeH (i := 12) (d := some 31) (v := undef) rfl rfl (by kernel_rfl) (by kernel_rfl) (by kernel_rfl) (fun _ _ _ h => h) (Or.inr ⟨by rfl, rfl⟩) (by assumption) ?_
          try simp only [Act.put, List.setIfInBounds_toArray, List.set_cons_zero, List.set_cons_succ]
          refine takeH (i := 13) (d := some 32) (v := undef) rfl rfl (by kernel_rfl) (by kernel_rfl) (by kernel_rfl) (fun _ _ _ h => h) (Or.inr ⟨by rfl, rfl⟩) (by assumption) ?_
          try simp only [Act.put, List.setIfInBounds_toArray, List.set_cons_zero, List.set_cons_succ]
          refine takeH (i := 14) (d := some 33) (v := undef) rfl rfl (by kernel_rfl) (by kernel_rfl) (by kernel_rfl) (fun _ _ _ h => h) (Or.inr ⟨by rfl, rfl⟩) (by assumption) ?_
          try simp only [Act.put, List.setIfInBounds_toArray, List.set_cons_zero, List.set_cons_succ]
          refine takeH (i := 15) (d := some 34) (v := undef) rfl rfl (by kernel_rfl) (by kernel_rfl) (by kernel_rfl) (fun _ _ _ h => h) (Or.inr ⟨by rfl, rfl⟩) (by assumption) ?_
          try simp only [Act.put, List.setIfInBounds_toArray, List.set_cons_zero, List.set_cons_succ]
          refine takeH (i := 16) (d := some 35) (v := undef) rfl rfl (by kernel_rfl) (by kernel_rfl) (by kernel_rfl) (fun _ _ _ h => h) (Or.inr ⟨by rfl, rfl⟩) (by assumption) ?_
          try simp only [Act.put, List.setIfInBounds_toArray, List.set_cons_zero, List.set_cons_succ]
          refine takeH (i := 17) (d := some 36) (v := undef) rfl rfl (by kernel_rfl) (by kernel_rfl) (by kernel_rfl) (fun _ _ _ h => h) (Or.inr ⟨by rfl, rfl⟩) (by assumption) ?_
          try simp only [Act.put, List.setIfInBounds_toArray, List.set_cons_zero, List.set_cons_succ]
          refine takeH (i := 18) (d := some 37) (v := undef) rfl rfl (by kernel_rfl) (by kernel_rfl) (by kernel_rfl) (fun _ _ _ h => h) (Or.inr ⟨by rfl, rfl⟩) (by assumption) ?_
          try simp only [Act.put, List.setIfInBounds_toArray, List.set_cons_zero, List.set_cons_succ]
          refine takeH (i := 19) (d := some 38) (v := undef) rfl rfl (by kernel_rfl) (by kernel_rfl) (by kernel_rfl) (fun _ _ _ h => h) (Or.inr ⟨by rfl, rfl⟩) (by assumption) ?_
          try simp only [Act.put, List.setIfInBounds_toArray, List.set_cons_zero, List.set_cons_succ]
          refine takeH (i := 20) (d := some 39) (v := undef) rfl rfl (by kernel_rfl) (by kernel_rfl) (by kernel_rfl) (fun _ _ _ h => h) (Or.inr ⟨by rfl, rfl⟩) (by assumption) ?_
          try simp only [Act.put, List.setIfInBounds_toArray, List.set_cons_zero, List.set_cons_succ]
          refine takeH (i := 21) (d := some 40) (v := undef) rfl rfl (by kernel_rfl) (by kernel_rfl) (by kernel_rfl) (fun _ _ _ h => h) (Or.inr ⟨by rfl, rfl⟩) (by assumption) ?_
          try simp only [Act.put, List.setIfInBounds_toArray, List.set_cons_zero, List.set_cons_succ]
          refine takeH (i := 22) (d := some 41) (v := ?_) rfl rfl (by kernel_rfl) (by kernel_rfl) (by kernel_rfl) (fun _ _ _ h => h) (Or.inl ⟨by rfl, ?_⟩) (by assumption) ?_
          rotate_left
          · intro w hSw
            try dsimp only at hSw
            go_simp
            try with_reducible rfl
          try simp only [Act.put, List.setIfInBounds_toArray, List.set_cons_zero, List.set_cons_succ]
          refine wpAnyH_done (by kernel_rfl) ?_ _
          go_wp2_with fail
          go_meet
          exact ⟨rfl, by rw [HBB.out]⟩
        have k1 : 1 ≤ e.kind := by omega
        by_cases hk8 : 8 < e.kind
        · have hbb : bad = true := by rw [← HBAD.out]; simp [hk8]
          have HBB := Lib.hid hbb
          clear hbb
          refine wp_region_held_drew (S := fun w' => w1.drew = w') (by kernel_rfl) ?_ (fun hHeld => ?_)
          · exact rfl
          refine takeH (i := 0) (d := some 19) (v := ?_) rfl rfl (by kernel_rfl) (by kernel_rfl) (by kernel_rfl) (fun _ _ _ h => h) (Or.inl ⟨by rfl, ?_⟩) (by assumption) ?_
          rotate_left
          · intro w hSw
            try dsimp only at hSw
            go_simp
            try with_reducible rfl
          try simp only [Act.put, List.setIfInBounds_toArray, List.set_cons_zero, List.set_cons_succ]
          refine takeH (i := 1) (d := some 20) (v := ?_) rfl rfl (by kernel_rfl) (by kernel_rfl) (by kernel_rfl) (fun _ _ _ h => h) (Or.inl ⟨by rfl, ?_⟩) (by assumption) ?_
          rotate_left
          · intro w hSw
            try dsimp only at hSw
            subst hSw
            go_simp
            try with_reducible rfl
          try simp only [Act.put, List.setIfInBounds_toArray, List.set_cons_zero, List.set_cons_succ]
          refine takeH (i := 2) (d := some 21) (v := ?_) rfl rfl (by kernel_rfl) (by kernel_rfl) (by kernel_rfl) (fun _ _ _ h => h) (Or.inl ⟨by rfl, ?_⟩) (by assumption) ?_
          rotate_left
          · intro w hSw
            try dsimp only at hSw
            go_simp
            try with_reducible rfl
          try simp only [Act.put, List.setIfInBounds_toArray, List.set_cons_zero, List.set_cons_succ]
          refine takeH (i := 3) (d := some 22) (v := ?_) rfl rfl (by kernel_rfl) (by kernel_rfl) (by kernel_rfl) (fun _ _ _ h => h) (Or.inl ⟨by rfl, ?_⟩) (by assumption) ?_
          rotate_left
          · intro w hSw
            try dsimp only at hSw
            go_simp
            try with_reducible rfl
          try simp only [Act.put, List.setIfInBounds_toArray, List.set_cons_zero, List.set_cons_succ]
          refine takeH (i := 4) (d := some 23) (v := ?_) rfl rfl (by kernel_rfl) (by kernel_rfl) (by kernel_rfl) (fun _ _ _ h => h) (Or.inl ⟨by rfl, ?_⟩) (by assumption) ?_
          rotate_left
          · intro w hSw
            try dsimp only at hSw
            go_simp
            try with_reducible rfl
          try simp only [Act.put, List.setIfInBounds_toArray, List.set_cons_zero, List.set_cons_succ]
          refine takeH (i := 5) (d := some 24) (v := ?_) rfl rfl (by kernel_rfl) (by kernel_rfl) (by kernel_rfl) (fun _ _ _ h => h) (Or.inl ⟨by rfl, ?_⟩) (by assumption) ?_
          rotate_left
          · intro w hSw
            try dsimp only at hSw
            subst hSw
            go_simp
            try with_reducible rfl
          try simp only [Act.put, List.setIfInBounds_toArray, List.set_cons_zero, List.set_cons_succ]
          refine takeH (i := 6) (d := some 25) (v := ?_) rfl rfl (by kernel_rfl) (by kernel_rfl) (by kernel_rfl) (fun _ _ _ h => h) (Or.inl ⟨by rfl, ?_⟩) (by assumption) ?_
          rotate_left
          · intro w hSw
            try dsimp only at hSw
            go_simp
            try with_reducible rfl
          try simp only [Act.put, List.setIfInBounds_toArray, List.set_cons_zero, List.set_cons_succ]
          refine takeH (i := 7) (d := some 26) (v := ?_) rfl rfl (by kernel_rfl) (by kernel_rfl) (by kernel_rfl) (fun _ _ _ h => h) (Or.inl ⟨by rfl, ?_⟩) (by assumption) ?_
          rotate_left
          · intro w hSw
            try dsimp only at hSw
            go_simp
            try with_reducible rfl
          try simp only [Act.put, List.setIfInBounds_toArray, List.set_cons_zero, List.set_cons_succ]
          refine takeH (i := 8) (d := some 27) (v := ?_) rfl rfl (by kernel_rfl) (by kernel_rfl) (by kernel_rfl) (fun _ _ _ h => h) (Or.inl ⟨by rfl, ?_⟩) (by assumption) ?_
          rotate_left
          · intro w hSw
            try dsimp only at hSw
            go_simp
            try with_reducible rfl
          try simp only [Act.put, List.setIfInBounds_toArray, List.set_cons_zero, List.set_cons_succ]
          refine takeH (i := 9) (d := some 28) (v := undef) rfl rfl (by kernel_rfl) (by kernel_rfl) (by kernel_rfl) (fun _ _ _ h => h) (Or.inr ⟨by rfl, rfl⟩) (by assumption) ?_
          try simp only [Act.put, List.setIfInBounds_toArray, List.set_cons_zero, List.set_cons_succ]
          refine takeH (i := 10) (d := some 29) (v := undef) rfl rfl (by kernel_rfl) (by kernel_rfl) (by kernel_rfl) (fun _ _ _ h => h) (Or.inr ⟨by rfl, rfl⟩) (by assumption) ?_
          try simp only [Act.put, List.setIfInBounds_toArray, List.set_cons_zero, List.set_cons_succ]
          refine takeH (i := 11) (d := some 30) (v := undef) rfl rfl (by kernel_rfl) (by kernel_rfl) (by kernel_rfl) (fun _ _ _ h => h) (Or.inr ⟨by rfl, rfl⟩) (by assumption) ?_
          try simp only [Act.put, List.setIfInBounds_toArray, List.set_cons_zero, List.set_cons_succ]
          refine takeH (i := 12) (d := some 31) (v := undef) rfl rfl (by kernel_rfl) (by kernel_rfl) (by kernel_rfl) (fun _ _ _ h => h) (Or.inr ⟨by rfl, rfl⟩) (by assumption) ?_
          try simp only [Act.put, List.setIfInBounds_toArray, List.set_cons_zero, List.set_cons_succ]
          refine takeH (i := 13) (d := some 32) (v := undef) rfl rfl (by kernel_rfl) (by kernel_rfl) (by kernel_rfl) (fun _ _ _ h => h) (Or.inr ⟨by rfl, rfl⟩) (by assumption) ?_
          try simp only [Act.put, List.setIfInBounds_toArray, List.set_cons_zero, List.set_cons_succ]
          refine takeH (i := 14) (d := some 33) (v := undef) rfl rfl (by kernel_rfl) (by kernel_rfl) (by kernel_rfl) (fun _ _ _ h => h) (Or.inr ⟨by rfl, rfl⟩) (by assumption) ?_
          try simp only [Act.put, List.setIfInBounds_toArray, List.set_cons_zero, List.set_cons_succ]
          refine takeH (i := 15) (d := some 34) (v := undef) rfl rfl (by kernel_rfl) (by kernel_rfl) (by kernel_rfl) (fun _ _ _ h => h) (Or.inr ⟨by rfl, rfl⟩) (by assumption) ?_
          try simp only [Act.put, List.setIfInBounds_toArray, List.set_cons_zero, List.set_cons_succ]
          refine takeH (i := 16) (d := some 35) (v := undef) rfl rfl (by kernel_rfl) (by kernel_rfl) (by kernel_rfl) (fun _ _ _ h => h) (Or.inr ⟨by rfl, rfl⟩) (by assumption) ?_
          try simp only [Act.put, List.setIfInBounds_toArray, List.set_cons_zero, List.set_cons_succ]
          refine takeH (i := 17) (d := some 36) (v := undef) rfl rfl (by kernel_rfl) (by kernel_rfl) (by kernel_rfl) (fun _ _ _ h => h) (Or.inr ⟨by rfl, rfl⟩) (by assumption) ?_
          try simp only [Act.put, List.setIfInBounds_toArray, List.set_cons_zero, List.set_cons_succ]
          refine takeH (i := 18) (d := some 37) (v := undef) rfl rfl (by kernel_rfl) (by kernel_rfl) (by kernel_rfl) (fun _ _ _ h => h) (Or.inr ⟨by rfl, rfl⟩) (by assumption) ?_
          try simp only [Act.put, List.setIfInBounds_toArray, List.set_cons_zero, List.set_cons_succ]
          refine takeH (i := 19) (d := some 38) (v := undef) rfl rfl (by kernel_rfl) (by kernel_rfl) (by kernel_rfl) (fun _ _ _ h => h) (Or.inr ⟨by rfl, rfl⟩) (by assumption) ?_
          try simp only [Act.put, List.setIfInBounds_toArray, List.set_cons_zero, List.set_cons_succ]
          refine takeH (i := 20) (d := some 39) (v := undef) rfl rfl (by kernel_rfl) (by kernel_rfl) (by kernel_rfl) (fun _ _ _ h => h) (Or.inr ⟨by rfl, rfl⟩) (by assumption) ?_
          try simp only [Act.put, List.setIfInBounds_toArray, List.set_cons_zero, List.set_cons_succ]
          refine takeH (i := 21) (d := some 40) (v := undef) rfl rfl (by kernel_rfl) (by kernel_rfl) (by kernel_rfl) (fun _ _ _ h => h) (Or.inr ⟨by rfl, rfl⟩) (by assumption) ?_
          try simp only [Act.put, List.setIfInBounds_toArray, List.set_cons_zero, List.set_cons_succ]
          refine takeH (i := 22) (d := some 41) (v := ?_) rfl rfl (by kernel_rfl) (by kernel_rfl) (by kernel_rfl) (fun _ _ _ h => h) (Or.inl ⟨by rfl, ?_⟩) (by assumption) ?_
          rotate_left
          · intro w hSw
            try dsimp only at hSw
            go_simp
            try with_reducible rfl
          try simp only [Act.put, List.setIfInBounds_toArray, List.set_cons_zero, List.set_cons_succ]
          refine wpAnyH_done (by kernel_rfl) ?_ _
          go_wp2_with fail
          go_meet
          exact ⟨rfl, by rw [HBB.out]⟩
        by_cases hj0 : j = 0
        · have hjI : ¬ (0 : Int) < (j : Int) := by omega
          have hff : bad = false := by rw [← HBAD.out, ← HFL.out, hj0]; simp [hk1, hk8, prevE, falls]
          have HBB := Lib.hid hff
          have hjN : ¬ 0 < j := by omega
          have hjD : decide (0 < j) = false := decide_eq_false hjN
          have hjE : decide ((0 : Int) < (j : Int)) = false := decide_eq_false hjI
          clear hj0 hff
          refine wp_region_held_drew (S := fun w' => w1.drew = w') (by kernel_rfl) ?_ (fun hHeld => ?_)
          · exact rfl
          refine takeH (i := 0) (d := some 19) (v := ?_) rfl rfl (by kernel_rfl) (by kernel_rfl) (by kernel_rfl) (fun _ _ _ h => h) (Or.inl ⟨by rfl, ?_⟩) (by assumption) ?_
          rotate_left
          · intro w hSw
            try dsimp only at hSw
            go_simp
            try with_reducible rfl
          try simp only [Act.put, List.setIfInBounds_toArray, List.set_cons_zero, List.set_cons_succ]
          refine takeH (i := 1) (d := some 20) (v := ?_) rfl rfl (by kernel_rfl) (by kernel_rfl) (by kernel_rfl) (fun _ _ _ h => h) (Or.inl ⟨by rfl, ?_⟩) (by assumption) ?_
          rotate_left
          · intro w hSw
            try dsimp only at hSw
            subst hSw
            go_simp
            try with_reducible rfl
          try simp only [Act.put, List.setIfInBounds_toArray, List.set_cons_zero, List.set_cons_succ]
          refine takeH (i := 2) (d := some 21) (v := ?_) rfl rfl (by kernel_rfl) (by kernel_rfl) (by kernel_rfl) (fun _ _ _ h => h) (Or.inl ⟨by rfl, ?_⟩) (by assumption) ?_
          rotate_left
          · intro w hSw
            try dsimp only at hSw
            go_simp
            try with_reducible rfl
          try simp only [Act.put, List.setIfInBounds_toArray, List.set_cons_zero, List.set_cons_succ]
          refine takeH (i := 3) (d := some 22) (v := ?_) rfl rfl (by kernel_rfl) (by kernel_rfl) (by kernel_rfl) (fun _ _ _ h => h) (Or.inl ⟨by rfl, ?_⟩) (by assumption) ?_
          rotate_left
          · intro w hSw
            try dsimp only at hSw
            go_simp
            try with_reducible rfl
          try simp only [Act.put, List.setIfInBounds_toArray, List.set_cons_zero, List.set_cons_succ]
          refine takeH (i := 4) (d := some 23) (v := ?_) rfl rfl (by kernel_rfl) (by kernel_rfl) (by kernel_rfl) (fun _ _ _ h => h) (Or.inl ⟨by rfl, ?_⟩) (by assumption) ?_
          rotate_left
          · intro w hSw
            try dsimp only at hSw
            go_simp
            try with_reducible rfl
          try simp only [Act.put, List.setIfInBounds_toArray, List.set_cons_zero, List.set_cons_succ]
          refine takeH (i := 5) (d := some 24) (v := ?_) rfl rfl (by kernel_rfl) (by kernel_rfl) (by kernel_rfl) (fun _ _ _ h => h) (Or.inl ⟨by rfl, ?_⟩) (by assumption) ?_
          rotate_left
          · intro w hSw
            try dsimp only at hSw
            subst hSw
            go_simp
            try with_reducible rfl
          try simp only [Act.put, List.setIfInBounds_toArray, List.set_cons_zero, List.set_cons_succ]
          refine takeH (i := 6) (d := some 25) (v := ?_) rfl rfl (by kernel_rfl) (by kernel_rfl) (by kernel_rfl) (fun _ _ _ h => h) (Or.inl ⟨by rfl, ?_⟩) (by assumption) ?_
          rotate_left
          · intro w hSw
            try dsimp only at hSw
            go_simp
            try with_reducible rfl
          try simp only [Act.put, List.setIfInBounds_toArray, List.set_cons_zero, List.set_cons_succ]
          refine takeH (i := 7) (d := some 26) (v := ?_) rfl rfl (by kernel_rfl) (by kernel_rfl) (by kernel_rfl) (fun _ _ _ h => h) (Or.inl ⟨by rfl, ?_⟩) (by assumption) ?_
          rotate_left
          · intro w hSw
            try dsimp only at hSw
            go_simp
            try with_reducible rfl
          try simp only [Act.put, List.setIfInBounds_toArray, List.set_cons_zero, List.set_cons_succ]
          refine takeH (i := 8) (d := some 27) (v := ?_) rfl rfl (by kernel_rfl) (by kernel_rfl) (by kernel_rfl) (fun _ _ _ h => h) (Or.inl ⟨by rfl, ?_⟩) (by assumption) ?_
          rotate_left
          · intro w hSw
            try dsimp only at hSw
            go_simp
            try with_reducible rfl
          try simp only [Act.put, List.setIfInBounds_toArray, List.set_cons_zero, List.set_cons_succ]
          refine takeH (i := 9) (d := some 28) (v := ?_) rfl rfl (by kernel_rfl) (by kernel_rfl) (by kernel_rfl) (fun _ _ _ h => h) (Or.inl ⟨by rfl, ?_⟩) (by assumption) ?_
          rotate_left
          · intro w hSw
            try dsimp only at hSw
            go_simp
            try with_reducible rfl
          try simp only [Act.put, List.setIfInBounds_toArray, List.set_cons_zero, List.set_cons_succ]
          refine takeH (i := 10) (d := some 29) (v := ?_) rfl rfl (by kernel_rfl) (by kernel_rfl) (by kernel_rfl) (fun _ _ _ h => h) (Or.inl ⟨by rfl, ?_⟩) (by assumption) ?_
          rotate_left
          · intro w hSw
            try dsimp only at hSw
            go_simp
            try with_reducible rfl
          try simp only [Act.put, List.setIfInBounds_toArray, List.set_cons_zero, List.set_cons_succ]
          refine takeH (i := 11) (d := some 30) (v := ?_) rfl rfl (by kernel_rfl) (by kernel_rfl) (by kernel_rfl) (fun _ _ _ h => h) (Or.inl ⟨by rfl, ?_⟩) (by assumption) ?_
          rotate_left
          · intro w hSw
            try dsimp only at hSw
            go_simp
            try with_reducible rfl
          try simp only [Act.put, List.setIfInBounds_toArray, List.set_cons_zero, List.set_cons_succ]
          refine takeH (i := 12) (d := some 31) (v := undef) rfl rfl (by kernel_rfl) (by kernel_rfl) (by kernel_rfl) (fun _ _ _ h => h) (Or.inr ⟨by rfl, rfl⟩) (by assumption) ?_
          try simp only [Act.put, List.setIfInBounds_toArray, List.set_cons_zero, List.set_cons_succ]
          refine takeH (i := 13) (d := some 32) (v := undef) rfl rfl (by kernel_rfl) (by kernel_rfl) (by kernel_rfl) (fun _ _ _ h => h) (Or.inr ⟨by rfl, rfl⟩) (by assumption) ?_
          try simp only [Act.put, List.setIfInBounds_toArray, List.set_cons_zero, List.set_cons_succ]
          refine takeH (i := 14) (d := some 33) (v := undef) rfl rfl (by kernel_rfl) (by kernel_rfl) (by kernel_rfl) (fun _ _ _ h => h) (Or.inr ⟨by rfl, rfl⟩) (by assumption) ?_
          try simp only [Act.put, List.setIfInBounds_toArray, List.set_cons_zero, List.set_cons_succ]
          refine takeH (i := 15) (d := some 34) (v := undef) rfl rfl (by kernel_rfl) (by kernel_rfl) (by kernel_rfl) (fun _ _ _ h => h) (Or.inr ⟨by rfl, rfl⟩) (by assumption) ?_
          try simp only [Act.put, List.setIfInBounds_toArray, List.set_cons_zero, List.set_cons_succ]
          refine takeH (i := 16) (d := some 35) (v := undef) rfl rfl (by kernel_rfl) (by kernel_rfl) (by kernel_rfl) (fun _ _ _ h => h) (Or.inr ⟨by rfl, rfl⟩) (by assumption) ?_
          try simp only [Act.put, List.setIfInBounds_toArray, List.set_cons_zero, List.set_cons_succ]
          refine takeH (i := 17) (d := some 36) (v := undef) rfl rfl (by kernel_rfl) (by kernel_rfl) (by kernel_rfl) (fun _ _ _ h => h) (Or.inr ⟨by rfl, rfl⟩) (by assumption) ?_
          try simp only [Act.put, List.setIfInBounds_toArray, List.set_cons_zero, List.set_cons_succ]
          refine takeH (i := 18) (d := some 37) (v := undef) rfl rfl (by kernel_rfl) (by kernel_rfl) (by kernel_rfl) (fun _ _ _ h => h) (Or.inr ⟨by rfl, rfl⟩) (by assumption) ?_
          try simp only [Act.put, List.setIfInBounds_toArray, List.set_cons_zero, List.set_cons_succ]
          refine takeH (i := 19) (d := some 38) (v := undef) rfl rfl (by kernel_rfl) (by kernel_rfl) (by kernel_rfl) (fun _ _ _ h => h) (Or.inr ⟨by rfl, rfl⟩) (by assumption) ?_
          try simp only [Act.put, List.setIfInBounds_toArray, List.set_cons_zero, List.set_cons_succ]
          refine takeH (i := 20) (d := some 39) (v := undef) rfl rfl (by kernel_rfl) (by kernel_rfl) (by kernel_rfl) (fun _ _ _ h => h) (Or.inr ⟨by rfl, rfl⟩) (by assumption) ?_
          try simp only [Act.put, List.setIfInBounds_toArray, List.set_cons_zero, List.set_cons_succ]
          refine takeH (i := 21) (d := some 40) (v := ?_) rfl rfl (by kernel_rfl) (by kernel_rfl) (by kernel_rfl) (fun _ _ _ h => h) (Or.inl ⟨by rfl, ?_⟩) (by assumption) ?_
          rotate_left
          · intro w hSw
            try dsimp only at hSw
            go_simp
            try with_reducible rfl
          try simp only [Act.put, List.setIfInBounds_toArray, List.set_cons_zero, List.set_cons_succ]
          refine takeH (i := 22) (d := some 41) (v := ?_) rfl rfl (by kernel_rfl) (by kernel_rfl) (by kernel_rfl) (fun _ _ _ h => h) (Or.inl ⟨by rfl, ?_⟩) (by assumption) ?_
          rotate_left
          · intro w hSw
            try dsimp only at hSw
            go_simp
            try with_reducible rfl
          try simp only [Act.put, List.setIfInBounds_toArray, List.set_cons_zero, List.set_cons_succ]
          refine wpAnyH_done (by kernel_rfl) ?_ _
          go_wp2_with fail
          go_meet
          exact ⟨rfl, by rw [HBB.out]⟩
        · obtain ⟨m, hm⟩ : ∃ m, j = m + 1 := ⟨j - 1, by omega⟩
          obtain ⟨e', he'⟩ := get_of_lt (xs := l) (k := m) (by have := HW.out.1; omega)
          have p0 := (ev_cells (HL.out w1.drew (HG1.out.made.drew)) he').1
          have hff : bad = decide (e.step < e'.step) := by
            rw [← HBAD.out, ← HFL.out, hm]
            simp only [prevE, he', Option.map_some, falls]
            simp [hk1, hk8]
          have HFF := Lib.hid hff
          have HJM := Lib.hid hm
          have hjI : (0 : Int) < (j : Int) := by omega
          have m1 : IntKind.i64.wrap ((j : Int) - 1) = (m : Int) := by rw [show (j : Int) - 1 = (m : Int) from by omega]; exact wrap_in _ (by omega)
          have m3 : (0 : Int) ≤ (m : Int) := Int.natCast_nonneg _
          have m4 : (m : Int) < (len : Int) := by omega
          have hjN : 0 < j := by omega
          have hjD : decide (0 < j) = true := decide_eq_true hjN
          have hjE : decide ((0 : Int) < (j : Int)) = true := decide_eq_true hjI
          clear hm he' hff hj0
          refine wp_region_held_drew (S := fun w' => w1.drew = w') (by kernel_rfl) ?_ (fun hHeld => ?_)
          · exact rfl
          refine takeH (i := 0) (d := some 19) (v := ?_) rfl rfl (by kernel_rfl) (by kernel_rfl) (by kernel_rfl) (fun _ _ _ h => h) (Or.inl ⟨by rfl, ?_⟩) (by assumption) ?_
          rotate_left
          · intro w hSw
            try dsimp only at hSw
            go_simp
            try with_reducible rfl
          try simp only [Act.put, List.setIfInBounds_toArray, List.set_cons_zero, List.set_cons_succ]
          refine takeH (i := 1) (d := some 20) (v := ?_) rfl rfl (by kernel_rfl) (by kernel_rfl) (by kernel_rfl) (fun _ _ _ h => h) (Or.inl ⟨by rfl, ?_⟩) (by assumption) ?_
          rotate_left
          · intro w hSw
            try dsimp only at hSw
            subst hSw
            go_simp
            try with_reducible rfl
          try simp only [Act.put, List.setIfInBounds_toArray, List.set_cons_zero, List.set_cons_succ]
          refine takeH (i := 2) (d := some 21) (v := ?_) rfl rfl (by kernel_rfl) (by kernel_rfl) (by kernel_rfl) (fun _ _ _ h => h) (Or.inl ⟨by rfl, ?_⟩) (by assumption) ?_
          rotate_left
          · intro w hSw
            try dsimp only at hSw
            go_simp
            try with_reducible rfl
          try simp only [Act.put, List.setIfInBounds_toArray, List.set_cons_zero, List.set_cons_succ]
          refine takeH (i := 3) (d := some 22) (v := ?_) rfl rfl (by kernel_rfl) (by kernel_rfl) (by kernel_rfl) (fun _ _ _ h => h) (Or.inl ⟨by rfl, ?_⟩) (by assumption) ?_
          rotate_left
          · intro w hSw
            try dsimp only at hSw
            go_simp
            try with_reducible rfl
          try simp only [Act.put, List.setIfInBounds_toArray, List.set_cons_zero, List.set_cons_succ]
          refine takeH (i := 4) (d := some 23) (v := ?_) rfl rfl (by kernel_rfl) (by kernel_rfl) (by kernel_rfl) (fun _ _ _ h => h) (Or.inl ⟨by rfl, ?_⟩) (by assumption) ?_
          rotate_left
          · intro w hSw
            try dsimp only at hSw
            go_simp
            try with_reducible rfl
          try simp only [Act.put, List.setIfInBounds_toArray, List.set_cons_zero, List.set_cons_succ]
          refine takeH (i := 5) (d := some 24) (v := ?_) rfl rfl (by kernel_rfl) (by kernel_rfl) (by kernel_rfl) (fun _ _ _ h => h) (Or.inl ⟨by rfl, ?_⟩) (by assumption) ?_
          rotate_left
          · intro w hSw
            try dsimp only at hSw
            subst hSw
            go_simp
            try with_reducible rfl
          try simp only [Act.put, List.setIfInBounds_toArray, List.set_cons_zero, List.set_cons_succ]
          refine takeH (i := 6) (d := some 25) (v := ?_) rfl rfl (by kernel_rfl) (by kernel_rfl) (by kernel_rfl) (fun _ _ _ h => h) (Or.inl ⟨by rfl, ?_⟩) (by assumption) ?_
          rotate_left
          · intro w hSw
            try dsimp only at hSw
            go_simp
            try with_reducible rfl
          try simp only [Act.put, List.setIfInBounds_toArray, List.set_cons_zero, List.set_cons_succ]
          refine takeH (i := 7) (d := some 26) (v := ?_) rfl rfl (by kernel_rfl) (by kernel_rfl) (by kernel_rfl) (fun _ _ _ h => h) (Or.inl ⟨by rfl, ?_⟩) (by assumption) ?_
          rotate_left
          · intro w hSw
            try dsimp only at hSw
            go_simp
            try with_reducible rfl
          try simp only [Act.put, List.setIfInBounds_toArray, List.set_cons_zero, List.set_cons_succ]
          refine takeH (i := 8) (d := some 27) (v := ?_) rfl rfl (by kernel_rfl) (by kernel_rfl) (by kernel_rfl) (fun _ _ _ h => h) (Or.inl ⟨by rfl, ?_⟩) (by assumption) ?_
          rotate_left
          · intro w hSw
            try dsimp only at hSw
            go_simp
            try with_reducible rfl
          try simp only [Act.put, List.setIfInBounds_toArray, List.set_cons_zero, List.set_cons_succ]
          refine takeH (i := 9) (d := some 28) (v := ?_) rfl rfl (by kernel_rfl) (by kernel_rfl) (by kernel_rfl) (fun _ _ _ h => h) (Or.inl ⟨by rfl, ?_⟩) (by assumption) ?_
          rotate_left
          · intro w hSw
            try dsimp only at hSw
            go_simp
            try with_reducible rfl
          try simp only [Act.put, List.setIfInBounds_toArray, List.set_cons_zero, List.set_cons_succ]
          refine takeH (i := 10) (d := some 29) (v := ?_) rfl rfl (by kernel_rfl) (by kernel_rfl) (by kernel_rfl) (fun _ _ _ h => h) (Or.inl ⟨by rfl, ?_⟩) (by assumption) ?_
          rotate_left
          · intro w hSw
            try dsimp only at hSw
            go_simp
            try with_reducible rfl
          try simp only [Act.put, List.setIfInBounds_toArray, List.set_cons_zero, List.set_cons_succ]
          refine takeH (i := 11) (d := some 30) (v := ?_) rfl rfl (by kernel_rfl) (by kernel_rfl) (by kernel_rfl) (fun _ _ _ h => h) (Or.inl ⟨by rfl, ?_⟩) (by assumption) ?_
          rotate_left
          · intro w hSw
            try dsimp only at hSw
            go_simp
            try with_reducible rfl
          try simp only [Act.put, List.setIfInBounds_toArray, List.set_cons_zero, List.set_cons_succ]
          refine takeH (i := 12) (d := some 31) (v := ?_) rfl rfl (by kernel_rfl) (by kernel_rfl) (by kernel_rfl) (fun _ _ _ h => h) (Or.inl ⟨by rfl, ?_⟩) (by assumption) ?_
          rotate_left
          · intro w hSw
            try dsimp only at hSw
            go_simp
            try with_reducible rfl
          try simp only [Act.put, List.setIfInBounds_toArray, List.set_cons_zero, List.set_cons_succ]
          refine takeH (i := 13) (d := some 32) (v := ?_) rfl rfl (by kernel_rfl) (by kernel_rfl) (by kernel_rfl) (fun _ _ _ h => h) (Or.inl ⟨by rfl, ?_⟩) (by assumption) ?_
          rotate_left
          · intro w hSw
            try dsimp only at hSw
            subst hSw
            go_simp
            try with_reducible rfl
          try simp only [Act.put, List.setIfInBounds_toArray, List.set_cons_zero, List.set_cons_succ]
          refine takeH (i := 14) (d := some 33) (v := ?_) rfl rfl (by kernel_rfl) (by kernel_rfl) (by kernel_rfl) (fun _ _ _ h => h) (Or.inl ⟨by rfl, ?_⟩) (by assumption) ?_
          rotate_left
          · intro w hSw
            try dsimp only at hSw
            go_simp
            try with_reducible rfl
          try simp only [Act.put, List.setIfInBounds_toArray, List.set_cons_zero, List.set_cons_succ]
          refine takeH (i := 15) (d := some 34) (v := ?_) rfl rfl (by kernel_rfl) (by kernel_rfl) (by kernel_rfl) (fun _ _ _ h => h) (Or.inl ⟨by rfl, ?_⟩) (by assumption) ?_
          rotate_left
          · intro w hSw
            try dsimp only at hSw
            go_simp
            try with_reducible rfl
          try simp only [Act.put, List.setIfInBounds_toArray, List.set_cons_zero, List.set_cons_succ]
          refine takeH (i := 16) (d := some 35) (v := ?_) rfl rfl (by kernel_rfl) (by kernel_rfl) (by kernel_rfl) (fun _ _ _ h => h) (Or.inl ⟨by rfl, ?_⟩) (by assumption) ?_
          rotate_left
          · intro w hSw
            try dsimp only at hSw
            go_simp
            try with_reducible rfl
          try simp only [Act.put, List.setIfInBounds_toArray, List.set_cons_zero, List.set_cons_succ]
          refine takeH (i := 17) (d := some 36) (v := ?_) rfl rfl (by kernel_rfl) (by kernel_rfl) (by kernel_rfl) (fun _ _ _ h => h) (Or.inl ⟨by rfl, ?_⟩) (by assumption) ?_
          rotate_left
          · intro w hSw
            try dsimp only at hSw
            go_simp
            try with_reducible rfl
          try simp only [Act.put, List.setIfInBounds_toArray, List.set_cons_zero, List.set_cons_succ]
          refine takeH (i := 18) (d := some 37) (v := ?_) rfl rfl (by kernel_rfl) (by kernel_rfl) (by kernel_rfl) (fun _ _ _ h => h) (Or.inl ⟨by rfl, ?_⟩) (by assumption) ?_
          rotate_left
          · intro w hSw
            try dsimp only at hSw
            go_simp
            try with_reducible rfl
          try simp only [Act.put, List.setIfInBounds_toArray, List.set_cons_zero, List.set_cons_succ]
          refine takeH (i := 19) (d := some 38) (v := ?_) rfl rfl (by kernel_rfl) (by kernel_rfl) (by kernel_rfl) (fun _ _ _ h => h) (Or.inl ⟨by rfl, ?_⟩) (by assumption) ?_
          rotate_left
          · intro w hSw
            try dsimp only at hSw
            subst hSw
            go_simp
            try with_reducible rfl
          try simp only [Act.put, List.setIfInBounds_toArray, List.set_cons_zero, List.set_cons_succ]
          refine takeH (i := 20) (d := some 39) (v := ?_) rfl rfl (by kernel_rfl) (by kernel_rfl) (by kernel_rfl) (fun _ _ _ h => h) (Or.inl ⟨by rfl, ?_⟩) (by assumption) ?_
          rotate_left
          · intro w hSw
            try dsimp only at hSw
            go_simp
            try with_reducible rfl
          try simp only [Act.put, List.setIfInBounds_toArray, List.set_cons_zero, List.set_cons_succ]
          refine takeH (i := 21) (d := some 40) (v := ?_) rfl rfl (by kernel_rfl) (by kernel_rfl) (by kernel_rfl) (fun _ _ _ h => h) (Or.inl ⟨by rfl, ?_⟩) (by assumption) ?_
          rotate_left
          · intro w hSw
            try dsimp only at hSw
            go_simp
            try with_reducible rfl
          try simp only [Act.put, List.setIfInBounds_toArray, List.set_cons_zero, List.set_cons_succ]
          refine takeH (i := 22) (d := some 41) (v := ?_) rfl rfl (by kernel_rfl) (by kernel_rfl) (by kernel_rfl) (fun _ _ _ h => h) (Or.inl ⟨by rfl, ?_⟩) (by assumption) ?_
          rotate_left
          · intro w hSw
            try dsimp only at hSw
            go_simp
            try with_reducible rfl
          try simp only [Act.put, List.setIfInBounds_toArray, List.set_cons_zero, List.set_cons_succ]
          refine wpAnyH_done (by kernel_rfl) ?_ _
          go_wp2_with fail
          go_meet
          exact ⟨rfl, by rw [HFF.out]⟩
      case rest =>
        obtain ⟨hw1, rfl⟩ := hcut
        subst hw1
        have HB1 := Lib.hid (HB.out.turns (Turns.drew (Turns.refl (fun _ => False) w1)) (fun h => h))
        have HG2 := Lib.hid HG1.out.drew
        clear HB HG1
        generalize w1.drew = w2 at *
        cases bad with
        | true =>
          have hrf : r = false := by
            rw [← HS.out]
            cases hf : fl with
            | true => exact snd_falls HE.out (by rw [HFL.out, hf])
            | false =>
              refine snd_no HE.out (by rw [HFL.out, hf]) (snd_range ?_)
              have h := HBAD.out
              rw [hf] at h
              simpa using h
          subst hrf
          go_wp2_with fail
          go_ret
          exact ⟨rfl, HG2.out.made⟩
        | false =>
          have hbk : 1 ≤ e.kind ∧ e.kind ≤ 8 ∧ fl = false := by
            have h := HBAD.out
            simp at h
            exact ⟨by omega, by omega, h.2⟩
          obtain ⟨hk1, hk8, rfl⟩ := hbk
          have q0 := HB1.out.cell 0
          have q1 := HB1.out.cell 1
          have q2 := HB1.out.cell 2
          have q3 := HB1.out.cell 3
          have q4 := HB1.out.cell 4
          have q5 := HB1.out.cell 5
          simp only [List.getElem?_toArray, List.getElem?_cons_zero, List.getElem?_cons_succ] at q0 q1 q2 q3 q4 q5
          by_cases h6 : 6 ≤ e.kind
          · have HST := Lib.hid (snd_mute (sts := ys.map St.state) ⟨h6, hk8⟩)
            go_wp2_with fail
            go_roundw
            case rel => exact ⟨j + 1, ys, by omega, by go_num, HG2.out, by rw [← snd_yes HE.out HFL.out HST.out]; exact HS.out, HTK.out, by omega, hy1⟩
            case measure => simp [intOf]; omega
          by_cases h5 : e.kind = 5
          · have hb5 : (e.kind == 5) = true := by simp [h5]
            have HSP := Lib.hid (show ∃ k : Int, Calls Try.prog 22 #[.slice (some ⟨g, 0, none⟩) ys.length cp, .int .i64 e.task] w2 fun e w' => e = .returned (.int .i64 k) ∧ w2 = w' from by
              by_cases hin : ∃ (k : Nat) (x : St), ys[k]? = some x ∧ x.task = e.task
              · obtain ⟨k, x, hk, hx⟩ := hin
                exact ⟨k, spot_some _ ys e.task w2 HG2.out.own hyb hk hx (fun i y hi hy hyt => by have := HTK.out _ _ hk; have := HTK.out _ _ hy; omega)⟩
              · exact ⟨-1, spot_none _ ys e.task w2 HG2.out.own hyb (fun y hy h => by obtain ⟨k, hk⟩ := List.mem_iff_getElem?.1 hy; exact hin ⟨k, y, hk, h⟩) (fun h => by rw [h] at hy1; simp at hy1)⟩)
            by_cases ht : e.task = (ys.length : Int)
            · have hne : (e.task != (ys.length : Int)) = false := by simp [ht]
              have HST := Lib.hid (show sndStep (ys.map St.state) e = some ((ys ++ [(⟨e.task, 0, 0, e.a⟩ : St)]).map St.state) by unfold sndStep; rw [if_pos h5, if_pos (by rw [ht]; simp)]; simp)
              have HTA := Lib.hid (HTK.out.add (x := ⟨e.task, 0, 0, e.a⟩) ht)
              have HSR := Lib.hid (SrcAt.block (enc := encS) (N := [(⟨e.task, 0, 0, e.a⟩ : St)]) (n := 1) (c := 1) (Blk.new w2 40 #[.int .i64 e.task, .int .i64 0, .int .i64 0, .int .i64 e.a]) rfl (by simp [flat, encS]))
              have HGA := Lib.hid (HG2.out.alloc (.cells #[.int .i64 e.task, .int .i64 0, .int .i64 0, .int .i64 e.a] 40))
              clear h5 ht
              obtain ⟨ki, hsp⟩ := HSP.out
              have HSP2 := Lib.hid hsp
              clear hsp HSP
              go_wp2_with fail
              refine HSP2.out.mono ?_
              rintro e1 w3 ⟨rfl, rfl⟩
              clear HSP2
              go_wp2_with (at_builtin; refine wpList_grow rfl (.tmp 57) (.tmp 63) 30 rfl i0 _ 32 Try.underlying30 hi0 hz0 hz1 hz2 rfl (by omega) encS_len encS_one rfl HGA.out rfl HSR.out (by simp [maxLen]; omega) (by simp; omega) ?_)
              intro v3 w3 hg3 hF hS hO
              have HG3 := Lib.hid hg3
              clear hg3 hF hS hO HSR HGA
              go_wp2_with fail
              go_roundw
              case rel => exact ⟨j + 1, ys ++ [⟨e.task, 0, 0, e.a⟩], by omega, by go_num, HG3.out, by rw [← snd_yes HE.out HFL.out HST.out]; exact HS.out, HTA.out, by simp; omega, by simp⟩
              case measure => simp [intOf]; omega
            · have hne : (e.task != (ys.length : Int)) = true := by simp [ht]
              have hnt : ¬ e.task = ((ys.map St.state).length : Int) := by rw [List.length_map]; exact ht
              have hsn : sndStep (ys.map St.state) e = none := by unfold sndStep; rw [if_pos h5, if_neg hnt]
              have hrf : r = false := by rw [← HS.out]; exact snd_no HE.out HFL.out hsn
              subst hrf
              clear h5 ht hnt hsn
              obtain ⟨ki, hsp⟩ := HSP.out
              have HSP2 := Lib.hid hsp
              clear hsp HSP
              go_wp2_with fail
              refine HSP2.out.mono ?_
              rintro e1 w3 ⟨rfl, rfl⟩
              go_wp2_with fail
              go_ret
              exact ⟨rfl, HG2.out.made⟩
          have hb5 : (e.kind == 5) = false := by simp [h5]
          by_cases hin : ∃ (k : Nat) (x : St), ys[k]? = some x ∧ x.task = e.task
          · obtain ⟨k, x, hk, hx⟩ := hin
            have HIX := Lib.hid (spot_some _ ys e.task w2 HG2.out.own hyb hk hx (fun i y hi hy hyt => by have := HTK.out _ _ hk; have := HTK.out _ _ hy; omega))
            have HK := Lib.hid hk
            have HAT := Lib.hid (HTK.out.at hk hx).1
            have HTN := Lib.hid (HTK.out.at hk hx).2
            have hkl := (List.getElem?_eq_some_iff.1 hk).1
            have k1 : (0 : Int) ≤ (k : Int) := Int.natCast_nonneg _
            have k2 : (k : Int) < (ys.length : Int) := by omega
            have e1 := Owns.cell encS_len HG2.out.own hk (j := 1) rfl
            have f1 := Owns.free HG2.out.own (k * 4 + 1)
            have H5 := Lib.hid h5
            have HPUT := Lib.hid (fun (s : Int) => Grow.put encS_len HG2.out HK.out (x' := ⟨x.task, s, x.how, x.prog⟩) (j := 1) (u := .int .i64 s) rfl (by decide))
            have HTS := Lib.hid (fun (s : Int) => HTK.out.set HK.out (x' := ⟨x.task, s, x.how, x.prog⟩) rfl)
            have HSELF := Lib.hid (show ys.set k x = ys by obtain ⟨hl, rfl⟩ := List.getElem?_eq_some_iff.1 hk; exact List.set_getElem_self hl)
            clear hk hx h5 hkl
            go_wp2_with fail
            refine HIX.out.mono ?_
            rintro e1' w3 ⟨rfl, rfl⟩
            clear HIX
            by_cases hq1 : e.kind = 1
            · have hbk1 : (e.kind == 1) = true := by simp [hq1]
              have hno2 : (e.kind == 2) = false := by simp [hq1]
              have hno3 : (e.kind == 3) = false := by simp [hq1]
              have hno4 : (e.kind == 4) = false := by simp [hq1]
              by_cases hok : x.state = 0
              · have hs0 : (x.state != 0) = false := by simp [hok]
                have hm : mayM e.kind x.state true = true := by unfold mayM; rw [hq1]; simp [hok]
                have HST := Lib.hid (show sndStep (ys.map St.state) e = some (ys.map St.state) by have h := snd_there (x' := x) H5.out HAT.out HTN.out hm (by rw [hq1, hok]; rfl); rw [HSELF.out] at h; exact h)
                clear hq1 hok hm
                go_wp2_with fail
                go_roundw
                case rel => exact ⟨j + 1, ys, by omega, by go_num, HG2.out, by rw [← snd_yes HE.out HFL.out HST.out]; exact HS.out, HTK.out, by omega, hy1⟩
                case measure => simp [intOf]; omega
              · have hs0 : (x.state != 0) = true := by simp [hok]
                have hm : mayM e.kind x.state true = false := by unfold mayM; rw [hq1]; simp [hok]
                have hrf : r = false := by rw [← HS.out]; exact snd_no HE.out HFL.out (snd_bad H5.out HAT.out hm)
                subst hrf
                clear hq1 hok hm
                go_wp2_with fail
                go_ret
                exact ⟨rfl, HG2.out.made⟩
            have hno1 : (e.kind == 1) = false := by simp [hq1]
            by_cases hq2 : e.kind = 2
            · have hbk2 : (e.kind == 2) = true := by simp [hq2]
              have hno1 : (e.kind == 1) = false := by simp [hq2]
              have hno3 : (e.kind == 3) = false := by simp [hq2]
              have hno4 : (e.kind == 4) = false := by simp [hq2]
              by_cases hok : x.state = 0
              · have hs0 : (x.state != 0) = false := by simp [hok]
                have hm : mayM e.kind x.state true = true := by unfold mayM; rw [hq2]; simp [hok]
                have HST := Lib.hid (snd_there (x' := ⟨x.task, 1, x.how, x.prog⟩) H5.out HAT.out HTN.out hm (by rw [hq2]; rfl))
                clear hq2 hok hm
                go_wp2_with fail
                go_roundw
                case rel => exact ⟨j + 1, ys.set k ⟨x.task, 1, x.how, x.prog⟩, by omega, by go_num, HPUT.out 1, by rw [← snd_yes HE.out HFL.out HST.out]; exact HS.out, HTS.out 1, by rw [List.length_set]; omega, by rw [List.length_set]; omega⟩
                case measure => simp [intOf]; omega
              · have hs0 : (x.state != 0) = true := by simp [hok]
                have hm : mayM e.kind x.state true = false := by unfold mayM; rw [hq2]; simp [hok]
                have hrf : r = false := by rw [← HS.out]; exact snd_no HE.out HFL.out (snd_bad H5.out HAT.out hm)
                subst hrf
                clear hq2 hok hm
                go_wp2_with fail
                go_ret
                exact ⟨rfl, HG2.out.made⟩
            have hno2 : (e.kind == 2) = false := by simp [hq2]
            by_cases hq3 : e.kind = 3
            · have hbk3 : (e.kind == 3) = true := by simp [hq3]
              have hno4 : (e.kind == 4) = false := by simp [hq3]
              by_cases hok : x.state = 1
              · have hs0 : (x.state != 1) = false := by simp [hok]
                have hm : mayM e.kind x.state true = true := by unfold mayM; rw [hq3]; simp [hok]
                have HST := Lib.hid (snd_there (x' := ⟨x.task, 0, x.how, x.prog⟩) H5.out HAT.out HTN.out hm (by rw [hq3]; rfl))
                clear hq3 hok hm
                go_wp2_with fail
                go_roundw
                case rel => exact ⟨j + 1, ys.set k ⟨x.task, 0, x.how, x.prog⟩, by omega, by go_num, HPUT.out 0, by rw [← snd_yes HE.out HFL.out HST.out]; exact HS.out, HTS.out 0, by rw [List.length_set]; omega, by rw [List.length_set]; omega⟩
                case measure => simp [intOf]; omega
              · have hs0 : (x.state != 1) = true := by simp [hok]
                have hm : mayM e.kind x.state true = false := by unfold mayM; rw [hq3]; simp [hok]
                have hrf : r = false := by rw [← HS.out]; exact snd_no HE.out HFL.out (snd_bad H5.out HAT.out hm)
                subst hrf
                clear hq3 hok hm
                go_wp2_with fail
                go_ret
                exact ⟨rfl, HG2.out.made⟩
            have hno3 : (e.kind == 3) = false := by simp [hq3]
            by_cases hq4 : e.kind = 4
            · have hbk4 : (e.kind == 4) = true := by simp [hq4]
              by_cases hok : ¬ x.state = 2
              · have hs0 : (x.state == 2) = false := by simp [hok]
                have hm : mayM e.kind x.state true = true := by unfold mayM; rw [hq4]; simp [hok]
                have HST := Lib.hid (snd_there (x' := ⟨x.task, 2, x.how, x.prog⟩) H5.out HAT.out HTN.out hm (by rw [hq4]; rfl))
                clear hq4 hok hm
                go_wp2_with fail
                go_roundw
                case rel => exact ⟨j + 1, ys.set k ⟨x.task, 2, x.how, x.prog⟩, by omega, by go_num, HPUT.out 2, by rw [← snd_yes HE.out HFL.out HST.out]; exact HS.out, HTS.out 2, by rw [List.length_set]; omega, by rw [List.length_set]; omega⟩
                case measure => simp [intOf]; omega
              · have hs0 : (x.state == 2) = true := by simpa using hok
                have hm : mayM e.kind x.state true = false := by unfold mayM; rw [hq4]; simp [hok]
                have hrf : r = false := by rw [← HS.out]; exact snd_no HE.out HFL.out (snd_bad H5.out HAT.out hm)
                subst hrf
                clear hq4 hok hm
                go_wp2_with fail
                go_ret
                exact ⟨rfl, HG2.out.made⟩
            exact absurd H5.out (by omega)
          · have hno : ∀ y ∈ ys, y.task ≠ e.task := fun y hy h => by
              obtain ⟨k, hk⟩ := List.mem_iff_getElem?.1 hy
              exact hin ⟨k, y, hk, h⟩
            have HIX := Lib.hid (spot_none _ ys e.task w2 HG2.out.own hyb hno (fun h => by rw [h] at hy1; simp at hy1))
            have hm : mayM e.kind 0 false = false := by
              unfold mayM
              by_cases q4 : e.kind = 4
              · rw [if_pos q4]; rfl
              by_cases q3 : e.kind = 3
              · rw [if_neg q4, if_pos q3]; rfl
              rw [if_neg q4, if_neg q3, if_pos (by omega)]
              rfl
            have hsn : sndStep (ys.map St.state) e = none := by
              unfold sndStep
              rw [if_neg h5, HTK.out.no hno]
              simp [hm]
            have hrf : r = false := by rw [← HS.out]; exact snd_no HE.out HFL.out hsn
            subst hrf
            clear hno hin hm hsn h5
            go_wp2_with fail
            refine HIX.out.mono ?_
            rintro e1' w3 ⟨rfl, rfl⟩
            go_wp2_with fail
            go_ret
            exact ⟨rfl, HG2.out.made⟩
    · have j2 : ¬ (j : Int) < (len : Int) := by omega
      have hrt : r = true := by rw [← HS.out]; exact snd_end (by have := HW.out.1; omega)
      subst hrt
      go_wp2_with fail
      go_ret
      exact ⟨rfl, HG.out.made⟩
end Go.Proofs.Ytjcmmgjaopejgaa
