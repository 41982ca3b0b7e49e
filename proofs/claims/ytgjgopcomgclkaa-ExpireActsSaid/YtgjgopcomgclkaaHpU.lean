/-
  Contract of package heap: up.
-/
import Derived.Test.YtgjgopcomgclkaaHpM
namespace Go.Proofs.Ytgjgopcomgclkaa
open Go.RowKit
set_option linter.unusedVariables false
set_option linter.unusedSimpArgs false

theorem par_int (j : Nat) (h : 0 < j) : ((j : Int) - 1).tdiv 4 = (par j : Int) := by
  unfold par
  rw [Int.tdiv_eq_ediv_of_nonneg (by omega)]
  omega
theorem wrap_in (n : Int) (h : -9223372036854775808 ≤ n ∧ n ≤ 9223372036854775807) : IntKind.i64.wrap n = n := by rw [IntKind.wrap_i64]; omega

set_option maxHeartbeats 2000000 in
set_option maxRecDepth 100000 in
theorem up_c (p mb : Nat) (lv : Value) (sq : Int) (ys : List It) (f : Int → Option Value) (i : Nat) (x : It) (w : World) (h : HRaw w p mb lv sq ys f) (hx : ys[i]? = some x) (hu : Uniq ys) (hp : PosOK (upd f x.id (.int .i64 i)) ys) (hn : ys.length ≤ 1000000) :
    Calls Try.prog 47 #[.pointer (some ⟨p, 0, none⟩), .int .i64 i] w fun e w' => (∃ v, e = .returned v) ∧ (∃ f', HRaw w' p mb lv sq (upL ys i) f' ∧ PosOK f' (upL ys i)) ∧ Turns (fun k => lv.ownBlock = some k ∨ k = mb) w w' := by
  have hi := (List.getElem?_eq_some_iff.1 hx).1
  rcases h.own.form with ⟨_, h0⟩ | ⟨g, cap, rfl, hg, hlc, hcm⟩
  · subst h0; simp at hi
  have c0 := h.blk.cell 0
  simp only [List.getElem?_toArray, List.getElem?_cons_zero] at c0
  have e0 : w.cell? ⟨g, i * 3, none⟩ = some (.int .i64 x.id) := Owns.cell encT_len h.own hx (j := 0) rfl
  have e1 : w.cell? ⟨g, i * 3 + 1, none⟩ = some (.int .i64 x.when) := Owns.cell encT_len h.own hx (j := 1) rfl
  have e2 : w.cell? ⟨g, i * 3 + 2, none⟩ = some (.int .i64 x.seq) := Owns.cell encT_len h.own hx (j := 2) rfl
  have i1 : (0 : Int) ≤ (i : Int) := Int.natCast_nonneg _
  have i2 : (i : Int) < (ys.length : Int) := by omega
  have HH := Lib.hid h
  have HX := Lib.hid hx
  have HU := Lib.hid hu
  have HP := Lib.hid hp
  have hpl := h.blk.lt
  have hml := h.map.lt
  clear h hx hu hp
  go_enter Try.func47, Try.ntmps47
  go_wp2_with fail
  have hB : Blk (w.alloc (.cells (encT x).toArray 30)) w.heap.size 30 (encT x).toArray := Blk.new w _ _
  have hM : Made w (w.alloc (.cells (encT x).toArray 30)) := (Turns.refl _ _).alloc _
  unfold encT at hB hM
  generalize (w.alloc (.cells [.int .i64 x.id, .int .i64 x.when, .int .i64 x.seq].toArray 30)) = W at *
  generalize hbe : w.heap.size = bx at *
  have HB := Lib.hid hB
  have HM := Lib.hid hM
  have HBE := Lib.hid hbe
  clear hB hM hbe c0 e0 e1 e2 i1 i2
  go_loopw [1] (fun v1 wr => ∃ (j : Nat) (yy : List It) (f' : Int → Option Value), v1 = .int .i64 j ∧ HRaw wr p mb (.slice (some ⟨g, 0, none⟩) ys.length cap) sq yy f' ∧ yy.length = ys.length ∧ (yy.set j x)[j]? = some x ∧ Uniq (yy.set j x) ∧ PosOK (upd f' x.id (.int .i64 j)) (yy.set j x) ∧ upL (yy.set j x) j = upL ys i ∧ Blk wr bx 30 (encT x).toArray ∧ Turns (fun k => k = g ∨ k = mb) w wr) (fun v1 _ => (intOf v1).toNat)
  case atStart =>
    have hs : ys.set i x = ys := by
      obtain ⟨_, hh⟩ := List.getElem?_eq_some_iff.1 HX.out
      rw [← hh]; exact List.set_getElem_self hi
    refine ⟨i, ys, f, rfl, HH.out.made HM.out, rfl, ?_, ?_, ?_, ?_, HB.out, HM.out.mono (fun _ _ h => h.elim)⟩
    · rw [hs]; exact HX.out
    · rw [hs]; exact HU.out
    · rw [hs]; exact HP.out
    · rw [hs]
  case round =>
    obtain ⟨j, yy, f', rfl, hr, hyl, hjx, huj, hpj, hup, hbj, htj⟩ := hrel
    have hjl : j < yy.length := by have := (List.getElem?_eq_some_iff.1 hjx).1; rwa [List.length_set] at this
    have HR := Lib.hid hr
    have HYL := Lib.hid hyl
    have HJX := Lib.hid hjx
    have HUJ := Lib.hid huj
    have HPJ := Lib.hid hpj
    have HUP := Lib.hid hup
    have HBJ := Lib.hid hbj
    have HTJ := Lib.hid htj
    clear hr hyl hjx huj hpj hup hbj htj HH HX HU HP HB HM
    have i1 : (0 : Int) ≤ (j : Int) := Int.natCast_nonneg _
    have i2 : (j : Int) < (ys.length : Int) := by have := HYL.out; omega
    by_cases hj0 : j = 0
    · subst hj0
      go_wp2_with fail
      refine wp_region_held_drew (S := (fun w' => Made wr w')) (by kernel_rfl) ?_ (fun hHeld => ?_)
      · exact (Turns.refl _ _).drew
      refine takeH (i := 0) (d := some 12) (v := ?_) rfl rfl (by kernel_rfl) (by kernel_rfl) (by kernel_rfl) (fun _ _ _ h => h) (Or.inl ⟨by rfl, ?_⟩) (by assumption) ?_
      rotate_left
      · intro w hSw
        try dsimp only at hSw
        go_simp
        try with_reducible rfl
      try simp only [Act.put, List.setIfInBounds_toArray, List.set_cons_zero, List.set_cons_succ]
      refine takeH (i := 1) (d := some 13) (v := ?_) rfl rfl (by kernel_rfl) (by kernel_rfl) (by kernel_rfl) (fun _ _ _ h => h) (Or.inl ⟨by rfl, ?_⟩) (by assumption) ?_
      rotate_left
      · intro w hSw
        try dsimp only at hSw
        go_simp
        try with_reducible rfl
      try simp only [Act.put, List.setIfInBounds_toArray, List.set_cons_zero, List.set_cons_succ]
      refine takeH (i := 2) (d := some 14) (v := ?_) rfl rfl (by kernel_rfl) (by kernel_rfl) (by kernel_rfl) (fun _ _ _ h => h) (Or.inl ⟨by rfl, ?_⟩) (by assumption) ?_
      rotate_left
      · intro w hSw
        try dsimp only at hSw
        go_simp
        try with_reducible rfl
      try simp only [Act.put, List.setIfInBounds_toArray, List.set_cons_zero, List.set_cons_succ]
      refine takeH (i := 3) (d := some 15) (v := undef) rfl rfl (by kernel_rfl) (by kernel_rfl) (by kernel_rfl) (fun _ _ _ h => h) (Or.inr ⟨by rfl, rfl⟩) (by assumption) ?_
      try simp only [Act.put, List.setIfInBounds_toArray, List.set_cons_zero, List.set_cons_succ]
      refine takeH (i := 4) (d := some 16) (v := undef) rfl rfl (by kernel_rfl) (by kernel_rfl) (by kernel_rfl) (fun _ _ _ h => h) (Or.inr ⟨by rfl, rfl⟩) (by assumption) ?_
      try simp only [Act.put, List.setIfInBounds_toArray, List.set_cons_zero, List.set_cons_succ]
      refine takeH (i := 5) (d := some 17) (v := undef) rfl rfl (by kernel_rfl) (by kernel_rfl) (by kernel_rfl) (fun _ _ _ h => h) (Or.inr ⟨by rfl, rfl⟩) (by assumption) ?_
      try simp only [Act.put, List.setIfInBounds_toArray, List.set_cons_zero, List.set_cons_succ]
      refine takeH (i := 6) (d := some 18) (v := undef) rfl rfl (by kernel_rfl) (by kernel_rfl) (by kernel_rfl) (fun _ _ _ h => h) (Or.inr ⟨by rfl, rfl⟩) (by assumption) ?_
      try simp only [Act.put, List.setIfInBounds_toArray, List.set_cons_zero, List.set_cons_succ]
      refine takeH (i := 7) (d := some 19) (v := undef) rfl rfl (by kernel_rfl) (by kernel_rfl) (by kernel_rfl) (fun _ _ _ h => h) (Or.inr ⟨by rfl, rfl⟩) (by assumption) ?_
      try simp only [Act.put, List.setIfInBounds_toArray, List.set_cons_zero, List.set_cons_succ]
      refine takeH (i := 8) (d := some 20) (v := undef) rfl rfl (by kernel_rfl) (by kernel_rfl) (by kernel_rfl) (fun _ _ _ h => h) (Or.inr ⟨by rfl, rfl⟩) (by assumption) ?_
      try simp only [Act.put, List.setIfInBounds_toArray, List.set_cons_zero, List.set_cons_succ]
      refine takeH (i := 9) (d := some 21) (v := undef) rfl rfl (by kernel_rfl) (by kernel_rfl) (by kernel_rfl) (fun _ _ _ h => h) (Or.inr ⟨by rfl, rfl⟩) (by assumption) ?_
      try simp only [Act.put, List.setIfInBounds_toArray, List.set_cons_zero, List.set_cons_succ]
      refine takeH (i := 10) (d := some 22) (v := undef) rfl rfl (by kernel_rfl) (by kernel_rfl) (by kernel_rfl) (fun _ _ _ h => h) (Or.inr ⟨by rfl, rfl⟩) (by assumption) ?_
      try simp only [Act.put, List.setIfInBounds_toArray, List.set_cons_zero, List.set_cons_succ]
      refine takeH (i := 11) (d := some 23) (v := undef) rfl rfl (by kernel_rfl) (by kernel_rfl) (by kernel_rfl) (fun _ _ _ h => h) (Or.inr ⟨by rfl, rfl⟩) (by assumption) ?_
      try simp only [Act.put, List.setIfInBounds_toArray, List.set_cons_zero, List.set_cons_succ]
      refine takeH (i := 12) (d := some 24) (v := undef) rfl rfl (by kernel_rfl) (by kernel_rfl) (by kernel_rfl) (fun _ _ _ h => h) (Or.inr ⟨by rfl, rfl⟩) (by assumption) ?_
      try simp only [Act.put, List.setIfInBounds_toArray, List.set_cons_zero, List.set_cons_succ]
      refine takeH (i := 13) (d := some 25) (v := undef) rfl rfl (by kernel_rfl) (by kernel_rfl) (by kernel_rfl) (fun _ _ _ h => h) (Or.inr ⟨by rfl, rfl⟩) (by assumption) ?_
      try simp only [Act.put, List.setIfInBounds_toArray, List.set_cons_zero, List.set_cons_succ]
      refine takeH (i := 14) (d := some 26) (v := undef) rfl rfl (by kernel_rfl) (by kernel_rfl) (by kernel_rfl) (fun _ _ _ h => h) (Or.inr ⟨by rfl, rfl⟩) (by assumption) ?_
      try simp only [Act.put, List.setIfInBounds_toArray, List.set_cons_zero, List.set_cons_succ]
      refine takeH (i := 15) (d := some 27) (v := ?_) rfl rfl (by kernel_rfl) (by kernel_rfl) (by kernel_rfl) (fun _ _ _ h => h) (Or.inl ⟨by rfl, ?_⟩) (by assumption) ?_
      rotate_left
      · intro w hSw
        try dsimp only at hSw
        go_simp
        try with_reducible rfl
      try simp only [Act.put, List.setIfInBounds_toArray, List.set_cons_zero, List.set_cons_succ]
      refine wpAnyH_done (by kernel_rfl) ?_ _
      have hrw := HR.out.made hHeld
      have HT3 := Lib.hid (Turns.then HTJ.out hHeld (fun _ _ h => h.elim))
      have HB3 := Lib.hid (Blk.turns HBJ.out hHeld (fun h => h))
      have b0 := HB3.out.cell 0
      have b1 := HB3.out.cell 1
      have b2 := HB3.out.cell 2
      simp only [encT, List.getElem?_toArray, List.getElem?_cons_zero, List.getElem?_cons_succ] at b0 b1 b2
      have HR3 := Lib.hid hrw
      clear hrw hHeld
      try clear hHeld
      go_wp2_with fail
      refine (put_c p mb _ sq yy f' 0 x wr.drew HR3.out hjl).mono ?_
      rintro e w2 ⟨⟨v, rfl⟩, hraw2, ht2⟩
      have HR4 := Lib.hid hraw2
      have HT4 := Lib.hid ht2
      clear hraw2 ht2 b0 b1 b2
      go_wp2_with fail
      go_end0
      have hst := HUP.out
      rw [upL_zero] at hst
      refine ⟨⟨_, rfl⟩, ⟨_, by rw [← hst]; exact HR4.out, by rw [← hst]; exact HPJ.out⟩, ?_⟩
      refine (HT3.out.mono (fun b _ h => ?_)).then HT4.out (fun b _ h => h)
      rcases h with h | h
      · exact .inl (by rw [h]; rfl)
      · exact .inr h
    · obtain ⟨y, hy⟩ := get_of_lt (xs := yy) (k := par j) (by have := par_lt (i := j) (by omega); omega)
      have hjp : 0 < j := by omega
      have hpl2 := par_lt hjp
      have hq := par_int j hjp
      have hq0 : (0 : Int) < (j : Int) := by omega
      have hw1 : IntKind.i64.wrap ((j : Int) - 1) = (j : Int) - 1 := wrap_in _ (by omega)
      have hw2 : IntKind.i64.wrap (par j : Int) = (par j : Int) := wrap_in _ (by omega)
      have HY := Lib.hid hy
      have hyz : (yy.set j x)[par j]? = some y := by rw [List.getElem?_set_ne (by omega)]; exact hy
      have HYZ := Lib.hid hyz
      have i3 : (0 : Int) ≤ (par j : Int) := Int.natCast_nonneg _
      have i4 : (par j : Int) < (ys.length : Int) := by omega
      clear hy hyz
      obtain ⟨r, hr⟩ : ∃ r, cmpT x y = r := ⟨_, rfl⟩
      have hrl := cmpT_lt x y
      rw [hr] at hrl
      have HRL := Lib.hid hrl
      have HAH := Lib.hid (fun (w' : World) => (by have := ahead_c x y w'; rw [hr] at this; exact this : Calls Try.prog 56 #[aggT x, aggT y] w' fun e w2 => e = .returned (.int .i64 r) ∧ Made w' w2))
      clear hr hrl
      go_wp2_with fail
      refine wp_region_held_drew (S := (fun w' => Made wr w')) (by kernel_rfl) ?_ (fun hHeld => ?_)
      · exact (Turns.refl _ _).drew
      refine takeH (i := 0) (d := some 12) (v := ?_) rfl rfl (by kernel_rfl) (by kernel_rfl) (by kernel_rfl) (fun _ _ _ h => h) (Or.inl ⟨by rfl, ?_⟩) (by assumption) ?_
      rotate_left
      · intro w hSw
        try dsimp only at hSw
        go_simp
        try with_reducible rfl
      try simp only [Act.put, List.setIfInBounds_toArray, List.set_cons_zero, List.set_cons_succ]
      refine takeH (i := 1) (d := some 13) (v := ?_) rfl rfl (by kernel_rfl) (by kernel_rfl) (by kernel_rfl) (fun _ _ _ h => h) (Or.inl ⟨by rfl, ?_⟩) (by assumption) ?_
      rotate_left
      · intro w hSw
        try dsimp only at hSw
        go_simp
        try with_reducible rfl
      try simp only [Act.put, List.setIfInBounds_toArray, List.set_cons_zero, List.set_cons_succ]
      refine takeH (i := 2) (d := some 14) (v := ?_) rfl rfl (by kernel_rfl) (by kernel_rfl) (by kernel_rfl) (fun _ _ _ h => h) (Or.inl ⟨by rfl, ?_⟩) (by assumption) ?_
      rotate_left
      · intro w hSw
        try dsimp only at hSw
        go_simp
        try with_reducible rfl
      try simp only [Act.put, List.setIfInBounds_toArray, List.set_cons_zero, List.set_cons_succ]
      refine takeH (i := 3) (d := some 15) (v := ?_) rfl rfl (by kernel_rfl) (by kernel_rfl) (by kernel_rfl) (fun _ _ _ h => h) (Or.inl ⟨by rfl, ?_⟩) (by assumption) ?_
      rotate_left
      · intro w hSw
        try dsimp only at hSw
        have hb2 := Blk.turns HBJ.out hSw (fun h => h)
        have d0 := hb2.cell 0
        have d1 := hb2.cell 1
        have d2 := hb2.cell 2
        simp only [encT, List.getElem?_toArray, List.getElem?_cons_zero, List.getElem?_cons_succ] at d0 d1 d2
        clear hb2
        go_simp
        try with_reducible rfl
      try simp only [Act.put, List.setIfInBounds_toArray, List.set_cons_zero, List.set_cons_succ]
      refine takeH (i := 4) (d := some 16) (v := ?_) rfl rfl (by kernel_rfl) (by kernel_rfl) (by kernel_rfl) (fun _ _ _ h => h) (Or.inl ⟨by rfl, ?_⟩) (by assumption) ?_
      rotate_left
      · intro w hSw
        try dsimp only at hSw
        go_simp
        try with_reducible rfl
      try simp only [Act.put, List.setIfInBounds_toArray, List.set_cons_zero, List.set_cons_succ]
      refine takeH (i := 5) (d := some 17) (v := ?_) rfl rfl (by kernel_rfl) (by kernel_rfl) (by kernel_rfl) (fun _ _ _ h => h) (Or.inl ⟨by rfl, ?_⟩) (by assumption) ?_
      rotate_left
      · intro w hSw
        try dsimp only at hSw
        go_simp
        try with_reducible rfl
      try simp only [Act.put, List.setIfInBounds_toArray, List.set_cons_zero, List.set_cons_succ]
      refine takeH (i := 6) (d := some 18) (v := ?_) rfl rfl (by kernel_rfl) (by kernel_rfl) (by kernel_rfl) (fun _ _ _ h => h) (Or.inl ⟨by rfl, ?_⟩) (by assumption) ?_
      rotate_left
      · intro w hSw
        try dsimp only at hSw
        go_simp
        try with_reducible rfl
      try simp only [Act.put, List.setIfInBounds_toArray, List.set_cons_zero, List.set_cons_succ]
      refine takeH (i := 7) (d := some 19) (v := ?_) rfl rfl (by kernel_rfl) (by kernel_rfl) (by kernel_rfl) (fun _ _ _ h => h) (Or.inl ⟨by rfl, ?_⟩) (by assumption) ?_
      rotate_left
      · intro w hSw
        try dsimp only at hSw
        have hb2 := HR.out.blk.turns hSw (fun h => h)
        have d0 := hb2.cell 0
        simp only [List.getElem?_toArray, List.getElem?_cons_zero] at d0
        clear hb2
        go_simp
        try with_reducible rfl
      try simp only [Act.put, List.setIfInBounds_toArray, List.set_cons_zero, List.set_cons_succ]
      refine takeH (i := 8) (d := some 20) (v := ?_) rfl rfl (by kernel_rfl) (by kernel_rfl) (by kernel_rfl) (fun _ _ _ h => h) (Or.inl ⟨by rfl, ?_⟩) (by assumption) ?_
      rotate_left
      · intro w hSw
        try dsimp only at hSw
        go_simp
        try with_reducible rfl
      try simp only [Act.put, List.setIfInBounds_toArray, List.set_cons_zero, List.set_cons_succ]
      refine takeH (i := 9) (d := some 21) (v := ?_) rfl rfl (by kernel_rfl) (by kernel_rfl) (by kernel_rfl) (fun _ _ _ h => h) (Or.inl ⟨by rfl, ?_⟩) (by assumption) ?_
      rotate_left
      · intro w hSw
        try dsimp only at hSw
        go_simp
        try with_reducible rfl
      try simp only [Act.put, List.setIfInBounds_toArray, List.set_cons_zero, List.set_cons_succ]
      refine takeH (i := 10) (d := some 22) (v := ?_) rfl rfl (by kernel_rfl) (by kernel_rfl) (by kernel_rfl) (fun _ _ _ h => h) (Or.inl ⟨by rfl, ?_⟩) (by assumption) ?_
      rotate_left
      · intro w hSw
        try dsimp only at hSw
        go_simp
        try with_reducible rfl
      try simp only [Act.put, List.setIfInBounds_toArray, List.set_cons_zero, List.set_cons_succ]
      refine takeH (i := 11) (d := some 23) (v := ?_) rfl rfl (by kernel_rfl) (by kernel_rfl) (by kernel_rfl) (fun _ _ _ h => h) (Or.inl ⟨by rfl, ?_⟩) (by assumption) ?_
      rotate_left
      · intro w hSw
        try dsimp only at hSw
        go_simp
        try with_reducible rfl
      try simp only [Act.put, List.setIfInBounds_toArray, List.set_cons_zero, List.set_cons_succ]
      refine takeH (i := 12) (d := some 24) (v := ?_) rfl rfl (by kernel_rfl) (by kernel_rfl) (by kernel_rfl) (fun _ _ _ h => h) (Or.inl ⟨by rfl, ?_⟩) (by assumption) ?_
      rotate_left
      · intro w hSw
        try dsimp only at hSw
        have hb2 := (HR.out.made hSw).own
        rw [← HYL.out] at hb2
        have d0 := Owns.cell encT_len hb2 HY.out (j := 0) rfl
        have d1 := Owns.cell encT_len hb2 HY.out (j := 1) rfl
        have d2 := Owns.cell encT_len hb2 HY.out (j := 2) rfl
        simp only [Nat.add_zero] at d0
        clear hb2
        go_simp
        try with_reducible rfl
      try simp only [Act.put, List.setIfInBounds_toArray, List.set_cons_zero, List.set_cons_succ]
      refine wpAnyH_ready (rs := [13]) (by kernel_rfl) (by simp) ?_
      refine AllReadyH.cons rfl (fun K hK => ?_) AllReadyH.nil
      go_simp
      refine (HAH.out _).mono ?_
      rintro e w' ⟨rfl, hm'⟩
      go_wp2_with fail
      refine hK.out _ _ ?_ (fun hHeld => ?_)
      · exact Turns.trans hHeld hm'
      clear hK K
      try simp only [Act.put, List.setIfInBounds_toArray, List.set_cons_zero, List.set_cons_succ]
      refine takeH (i := 14) (d := some 26) (v := ?_) rfl rfl (by kernel_rfl) (by kernel_rfl) (by kernel_rfl) (fun _ _ _ h => h) (Or.inl ⟨by rfl, ?_⟩) (by assumption) ?_
      rotate_left
      · intro w hSw
        try dsimp only at hSw
        go_simp
        try with_reducible rfl
      try simp only [Act.put, List.setIfInBounds_toArray, List.set_cons_zero, List.set_cons_succ]
      refine takeH (i := 15) (d := some 27) (v := ?_) rfl rfl (by kernel_rfl) (by kernel_rfl) (by kernel_rfl) (fun _ _ _ h => h) (Or.inl ⟨by rfl, ?_⟩) (by assumption) ?_
      rotate_left
      · intro w hSw
        try dsimp only at hSw
        go_simp
        try with_reducible rfl
      try simp only [Act.put, List.setIfInBounds_toArray, List.set_cons_zero, List.set_cons_succ]
      refine wpAnyH_done (by kernel_rfl) ?_ _
      have hrw := HR.out.made hHeld
      have d0 := hrw.blk.cell 0
      simp only [List.getElem?_toArray, List.getElem?_cons_zero] at d0
      have HT3 := Lib.hid (Turns.then HTJ.out hHeld (fun _ _ h => h.elim))
      have HB3 := Lib.hid (Blk.turns HBJ.out hHeld (fun h => h))
      by_cases hr0 : r < 0
      · have HLT := Lib.hid (HRL.out.mp hr0)
        have hb2 := hrw.own
        rw [← HYL.out] at hb2
        have k0 := Owns.cell encT_len hb2 HY.out (j := 0) rfl
        have k1 := Owns.cell encT_len hb2 HY.out (j := 1) rfl
        have k2 := Owns.cell encT_len hb2 HY.out (j := 2) rfl
        simp only [Nat.add_zero] at k0
        have HR3 := Lib.hid hrw
        clear hb2 hrw hHeld
        try clear hHeld
        go_wp2_with fail
        refine (put_c p mb _ sq yy f' j y w' HR3.out hjl).mono ?_
        rintro e w2 ⟨⟨v, rfl⟩, hraw2, ht2⟩
        have HR4 := Lib.hid hraw2
        have HT4 := Lib.hid ht2
        clear hraw2 ht2 d0 k0 k1 k2
        go_wp2_with fail
        go_roundw
        case rel =>
          have hsw : (yy.set j y).set (par j) x = swp (yy.set j x) j (par j) x y := by unfold swp; rw [List.set_set]
          refine ⟨par j, yy.set j y, _, by first | rfl | go_num, HR4.out, by rw [List.length_set]; exact HYL.out, ?_, ?_, ?_, ?_, HB3.out.turns HT4.out ?_, ?_⟩
          · rw [hsw, swp_get HJX.out HYZ.out (by omega), if_pos rfl]
          · rw [hsw]; exact HUJ.out.swp HJX.out HYZ.out (by omega)
          · rw [hsw]; exact HPJ.out.swp HUJ.out HJX.out HYZ.out (by omega)
          · rw [hsw, ← upL_go hjp HJX.out HYZ.out HLT.out]; exact HUP.out
          · rintro (h | h)
            · simp only [Value.ownBlock, Option.some.injEq] at h; omega
            · omega
          · refine HT3.out.then HT4.out (fun b _ h => ?_)
            rcases h with h | h
            · simp only [Value.ownBlock, Option.some.injEq] at h; exact .inl h.symm
            · exact .inr h
        case measure => simp [intOf]; omega
      · have HLT := Lib.hid (fun h => hr0 (HRL.out.mpr h))
        have b0 := HB3.out.cell 0
        have b1 := HB3.out.cell 1
        have b2 := HB3.out.cell 2
        simp only [encT, List.getElem?_toArray, List.getElem?_cons_zero, List.getElem?_cons_succ] at b0 b1 b2
        have HR3 := Lib.hid hrw
        clear hrw hHeld d0
        try clear hHeld
        go_wp2_with fail
        refine (put_c p mb _ sq yy f' j x w' HR3.out hjl).mono ?_
        rintro e w2 ⟨⟨v, rfl⟩, hraw2, ht2⟩
        have HR4 := Lib.hid hraw2
        have HT4 := Lib.hid ht2
        clear hraw2 ht2 b0 b1 b2
        go_wp2_with fail
        go_end0
        have hst := upL_stop hjp HJX.out HYZ.out HLT.out
        rw [HUP.out] at hst
        refine ⟨⟨_, rfl⟩, ⟨_, by rw [hst]; exact HR4.out, by rw [hst]; exact HPJ.out⟩, ?_⟩
        refine (HT3.out.mono (fun b _ h => ?_)).then HT4.out (fun b _ h => h)
        rcases h with h | h
        · exact .inl (by rw [h]; rfl)
        · exact .inr h
end Go.Proofs.Ytgjgopcomgclkaa
