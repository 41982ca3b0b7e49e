/-
  Package order: States.
-/
import Derived.Test.YtjcmmgjaopejgaaOw
namespace Go.Proofs.Ytjcmmgjaopejgaa
open Go.RowKit Go.Sort
set_option linter.unusedVariables false
set_option linter.unusedSimpArgs false

theorem Try.infoS : (Try.prog.info? 41).map (fun i => (i.zero, i.size, i.bytes)) = some (some (.agg #[.int .i64 0, .int .i64 0, .int .i64 0, .int .i64 0]), 4, 32) := by kernel_rfl
theorem Try.infoR : (Try.prog.info? 40).map (fun i => (i.zero, i.size, i.bytes)) = some (some (.agg #[.int .i64 0, .int .i64 0, .int .i64 0, .int .i64 0]), 4, 32) := by kernel_rfl
theorem append_one {w : World} {T : TypeId} {n : Nat} {v : Value} {ys : List St} {x : St} (hn : ys.length = n) (h : w.ownsRow 0 T 4 v (n + 1) (flat encS ys ++ encS x)) : Owns encS T 4 w v (ys ++ [x]) := by
  subst hn
  unfold Owns
  rw [flat_append, List.length_append]
  exact h
/-- An event of a row that came in. -/
theorem ev_cells {w : World} {b off : Nat} {l : List Ev} (h : Lies encE 6 w b off l) {i : Nat} {e : Ev} (he : l[i]? = some e) :
    w.cell? ⟨b, off + i * 6, none⟩ = some (.int .i64 e.step) ∧ w.cell? ⟨b, off + i * 6 + 1, none⟩ = some (.int .i64 e.kind) ∧ w.cell? ⟨b, off + i * 6 + 2, none⟩ = some (.int .i64 e.task) ∧
    w.cell? ⟨b, off + i * 6 + 3, none⟩ = some (.int .i64 e.a) ∧ w.cell? ⟨b, off + i * 6 + 4, none⟩ = some (.int .i64 e.b) ∧ w.cell? ⟨b, off + i * 6 + 5, none⟩ = some (.int .i64 e.c) :=
  ⟨h i e he 0 _ rfl, h i e he 1 _ rfl, h i e he 2 _ rfl, h i e he 3 _ rfl, h i e he 4 _ rfl, h i e he 5 _ rfl⟩

set_option maxHeartbeats 4000000 in
set_option maxRecDepth 100000 in
theorem states_c (a : Option Addr) (len cap : Nat) (l : List Ev) (w : World) (hw : RowIn encE 6 w a len l) (hn : len ≤ 100000) :
    Calls Try.prog 8 #[.slice a len cap] w fun e w' => ∃ v, e = .returned v ∧ Owns encS 41 4 w' v (statesM l) ∧ Made w w' ∧ (∀ c, v.ownBlock = some c → w.heap.size ≤ c) := by
  obtain ⟨i0, hi0, hz0, hz1, hz2⟩ := info_parts Try.infoS
  have HW := Lib.hid hw
  clear hw
  go_enter Try.func8, Try.ntmps8
  go_wp2_with fail
  have HG0 := Lib.hid (show Grow encS 41 4 w (w.alloc (.cells #[.int .i64 0, .int .i64 0, .int .i64 0, .int .i64 0] 41)) (.slice (some ⟨w.heap.size, 0, none⟩) 1 1) [⟨0, 0, 0, 0⟩] from
    ⟨Turns.alloc (Turns.refl (fun _ => False) w) _, ⟨rfl, .inr ⟨w.heap.size, 1, _, rfl, Nat.zero_le _, heap_alloc_new w _, Nat.le_refl _, by unfold maxLen; omega, rfl, rfl⟩⟩, fun c hc => by
      simp only [Value.ownBlock, Option.some.injEq] at hc
      omega⟩)
  generalize w.alloc (.cells #[.int .i64 0, .int .i64 0, .int .i64 0, .int .i64 0] 41) = W0 at *
  generalize hB0 : (Value.slice (some ⟨w.heap.size, 0, none⟩) 1 1) = V0 at *
  go_loopw [3, 11] (fun v3 v11 wr => ∃ (j : Nat) (ys : List St), j ≤ len ∧ v11 = .int .i64 j ∧ Grow encS 41 4 w wr v3 ys ∧ ys.Perm (upto l j)) (fun _ v11 _ => len - (intOf v11).toNat)
  case atStart => exact ⟨0, _, Nat.zero_le _, rfl, HG0.out, .refl _⟩
  case round =>
    obtain ⟨j, ys, hj, rfl, hg, hp⟩ := hrel
    clear HG0 hB0
    have hul := upto_len l j
    have hyl : ys.length = (upto l j).length := hp.length_eq
    have hyb : ys.length ≤ 1000000 := by omega
    rcases hg.own.form with ⟨h0, h1⟩ | ⟨g, cp, rfl, hgl, hlc, hcm⟩
    · rw [h1] at hyl
      simp at hyl
      omega
    have HG := Lib.hid hg
    have HP := Lib.hid hp
    have hy1 : 1 ≤ ys.length := by omega
    clear hg hp hgl hul hyl
    have j1 : (0 : Int) ≤ (j : Int) := Int.natCast_nonneg _
    by_cases hjl : j < len
    · have j2 : (j : Int) < (len : Int) := by omega
      obtain ⟨hlen, h0 | ⟨bb, off, rfl, hb, hlies⟩⟩ := HW.out
      · omega
      obtain ⟨e, he⟩ := get_of_lt (xs := l) (k := j) (by omega)
      obtain ⟨c0, c1, c2, c3, c4, c5⟩ := ev_cells (hlies.keep fun o => HG.out.made.cell (p := ⟨bb, o, none⟩) hb (fun h => h)) he
      have HE := Lib.hid he
      have hul := upto_len l j
      have HUS := Lib.hid (upto_succ he)
      clear he hlies hb hlen
      go_wp2_with fail
      have HB := Lib.hid (Blk.new wr 26 #[.int .i64 e.step, .int .i64 e.kind, .int .i64 e.task, .int .i64 e.a, .int .i64 e.b, .int .i64 e.c])
      have HG1 := Lib.hid (HG.out.alloc (.cells #[.int .i64 e.step, .int .i64 e.kind, .int .i64 e.task, .int .i64 e.a, .int .i64 e.b, .int .i64 e.c] 26))
      have hgw : g < wr.heap.size := HG.out.own.lt rfl
      have hgB : g ≠ wr.heap.size := by omega
      clear HG c0 c1 c2 c3 c4 c5 hgw
      generalize wr.alloc (.cells #[.int .i64 e.step, .int .i64 e.kind, .int .i64 e.task, .int .i64 e.a, .int .i64 e.b, .int .i64 e.c] 26) = w1 at *
      generalize wr.heap.size = B at *
      by_cases hin : ∃ (k : Nat) (x : St), ys[k]? = some x ∧ x.task = e.task
      · obtain ⟨k, x, hk, hx⟩ := hin
        have hu : UniqS ys := (rise_uniq (upto_rise l j)).perm HP.out
        have hfst : ∀ (i : Nat) (y : St), i < k → ys[i]? = some y → y.task ≠ e.task := fun i y hi hy hyt => by
          have := uniq_get hu hy hk (by rw [hyt, hx])
          omega
        have HIX := Lib.hid (idx_some _ ys e.task B w1 HG1.out.own (HB.out.cell 2) hyb hk hx hfst)
        have HK := Lib.hid hk
        have HX := Lib.hid hx
        have HUQ := Lib.hid hu
        have hkl := (List.getElem?_eq_some_iff.1 hk).1
        have k1 : (0 : Int) ≤ (k : Int) := Int.natCast_nonneg _
        have k2 : (k : Int) < (ys.length : Int) := by omega
        have hh : hasT e.task (upto l j) = true := hasT_iff.2 ⟨x, HP.out.mem_iff.1 (List.mem_of_getElem? hk), hx⟩
        have HH := Lib.hid hh
        clear hk hx hu hfst hkl hh
        refine HIX.out.mono ?_
        rintro r w2 ⟨rfl, hm⟩
        have HG2 := Lib.hid (HG1.out.turns hm (fun _ _ h => h) (fun _ _ h => h))
        have HB2 := Lib.hid (HB.out.turns hm (fun h => h))
        clear hm HIX HG1 HB
        have q1 := HB2.out.cell 1
        have q3 := HB2.out.cell 3
        simp only [List.getElem?_toArray, List.getElem?_cons_zero, List.getElem?_cons_succ] at q1 q3
        by_cases h5 : e.kind = 5
        · have hb5 : (e.kind == 5) = true := by simp [h5]
          have e3 := Owns.cell encS_len HG2.out.own HK.out (j := 3) rfl
          have f3 := Owns.free HG2.out.own (k * 4 + 3)
          have HST := Lib.hid (show stepM (upto l j) e = updT e.task (setP e.a) (upto l j) by unfold stepM; rw [if_pos h5, if_pos HH.out])
          clear h5
          go_wp2_with fail
          have hgp := Grow.put encS_len HG2.out HK.out (x' := setP e.a x) (j := 3) (u := .int .i64 e.a) rfl (by decide)
          have HGP := Lib.hid hgp
          clear hgp
          go_roundw
          case rel =>
            refine ⟨j + 1, ys.set k (setP e.a x), by omega, by go_num, HGP.out, ?_⟩
            rw [HUS.out, HST.out, set_upd HUQ.out HK.out, HX.out]
            exact HP.out.map _
          case measure => simp [intOf]; omega
        · have hb5 : (e.kind == 5) = false := by simp [h5]
          have HST := Lib.hid (show stepM (upto l j) e = updT e.task (fun x => goesM x e) (upto l j) by unfold stepM; rw [if_neg h5])
          clear h5
          have HGC := Lib.hid (fun (w' : World) (h : Owns encS 41 4 w' (.slice (some ⟨g, 0, none⟩) ys.length cp) ys) => goes_c g cp ys k x e w' h HK.out)
          unfold aggE at HGC
          go_wp2_with fail
          refine wp_region_held_drew (S := fun w' => Blk w' B 26 #[.int .i64 e.step, .int .i64 e.kind, .int .i64 e.task, .int .i64 e.a, .int .i64 e.b, .int .i64 e.c]) (by kernel_rfl) ?_ (fun hHeld => ?_)
          · exact HB2.out.turns (Turns.drew (Turns.refl (fun _ => False) w2)) (fun h => h)
          refine takeH (i := 0) (d := some 39) (v := ?_) rfl rfl (by kernel_rfl) (by kernel_rfl) (by kernel_rfl) (fun _ _ _ h => h) (Or.inl ⟨by rfl, ?_⟩) (by assumption) ?_
          rotate_left
          · intro w hSw
            try dsimp only at hSw
            go_simp
            try with_reducible rfl
          try simp only [Act.put, List.setIfInBounds_toArray, List.set_cons_zero, List.set_cons_succ]
          refine takeH (i := 1) (d := some 40) (v := ?_) rfl rfl (by kernel_rfl) (by kernel_rfl) (by kernel_rfl) (fun _ _ _ h => h) (Or.inl ⟨by rfl, ?_⟩) (by assumption) ?_
          rotate_left
          · intro w hSw
            try dsimp only at hSw
            go_simp
            try with_reducible rfl
          try simp only [Act.put, List.setIfInBounds_toArray, List.set_cons_zero, List.set_cons_succ]
          refine takeH (i := 2) (d := some 41) (v := ?_) rfl rfl (by kernel_rfl) (by kernel_rfl) (by kernel_rfl) (fun _ _ _ h => h) (Or.inl ⟨by rfl, ?_⟩) (by assumption) ?_
          rotate_left
          · intro w hSw
            try dsimp only at hSw
            go_simp
            try with_reducible rfl
          try simp only [Act.put, List.setIfInBounds_toArray, List.set_cons_zero, List.set_cons_succ]
          refine takeH (i := 3) (d := some 42) (v := ?_) rfl rfl (by kernel_rfl) (by kernel_rfl) (by kernel_rfl) (fun _ _ _ h => h) (Or.inl ⟨by rfl, ?_⟩) (by assumption) ?_
          rotate_left
          · intro w hSw
            try dsimp only at hSw
            have q0 := hSw.cell 0
            have q1 := hSw.cell 1
            have q2 := hSw.cell 2
            have q3 := hSw.cell 3
            have q4 := hSw.cell 4
            have q5 := hSw.cell 5
            simp only [List.getElem?_toArray, List.getElem?_cons_zero, List.getElem?_cons_succ] at q0 q1 q2 q3 q4 q5
            go_simp
            try with_reducible rfl
          try simp only [Act.put, List.setIfInBounds_toArray, List.set_cons_zero, List.set_cons_succ]
          refine wpAnyH_ready (rs := [4]) (by kernel_rfl) (by simp) ?_
          refine AllReadyH.cons rfl (fun K hK => ?_) AllReadyH.nil
          go_simp
          refine (HGC.out _ HG2.out.drew.own).mono ?_
          rintro r w3 ⟨⟨v, rfl⟩, ho3, ht3⟩
          have HG3 := Lib.hid (show Grow encS 41 4 w w3 (.slice (some ⟨g, 0, none⟩) ys.length cp) (ys.set k (goesM x e)) from ⟨HG2.out.drew.made.then ht3 (fun c hc h => by have := HG2.out.far g rfl; omega), by unfold Owns at ho3 ⊢; rw [List.length_set] at *; exact ho3, HG2.out.far⟩)
          go_wp2_with fail
          refine hK.out _ _ ?_ (fun hHeld => ?_)
          · exact hHeld.turns ht3 (fun e => hgB e.symm)
          clear hK K
          try simp only [Act.put, List.setIfInBounds_toArray, List.set_cons_zero, List.set_cons_succ]
          refine wpAnyH_done (by kernel_rfl) ?_ _
          clear ho3 ht3
          clear hHeld
          try clear hHeld
          go_wp2_with fail
          go_roundw
          case rel =>
            refine ⟨j + 1, ys.set k (goesM x e), by omega, by go_num, HG3.out, ?_⟩
            rw [HUS.out, HST.out, set_upd HUQ.out HK.out (fun x => goesM x e), HX.out]
            exact HP.out.map _
          case measure => simp [intOf]; omega
      · have hno : ∀ y ∈ ys, y.task ≠ e.task := fun y hy h => by
          obtain ⟨k, hk⟩ := List.mem_iff_getElem?.1 hy
          exact hin ⟨k, y, hk, h⟩
        have HIX := Lib.hid (idx_none _ ys e.task B w1 HG1.out.own (HB.out.cell 2) hyb hno (fun h => by rw [h] at hy1; simp at hy1))
        have hno2 : ∀ y ∈ upto l j, y.task ≠ e.task := fun y hy => hno y (HP.out.mem_iff.2 hy)
        have HNO := Lib.hid hno2
        have HNY := Lib.hid hno
        clear hno hin hno2
        refine HIX.out.mono ?_
        rintro r w2 ⟨rfl, hm⟩
        have HG2 := Lib.hid (HG1.out.turns hm (fun _ _ h => h) (fun _ _ h => h))
        have HB2 := Lib.hid (HB.out.turns hm (fun h => h))
        clear hm HIX HG1 HB
        have q1 := HB2.out.cell 1
        have q2 := HB2.out.cell 2
        simp only [List.getElem?_toArray, List.getElem?_cons_zero, List.getElem?_cons_succ] at q1 q2
        by_cases h5 : e.kind = 5
        · have hb5 : (e.kind == 5) = true := by simp [h5]
          have HST := Lib.hid (show stepM (upto l j) e = insS ⟨e.task, 0, 0, e.a⟩ (upto l j) by
            unfold stepM
            rw [if_pos h5, if_neg (fun h => by obtain ⟨y, hy, ht⟩ := hasT_iff.1 h; exact HNO.out y hy ht)])
          clear h5
          have HS := Lib.hid (SrcAt.block (enc := encS) (N := [(⟨e.task, 0, 0, 0⟩ : St)]) (n := 1) (c := 1) (Blk.new w2 41 #[.int .i64 e.task, .int .i64 0, .int .i64 0, .int .i64 0]) rfl (by simp [flat, encS]))
          have HBA := Lib.hid (HB2.out.alloc (.cells #[.int .i64 e.task, .int .i64 0, .int .i64 0, .int .i64 0] 41))
          have HGA := Lib.hid (HG2.out.alloc (.cells #[.int .i64 e.task, .int .i64 0, .int .i64 0, .int .i64 0] 41))
          go_wp2_with (at_builtin; refine wpList_grow rfl (.tmp 25) (.tmp 29) 28 rfl i0 _ 32 Try.underlying28 hi0 hz0 hz1 hz2 rfl (by omega) encS_len encS_one rfl HGA.out rfl HS.out (by simp [maxLen]; omega) (by simp; omega) ?_)
          intro v3 w3 hg3 hF hS hO
          rcases hg3.own.form with ⟨h0, h1⟩ | ⟨g3, c3, rfl, hgl3, hlc3, hcm3⟩
          · simp at h1
          have hzl : (ys ++ [(⟨e.task, 0, 0, 0⟩ : St)]).length = ys.length + 1 := by simp
          have hzk : (ys ++ [(⟨e.task, 0, 0, 0⟩ : St)])[ys.length]? = some ⟨e.task, 0, 0, 0⟩ := by simp
          have hzs : (ys ++ [(⟨e.task, 0, 0, 0⟩ : St)]).set ys.length ⟨e.task, 0, 0, e.a⟩ = ys ++ [⟨e.task, 0, 0, e.a⟩] := by simp
          generalize ys ++ [(⟨e.task, 0, 0, 0⟩ : St)] = zs at *
          have HB3 := Lib.hid (show Blk w3 B 26 #[.int .i64 e.step, .int .i64 e.kind, .int .i64 e.task, .int .i64 e.a, .int .i64 e.b, .int .i64 e.c] from (hF B (by have := HB2.out.lt; first | omega | (simp; omega)) (fun e => hgB (by simpa [Value.ownBlock] using e))).trans HBA.out)
          have HG3 := Lib.hid hg3
          have HZK := Lib.hid hzk
          have HZS := Lib.hid hzs
          have z1 : (0 : Int) ≤ (ys.length : Int) := Int.natCast_nonneg _
          have z2 : (ys.length : Int) < (zs.length : Int) := by omega
          have q3 := HB3.out.cell 3
          simp only [List.getElem?_toArray, List.getElem?_cons_zero, List.getElem?_cons_succ] at q3
          have e3 := Owns.cell encS_len HG3.out.own HZK.out (j := 3) rfl
          have f3 := Owns.free HG3.out.own (ys.length * 4 + 3)
          clear hg3 hF hS hO hgl3 hzk hzs hzl HS HBA HGA q1 q2
          go_wp2_with fail
          have HGP := Lib.hid (Grow.put encS_len HG3.out HZK.out (x' := ⟨e.task, 0, 0, e.a⟩) (j := 3) (u := .int .i64 e.a) rfl (by decide))
          go_roundw
          case rel =>
            refine ⟨j + 1, zs.set ys.length ⟨e.task, 0, 0, e.a⟩, by omega, by go_num, HGP.out, ?_⟩
            rw [HUS.out, HST.out, HZS.out]
            exact (List.perm_append_singleton _ _).trans ((HP.out.cons _).trans (insS_perm _ _).symm)
          case measure => simp [intOf]; omega
        · have hb5 : (e.kind == 5) = false := by simp [h5]
          have HST := Lib.hid (show stepM (upto l j) e = upto l j by unfold stepM; rw [if_neg h5, updT_none HNO.out])
          clear h5
          go_wp2_with fail
          go_roundw
          case rel => exact ⟨j + 1, ys, by omega, by go_num, HG2.out, by rw [HUS.out, HST.out]; exact HP.out⟩
          case measure => simp [intOf]; omega
    · have j2 : ¬ (j : Int) < (len : Int) := by omega
      have hpl : ys.Perm (statesM l) := by rw [← upto_all (l := l) (k := j) (by have := HW.out.1; omega)]; exact HP.out
      have hrl : (statesM l).Pairwise ltS := by rw [← upto_all (l := l) (k := j) (by have := HW.out.1; omega)]; exact upto_rise l j
      have HSC := Lib.hid (sort_c g cp ys wr HG.out.own hpl hrl hyb)
      have hyl2 := hpl.length_eq
      have HYL := Lib.hid hyl2
      clear hpl hrl hyl2
      go_wp2_with fail
      refine HSC.out.mono ?_
      rintro r w2 ⟨rfl, ho2, ht2⟩
      have HO2 := Lib.hid ho2
      have HT2 := Lib.hid ht2
      clear ho2 ht2 HSC
      go_wp2_with fail
      go_ret
      exact ⟨_, rfl, HO2.out, HG.out.made.then HT2.out (fun c hc h => by have := HG.out.far g rfl; omega), fun c hc => HG.out.far c hc⟩
end Go.Proofs.Ytjcmmgjaopejgaa
