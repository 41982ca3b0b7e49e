/-
  Contracts of package heap: Remove, Move, Pop.
-/
import Derived.Test.YtgjgopcomgclkaaHpF
namespace Go.Proofs.Ytgjgopcomgclkaa
open Go.RowKit
set_option linter.unusedVariables false
set_option linter.unusedSimpArgs false

theorem hrem_c {p : Nat} {F : Nat → Prop} {L : List It} {sq : Int} (id : Int) (w : World) (h : HeapAt w p F L sq) (hsq : sq ≤ 1000000) {x : It} (hx : findL id L = some x) :
    Calls Try.prog 40 #[.pointer (some ⟨p, 0, none⟩), .int .i64 id] w fun e w' => e = .returned (.tuple #[aggT x, .bool true]) ∧ HeapAt w' p F (delL id L) sq ∧ Stp w w' F F := by
  obtain ⟨mb, lv, ys, f, h⟩ := h
  have huL := h.uniq.perm h.perm.symm
  obtain ⟨hxL, hid⟩ := (findL_some huL id x).1 hx
  obtain ⟨k, hk⟩ := List.getElem?_of_mem (h.perm.mem_iff.2 hxL)
  refine (hrem_in id w h hsq hx hk hid).mono ?_
  rintro e w' ⟨rfl, lv', ys', f', hr, hp, ho, hpm, hlv, ht⟩
  have hdp := delL_perm huL hxL
  rw [hid] at hdp
  have hpm2 : ys'.Perm (delL id L) := ((hpm.trans h.perm).trans hdp).cons_inv
  have huy : Uniq ys' := by
    have h1 := h.uniq.perm hpm
    rw [Uniq.iff, List.map_cons, List.nodup_cons] at h1
    exact (Uniq.iff _).2 h1.2
  have ht' : Turns F w w' := ht.mono (fun b _ hb => by
    rcases hb with rfl | rfl | hb
    · exact h.fp
    · exact h.fm
    · exact h.fl b hb)
  exact ⟨rfl, ⟨mb, lv', ys', f', { raw := hr, pos := hp, uniq := huy, ord := ho, perm := hpm2, rise := delL_rise h.rise id, seqs := fun z hz => h.seqs z (delL_mem.1 hz).1, len := by have := delL_le L id; have := h.len; omega, fp := h.fp, fm := h.fm, fl := fun b hb => h.fl b (by rw [← hlv]; exact hb), fb := fun b hb => Nat.lt_of_lt_of_le (h.fb b hb) ht.size }⟩, ⟨ht', fun b hb => .inl hb⟩⟩

theorem hmove_nil (id when : Int) (w : World) : Calls Try.prog 22 #[.pointer none, .int .i64 id, .int .i64 when] w fun e w' => e = .returned (.int .i64 4) ∧ Made w w' := by
  have H := Lib.hid (fun (w' : World) => hrem_nil id w')
  unfold aggT zeroT at H
  go_enter Try.func22, Try.ntmps22
  go_wp2_with fail
  refine (H.out _).mono ?_
  rintro e w' ⟨rfl, hm⟩
  have HM := Lib.hid hm
  clear hm
  go_wp2_with fail
  go_ret
  exact ⟨rfl, HM.out.alloc _⟩
theorem hmove_none {p : Nat} {F : Nat → Prop} {L : List It} {sq : Int} (id when : Int) (w : World) (h : HeapAt w p F L sq) (hx : findL id L = none) :
    Calls Try.prog 22 #[.pointer (some ⟨p, 0, none⟩), .int .i64 id, .int .i64 when] w fun e w' => e = .returned (.int .i64 4) ∧ Made w w' := by
  have H := Lib.hid (hrem_none id w h hx)
  clear h hx
  unfold aggT zeroT at H
  go_enter Try.func22, Try.ntmps22
  go_wp2_with fail
  refine H.out.mono ?_
  rintro e w' ⟨rfl, hm⟩
  have HM := Lib.hid hm
  clear hm
  go_wp2_with fail
  go_ret
  exact ⟨rfl, HM.out.alloc _⟩
theorem findL_del (id : Int) (L : List It) : findL id (delL id L) = none := (findL_none id).2 (fun x hx => (delL_mem.1 hx).2)
theorem hmove_c {p : Nat} {F : Nat → Prop} {L : List It} {sq : Int} (id when : Int) (w : World) (h : HeapAt w p F L sq) (hsq : sq < 1000000) {x : It} (hx : findL id L = some x) :
    Calls Try.prog 22 #[.pointer (some ⟨p, 0, none⟩), .int .i64 id, .int .i64 when] w fun e w' => e = .returned (.int .i64 0) ∧ ∃ F', HeapAt w' p F' (insL ⟨id, when, sq + 1⟩ (delL id L)) (sq + 1) ∧ Stp w w' F F' := by
  have H := Lib.hid (hrem_c id w h (by omega) hx)
  clear h hx
  unfold aggT at H
  go_enter Try.func22, Try.ntmps22
  go_wp2_with fail
  refine H.out.mono ?_
  rintro e w' ⟨rfl, hh, hs⟩
  have HH := Lib.hid hh
  have HS := Lib.hid hs
  clear hh hs H
  go_wp2_with fail
  refine (hadd_c id when _ (HH.out.made ((Turns.refl _ _).alloc _)) (findL_del id L) hsq).mono ?_
  rintro e w2 ⟨rfl, F', hh, hs⟩
  have HH2 := Lib.hid hh
  have HS2 := Lib.hid hs
  clear hh hs
  go_wp2_with fail
  go_ret
  exact ⟨rfl, F', HH2.out, (HS.out.trans (Stp.made ((Turns.refl _ _).alloc _))).trans HS2.out⟩

theorem hpop_nil (w : World) : Calls Try.prog 18 #[.pointer none] w fun e w' => e = .returned (.tuple #[aggT zeroT, .bool false]) ∧ Made w w' := by
  have H := Lib.hid (fun (w' : World) => hmin_nil w')
  unfold aggT zeroT at *
  go_enter Try.func18, Try.ntmps18
  go_wp2_with fail
  refine (H.out _).mono ?_
  rintro e w' ⟨rfl, hm⟩
  have hB1 := (Blk.new w 30 #[.int .i64 0, .int .i64 0, .int .i64 0]).turns hm (fun h => h)
  have b0 := hB1.cell 0
  have b1 := hB1.cell 1
  have b2 := hB1.cell 2
  have g0 := hB1.free 0
  have g1 := hB1.free 1
  have g2 := hB1.free 2
  have hb4 := hB1.lt
  simp only [List.getElem?_toArray, List.getElem?_cons_zero, List.getElem?_cons_succ] at b0 b1 b2
  have HM := Lib.hid (((Turns.refl (fun _ => False) w).alloc _).trans hm)
  have HB := Lib.hid hB1
  clear hm hB1
  go_wp2_with fail
  refine bodyPost_ret (res_box rfl ((HB.out.put3 _ _ _).alloc _) rfl rfl) rfl ?_
  exact ⟨rfl, ((HM.out.then (set3 _ w.heap.size) (fun b hb e => by omega)).alloc _)⟩
theorem hpop_none {p : Nat} {F : Nat → Prop} {sq : Int} (w : World) (h : HeapAt w p F [] sq) :
    Calls Try.prog 18 #[.pointer (some ⟨p, 0, none⟩)] w fun e w' => e = .returned (.tuple #[aggT zeroT, .bool false]) ∧ Made w w' := by
  have H := Lib.hid (fun (w' : World) (hm : Made w w') => hmin_c w' (h.made hm))
  have HM0 := Lib.hid (fun (o : Obj) => ((Turns.refl (fun _ => False) w).alloc o))
  clear h
  simp only [List.getElem?_nil, optT, Option.getD_none, Option.isSome_none] at H
  unfold aggT zeroT at *
  go_enter Try.func18, Try.ntmps18
  go_wp2_with fail
  refine (H.out _ (HM0.out _)).mono ?_
  rintro e w' ⟨rfl, hm⟩
  have hB1 := (Blk.new w 30 #[.int .i64 0, .int .i64 0, .int .i64 0]).turns hm (fun h => h)
  have b0 := hB1.cell 0
  have b1 := hB1.cell 1
  have b2 := hB1.cell 2
  have g0 := hB1.free 0
  have g1 := hB1.free 1
  have g2 := hB1.free 2
  have hb4 := hB1.lt
  simp only [List.getElem?_toArray, List.getElem?_cons_zero, List.getElem?_cons_succ] at b0 b1 b2
  have HM := Lib.hid (((Turns.refl (fun _ => False) w).alloc _).trans hm)
  have HB := Lib.hid hB1
  clear hm hB1
  go_wp2_with fail
  refine bodyPost_ret (res_box rfl ((HB.out.put3 _ _ _).alloc _) rfl rfl) rfl ?_
  exact ⟨rfl, ((HM.out.then (set3 _ w.heap.size) (fun b hb e => by omega)).alloc _)⟩
theorem delL_head {x : It} {l : List It} (hu : Uniq (x :: l)) : delL x.id (x :: l) = l := by
  have hn := (Uniq.iff _).1 hu
  rw [List.map_cons, List.nodup_cons] at hn
  unfold delL
  rw [List.filter_cons]
  simp only [bne_self_eq_false, Bool.false_eq_true, if_false]
  rw [List.filter_eq_self]
  intro z hz
  simp only [bne_iff_ne, ne_eq]
  exact fun e => hn.1 (by rw [← e]; exact List.mem_map_of_mem hz)
set_option maxHeartbeats 1000000 in
theorem hpop_c {p : Nat} {F : Nat → Prop} {x : It} {l : List It} {sq : Int} (w : World) (h : HeapAt w p F (x :: l) sq) (hsq : sq ≤ 1000000) :
    Calls Try.prog 18 #[.pointer (some ⟨p, 0, none⟩)] w fun e w' => e = .returned (.tuple #[aggT x, .bool true]) ∧ HeapAt w' p F l sq ∧ Stp w w' F F := by
  have H := Lib.hid (fun (w' : World) (hm : Made w w') => hmin_c w' (h.made hm))
  have hfx : findL x.id (x :: l) = some x := (findL_some h.uniq _ _).2 ⟨List.mem_cons_self .., rfl⟩
  have hde := delL_head h.uniq
  have H2 := Lib.hid (fun (w' : World) (hm : Made w w') => hrem_c x.id w' (h.made hm) hsq hfx)
  rw [hde] at H2
  have HM0 := Lib.hid (fun (o : Obj) => ((Turns.refl (fun _ => False) w).alloc o))
  have HF := Lib.hid h.fb
  clear h hfx hde
  simp only [List.getElem?_cons_zero, optT, Option.getD_some, Option.isSome_some] at H
  unfold aggT at *
  go_enter Try.func18, Try.ntmps18
  go_wp2_with fail
  refine (H.out _ (HM0.out _)).mono ?_
  rintro e w' ⟨rfl, hm⟩
  have hB1 := (Blk.new w 30 #[.int .i64 0, .int .i64 0, .int .i64 0]).turns hm (fun h => h)
  have HM := Lib.hid (((Turns.refl (fun _ => False) w).alloc _).trans hm)
  have HB := Lib.hid (hB1.alloc (.cells #[.int .i64 x.id, .int .i64 x.when, .int .i64 x.seq] 30))
  have HX := Lib.hid (Blk.new w' 30 #[.int .i64 x.id, .int .i64 x.when, .int .i64 x.seq])
  have hb1 := hB1.lt
  clear hm hB1 H
  go_wp2_with fail
  refine (H2.out _ (HM.out.alloc _)).mono ?_
  rintro e w2 ⟨rfl, hh, hs⟩
  have HH := Lib.hid hh
  have HS := Lib.hid hs
  have HB2 := Lib.hid (HB.out.turns hs.t (fun h => by have := HF.out _ h; omega))
  have HX2 := Lib.hid (HX.out.turns hs.t (fun h => by have := HF.out _ h; omega))
  have b0 := HB2.out.cell 0
  have b1 := HB2.out.cell 1
  have b2 := HB2.out.cell 2
  have g0 := HB2.out.free 0
  have g1 := HB2.out.free 1
  have g2 := HB2.out.free 2
  have k0 := HX2.out.cell 0
  have k1 := HX2.out.cell 1
  have k2 := HX2.out.cell 2
  simp only [List.getElem?_toArray, List.getElem?_cons_zero, List.getElem?_cons_succ] at b0 b1 b2 k0 k1 k2
  clear hh hs H2
  go_wp2_with fail
  refine bodyPost_ret (res_box rfl (HB2.out.put3 _ _ _) rfl rfl) rfl ?_
  refine ⟨rfl, HH.out.turns (set3 _ w.heap.size) (fun k hk e => ?_), ⟨?_, fun b hb => .inl hb⟩⟩
  · have := HF.out _ hk; omega
  · exact (((HM.out.alloc _).mono (fun _ _ h => h.elim)).then HS.out.t (fun _ _ h => h)).then (set3 _ w.heap.size) (fun b hb e => by omega)
end Go.Proofs.Ytgjgopcomgclkaa
