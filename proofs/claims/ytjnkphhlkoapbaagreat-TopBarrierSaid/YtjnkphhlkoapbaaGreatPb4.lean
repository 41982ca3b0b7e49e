/-
  Walks and laws under LawTopBarrier, part 4.
-/
import Derived.Handy
import Derived.Carry
import Derived.Laws.ResultCell
import Derived.Test.YtjnkphhlkoapbaaGreatProg
import Derived.WalkKit
import Derived.Below
import Derived.Lib.Hide
import Derived.IntWalk
import Derived.WalkLawsBesides
import Derived.Laws.StructEq
import Derived.Test.YtjnkphhlkoapbaaGreatPb3
namespace Go.Proofs.YtjnkphhlkoapbaaGreat
open Go.RowKit
set_option linter.unusedVariables false
set_option linter.unusedSimpArgs false
theorem Tryz.infoT : (Tryz.prog.info? 186).map (fun i => (i.zero, i.size, i.bytes)) = some (some (.agg #[.int .i64 0, .int .i64 0, .int .i64 0]), 3, 24) := by kernel_rfl
def zeroT : It := ⟨0, 0, 0⟩
def optT (o : Option It) : It := o.getD zeroT
theorem run_mkmap {P : Program} (t : TypeId) (w : World) : (Instr.makeMap t none).run P w = .ok (.map (some w.heap.size)) (w.alloc (.map #[] 0)) := rfl
attribute [local go_sem] run_mkmap
theorem hnew_c (w : World) : Calls Tryz.prog 58 #[] w fun e w' => ∃ (p : Nat) (F : Nat → Prop), e = .returned (.pointer (some ⟨p, 0, none⟩)) ∧ HeapAt w' p F [] 0 ∧ Made w w' ∧ (∀ k, F k → w.heap.size ≤ k) := by
 have hm := MapI.new w
 have hb := Blk.new (w.alloc (.map #[] 0)) 179 #[.slice none 0 0, .map (some w.heap.size), .int .i64 0]
 have hmm := hm.alloc (.cells #[.slice none 0 0, .map (some w.heap.size), .int .i64 0] 179)
 have ht : Made w ((w.alloc (.map #[] 0)).alloc (.cells #[.slice none 0 0, .map (some w.heap.size), .int .i64 0] 179)) := ((Turns.refl _ _).alloc _).alloc _
 have hs : (w.alloc (.map #[] 0)).heap.size = w.heap.size + 1 := by simp
 rw [hs] at hb
 have HM := Lib.hid hmm
 have HB := Lib.hid hb
 have HT := Lib.hid ht
 clear hm hmm hb ht
 go_enter Tryz.func58, Tryz.ntmps58
 go_wp2_with fail
 go_ret
 refine ⟨w.heap.size + 1, fun k => k = w.heap.size + 1 ∨ k = w.heap.size, by simp, ⟨w.heap.size, _, [], _, { raw := ⟨HB.out, ⟨rfl, .inl ⟨rfl, rfl⟩⟩, HM.out, by simp [Value.ownBlock], by simp [Value.ownBlock], by omega⟩, pos := ?_, uniq := ?_, ord := ?_, perm := List.Perm.refl _, rise := List.Pairwise.nil, seqs := ?_, len := by simp, fp := .inl rfl, fm := .inr rfl, fl := ?_, fb := ?_ }⟩, HT.out, ?_⟩
 ·intro id v
  simp
 ·intro a b x y ha; simp at ha
 ·intro k u v _ hu; simp at hu
 ·intro x hx; cases hx
 ·intro k hk; simp [Value.ownBlock] at hk
 ·intro k hk; have := HB.out.lt; rcases hk with rfl | rfl <;> omega
 ·intro k hk; rcases hk with rfl | rfl <;> omega
theorem hlen_raw {p mb : Nat} {lv : Value} {sq : Int} {ys : List It} {f : Int → Option Value} (w : World) (h : HRaw w p mb lv sq ys f) : Calls Tryz.prog 184 #[.pointer (some ⟨p, 0, none⟩)] w fun e w' => e = .returned (.int .i64 ys.length) ∧ w = w' := by
 have c0 := h.blk.cell 0
 simp only [List.getElem?_toArray, List.getElem?_cons_zero] at c0
 rcases h.own.form with ⟨rfl, rfl⟩ | ⟨g, cap, rfl, hg, hl, hm⟩
 all_goals
  clear h
  go_enter Tryz.func184, Tryz.ntmps184
  go_wp2
  go_ret
  exact ⟨by simp, rfl⟩
theorem hmin_raw {p mb : Nat} {lv : Value} {sq : Int} {ys : List It} {f : Int → Option Value} (w : World) (h : HRaw w p mb lv sq ys f) : Calls Tryz.prog 150 #[.pointer (some ⟨p, 0, none⟩)] w fun e w' => e = .returned (.tuple #[aggT (optT ys[0]?), .bool ys[0]?.isSome]) ∧ Made w w' := by
 cases hy : ys with
 | nil =>
  subst hy
  have H := Lib.hid (fun (w' : World) (hm : Made w w') => hlen_raw w' (h.made hm))
  have HM := Lib.hid (fun (o : Obj) => ((Turns.refl (fun _ => False) w).alloc o))
  clear h
  simp only [List.getElem?_nil, optT, Option.getD_none, zeroT, aggT, Option.isSome_none]
  go_enter Tryz.func150, Tryz.ntmps150
  go_wp2_with fail
  refine (H.out _ (HM.out _)).mono ?_
  rintro e w' ⟨rfl, rfl⟩
  go_wp2_with fail
  go_returns
  exact ⟨by simp, ((Turns.refl _ _).alloc _)⟩
 | cons x l =>
  have hn : ¬ ((ys.length : Int) = 0) := by rw [hy]; simp; omega
  have hn2 : ((ys.length : Int) == 0) = false := beq_eq_false_iff_ne.mpr hn
  rcases h.own.form with ⟨rfl, h0⟩ | ⟨g, cap, rfl, hg, hl, hm⟩
  ·rw [h0] at hy; cases hy
  have hx : ys[0]? = some x := by rw [hy]; rfl
  have H := Lib.hid (fun (w' : World) (hm : Made w w') => hlen_raw w' (h.made hm))
  have HM := Lib.hid (fun (o : Obj) => ((Turns.refl (fun _ => False) w).alloc o))
  have c0 := h.blk.cell 0
  have e0 : w.cell? ⟨g, 0 * 3, none⟩ = some (.int .i64 x.id) := Owns.cell encT_len h.own hx (j := 0) rfl
  have e1 : w.cell? ⟨g, 0 * 3 + 1, none⟩ = some (.int .i64 x.when) := Owns.cell encT_len h.own hx (j := 1) rfl
  have e2 : w.cell? ⟨g, 0 * 3 + 2, none⟩ = some (.int .i64 x.seq) := Owns.cell encT_len h.own hx (j := 2) rfl
  simp only [List.getElem?_toArray, List.getElem?_cons_zero, Nat.zero_mul, Nat.zero_add] at c0 e0 e1 e2
  have hpl := h.blk.lt
  rw [← hy]
  have hy2 : 0 < ys.length := by rw [hy]; simp
  rw [hx]
  clear hy h
  simp only [optT, Option.getD_some, aggT, Option.isSome_some]
  go_enter Tryz.func150, Tryz.ntmps150
  go_wp2_with fail
  refine (H.out _ (HM.out _)).mono ?_
  rintro e w' ⟨rfl, rfl⟩
  go_wp2_with fail
  go_returns
  exact ⟨by simp, ((Turns.refl _ _).alloc _)⟩
theorem hmin_c {p : Nat} {F : Nat → Prop} {L : List It} {sq : Int} (w : World) (h : HeapAt w p F L sq) : Calls Tryz.prog 150 #[.pointer (some ⟨p, 0, none⟩)] w fun e w' => e = .returned (.tuple #[aggT (optT L[0]?), .bool L[0]?.isSome]) ∧ Made w w' := by
 obtain ⟨mb, lv, ys, f, h⟩ := h
 rw [← h.first]
 exact hmin_raw w h.raw
theorem zero_int (w : World) : (zeroValue 3).run Tryz.prog w = .ok (.int .i64 0) w := by kernel_rfl
theorem hfind_in {p mb : Nat} {lv : Value} {sq : Int} {ys : List It} {f : Int → Option Value} {F : Nat → Prop} {L : List It} (id : Int) (w : World) (h : HeapIn w p mb lv sq ys f F L) : Calls Tryz.prog 185 #[.pointer (some ⟨p, 0, none⟩), .int .i64 id] w fun e w' => e = .returned (.tuple #[aggT (optT (findL id L)), .bool (findL id L).isSome]) ∧ Made w w' := by
 have c0 := h.raw.blk.cell 0
 have c1 := h.raw.blk.cell 1
 simp only [List.getElem?_toArray, List.getElem?_cons_zero, List.getElem?_cons_succ] at c0 c1
 have hpl := h.raw.blk.lt
 have H := Lib.hid (fun (o : Obj) => (h.raw.map.alloc o).look Tryz.underlying98 Tryz.underlying3 (zero_int _) id true)
 rcases h.find id with ⟨hf, hfi, _⟩ | ⟨k, x, hf, hfi, hk, hid, hx⟩
 ·rw [hf]
  rw [hfi] at H
  clear h hf
  simp only [optT, Option.getD_none, aggT, zeroT, Option.isSome_none] at H ⊢
  go_enter Tryz.func185, Tryz.ntmps185
  go_wp2_with (at_lookup; refine wpList_lookrun _ rfl _ _ 98 true rfl _ _ _ rfl rfl (H.out _) ?_)
  go_returns
  exact ⟨by simp, ((Turns.refl _ _).alloc _)⟩
 ·rw [hf]
  rw [hfi] at H
  rcases h.raw.own.form with ⟨rfl, h0⟩ | ⟨g, cap, rfl, hg, hl, hm⟩
  ·rw [h0] at hk; simp at hk
  have e0 : w.cell? ⟨g, k * 3, none⟩ = some (.int .i64 x.id) := Owns.cell encT_len h.raw.own hk (j := 0) rfl
  have e1 : w.cell? ⟨g, k * 3 + 1, none⟩ = some (.int .i64 x.when) := Owns.cell encT_len h.raw.own hk (j := 1) rfl
  have e2 : w.cell? ⟨g, k * 3 + 2, none⟩ = some (.int .i64 x.seq) := Owns.cell encT_len h.raw.own hk (j := 2) rfl
  have hkl := (List.getElem?_eq_some_iff.1 hk).1
  have i1 : (0 : Int) ≤ (k : Int) := Int.natCast_nonneg _
  have i2 : (k : Int) < (ys.length : Int) := by omega
  clear h hf hk
  simp only [optT, Option.getD_some, aggT, zeroT, Option.isSome_some] at H ⊢
  go_enter Tryz.func185, Tryz.ntmps185
  go_wp2_with (at_lookup; refine wpList_lookrun _ rfl _ _ 98 true rfl _ _ _ rfl rfl (H.out _) ?_)
  go_returns
  exact ⟨by simp [hid], ((Turns.refl _ _).alloc _)⟩
theorem hfind_c {p : Nat} {F : Nat → Prop} {L : List It} {sq : Int} (id : Int) (w : World) (h : HeapAt w p F L sq) : Calls Tryz.prog 185 #[.pointer (some ⟨p, 0, none⟩), .int .i64 id] w fun e w' => e = .returned (.tuple #[aggT (optT (findL id L)), .bool (findL id L).isSome]) ∧ Made w w' := by
 obtain ⟨mb, lv, ys, f, h⟩ := h
 exact hfind_in id w h
end Go.Proofs.YtjnkphhlkoapbaaGreat
namespace Go.Proofs.YtjnkphhlkoapbaaGreat
open Go.RowKit
set_option linter.unusedVariables false
set_option linter.unusedSimpArgs false
theorem par_int (j : Nat) (h : 0 < j) : ((j : Int) - 1).tdiv 4 = (par j : Int) := by
 unfold par
 rw [Int.tdiv_eq_ediv_of_nonneg (by omega)]
 omega
theorem wrap_in (n : Int) (h : -9223372036854775808 ≤ n ∧ n ≤ 9223372036854775807) : IntKind.i64.wrap n = n := by rw [IntKind.wrap_i64]; omega
set_option maxHeartbeats 2000000 in
set_option maxRecDepth 100000 in
theorem up_c (p mb : Nat) (lv : Value) (sq : Int) (ys : List It) (f : Int → Option Value) (i : Nat) (x : It) (w : World) (h : HRaw w p mb lv sq ys f) (hx : ys[i]? = some x) (hu : Uniq ys) (hp : PosOK (upd f x.id (.int .i64 i)) ys) (hn : ys.length ≤ 1000000) :
  Calls Tryz.prog 187 #[.pointer (some ⟨p, 0, none⟩), .int .i64 i] w fun e w' => (∃ v, e = .returned v) ∧ (∃ f', HRaw w' p mb lv sq (upL ys i) f' ∧ PosOK f' (upL ys i)) ∧ Turns (fun k => lv.ownBlock = some k ∨ k = mb) w w' := by
 have hi := (List.getElem?_eq_some_iff.1 hx).1
 rcases h.own.form with ⟨_, h0⟩ | ⟨g, cap, rfl, hg, hlc, hcm⟩
 ·subst h0; simp at hi
 have c0 := h.blk.cell 0
 simp only [List.getElem?_toArray, List.getElem?_cons_zero] at c0
 have e0 : w.cell? ⟨g, i * 3, none⟩ = some (.int .i64 x.id) := Owns.cell encT_len h.own hx (j := 0) rfl
 have e1 : w.cell? ⟨g, i * 3 + 1, none⟩ = some (.int .i64 x.when) := Owns.cell encT_len h.own hx (j := 1) rfl
 have e2 : w.cell? ⟨g, i * 3 + 2, none⟩ = some (.int .i64 x.seq) := Owns.cell encT_len h.own hx (j := 2) rfl
 have i1 : (0 : Int) ≤ (i : Int) := Int.natCast_nonneg _
 have i2 : (i : Int) < (ys.length : Int) := by omega
 have HH := Lib.hid h
 have HX := Lib.hid hx
 have HU := Lib.hid hu
 have HP := Lib.hid hp
 have hpl := h.blk.lt
 have hml := h.map.lt
 clear h hx hu hp
 go_enter Tryz.func187, Tryz.ntmps187
 go_wp2_with fail
 have hB : Blk (w.alloc (.cells (encT x).toArray 186)) w.heap.size 186 (encT x).toArray := Blk.new w _ _
 have hM : Made w (w.alloc (.cells (encT x).toArray 186)) := (Turns.refl _ _).alloc _
 unfold encT at hB hM
 generalize (w.alloc (.cells [.int .i64 x.id, .int .i64 x.when, .int .i64 x.seq].toArray 186)) = W at *
 generalize hbe : w.heap.size = bx at *
 have HB := Lib.hid hB
 have HM := Lib.hid hM
 have HBE := Lib.hid hbe
 clear hB hM hbe c0 e0 e1 e2 i1 i2
 go_loopw [1] (fun v1 wr => ∃ (j : Nat) (yy : List It) (f' : Int → Option Value), v1 = .int .i64 j ∧ HRaw wr p mb (.slice (some ⟨g, 0, none⟩) ys.length cap) sq yy f' ∧ yy.length = ys.length ∧ (yy.set j x)[j]? = some x ∧ Uniq (yy.set j x) ∧ PosOK (upd f' x.id (.int .i64 j)) (yy.set j x) ∧ upL (yy.set j x) j = upL ys i ∧ Blk wr bx 186 (encT x).toArray ∧ Turns (fun k => k = g ∨ k = mb) w wr) (fun v1 _ => (intOf v1).toNat)
 case atStart =>
  have hs : ys.set i x = ys := by
   obtain ⟨_, hh⟩ := List.getElem?_eq_some_iff.1 HX.out
   rw [← hh]; exact List.set_getElem_self hi
  refine ⟨i, ys, f, rfl, HH.out.made HM.out, rfl, ?_, ?_, ?_, ?_, HB.out, HM.out.mono (fun _ _ h => h.elim)⟩
  ·rw [hs]; exact HX.out
  ·rw [hs]; exact HU.out
  ·rw [hs]; exact HP.out
  ·rw [hs]
 case round =>
  obtain ⟨j, yy, f', rfl, hr, hyl, hjx, huj, hpj, hup, hbj, htj⟩ := hrel
  have hjl : j < yy.length := by have := (List.getElem?_eq_some_iff.1 hjx).1; rwa [List.length_set] at this
  have HR := Lib.hid hr
  have HYL := Lib.hid hyl
  have HJX := Lib.hid hjx
  have HUJ := Lib.hid huj
  have HPJ := Lib.hid hpj
  have HUP := Lib.hid hup
  have HBJ := Lib.hid hbj
  have HTJ := Lib.hid htj
  clear hr hyl hjx huj hpj hup hbj htj HH HX HU HP HB HM
  have i1 : (0 : Int) ≤ (j : Int) := Int.natCast_nonneg _
  have i2 : (j : Int) < (ys.length : Int) := by have := HYL.out; omega
  by_cases hj0 : j = 0
  ·subst hj0
   go_wp2_with fail
   refine wp_region_held_drew (S := (fun w' => Made wr w')) (by kernel_rfl) ?_ (fun hHeld => ?_)
   ·exact (Turns.refl _ _).drew
   refine takeH (i := 0) (d := some 12) (v := ?_) rfl rfl (by kernel_rfl) (by kernel_rfl) (by kernel_rfl) (fun _ _ _ h => h) (Or.inl ⟨by rfl, ?_⟩) (by assumption) ?_
   rotate_left
   ·intro w hSw
    try dsimp only at hSw
    go_simp
    try with_reducible rfl
   try simp only [Act.put, List.setIfInBounds_toArray, List.set_cons_zero, List.set_cons_succ]
   refine takeH (i := 1) (d := some 13) (v := ?_) rfl rfl (by kernel_rfl) (by kernel_rfl) (by kernel_rfl) (fun _ _ _ h => h) (Or.inl ⟨by rfl, ?_⟩) (by assumption) ?_
   rotate_left
   ·intro w hSw
    try dsimp only at hSw
    go_simp
    try with_reducible rfl
   try simp only [Act.put, List.setIfInBounds_toArray, List.set_cons_zero, List.set_cons_succ]
   refine takeH (i := 2) (d := some 14) (v := ?_) rfl rfl (by kernel_rfl) (by kernel_rfl) (by kernel_rfl) (fun _ _ _ h => h) (Or.inl ⟨by rfl, ?_⟩) (by assumption) ?_
   rotate_left
   ·intro w hSw
    try dsimp only at hSw
    go_simp
    try with_reducible rfl
   try simp only [Act.put, List.setIfInBounds_toArray, List.set_cons_zero, List.set_cons_succ]
   refine takeH (i := 3) (d := some 15) (v := undef) rfl rfl (by kernel_rfl) (by kernel_rfl) (by kernel_rfl) (fun _ _ _ h => h) (Or.inr ⟨by rfl, rfl⟩) (by assumption) ?_
   try simp only [Act.put, List.setIfInBounds_toArray, List.set_cons_zero, List.set_cons_succ]
   refine takeH (i := 4) (d := some 16) (v := undef) rfl rfl (by kernel_rfl) (by kernel_rfl) (by kernel_rfl) (fun _ _ _ h => h) (Or.inr ⟨by rfl, rfl⟩) (by assumption) ?_
   try simp only [Act.put, List.setIfInBounds_toArray, List.set_cons_zero, List.set_cons_succ]
   refine takeH (i := 5) (d := some 17) (v := undef) rfl rfl (by kernel_rfl) (by kernel_rfl) (by kernel_rfl) (fun _ _ _ h => h) (Or.inr ⟨by rfl, rfl⟩) (by assumption) ?_
   try simp only [Act.put, List.setIfInBounds_toArray, List.set_cons_zero, List.set_cons_succ]
   refine takeH (i := 6) (d := some 18) (v := undef) rfl rfl (by kernel_rfl) (by kernel_rfl) (by kernel_rfl) (fun _ _ _ h => h) (Or.inr ⟨by rfl, rfl⟩) (by assumption) ?_
   try simp only [Act.put, List.setIfInBounds_toArray, List.set_cons_zero, List.set_cons_succ]
   refine takeH (i := 7) (d := some 19) (v := undef) rfl rfl (by kernel_rfl) (by kernel_rfl) (by kernel_rfl) (fun _ _ _ h => h) (Or.inr ⟨by rfl, rfl⟩) (by assumption) ?_
   try simp only [Act.put, List.setIfInBounds_toArray, List.set_cons_zero, List.set_cons_succ]
   refine takeH (i := 8) (d := some 20) (v := undef) rfl rfl (by kernel_rfl) (by kernel_rfl) (by kernel_rfl) (fun _ _ _ h => h) (Or.inr ⟨by rfl, rfl⟩) (by assumption) ?_
   try simp only [Act.put, List.setIfInBounds_toArray, List.set_cons_zero, List.set_cons_succ]
   refine takeH (i := 9) (d := some 21) (v := undef) rfl rfl (by kernel_rfl) (by kernel_rfl) (by kernel_rfl) (fun _ _ _ h => h) (Or.inr ⟨by rfl, rfl⟩) (by assumption) ?_
   try simp only [Act.put, List.setIfInBounds_toArray, List.set_cons_zero, List.set_cons_succ]
   refine takeH (i := 10) (d := some 22) (v := undef) rfl rfl (by kernel_rfl) (by kernel_rfl) (by kernel_rfl) (fun _ _ _ h => h) (Or.inr ⟨by rfl, rfl⟩) (by assumption) ?_
   try simp only [Act.put, List.setIfInBounds_toArray, List.set_cons_zero, List.set_cons_succ]
   refine takeH (i := 11) (d := some 23) (v := undef) rfl rfl (by kernel_rfl) (by kernel_rfl) (by kernel_rfl) (fun _ _ _ h => h) (Or.inr ⟨by rfl, rfl⟩) (by assumption) ?_
   try simp only [Act.put, List.setIfInBounds_toArray, List.set_cons_zero, List.set_cons_succ]
   refine takeH (i := 12) (d := some 24) (v := undef) rfl rfl (by kernel_rfl) (by kernel_rfl) (by kernel_rfl) (fun _ _ _ h => h) (Or.inr ⟨by rfl, rfl⟩) (by assumption) ?_
   try simp only [Act.put, List.setIfInBounds_toArray, List.set_cons_zero, List.set_cons_succ]
   refine takeH (i := 13) (d := some 25) (v := undef) rfl rfl (by kernel_rfl) (by kernel_rfl) (by kernel_rfl) (fun _ _ _ h => h) (Or.inr ⟨by rfl, rfl⟩) (by assumption) ?_
   try simp only [Act.put, List.setIfInBounds_toArray, List.set_cons_zero, List.set_cons_succ]
   refine takeH (i := 14) (d := some 26) (v := undef) rfl rfl (by kernel_rfl) (by kernel_rfl) (by kernel_rfl) (fun _ _ _ h => h) (Or.inr ⟨by rfl, rfl⟩) (by assumption) ?_
   try simp only [Act.put, List.setIfInBounds_toArray, List.set_cons_zero, List.set_cons_succ]
   refine takeH (i := 15) (d := some 27) (v := ?_) rfl rfl (by kernel_rfl) (by kernel_rfl) (by kernel_rfl) (fun _ _ _ h => h) (Or.inl ⟨by rfl, ?_⟩) (by assumption) ?_
   rotate_left
   ·intro w hSw
    try dsimp only at hSw
    go_simp
    try with_reducible rfl
   try simp only [Act.put, List.setIfInBounds_toArray, List.set_cons_zero, List.set_cons_succ]
   refine wpAnyH_done (by kernel_rfl) ?_ _
   have hrw := HR.out.made hHeld
   have HT3 := Lib.hid (Turns.then HTJ.out hHeld (fun _ _ h => h.elim))
   have HB3 := Lib.hid (Blk.turns HBJ.out hHeld (fun h => h))
   have b0 := HB3.out.cell 0
   have b1 := HB3.out.cell 1
   have b2 := HB3.out.cell 2
   simp only [encT, List.getElem?_toArray, List.getElem?_cons_zero, List.getElem?_cons_succ] at b0 b1 b2
   have HR3 := Lib.hid hrw
   clear hrw hHeld
   try clear hHeld
   go_wp2_with fail
   refine (put_c p mb _ sq yy f' 0 x wr.drew HR3.out hjl).mono ?_
   rintro e w2 ⟨⟨v, rfl⟩, hraw2, ht2⟩
   have HR4 := Lib.hid hraw2
   have HT4 := Lib.hid ht2
   clear hraw2 ht2 b0 b1 b2
   go_wp2_with fail
   go_end0
   have hst := HUP.out
   rw [upL_zero] at hst
   refine ⟨⟨_, rfl⟩, ⟨_, by rw [← hst]; exact HR4.out, by rw [← hst]; exact HPJ.out⟩, ?_⟩
   refine (HT3.out.mono (fun b _ h => ?_)).then HT4.out (fun b _ h => h)
   rcases h with h | h
   ·exact .inl (by rw [h]; rfl)
   ·exact .inr h
  ·obtain ⟨y, hy⟩ := get_of_lt (xs := yy) (k := par j) (by have := par_lt (i := j) (by omega); omega)
   have hjp : 0 < j := by omega
   have hpl2 := par_lt hjp
   have hq := par_int j hjp
   have hq0 : (0 : Int) < (j : Int) := by omega
   have hw1 : IntKind.i64.wrap ((j : Int) - 1) = (j : Int) - 1 := wrap_in _ (by omega)
   have hw2 : IntKind.i64.wrap (par j : Int) = (par j : Int) := wrap_in _ (by omega)
   have HY := Lib.hid hy
   have hyz : (yy.set j x)[par j]? = some y := by rw [List.getElem?_set_ne (by omega)]; exact hy
   have HYZ := Lib.hid hyz
   have i3 : (0 : Int) ≤ (par j : Int) := Int.natCast_nonneg _
   have i4 : (par j : Int) < (ys.length : Int) := by omega
   clear hy hyz
   obtain ⟨r, hr⟩ : ∃ r, cmpT x y = r := ⟨_, rfl⟩
   have hrl := cmpT_lt x y
   rw [hr] at hrl
   have HRL := Lib.hid hrl
   have HAH := Lib.hid (fun (w' : World) => (by have := ahead_c x y w'; rw [hr] at this; exact this : Calls Tryz.prog 204 #[aggT x, aggT y] w' fun e w2 => e = .returned (.int .i64 r) ∧ Made w' w2))
   clear hr hrl
   go_wp2_with fail
   refine wp_region_held_drew (S := (fun w' => Made wr w')) (by kernel_rfl) ?_ (fun hHeld => ?_)
   ·exact (Turns.refl _ _).drew
   refine takeH (i := 0) (d := some 12) (v := ?_) rfl rfl (by kernel_rfl) (by kernel_rfl) (by kernel_rfl) (fun _ _ _ h => h) (Or.inl ⟨by rfl, ?_⟩) (by assumption) ?_
   rotate_left
   ·intro w hSw
    try dsimp only at hSw
    go_simp
    try with_reducible rfl
   try simp only [Act.put, List.setIfInBounds_toArray, List.set_cons_zero, List.set_cons_succ]
   refine takeH (i := 1) (d := some 13) (v := ?_) rfl rfl (by kernel_rfl) (by kernel_rfl) (by kernel_rfl) (fun _ _ _ h => h) (Or.inl ⟨by rfl, ?_⟩) (by assumption) ?_
   rotate_left
   ·intro w hSw
    try dsimp only at hSw
    go_simp
    try with_reducible rfl
   try simp only [Act.put, List.setIfInBounds_toArray, List.set_cons_zero, List.set_cons_succ]
   refine takeH (i := 2) (d := some 14) (v := ?_) rfl rfl (by kernel_rfl) (by kernel_rfl) (by kernel_rfl) (fun _ _ _ h => h) (Or.inl ⟨by rfl, ?_⟩) (by assumption) ?_
   rotate_left
   ·intro w hSw
    try dsimp only at hSw
    go_simp
    try with_reducible rfl
   try simp only [Act.put, List.setIfInBounds_toArray, List.set_cons_zero, List.set_cons_succ]
   refine takeH (i := 3) (d := some 15) (v := ?_) rfl rfl (by kernel_rfl) (by kernel_rfl) (by kernel_rfl) (fun _ _ _ h => h) (Or.inl ⟨by rfl, ?_⟩) (by assumption) ?_
   rotate_left
   ·intro w hSw
    try dsimp only at hSw
    have hb2 := Blk.turns HBJ.out hSw (fun h => h)
    have d0 := hb2.cell 0
    have d1 := hb2.cell 1
    have d2 := hb2.cell 2
    simp only [encT, List.getElem?_toArray, List.getElem?_cons_zero, List.getElem?_cons_succ] at d0 d1 d2
    clear hb2
    go_simp
    try with_reducible rfl
   try simp only [Act.put, List.setIfInBounds_toArray, List.set_cons_zero, List.set_cons_succ]
   refine takeH (i := 4) (d := some 16) (v := ?_) rfl rfl (by kernel_rfl) (by kernel_rfl) (by kernel_rfl) (fun _ _ _ h => h) (Or.inl ⟨by rfl, ?_⟩) (by assumption) ?_
   rotate_left
   ·intro w hSw
    try dsimp only at hSw
    go_simp
    try with_reducible rfl
   try simp only [Act.put, List.setIfInBounds_toArray, List.set_cons_zero, List.set_cons_succ]
   refine takeH (i := 5) (d := some 17) (v := ?_) rfl rfl (by kernel_rfl) (by kernel_rfl) (by kernel_rfl) (fun _ _ _ h => h) (Or.inl ⟨by rfl, ?_⟩) (by assumption) ?_
   rotate_left
   ·intro w hSw
    try dsimp only at hSw
    go_simp
    try with_reducible rfl
   try simp only [Act.put, List.setIfInBounds_toArray, List.set_cons_zero, List.set_cons_succ]
   refine takeH (i := 6) (d := some 18) (v := ?_) rfl rfl (by kernel_rfl) (by kernel_rfl) (by kernel_rfl) (fun _ _ _ h => h) (Or.inl ⟨by rfl, ?_⟩) (by assumption) ?_
   rotate_left
   ·intro w hSw
    try dsimp only at hSw
    go_simp
    try with_reducible rfl
   try simp only [Act.put, List.setIfInBounds_toArray, List.set_cons_zero, List.set_cons_succ]
   refine takeH (i := 7) (d := some 19) (v := ?_) rfl rfl (by kernel_rfl) (by kernel_rfl) (by kernel_rfl) (fun _ _ _ h => h) (Or.inl ⟨by rfl, ?_⟩) (by assumption) ?_
   rotate_left
   ·intro w hSw
    try dsimp only at hSw
    have hb2 := HR.out.blk.turns hSw (fun h => h)
    have d0 := hb2.cell 0
    simp only [List.getElem?_toArray, List.getElem?_cons_zero] at d0
    clear hb2
    go_simp
    try with_reducible rfl
   try simp only [Act.put, List.setIfInBounds_toArray, List.set_cons_zero, List.set_cons_succ]
   refine takeH (i := 8) (d := some 20) (v := ?_) rfl rfl (by kernel_rfl) (by kernel_rfl) (by kernel_rfl) (fun _ _ _ h => h) (Or.inl ⟨by rfl, ?_⟩) (by assumption) ?_
   rotate_left
   ·intro w hSw
    try dsimp only at hSw
    go_simp
    try with_reducible rfl
   try simp only [Act.put, List.setIfInBounds_toArray, List.set_cons_zero, List.set_cons_succ]
   refine takeH (i := 9) (d := some 21) (v := ?_) rfl rfl (by kernel_rfl) (by kernel_rfl) (by kernel_rfl) (fun _ _ _ h => h) (Or.inl ⟨by rfl, ?_⟩) (by assumption) ?_
   rotate_left
   ·intro w hSw
    try dsimp only at hSw
    go_simp
    try with_reducible rfl
   try simp only [Act.put, List.setIfInBounds_toArray, List.set_cons_zero, List.set_cons_succ]
   refine takeH (i := 10) (d := some 22) (v := ?_) rfl rfl (by kernel_rfl) (by kernel_rfl) (by kernel_rfl) (fun _ _ _ h => h) (Or.inl ⟨by rfl, ?_⟩) (by assumption) ?_
   rotate_left
   ·intro w hSw
    try dsimp only at hSw
    go_simp
    try with_reducible rfl
   try simp only [Act.put, List.setIfInBounds_toArray, List.set_cons_zero, List.set_cons_succ]
   refine takeH (i := 11) (d := some 23) (v := ?_) rfl rfl (by kernel_rfl) (by kernel_rfl) (by kernel_rfl) (fun _ _ _ h => h) (Or.inl ⟨by rfl, ?_⟩) (by assumption) ?_
   rotate_left
   ·intro w hSw
    try dsimp only at hSw
    go_simp
    try with_reducible rfl
   try simp only [Act.put, List.setIfInBounds_toArray, List.set_cons_zero, List.set_cons_succ]
   refine takeH (i := 12) (d := some 24) (v := ?_) rfl rfl (by kernel_rfl) (by kernel_rfl) (by kernel_rfl) (fun _ _ _ h => h) (Or.inl ⟨by rfl, ?_⟩) (by assumption) ?_
   rotate_left
   ·intro w hSw
    try dsimp only at hSw
    have hb2 := (HR.out.made hSw).own
    rw [← HYL.out] at hb2
    have d0 := Owns.cell encT_len hb2 HY.out (j := 0) rfl
    have d1 := Owns.cell encT_len hb2 HY.out (j := 1) rfl
    have d2 := Owns.cell encT_len hb2 HY.out (j := 2) rfl
    simp only [Nat.add_zero] at d0
    clear hb2
    go_simp
    try with_reducible rfl
   try simp only [Act.put, List.setIfInBounds_toArray, List.set_cons_zero, List.set_cons_succ]
   refine wpAnyH_ready (rs := [13]) (by kernel_rfl) (by simp) ?_
   refine AllReadyH.cons rfl (fun K hK => ?_) AllReadyH.nil
   go_simp
   refine (HAH.out _).mono ?_
   rintro e w' ⟨rfl, hm'⟩
   go_wp2_with fail
   refine hK.out _ _ ?_ (fun hHeld => ?_)
   ·exact Turns.trans hHeld hm'
   clear hK K
   try simp only [Act.put, List.setIfInBounds_toArray, List.set_cons_zero, List.set_cons_succ]
   refine takeH (i := 14) (d := some 26) (v := ?_) rfl rfl (by kernel_rfl) (by kernel_rfl) (by kernel_rfl) (fun _ _ _ h => h) (Or.inl ⟨by rfl, ?_⟩) (by assumption) ?_
   rotate_left
   ·intro w hSw
    try dsimp only at hSw
    go_simp
    try with_reducible rfl
   try simp only [Act.put, List.setIfInBounds_toArray, List.set_cons_zero, List.set_cons_succ]
   refine takeH (i := 15) (d := some 27) (v := ?_) rfl rfl (by kernel_rfl) (by kernel_rfl) (by kernel_rfl) (fun _ _ _ h => h) (Or.inl ⟨by rfl, ?_⟩) (by assumption) ?_
   rotate_left
   ·intro w hSw
    try dsimp only at hSw
    go_simp
    try with_reducible rfl
   try simp only [Act.put, List.setIfInBounds_toArray, List.set_cons_zero, List.set_cons_succ]
   refine wpAnyH_done (by kernel_rfl) ?_ _
   have hrw := HR.out.made hHeld
   have d0 := hrw.blk.cell 0
   simp only [List.getElem?_toArray, List.getElem?_cons_zero] at d0
   have HT3 := Lib.hid (Turns.then HTJ.out hHeld (fun _ _ h => h.elim))
   have HB3 := Lib.hid (Blk.turns HBJ.out hHeld (fun h => h))
   by_cases hr0 : r < 0
   ·have HLT := Lib.hid (HRL.out.mp hr0)
    have hb2 := hrw.own
    rw [← HYL.out] at hb2
    have k0 := Owns.cell encT_len hb2 HY.out (j := 0) rfl
    have k1 := Owns.cell encT_len hb2 HY.out (j := 1) rfl
    have k2 := Owns.cell encT_len hb2 HY.out (j := 2) rfl
    simp only [Nat.add_zero] at k0
    have HR3 := Lib.hid hrw
    clear hb2 hrw hHeld
    try clear hHeld
    go_wp2_with fail
    refine (put_c p mb _ sq yy f' j y w' HR3.out hjl).mono ?_
    rintro e w2 ⟨⟨v, rfl⟩, hraw2, ht2⟩
    have HR4 := Lib.hid hraw2
    have HT4 := Lib.hid ht2
    clear hraw2 ht2 d0 k0 k1 k2
    go_wp2_with fail
    go_roundw
    case rel =>
     have hsw : (yy.set j y).set (par j) x = swp (yy.set j x) j (par j) x y := by unfold swp; rw [List.set_set]
     refine ⟨par j, yy.set j y, _, by first | rfl | go_num, HR4.out, by rw [List.length_set]; exact HYL.out, ?_, ?_, ?_, ?_, HB3.out.turns HT4.out ?_, ?_⟩
     ·rw [hsw, swp_get HJX.out HYZ.out (by omega), if_pos rfl]
     ·rw [hsw]; exact HUJ.out.swp HJX.out HYZ.out (by omega)
     ·rw [hsw]; exact HPJ.out.swp HUJ.out HJX.out HYZ.out (by omega)
     ·rw [hsw, ← upL_go hjp HJX.out HYZ.out HLT.out]; exact HUP.out
     ·rintro (h | h)
      ·simp only [Value.ownBlock, Option.some.injEq] at h; omega
      ·omega
     ·refine HT3.out.then HT4.out (fun b _ h => ?_)
      rcases h with h | h
      ·simp only [Value.ownBlock, Option.some.injEq] at h; exact .inl h.symm
      ·exact .inr h
    case measure => simp [intOf]; omega
   ·have HLT := Lib.hid (fun h => hr0 (HRL.out.mpr h))
    have b0 := HB3.out.cell 0
    have b1 := HB3.out.cell 1
    have b2 := HB3.out.cell 2
    simp only [encT, List.getElem?_toArray, List.getElem?_cons_zero, List.getElem?_cons_succ] at b0 b1 b2
    have HR3 := Lib.hid hrw
    clear hrw hHeld d0
    try clear hHeld
    go_wp2_with fail
    refine (put_c p mb _ sq yy f' j x w' HR3.out hjl).mono ?_
    rintro e w2 ⟨⟨v, rfl⟩, hraw2, ht2⟩
    have HR4 := Lib.hid hraw2
    have HT4 := Lib.hid ht2
    clear hraw2 ht2 b0 b1 b2
    go_wp2_with fail
    go_end0
    have hst := upL_stop hjp HJX.out HYZ.out HLT.out
    rw [HUP.out] at hst
    refine ⟨⟨_, rfl⟩, ⟨_, by rw [hst]; exact HR4.out, by rw [hst]; exact HPJ.out⟩, ?_⟩
    refine (HT3.out.mono (fun b _ h => ?_)).then HT4.out (fun b _ h => h)
    rcases h with h | h
    ·exact .inl (by rw [h]; rfl)
    ·exact .inr h
end Go.Proofs.YtjnkphhlkoapbaaGreat
namespace Go.Proofs.YtjnkphhlkoapbaaGreat
open Go.RowKit
set_option linter.unusedVariables false
set_option linter.unusedSimpArgs false
theorem heap_added {w W w1 : World} {p mb : Nat} {lv : Value} {sq : Int} {ys : List It} {f : Int → Option Value} {x : It} {o : Obj} {gg cap : Nat} (HR : HRaw W p mb lv sq ys f) (HT : Turns (fun k => k = p) w W)
  (hgrow : (W.alloc o).drew.grownBy w1 lv.ownBlock) (hown : w1.ownsRow 0 186 3 (.slice (some ⟨gg, 0, none⟩) (ys.length + 1) cap) (ys.length + 1) (flat encT ys ++ encT x))
  (hat : lv.ownBlock = some gg ∨ gg = W.heap.size + 1) :
  HRaw (w1.setCell ⟨p, 0, none⟩ (.slice (some ⟨gg, 0, none⟩) (ys.length + 1) cap)) p mb (.slice (some ⟨gg, 0, none⟩) (ys.length + 1) cap) sq (ys ++ [x]) f ∧ Turns (fun k => k = p ∨ lv.ownBlock = some k) w (w1.setCell ⟨p, 0, none⟩ (.slice (some ⟨gg, 0, none⟩) (ys.length + 1) cap)) := by
 have hpl := HR.blk.lt
 have hml := HR.map.lt
 have hg : ¬ gg = p := by
  rcases hat with h | h
  ·intro e; subst e; exact HR.np h
  ·omega
 have hgm : ¬ gg = mb := by
  rcases hat with h | h
  ·intro e; subst e; exact HR.nm h
  ·omega
 have tt : Turns (fun k => lv.ownBlock = some k) W w1 := (((Turns.refl _ W).alloc o).drew).grown hgrow (fun k hk _ => hk)
 have hp1 : Blk w1 p 179 #[lv, .map (some mb), .int .i64 sq] := HR.blk.turns tt HR.np
 have hm1 : MapI w1 mb f := HR.map.turns tt HR.nm
 have ht1 : Turns (fun k => k = p) w1 (w1.setCell ⟨p, 0, none⟩ (.slice (some ⟨gg, 0, none⟩) (ys.length + 1) cap)) := (Turns.refl (fun k => k = p) w1).setCell (p := ⟨p, 0, none⟩) (fun _ => rfl) _
 refine ⟨⟨hp1.put 0 _, ?_, hm1.turns ht1 (fun h => HR.pm h.symm), ?_, ?_, HR.pm⟩, ?_⟩
 ·have := Turns.owns ht1 hown (fun k hk => by
   simp only [Value.ownBlock, Option.some.injEq] at hk
   omega)
  unfold Owns
  rw [flat_append, List.length_append]
  simpa [flat] using this
 ·simp only [Value.ownBlock, ne_eq, Option.some.injEq]
  exact hg
 ·simp only [Value.ownBlock, ne_eq, Option.some.injEq]
  exact hgm
 ·exact ((HT.mono (fun _ _ h => .inl h)).then tt (fun b _ h => .inr h)).setCell (p := ⟨p, 0, none⟩) (fun _ => .inl rfl) _
set_option maxHeartbeats 1000000 in
set_option maxRecDepth 100000 in
theorem hadd_raw {p mb : Nat} {lv : Value} {sq : Int} {ys : List It} {f : Int → Option Value} (id when : Int) (w : World) (h : HRaw w p mb lv sq ys f) (hp : PosOK f ys) (hu : Uniq ys) (hnn : ∀ z ∈ ys, z.id ≠ id) (hn : (ys.length : Int) ≤ sq) (hsq : sq < 1000000) :
  Calls Tryz.prog 153 #[.pointer (some ⟨p, 0, none⟩), .int .i64 id, .int .i64 when] w fun e w' => e = .returned (.int .i64 0) ∧ ∃ lv' f', HRaw w' p mb lv' (sq + 1) (upL (ys ++ [⟨id, when, sq + 1⟩]) ys.length) f' ∧ PosOK f' (upL (ys ++ [⟨id, when, sq + 1⟩]) ys.length) ∧
   Turns (fun k => k = p ∨ k = mb ∨ lv.ownBlock = some k) w w' ∧ (∀ k, lv'.ownBlock = some k → lv.ownBlock = some k ∨ w.heap.size ≤ k) := by
 have c1 := h.blk.cell 1
 have c2 := h.blk.cell 2
 simp only [List.getElem?_toArray, List.getElem?_cons_zero, List.getElem?_cons_succ] at c1 c2
 have f2 := h.blk.free 2
 have H := Lib.hid (h.map.look Tryz.underlying98 Tryz.underlying3 (zero_int _) id true)
 rw [hp.none hnn] at H
 simp only [Option.getD_none, Option.isSome_none] at H
 have hwr : IntKind.i64.wrap (sq + 1) = sq + 1 := wrap_in _ (by omega)
 have hpl := h.blk.lt
 have hml := h.map.lt
 have hlo := fun k (hk : lv.ownBlock = some k) => h.own.lt hk
 have ht0 : Turns (fun k => k = p) w (w.setCell ⟨p, 2, none⟩ (.int .i64 (sq + 1))) := (Turns.refl (fun k => k = p) w).setCell (p := ⟨p, 2, none⟩) (fun _ => rfl) _
 have hr0 : HRaw (w.setCell ⟨p, 2, none⟩ (.int .i64 (sq + 1))) p mb lv (sq + 1) ys f := ⟨h.blk.put 2 _, h.own.turns ht0 (fun k hk e => h.np (by rw [hk, e])), h.map.turns ht0 (fun e => h.pm e.symm), h.np, h.nm, h.pm⟩
 have HR := Lib.hid hr0
 have HT := Lib.hid ht0
 have HLO := Lib.hid hlo
 have HP := Lib.hid hp
 have HU := Lib.hid hu
 have HNN := Lib.hid hnn
 clear h ht0 hr0 hlo hp hu hnn
 obtain ⟨i0, hi0, hz0, hz1, hz2⟩ := info_parts Tryz.infoT
 go_enter Tryz.func153, Tryz.ntmps153
 go_wp2_with (at_lookup; refine wpList_lookrun _ rfl _ _ 98 true rfl _ _ _ rfl rfl H.out ?_)
 clear c1 c2 f2 H
 generalize (w.setCell ⟨p, 2, none⟩ (.int .i64 (sq + 1))) = W at *
 have c0 := HR.out.blk.cell 0
 have c2 := HR.out.blk.cell 2
 simp only [List.getElem?_toArray, List.getElem?_cons_zero, List.getElem?_cons_succ] at c0 c2
 have f0 := HR.out.blk.free 0
 have hWp := HR.out.blk.lt
 go_region_law
  ((refine step_append_lies _ (by rfl) _ _ _ (by rfl) 0 186 i0 _ 3 24 Tryz.underlying177 hi0 hz0 hz1 hz2 rfl (by omega) lv ys.length (flat encT ys) (by rfl) (World.ownsRow.drew (World.ownsRow.alloc HR.out.own _))
      ⟨W.heap.size, 0, none⟩ 1 1 (encT ⟨id, when, sq + 1⟩) (by rfl) (by rfl) (World.news_of_block (cs := (encT ⟨id, when, sq + 1⟩).toArray) (t := 186) (fr := (0, 0)) (heap_alloc_new W _)) (by simp [encT, Value.oneCell'])
      (by omega) (by unfold maxLen; omega) (by omega) (by simp) (W.heap.size + 1) (by simp) ?_; intro gg cap w1 hown1 hgrow hat hlt; have hfz1 : w1.frozen? ⟨p, 0, none⟩ = false := (hgrow.frozen_far ⟨p, 0, none⟩ (by simp; omega) (fun e => HR.out.np e.symm)).trans ((HR.out.blk.alloc _).free 0); have hcz1 : w1.cell? ⟨p, 0, none⟩ = some lv := (hgrow.cell_far ⟨p, 0, none⟩ (by simp; omega) (fun e => HR.out.np e.symm)).trans ((HR.out.blk.alloc _).cell 0)))
 all_goals
  have hra := heap_added (x := ⟨id, when, sq + 1⟩) HR.out HT.out hgrow hown1 hat
  clear hgrow hown1 hfz1 hcz1 c0 c2 f0
  generalize w1.setCell _ _ = W1 at *
  have HRA := Lib.hid hra.1
  have HTA := Lib.hid hra.2
  have HAT := Lib.hid hat
  clear hra hat
  have c0 := HRA.out.blk.cell 0
  simp only [List.getElem?_toArray, List.getElem?_cons_zero, List.getElem?_cons_succ] at c0
  have hw2 : IntKind.i64.wrap (((ys.length + 1 : Nat) : Int) - 1) = (ys.length : Int) := by rw [show (((ys.length + 1 : Nat) : Int) - 1) = (ys.length : Int) from by omega]; exact wrap_in _ (by omega)
  have hw3 : IntKind.i64.wrap ((ys.length : Int) + 1 - 1) = (ys.length : Int) := by rw [show ((ys.length : Int) + 1 - 1) = (ys.length : Int) from by omega]; exact wrap_in _ (by omega)
  have hw4 : (ys.length : Int) + 1 - 1 = (ys.length : Int) := by omega
  go_wp2_with fail
  refine (up_c p mb _ _ _ f ys.length ⟨id, when, sq + 1⟩ _ HRA.out (by simp) (HU.out.add HNN.out) (HP.out.add HNN.out) (by rw [List.length_append, List.length_singleton]; omega)).mono ?_
  rintro e w2 ⟨⟨v, rfl⟩, ⟨f', hraw2, hpos2⟩, ht2⟩
  have HR2 := Lib.hid hraw2
  have HP2 := Lib.hid hpos2
  have HT2 := Lib.hid ht2
  clear hraw2 hpos2 ht2 c0
  go_wp2_with fail
  go_ret
  refine ⟨rfl, _, f', HR2.out, HP2.out, ?_, ?_⟩
  ·refine (HTA.out.mono (fun b _ h => ?_)).then HT2.out (fun b hb h => ?_)
   ·rcases h with h | h
    ·exact .inl h
    ·exact .inr (.inr h)
   ·rcases h with h | h
    ·simp only [Value.ownBlock, Option.some.injEq] at h
     rcases HAT.out with h2 | h2
     ·exact .inr (.inr (by rw [h2, h]))
     ·have := HT.out.size; omega
    ·exact .inr (.inl h)
  ·intro k hk
   simp only [Value.ownBlock, Option.some.injEq] at hk
   subst hk
   rcases HAT.out with h2 | h2
   ·exact .inl h2
   ·exact .inr (by have := HT.out.size; omega)
theorem hadd_c {p : Nat} {F : Nat → Prop} {L : List It} {sq : Int} (id when : Int) (w : World) (h : HeapAt w p F L sq) (hx : findL id L = none) (hsq : sq < 1000000) :
  Calls Tryz.prog 153 #[.pointer (some ⟨p, 0, none⟩), .int .i64 id, .int .i64 when] w fun e w' => e = .returned (.int .i64 0) ∧ ∃ F', HeapAt w' p F' (insL ⟨id, when, sq + 1⟩ L) (sq + 1) ∧ Stp w w' F F' := by
 obtain ⟨mb, lv, ys, f, h⟩ := h
 have hnL := (findL_none id).1 hx
 have hn : ∀ z ∈ ys, z.id ≠ id := fun z hz => hnL z (h.perm.mem_iff.1 hz)
 have hlen := h.perm.length_eq
 have hl := h.len
 refine (hadd_raw id when w h.raw h.pos h.uniq hn (by omega) hsq).mono ?_
 rintro e w' ⟨rfl, lv', f', hr, hp, ht, hlv⟩
 have hperm : (upL (ys ++ [⟨id, when, sq + 1⟩]) ys.length).Perm (⟨id, when, sq + 1⟩ :: L) := (upL_perm _ _).trans ((List.perm_append_comm).trans (by simpa using h.perm))
 refine ⟨rfl, fun k => F k ∨ lv'.ownBlock = some k, ⟨mb, lv', _, f', { raw := hr, pos := hp, uniq := (h.uniq.add hn).perm (upL_perm _ _), ord := upL_heap _ _ (by simp) (h.ord.add _), perm := hperm.trans (insL_perm _ _).symm, rise := insL_rise h.rise (fun y hy => ?_), seqs := ?_, len := by rw [insL_len]; omega, fp := .inl h.fp, fm := .inl h.fm, fl := fun k hk => .inr hk, fb := ?_ }⟩, ⟨?_, ?_⟩⟩
 ·have := (h.seqs y hy).2
  unfold lt
  simp only
  omega
 ·intro x hx
  rcases (insL_mem _ _ _).1 hx with rfl | hx
  ·exact ⟨by simp only; omega, by simp⟩
  ·have := h.seqs x hx
   exact ⟨this.1, by omega⟩
 ·intro k hk
  rcases hk with hk | hk
  ·exact Nat.lt_of_lt_of_le (h.fb k hk) ht.size
  ·exact hr.own.lt hk
 ·refine ht.mono (fun k _ hk => ?_)
  rcases hk with rfl | rfl | hk
  ·exact h.fp
  ·exact h.fm
  ·exact h.fl k hk
 ·intro k hk
  rcases hk with hk | hk
  ·exact .inl hk
  ·rcases hlv k hk with h2 | h2
   ·exact .inl (h.fl k h2)
   ·exact .inr h2
end Go.Proofs.YtjnkphhlkoapbaaGreat
namespace Go.Proofs.YtjnkphhlkoapbaaGreat
open Go.RowKit
set_option linter.unusedVariables false
set_option linter.unusedSimpArgs false
theorem hmn2 (k k' : IntKind) (x y : Int) : Builtin.min2 (.int k x) (.int k' y) = pure (.int k (if y < x then y else x)) := by simp only [Builtin.min2]
theorem hmn_two (ats : Array TypeId) (ty : TypeId) (a b : Value) : Builtin.min_ ats ty #[a, b] = (Builtin.min2 a b >>= fun s => pure s) := by simp only [Builtin.min_, List.foldlM_cons, List.foldlM_nil]
attribute [local go_sem] hmn2 hmn_two
set_option maxHeartbeats 4000000 in
set_option maxRecDepth 100000 in
theorem down_c (p mb : Nat) (lv : Value) (sq : Int) (ys : List It) (f : Int → Option Value) (i : Nat) (x : It) (w : World) (h : HRaw w p mb lv sq ys f) (hx : ys[i]? = some x) (hu : Uniq ys) (hp : PosOK (upd f x.id (.int .i64 i)) ys) (hn : ys.length ≤ 1000000) :
  Calls Tryz.prog 188 #[.pointer (some ⟨p, 0, none⟩), .int .i64 i] w fun e w' => (∃ v, e = .returned v) ∧ (∃ f', HRaw w' p mb lv sq (downL ys i) f' ∧ PosOK f' (downL ys i)) ∧ Turns (fun k => lv.ownBlock = some k ∨ k = mb) w w' := by
 have hi := (List.getElem?_eq_some_iff.1 hx).1
 rcases h.own.form with ⟨_, h0⟩ | ⟨g, cap, rfl, hg, hlc, hcm⟩
 ·subst h0; simp at hi
 have c0 := h.blk.cell 0
 simp only [List.getElem?_toArray, List.getElem?_cons_zero] at c0
 have e0 : w.cell? ⟨g, i * 3, none⟩ = some (.int .i64 x.id) := Owns.cell encT_len h.own hx (j := 0) rfl
 have e1 : w.cell? ⟨g, i * 3 + 1, none⟩ = some (.int .i64 x.when) := Owns.cell encT_len h.own hx (j := 1) rfl
 have e2 : w.cell? ⟨g, i * 3 + 2, none⟩ = some (.int .i64 x.seq) := Owns.cell encT_len h.own hx (j := 2) rfl
 have i1 : (0 : Int) ≤ (i : Int) := Int.natCast_nonneg _
 have i2 : (i : Int) < (ys.length : Int) := by omega
 have HH := Lib.hid h
 have HX := Lib.hid hx
 have HU := Lib.hid hu
 have HP := Lib.hid hp
 have hpl := h.blk.lt
 have hml := h.map.lt
 clear h hx hu hp
 go_enter Tryz.func188, Tryz.ntmps188
 go_wp2_with fail
 have hB : Blk (w.alloc (.cells (encT x).toArray 186)) w.heap.size 186 (encT x).toArray := Blk.new w _ _
 have hM : Made w (w.alloc (.cells (encT x).toArray 186)) := (Turns.refl _ _).alloc _
 unfold encT at hB hM
 generalize (w.alloc (.cells [.int .i64 x.id, .int .i64 x.when, .int .i64 x.seq].toArray 186)) = W at *
 generalize hbe : w.heap.size = bx at *
 have HB := Lib.hid hB
 have HM := Lib.hid hM
 have HBE := Lib.hid hbe
 clear hB hM hbe c0 e0 e1 e2 i1 i2
 go_loopw [1] (fun v1 wr => ∃ (j : Nat) (yy : List It) (f' : Int → Option Value), v1 = .int .i64 j ∧ HRaw wr p mb (.slice (some ⟨g, 0, none⟩) ys.length cap) sq yy f' ∧ yy.length = ys.length ∧ (yy.set j x)[j]? = some x ∧ Uniq (yy.set j x) ∧ PosOK (upd f' x.id (.int .i64 j)) (yy.set j x) ∧ downL (yy.set j x) j = downL ys i ∧ Blk wr bx 186 (encT x).toArray ∧ Turns (fun k => k = g ∨ k = mb) w wr) (fun v1 _ => ys.length - (intOf v1).toNat)
 case atStart =>
  have hs : ys.set i x = ys := by
   obtain ⟨_, hh⟩ := List.getElem?_eq_some_iff.1 HX.out
   rw [← hh]; exact List.set_getElem_self hi
  refine ⟨i, ys, f, rfl, HH.out.made HM.out, rfl, ?_, ?_, ?_, ?_, HB.out, HM.out.mono (fun _ _ h => h.elim)⟩
  ·rw [hs]; exact HX.out
  ·rw [hs]; exact HU.out
  ·rw [hs]; exact HP.out
  ·rw [hs]
 case round =>
  obtain ⟨j, yy, f', rfl, hr, hyl, hjx, huj, hpj, hup, hbj, htj⟩ := hrel
  have hjl : j < yy.length := by have := (List.getElem?_eq_some_iff.1 hjx).1; rwa [List.length_set] at this
  have c0 := hr.blk.cell 0
  simp only [List.getElem?_toArray, List.getElem?_cons_zero] at c0
  have hsl : (yy.set j x).length = yy.length := List.length_set
  have HR := Lib.hid hr
  have HYL := Lib.hid hyl
  have HJX := Lib.hid hjx
  have HUJ := Lib.hid huj
  have HPJ := Lib.hid hpj
  have HUP := Lib.hid hup
  have HBJ := Lib.hid hbj
  have HTJ := Lib.hid htj
  have HSL := Lib.hid hsl
  clear hr hyl hjx huj hpj hup hbj htj HH HX HU HP HB HM hsl
  have i1 : (0 : Int) ≤ (j : Int) := Int.natCast_nonneg _
  have hjy : j < ys.length := by have := HYL.out; omega
  have i2 : (j : Int) < (ys.length : Int) := by omega
  have i3 : (j : Int) ≤ 1000000 := by omega
  by_cases hend : ¬ 4 * j + 1 < ys.length
  ·have hq : (ys.length : Int) ≤ 4 * (j : Int) + 1 := by omega
   have b0 := HBJ.out.cell 0
   have b1 := HBJ.out.cell 1
   have b2 := HBJ.out.cell 2
   simp only [encT, List.getElem?_toArray, List.getElem?_cons_zero, List.getElem?_cons_succ] at b0 b1 b2
   go_wp2_with fail
   refine (put_c p mb _ sq yy f' j x wr HR.out hjl).mono ?_
   rintro e w2 ⟨⟨v, rfl⟩, hraw2, ht2⟩
   have HR4 := Lib.hid hraw2
   have HT4 := Lib.hid ht2
   clear hraw2 ht2 b0 b1 b2 c0
   go_wp2_with fail
   go_end0
   have hst := downL_end (zs := yy.set j x) (i := j) (by rw [HSL.out, HYL.out]; exact hend)
   rw [HUP.out] at hst
   refine ⟨⟨_, rfl⟩, ⟨_, by rw [hst]; exact HR4.out, by rw [hst]; exact HPJ.out⟩, ?_⟩
   refine (HTJ.out.mono (fun b _ h => ?_)).then HT4.out (fun b _ h => h)
   rcases h with h | h
   ·exact .inl (by rw [h]; rfl)
   ·exact .inr h
  ·have hend' : 4 * j + 1 < ys.length := by omega
   have hq : 4 * (j : Int) + 1 < (ys.length : Int) := by omega
   clear hend
   have hkd : kids ys.length j = min (4 * j + 5) ys.length - (4 * j + 2) := rfl
   obtain ⟨kd, hkd0⟩ : ∃ kd, kids ys.length j = kd := ⟨_, rfl⟩
   rw [hkd0] at hkd
   have HKD := Lib.hid hkd0
   have HKE := Lib.hid hkd
   have hkd1 : kd ≤ 3 := by omega
   have hkd2 : 4 * j + 1 + kd < ys.length := by omega
   clear hkd hkd0
   go_wp2_with fail
   generalize hww : wr = w1 at *
   clear hww
   go_loopw [6, 7] (fun v6 v7 wx => ∃ m : Nat, m ≤ kd ∧ v7 = .int .i64 ((4 * j + 2 + m : Nat) : Int) ∧ v6 = .int .i64 ((leastC yy (4 * j + 1) m : Nat) : Int) ∧ Made w1 wx) (fun _ v7 _ => 4 * j + 2 + kd - (intOf v7).toNat)
   case atStart => exact ⟨0, Nat.zero_le _, by go_num, by simp [leastC], Turns.refl _ _⟩
   case round =>
    obtain ⟨m, hm, rfl, rfl, hmw⟩ := hrel
    have hin := leastC_in yy (4 * j + 1) m
    have HRw := Lib.hid (HR.out.made hmw)
    have HMW := Lib.hid hmw
    have c1 := HRw.out.blk.cell 0
    simp only [List.getElem?_toArray, List.getElem?_cons_zero] at c1
    clear hmw c0
    obtain ⟨K, hK⟩ : ∃ K, 4 * j + 2 + m = K := ⟨_, rfl⟩
    rw [hK]
    by_cases hmk : m < kd
    ·have hKn : K < ys.length := by omega
     have hK5 : K < 4 * j + 5 := by have := HKE.out; omega
     obtain ⟨u, hu⟩ := get_of_lt (xs := yy) (k := K) (by have := HYL.out; omega)
     obtain ⟨v, hv⟩ := get_of_lt (xs := yy) (k := leastC yy (4 * j + 1) m) (by have := HYL.out; omega)
     have hls := leastC_succ (zs := yy) (first := 4 * j + 1) (m := m) (u := u) (v := v) (by rw [show 4 * j + 1 + 1 + m = K from by omega]; exact hu) hv
     rw [show 4 * j + 1 + 1 + m = K from by omega] at hls
     generalize hL : leastC yy (4 * j + 1) m = L at *
     generalize hL' : leastC yy (4 * j + 1) (m + 1) = L' at *
     have HL' := Lib.hid hL'
     have HLS := Lib.hid hls
     have HKK := Lib.hid hK
     have HUU := Lib.hid hu
     have HVV := Lib.hid hv
     have hL5 : L < ys.length := by omega
     clear hL hL' hls hK hu hv
     have k1 : (0 : Int) ≤ (K : Int) := Int.natCast_nonneg _
     have k2 : (K : Int) < (ys.length : Int) := by omega
     have k3 : (K : Int) < 4 * (j : Int) + 1 + 4 := by omega
     have k4 : (0 : Int) ≤ (L : Int) := Int.natCast_nonneg _
     have k5 : (L : Int) < (ys.length : Int) := by omega
     obtain ⟨r, hr⟩ : ∃ r, cmpT u v = r := ⟨_, rfl⟩
     have hrl := cmpT_lt u v
     rw [hr] at hrl
     have HRL := Lib.hid hrl
     have HAH := Lib.hid (fun (w' : World) => (by have := ahead_c u v w'; rw [hr] at this; exact this : Calls Tryz.prog 204 #[aggT u, aggT v] w' fun e w2 => e = .returned (.int .i64 r) ∧ Made w' w2))
     clear hr hrl
     by_cases hsm : (ys.length : Int) < 4 * (j : Int) + 1 + 4
     all_goals
      go_wp2_with fail
      refine wp_region_held_drew (S := (fun w' => Made wr w')) (by kernel_rfl) ?_ (fun hHeld => ?_)
      ·exact (Turns.refl _ _).drew
      refine takeH (i := 0) (d := some 40) (v := ?_) rfl rfl (by kernel_rfl) (by kernel_rfl) (by kernel_rfl) (fun _ _ _ h => h) (Or.inl ⟨by rfl, ?_⟩) (by assumption) ?_
      rotate_left
      ·intro w hSw
       try dsimp only at hSw
       go_simp
       try with_reducible rfl
      try simp only [Act.put, List.setIfInBounds_toArray, List.set_cons_zero, List.set_cons_succ]
      refine takeH (i := 1) (d := some 41) (v := ?_) rfl rfl (by kernel_rfl) (by kernel_rfl) (by kernel_rfl) (fun _ _ _ h => h) (Or.inl ⟨by rfl, ?_⟩) (by assumption) ?_
      rotate_left
      ·intro w hSw
       try dsimp only at hSw
       go_simp
       try with_reducible rfl
      try simp only [Act.put, List.setIfInBounds_toArray, List.set_cons_zero, List.set_cons_succ]
      refine takeH (i := 2) (d := some 42) (v := ?_) rfl rfl (by kernel_rfl) (by kernel_rfl) (by kernel_rfl) (fun _ _ _ h => h) (Or.inl ⟨by rfl, ?_⟩) (by assumption) ?_
      rotate_left
      ·intro w hSw
       try dsimp only at hSw
       go_simp
       try with_reducible rfl
      try simp only [Act.put, List.setIfInBounds_toArray, List.set_cons_zero, List.set_cons_succ]
      refine takeH (i := 3) (d := some 43) (v := ?_) rfl rfl (by kernel_rfl) (by kernel_rfl) (by kernel_rfl) (fun _ _ _ h => h) (Or.inl ⟨by rfl, ?_⟩) (by assumption) ?_
      rotate_left
      ·intro w hSw
       try dsimp only at hSw
       have hb2 := HRw.out.blk.turns hSw (fun h => h)
       have d0 := hb2.cell 0
       simp only [List.getElem?_toArray, List.getElem?_cons_zero] at d0
       clear hb2
       go_simp
       try with_reducible rfl
      try simp only [Act.put, List.setIfInBounds_toArray, List.set_cons_zero, List.set_cons_succ]
      refine takeH (i := 4) (d := some 44) (v := ?_) rfl rfl (by kernel_rfl) (by kernel_rfl) (by kernel_rfl) (fun _ _ _ h => h) (Or.inl ⟨by rfl, ?_⟩) (by assumption) ?_
      rotate_left
      ·intro w hSw
       try dsimp only at hSw
       go_simp
       try with_reducible rfl
      try simp only [Act.put, List.setIfInBounds_toArray, List.set_cons_zero, List.set_cons_succ]
      refine takeH (i := 5) (d := some 45) (v := ?_) rfl rfl (by kernel_rfl) (by kernel_rfl) (by kernel_rfl) (fun _ _ _ h => h) (Or.inl ⟨by rfl, ?_⟩) (by assumption) ?_
      rotate_left
      ·intro w hSw
       try dsimp only at hSw
       go_simp
       try with_reducible rfl
      try simp only [Act.put, List.setIfInBounds_toArray, List.set_cons_zero, List.set_cons_succ]
      refine takeH (i := 6) (d := some 46) (v := ?_) rfl rfl (by kernel_rfl) (by kernel_rfl) (by kernel_rfl) (fun _ _ _ h => h) (Or.inl ⟨by rfl, ?_⟩) (by assumption) ?_
      rotate_left
      ·intro w hSw
       try dsimp only at hSw
       have hb2 := (HRw.out.made hSw).own
       rw [← HYL.out] at hb2
       have d0 := Owns.cell encT_len hb2 HUU.out (j := 0) rfl
       have d1 := Owns.cell encT_len hb2 HUU.out (j := 1) rfl
       have d2 := Owns.cell encT_len hb2 HUU.out (j := 2) rfl
       simp only [Nat.add_zero] at d0
       clear hb2
       go_simp
       try with_reducible rfl
      try simp only [Act.put, List.setIfInBounds_toArray, List.set_cons_zero, List.set_cons_succ]
      refine takeH (i := 7) (d := some 47) (v := ?_) rfl rfl (by kernel_rfl) (by kernel_rfl) (by kernel_rfl) (fun _ _ _ h => h) (Or.inl ⟨by rfl, ?_⟩) (by assumption) ?_
      rotate_left
      ·intro w hSw
       try dsimp only at hSw
       go_simp
       try with_reducible rfl
      try simp only [Act.put, List.setIfInBounds_toArray, List.set_cons_zero, List.set_cons_succ]
      refine takeH (i := 8) (d := some 48) (v := ?_) rfl rfl (by kernel_rfl) (by kernel_rfl) (by kernel_rfl) (fun _ _ _ h => h) (Or.inl ⟨by rfl, ?_⟩) (by assumption) ?_
      rotate_left
      ·intro w hSw
       try dsimp only at hSw
       go_simp
       try with_reducible rfl
      try simp only [Act.put, List.setIfInBounds_toArray, List.set_cons_zero, List.set_cons_succ]
      refine takeH (i := 9) (d := some 49) (v := ?_) rfl rfl (by kernel_rfl) (by kernel_rfl) (by kernel_rfl) (fun _ _ _ h => h) (Or.inl ⟨by rfl, ?_⟩) (by assumption) ?_
      rotate_left
      ·intro w hSw
       try dsimp only at hSw
       go_simp
       try with_reducible rfl
      try simp only [Act.put, List.setIfInBounds_toArray, List.set_cons_zero, List.set_cons_succ]
      refine takeH (i := 10) (d := some 50) (v := ?_) rfl rfl (by kernel_rfl) (by kernel_rfl) (by kernel_rfl) (fun _ _ _ h => h) (Or.inl ⟨by rfl, ?_⟩) (by assumption) ?_
      rotate_left
      ·intro w hSw
       try dsimp only at hSw
       have hb2 := HRw.out.blk.turns hSw (fun h => h)
       have d0 := hb2.cell 0
       simp only [List.getElem?_toArray, List.getElem?_cons_zero] at d0
       clear hb2
       go_simp
       try with_reducible rfl
      try simp only [Act.put, List.setIfInBounds_toArray, List.set_cons_zero, List.set_cons_succ]
      refine takeH (i := 11) (d := some 51) (v := ?_) rfl rfl (by kernel_rfl) (by kernel_rfl) (by kernel_rfl) (fun _ _ _ h => h) (Or.inl ⟨by rfl, ?_⟩) (by assumption) ?_
      rotate_left
      ·intro w hSw
       try dsimp only at hSw
       go_simp
       try with_reducible rfl
      try simp only [Act.put, List.setIfInBounds_toArray, List.set_cons_zero, List.set_cons_succ]
      refine takeH (i := 12) (d := some 52) (v := ?_) rfl rfl (by kernel_rfl) (by kernel_rfl) (by kernel_rfl) (fun _ _ _ h => h) (Or.inl ⟨by rfl, ?_⟩) (by assumption) ?_
      rotate_left
      ·intro w hSw
       try dsimp only at hSw
       go_simp
       try with_reducible rfl
      try simp only [Act.put, List.setIfInBounds_toArray, List.set_cons_zero, List.set_cons_succ]
      refine takeH (i := 13) (d := some 53) (v := ?_) rfl rfl (by kernel_rfl) (by kernel_rfl) (by kernel_rfl) (fun _ _ _ h => h) (Or.inl ⟨by rfl, ?_⟩) (by assumption) ?_
      rotate_left
      ·intro w hSw
       try dsimp only at hSw
       have hb2 := (HRw.out.made hSw).own
       rw [← HYL.out] at hb2
       have d0 := Owns.cell encT_len hb2 HVV.out (j := 0) rfl
       have d1 := Owns.cell encT_len hb2 HVV.out (j := 1) rfl
       have d2 := Owns.cell encT_len hb2 HVV.out (j := 2) rfl
       simp only [Nat.add_zero] at d0
       clear hb2
       go_simp
       try with_reducible rfl
      try simp only [Act.put, List.setIfInBounds_toArray, List.set_cons_zero, List.set_cons_succ]
      refine wpAnyH_ready (rs := [14]) (by kernel_rfl) (by simp) ?_
      refine AllReadyH.cons rfl (fun K hK => ?_) AllReadyH.nil
      go_simp
      refine (HAH.out _).mono ?_
      rintro e w' ⟨rfl, hm'⟩
      go_wp2_with fail
      refine hK.out _ _ ?_ (fun hHeld => ?_)
      ·exact Turns.trans hHeld hm'
      clear hK K
      try simp only [Act.put, List.setIfInBounds_toArray, List.set_cons_zero, List.set_cons_succ]
      refine takeH (i := 15) (d := some 55) (v := ?_) rfl rfl (by kernel_rfl) (by kernel_rfl) (by kernel_rfl) (fun _ _ _ h => h) (Or.inl ⟨by rfl, ?_⟩) (by assumption) ?_
      rotate_left
      ·intro w hSw
       try dsimp only at hSw
       go_simp
       try with_reducible rfl
      try simp only [Act.put, List.setIfInBounds_toArray, List.set_cons_zero, List.set_cons_succ]
      refine wpAnyH_done (by kernel_rfl) ?_ _
      have HMX := Lib.hid (Turns.trans HMW.out hHeld)
      clear hHeld
      try clear hHeld
      by_cases hr0 : r < 0
      ·have hlt := HRL.out.mp hr0
       have hL2 : L' = K := by rw [HLS.out, if_pos hlt]
       clear hlt
       go_wp2_with fail
       go_roundw
       case rel => exact ⟨m + 1, by omega, by have := HKK.out; go_num, by rw [HL'.out, hL2], HMX.out⟩
       case measure => have := HKK.out; simp [intOf]; omega
      ·have hlt := fun h => hr0 (HRL.out.mpr h)
       have hL2 : L' = L := by rw [HLS.out, if_neg hlt]
       clear hlt
       go_wp2_with fail
       go_roundw
       case rel => exact ⟨m + 1, by omega, by have := HKK.out; go_num, by rw [HL'.out, hL2], HMX.out⟩
       case measure => have := HKK.out; simp [intOf]; omega
    ·obtain rfl : m = kd := by omega
     have hL1 : leastC yy (4 * j + 1) m = leastK (yy.set j x) j := by
      unfold leastK
      rw [HSL.out, HYL.out, HKD.out, leastC_set _ _ _ _ (by omega)]
     rw [hL1]
     have hLin := leastK_in (zs := yy.set j x) (i := j) (by rw [HSL.out, HYL.out]; exact hend')
     rw [HSL.out, HYL.out] at hLin
     generalize hL : leastK (yy.set j x) j = L at *
     have HLL := Lib.hid hL
     clear hL hL1 hin
     obtain ⟨hLa, hLb, hLc⟩ := hLin
     obtain ⟨y, hy⟩ := get_of_lt (xs := yy) (k := L) (by have := HYL.out; omega)
     have hyz : (yy.set j x)[L]? = some y := by rw [List.getElem?_set_ne (by omega)]; exact hy
     have HY := Lib.hid hy
     have HYZ := Lib.hid hyz
     clear hy hyz
     have hKv : K = 4 * j + 2 + m := hK.symm
     have hKe : K = min (4 * j + 5) ys.length := by have := HKE.out; omega
     clear hK
     have k1 : (0 : Int) ≤ (L : Int) := Int.natCast_nonneg _
     have k2 : (L : Int) < (ys.length : Int) := by omega
     obtain ⟨r, hr⟩ : ∃ r, cmpT x y = r := ⟨_, rfl⟩
     have hrl := cmpT_lt x y
     rw [hr] at hrl
     have HRL := Lib.hid hrl
     have HAH := Lib.hid (fun (w' : World) => (by have := ahead_c x y w'; rw [hr] at this; exact this : Calls Tryz.prog 204 #[aggT x, aggT y] w' fun e w2 => e = .returned (.int .i64 r) ∧ Made w' w2))
     clear hr hrl
     have HBW := Lib.hid (Blk.turns HBJ.out HMW.out (fun h => h))
     have hsm' : ¬ ((K : Int) < if (ys.length : Int) < 4 * (j : Int) + 1 + 4 then (ys.length : Int) else 4 * (j : Int) + 1 + 4) := by
      split <;> omega
     by_cases hsm : (ys.length : Int) < 4 * (j : Int) + 1 + 4
     all_goals
      go_wp2_with fail
      refine wp_region_held_drew (S := (fun w' => Made wr w')) (by kernel_rfl) ?_ (fun hHeld => ?_)
      ·exact (Turns.refl _ _).drew
      refine takeH (i := 0) (d := some 57) (v := ?_) rfl rfl (by kernel_rfl) (by kernel_rfl) (by kernel_rfl) (fun _ _ _ h => h) (Or.inl ⟨by rfl, ?_⟩) (by assumption) ?_
      rotate_left
      ·intro w hSw
       try dsimp only at hSw
       have hb2 := Blk.turns HBW.out hSw (fun h => h)
       have d0 := hb2.cell 0
       have d1 := hb2.cell 1
       have d2 := hb2.cell 2
       simp only [encT, List.getElem?_toArray, List.getElem?_cons_zero, List.getElem?_cons_succ] at d0 d1 d2
       clear hb2
       go_simp
       try with_reducible rfl
      try simp only [Act.put, List.setIfInBounds_toArray, List.set_cons_zero, List.set_cons_succ]
      refine takeH (i := 1) (d := some 58) (v := ?_) rfl rfl (by kernel_rfl) (by kernel_rfl) (by kernel_rfl) (fun _ _ _ h => h) (Or.inl ⟨by rfl, ?_⟩) (by assumption) ?_
      rotate_left
      ·intro w hSw
       try dsimp only at hSw
       go_simp
       try with_reducible rfl
      try simp only [Act.put, List.setIfInBounds_toArray, List.set_cons_zero, List.set_cons_succ]
      refine takeH (i := 2) (d := some 59) (v := ?_) rfl rfl (by kernel_rfl) (by kernel_rfl) (by kernel_rfl) (fun _ _ _ h => h) (Or.inl ⟨by rfl, ?_⟩) (by assumption) ?_
      rotate_left
      ·intro w hSw
       try dsimp only at hSw
       go_simp
       try with_reducible rfl
      try simp only [Act.put, List.setIfInBounds_toArray, List.set_cons_zero, List.set_cons_succ]
      refine takeH (i := 3) (d := some 60) (v := ?_) rfl rfl (by kernel_rfl) (by kernel_rfl) (by kernel_rfl) (fun _ _ _ h => h) (Or.inl ⟨by rfl, ?_⟩) (by assumption) ?_
      rotate_left
      ·intro w hSw
       try dsimp only at hSw
       go_simp
       try with_reducible rfl
      try simp only [Act.put, List.setIfInBounds_toArray, List.set_cons_zero, List.set_cons_succ]
      refine takeH (i := 4) (d := some 61) (v := ?_) rfl rfl (by kernel_rfl) (by kernel_rfl) (by kernel_rfl) (fun _ _ _ h => h) (Or.inl ⟨by rfl, ?_⟩) (by assumption) ?_
      rotate_left
      ·intro w hSw
       try dsimp only at hSw
       have hb2 := HRw.out.blk.turns hSw (fun h => h)
       have d0 := hb2.cell 0
       simp only [List.getElem?_toArray, List.getElem?_cons_zero] at d0
       clear hb2
       go_simp
       try with_reducible rfl
      try simp only [Act.put, List.setIfInBounds_toArray, List.set_cons_zero, List.set_cons_succ]
      refine takeH (i := 5) (d := some 62) (v := ?_) rfl rfl (by kernel_rfl) (by kernel_rfl) (by kernel_rfl) (fun _ _ _ h => h) (Or.inl ⟨by rfl, ?_⟩) (by assumption) ?_
      rotate_left
      ·intro w hSw
       try dsimp only at hSw
       go_simp
       try with_reducible rfl
      try simp only [Act.put, List.setIfInBounds_toArray, List.set_cons_zero, List.set_cons_succ]
      refine takeH (i := 6) (d := some 63) (v := ?_) rfl rfl (by kernel_rfl) (by kernel_rfl) (by kernel_rfl) (fun _ _ _ h => h) (Or.inl ⟨by rfl, ?_⟩) (by assumption) ?_
      rotate_left
      ·intro w hSw
       try dsimp only at hSw
       go_simp
       try with_reducible rfl
      try simp only [Act.put, List.setIfInBounds_toArray, List.set_cons_zero, List.set_cons_succ]
      refine takeH (i := 7) (d := some 64) (v := ?_) rfl rfl (by kernel_rfl) (by kernel_rfl) (by kernel_rfl) (fun _ _ _ h => h) (Or.inl ⟨by rfl, ?_⟩) (by assumption) ?_
      rotate_left
      ·intro w hSw
       try dsimp only at hSw
       have hb2 := (HRw.out.made hSw).own
       rw [← HYL.out] at hb2
       have d0 := Owns.cell encT_len hb2 HY.out (j := 0) rfl
       have d1 := Owns.cell encT_len hb2 HY.out (j := 1) rfl
       have d2 := Owns.cell encT_len hb2 HY.out (j := 2) rfl
       simp only [Nat.add_zero] at d0
       clear hb2
       go_simp
       try with_reducible rfl
      try simp only [Act.put, List.setIfInBounds_toArray, List.set_cons_zero, List.set_cons_succ]
      refine wpAnyH_ready (rs := [8]) (by kernel_rfl) (by simp) ?_
      refine AllReadyH.cons rfl (fun K hK => ?_) AllReadyH.nil
      go_simp
      refine (HAH.out _).mono ?_
      rintro e w' ⟨rfl, hm'⟩
      go_wp2_with fail
      refine hK.out _ _ ?_ (fun hHeld => ?_)
      ·exact Turns.trans hHeld hm'
      clear hK K
      try simp only [Act.put, List.setIfInBounds_toArray, List.set_cons_zero, List.set_cons_succ]
      refine takeH (i := 9) (d := some 66) (v := ?_) rfl rfl (by kernel_rfl) (by kernel_rfl) (by kernel_rfl) (fun _ _ _ h => h) (Or.inl ⟨by rfl, ?_⟩) (by assumption) ?_
      rotate_left
      ·intro w hSw
       try dsimp only at hSw
       go_simp
       try with_reducible rfl
      try simp only [Act.put, List.setIfInBounds_toArray, List.set_cons_zero, List.set_cons_succ]
      refine wpAnyH_done (by kernel_rfl) ?_ _
      have hrw := HRw.out.made hHeld
      have d0 := hrw.blk.cell 0
      simp only [List.getElem?_toArray, List.getElem?_cons_zero] at d0
      have HT3 := Lib.hid (Turns.then (Turns.then HTJ.out HMW.out (fun _ _ h => h.elim)) hHeld (fun _ _ h => h.elim))
      have HB3 := Lib.hid (Blk.turns HBW.out hHeld (fun h => h))
      by_cases hr0 : r < 0
      ·have HLT := Lib.hid (HRL.out.mp hr0)
       have b0 := HB3.out.cell 0
       have b1 := HB3.out.cell 1
       have b2 := HB3.out.cell 2
       simp only [encT, List.getElem?_toArray, List.getElem?_cons_zero, List.getElem?_cons_succ] at b0 b1 b2
       have HR3 := Lib.hid hrw
       clear hrw hHeld d0
       try clear hHeld
       go_wp2_with fail
       refine (put_c p mb _ sq yy f' j x w' HR3.out hjl).mono ?_
       rintro e w2 ⟨⟨v, rfl⟩, hraw2, ht2⟩
       have HR4 := Lib.hid hraw2
       have HT4 := Lib.hid ht2
       clear hraw2 ht2 b0 b1 b2
       go_wp2_with fail
       go_end0
       have hst := downL_stop (zs := yy.set j x) (i := j) (by rw [HSL.out, HYL.out]; exact hend') HJX.out (by rw [HLL.out]; exact HYZ.out) HLT.out
       rw [HUP.out] at hst
       refine ⟨⟨_, rfl⟩, ⟨_, by rw [hst]; exact HR4.out, by rw [hst]; exact HPJ.out⟩, ?_⟩
       refine (HT3.out.mono (fun b _ h => ?_)).then HT4.out (fun b _ h => h)
       rcases h with h | h
       ·exact .inl (by rw [h]; rfl)
       ·exact .inr h
      ·have HLT := Lib.hid (fun h => hr0 (HRL.out.mpr h))
       have hb2 := hrw.own
       rw [← HYL.out] at hb2
       have k0 := Owns.cell encT_len hb2 HY.out (j := 0) rfl
       have k1 := Owns.cell encT_len hb2 HY.out (j := 1) rfl
       have k2 := Owns.cell encT_len hb2 HY.out (j := 2) rfl
       simp only [Nat.add_zero] at k0
       have HR3 := Lib.hid hrw
       clear hb2 hrw hHeld
       try clear hHeld
       have k4 : (0 : Int) ≤ (L : Int) := Int.natCast_nonneg _
       have k5 : (L : Int) < (ys.length : Int) := by omega
       go_wp2_with fail
       refine (put_c p mb _ sq yy f' j y w' HR3.out hjl).mono ?_
       rintro e w2 ⟨⟨v, rfl⟩, hraw2, ht2⟩
       have HR4 := Lib.hid hraw2
       have HT4 := Lib.hid ht2
       clear hraw2 ht2 d0 k0 k1 k2
       go_wp2_with fail
       go_roundw
       case rel =>
        have hsw : (yy.set j y).set L x = swp (yy.set j x) j L x y := by unfold swp; rw [List.set_set]
        refine ⟨L, yy.set j y, _, by first | rfl | go_num, HR4.out, by rw [List.length_set]; exact HYL.out, ?_, ?_, ?_, ?_, HB3.out.turns HT4.out ?_, ?_⟩
        ·rw [hsw, swp_get HJX.out HYZ.out (by omega), if_pos rfl]
        ·rw [hsw]; exact HUJ.out.swp HJX.out HYZ.out (by omega)
        ·rw [hsw]; exact HPJ.out.swp HUJ.out HJX.out HYZ.out (by omega)
        ·have hgo := downL_go (zs := yy.set j x) (i := j) (by rw [HSL.out, HYL.out]; exact hend') HJX.out (by rw [HLL.out]; exact HYZ.out) HLT.out
         rw [HLL.out] at hgo
         rw [hsw, ← hgo]; exact HUP.out
        ·rintro (h | h)
         ·simp only [Value.ownBlock, Option.some.injEq] at h; omega
         ·omega
        ·refine HT3.out.then HT4.out (fun b _ h => ?_)
         rcases h with h | h
         ·simp only [Value.ownBlock, Option.some.injEq] at h; exact .inl h.symm
         ·exact .inr h
       case measure => simp [intOf]; omega
end Go.Proofs.YtjnkphhlkoapbaaGreat
namespace Go.Proofs.YtjnkphhlkoapbaaGreat
open Go.RowKit
set_option linter.unusedVariables false
set_option linter.unusedSimpArgs false
theorem Blk.put3 {w : World} {g : Nat} {t : TypeId} {a b c : Value} (h : Blk w g t #[a, b, c]) (x y z : Value) : Blk (((w.setCell ⟨g, 0, none⟩ x).setCell ⟨g, 1, none⟩ y).setCell ⟨g, 2, none⟩ z) g t #[x, y, z] := ((h.put 0 x).put 1 y).put 2 z
theorem set3 (w : World) (g : Nat) {x y z : Value} : Turns (fun k => k = g) w (((w.setCell ⟨g, 0, none⟩ x).setCell ⟨g, 1, none⟩ y).setCell ⟨g, 2, none⟩ z) :=
 (((Turns.refl (fun k => k = g) w).setCell (p := ⟨g, 0, none⟩) (fun _ => rfl) _).setCell (p := ⟨g, 1, none⟩) (fun _ => rfl) _).setCell (p := ⟨g, 2, none⟩) (fun _ => rfl) _
theorem own3 {g n cap mb b p : Nat} (h : (Value.slice (some ⟨g, 0, none⟩) n cap).ownBlock = some b ∨ b = mb) : b = p ∨ b = mb ∨ b = g := by
 simp only [Value.ownBlock, Option.some.injEq] at h
 omega
theorem res_box {fn : Func} {p u : Tmp} (hr : fn.results = #[.cell p 186, .tmp u]) {tmps : Array Value} {w : World} {g : Nat} {a b c v : Value} (hb : Blk w g 186 #[a, b, c]) (hp : tmps.getD p undef = .pointer (some ⟨g, 0, none⟩)) (hv : tmps.getD u undef = v) :
  (results fn tmps).run Tryz.prog w = .ok (.tuple #[.agg #[a, b, c], v]) w := by
 have c0 := hb.cell 0
 have c1 := hb.cell 1
 have c2 := hb.cell 2
 simp only [List.getElem?_toArray, List.getElem?_cons_zero, List.getElem?_cons_succ] at c0 c1 c2
 rw [results_cell_tmp hr, hp, hv]
 go_simp
theorem hrem_none {p : Nat} {F : Nat → Prop} {L : List It} {sq : Int} (id : Int) (w : World) (h : HeapAt w p F L sq) (hx : findL id L = none) : Calls Tryz.prog 151 #[.pointer (some ⟨p, 0, none⟩), .int .i64 id] w fun e w' => e = .returned (.tuple #[aggT zeroT, .bool false]) ∧ Made w w' := by
 have H := Lib.hid (fun (w' : World) (hm : Made w w') => hfind_c id w' (h.made hm))
 rw [hx] at H
 have HM := Lib.hid (fun (o : Obj) => ((Turns.refl (fun _ => False) w).alloc o))
 clear h hx
 simp only [optT, Option.getD_none, zeroT, Option.isSome_none, aggT] at H ⊢
 go_enter Tryz.func151, Tryz.ntmps151
 go_wp2_with fail
 refine (H.out _ (HM.out _)).mono ?_
 rintro e w' ⟨rfl, hm⟩
 have hB1 := (Blk.new w 186 #[.int .i64 0, .int .i64 0, .int .i64 0]).turns hm (fun h => h)
 have b0 := hB1.cell 0
 have b1 := hB1.cell 1
 have b2 := hB1.cell 2
 have g0 := hB1.free 0
 have g1 := hB1.free 1
 have g2 := hB1.free 2
 have hb4 := hB1.lt
 simp only [List.getElem?_toArray, List.getElem?_cons_zero, List.getElem?_cons_succ] at b0 b1 b2
 have HMA := Lib.hid ((HM.out _).trans hm)
 have HB := Lib.hid hB1
 clear hm hB1 HM
 go_wp2_with fail
 refine bodyPost_ret (res_box rfl ((HB.out.put3 _ _ _).alloc _) rfl rfl) rfl ?_
 exact ⟨rfl, ((((HMA.out.setCell (p := ⟨w.heap.size, 0, none⟩) (fun h => absurd h (Nat.lt_irrefl _)) _).setCell (p := ⟨w.heap.size, 1, none⟩) (fun h => absurd h (Nat.lt_irrefl _)) _).setCell (p := ⟨w.heap.size, 2, none⟩) (fun h => absurd h (Nat.lt_irrefl _)) _).alloc _)⟩
theorem Owns.cut {w : World} {g cap n : Nat} {ys : List It} (h : Owns encT 186 3 w (.slice (some ⟨g, 0, none⟩) (n + 1) cap) ys) (hn : ys.length = n + 1) : Owns encT 186 3 w (.slice (some ⟨g, 0, none⟩) n cap) ys.dropLast := by
 have hl : ys.dropLast.length = n := by rw [List.length_dropLast]; omega
 unfold Owns at h ⊢
 rw [hl]
 refine ⟨by rw [flat_length encT_len, hl], ?_⟩
 rcases h.2 with ⟨h0, _⟩ | ⟨g', cap', cur, hv, hb, hg, h1, h2, h3, h4⟩
 ·cases h0
 ·simp only [Value.slice.injEq, Option.some.injEq, Addr.mk.injEq, and_true, true_and] at hv
  obtain ⟨rfl, _, rfl⟩ := hv
  refine .inr ⟨g, cap, cur, rfl, hb, hg, by omega, h2, h3, ?_⟩
  obtain ⟨z, hz⟩ := get_of_lt (xs := ys) (k := n) (by omega)
  have e := cut_end hn hz
  have e2 : flat encT ys = flat encT ys.dropLast ++ encT z := by
   conv => lhs; rw [e]
   rw [flat_append]
   simp [flat]
  rw [hn, e2] at h4
  have : cur.toList.take (n * 3) = (cur.toList.take ((n + 1) * 3)).take (n * 3) := by rw [List.take_take]; congr 1; omega
  rw [this, h4, List.take_left' (by rw [flat_length encT_len, hl])]
set_option maxHeartbeats 4000000 in
set_option maxRecDepth 100000 in
theorem hrem_in {p mb : Nat} {lv : Value} {sq : Int} {ys : List It} {f : Int → Option Value} {F : Nat → Prop} {L : List It} (id : Int) (w : World) (h : HeapIn w p mb lv sq ys f F L) (hsq : sq ≤ 1000000) {k : Nat} {x : It} (hf : findL id L = some x) (hk : ys[k]? = some x) (hid : x.id = id) :
  Calls Tryz.prog 151 #[.pointer (some ⟨p, 0, none⟩), .int .i64 id] w fun e w' => e = .returned (.tuple #[aggT x, .bool true]) ∧ ∃ lv' ys' f', HRaw w' p mb lv' sq ys' f' ∧ PosOK f' ys' ∧ HOrd ys' ∧ (x :: ys').Perm ys ∧ lv'.ownBlock = lv.ownBlock ∧ Turns (fun k => k = p ∨ k = mb ∨ lv.ownBlock = some k) w w' := by
 rcases h.raw.own.form with ⟨rfl, h0⟩ | ⟨g, cap, rfl, hg, hl, hm⟩
 ·rw [h0] at hk; simp at hk
 have hkl := (List.getElem?_eq_some_iff.1 hk).1
 obtain ⟨n, hn⟩ : ∃ n, ys.length = n + 1 := ⟨ys.length - 1, by omega⟩
 have hsz : (ys.length : Int) ≤ sq := by have := h.len; have := h.perm.length_eq; omega
 obtain ⟨z, hz⟩ := get_of_lt (xs := ys) (k := n) (by omega)
 have hfk : f id = some (.int .i64 k) := by rw [← hid]; exact h.pos.get hk
 have H := Lib.hid (fun (w' : World) (hm : Made w w') => hfind_in id w' (h.turns hm (fun _ _ h => h)))
 rw [hf] at H
 simp only [optT, Option.getD_some, Option.isSome_some, aggT] at H ⊢
 have HM := Lib.hid (fun (o : Obj) => ((Turns.refl (fun _ => False) w).alloc o))
 have HR := Lib.hid h.raw
 have HO := Lib.hid h.ord
 have HU := Lib.hid h.uniq
 have HP := Lib.hid h.pos
 have HK := Lib.hid hk
 have HZ := Lib.hid hz
 have HFK := Lib.hid hfk
 have HID := Lib.hid hid
 have HN := Lib.hid hn
 have hpl := h.raw.blk.lt
 have hml := h.raw.map.lt
 have hB := Blk.new w 186 #[.int .i64 0, .int .i64 0, .int .i64 0]
 clear h hf hk hid hfk hz
 go_enter Tryz.func151, Tryz.ntmps151
 go_wp2_with fail
 refine (H.out _ (HM.out _)).mono ?_
 rintro e w1 ⟨rfl, hm⟩
 have hB1 := hB.turns hm (fun h => h)
 have HMA := Lib.hid ((HM.out _).trans hm)
 have hX := Blk.new w1 186 (encT x).toArray
 unfold encT at hX
 have hb4 := hB1.lt
 have HR1 := Lib.hid ((HR.out.made HMA.out).made ((Turns.refl (fun _ => False) w1).alloc (.cells #[.int .i64 x.id, .int .i64 x.when, .int .i64 x.seq] 186)))
 have HB4 := Lib.hid (hB1.alloc (.cells #[.int .i64 x.id, .int .i64 x.when, .int .i64 x.seq] 186))
 have HB6 := Lib.hid hX
 have HMB := Lib.hid (HMA.out.alloc (.cells #[.int .i64 x.id, .int .i64 x.when, .int .i64 x.seq] 186))
 clear H HM hB hm hB1 hX HR HMA
 go_wp2_with fail
 generalize w1.alloc (.cells #[.int .i64 x.id, .int .i64 x.when, .int .i64 x.seq] 186) = W1 at *
 generalize hb6 : w1.heap.size = q6 at *
 clear hb6 w1
 have hwn : IntKind.i64.wrap ((ys.length : Int) - 1) = (n : Int) := by rw [show (ys.length : Int) - 1 = (n : Int) from by omega]; exact wrap_in _ (by omega)
 have hwn3 : (ys.length : Int) - 1 = (n : Int) := by omega
 refine wp_region_held_drew (S := (fun w' => Made W1 w')) (by kernel_rfl) ?_ (fun hHeld => ?_)
 ·exact (Turns.refl _ _).drew
 refine takeH (i := 0) (d := some 20) (v := ?_) rfl rfl (by kernel_rfl) (by kernel_rfl) (by kernel_rfl) (fun _ _ _ h => h) (Or.inl ⟨by rfl, ?_⟩) (by assumption) ?_
 rotate_left
 ·intro w hSw
  try dsimp only at hSw
  go_simp
  try with_reducible rfl
 try simp only [Act.put, List.setIfInBounds_toArray, List.set_cons_zero, List.set_cons_succ]
 refine takeH (i := 1) (d := some 21) (v := ?_) rfl rfl (by kernel_rfl) (by kernel_rfl) (by kernel_rfl) (fun _ _ _ h => h) (Or.inl ⟨by rfl, ?_⟩) (by assumption) ?_
 rotate_left
 ·intro w hSw
  try dsimp only at hSw
  go_simp
  try with_reducible rfl
 try simp only [Act.put, List.setIfInBounds_toArray, List.set_cons_zero, List.set_cons_succ]
 refine takeH (i := 2) (d := some 22) (v := ?_) rfl rfl (by kernel_rfl) (by kernel_rfl) (by kernel_rfl) (fun _ _ _ h => h) (Or.inl ⟨by rfl, ?_⟩) (by assumption) ?_
 rotate_left
 ·intro w hSw
  try dsimp only at hSw
  go_simp
  try with_reducible rfl
 try simp only [Act.put, List.setIfInBounds_toArray, List.set_cons_zero, List.set_cons_succ]
 refine takeH (i := 3) (d := some 23) (v := ?_) rfl rfl (by kernel_rfl) (by kernel_rfl) (by kernel_rfl) (fun _ _ _ h => h) (Or.inl ⟨by rfl, ?_⟩) (by assumption) ?_
 rotate_left
 ·intro w hSw
  try dsimp only at hSw
  have hb2 := HR1.out.blk.turns hSw (fun h => h)
  have d0 := hb2.cell 1
  simp only [List.getElem?_toArray, List.getElem?_cons_zero, List.getElem?_cons_succ] at d0
  clear hb2
  go_simp
  try with_reducible rfl
 try simp only [Act.put, List.setIfInBounds_toArray, List.set_cons_zero, List.set_cons_succ]
 refine takeH (i := 4) (d := some 24) (v := ?_) rfl rfl (by kernel_rfl) (by kernel_rfl) (by kernel_rfl) (fun _ _ _ h => h) (Or.inl ⟨by rfl, ?_⟩) (by assumption) ?_
 rotate_left
 ·intro w hSw
  try dsimp only at hSw
  go_simp
  try with_reducible rfl
 try simp only [Act.put, List.setIfInBounds_toArray, List.set_cons_zero, List.set_cons_succ]
 refine takeH (i := 5) (d := some 25) (v := ?_) rfl rfl (by kernel_rfl) (by kernel_rfl) (by kernel_rfl) (fun _ _ _ h => h) (Or.inl ⟨by rfl, ?_⟩) (by assumption) ?_
 rotate_left
 ·intro w hSw
  try dsimp only at hSw
  have hlk := (HR1.out.map.turns hSw (fun h => h)).look Tryz.underlying98 Tryz.underlying3 (zero_int _) id false
  rw [HFK.out] at hlk
  simp only [Option.getD_some, Bool.false_eq_true, if_false] at hlk
  go_simp
  try with_reducible rfl
 try simp only [Act.put, List.setIfInBounds_toArray, List.set_cons_zero, List.set_cons_succ]
 refine takeH (i := 6) (d := some 26) (v := ?_) rfl rfl (by kernel_rfl) (by kernel_rfl) (by kernel_rfl) (fun _ _ _ h => h) (Or.inl ⟨by rfl, ?_⟩) (by assumption) ?_
 rotate_left
 ·intro w hSw
  try dsimp only at hSw
  go_simp
  try with_reducible rfl
 try simp only [Act.put, List.setIfInBounds_toArray, List.set_cons_zero, List.set_cons_succ]
 refine takeH (i := 7) (d := some 27) (v := ?_) rfl rfl (by kernel_rfl) (by kernel_rfl) (by kernel_rfl) (fun _ _ _ h => h) (Or.inl ⟨by rfl, ?_⟩) (by assumption) ?_
 rotate_left
 ·intro w hSw
  try dsimp only at hSw
  go_simp
  try with_reducible rfl
 try simp only [Act.put, List.setIfInBounds_toArray, List.set_cons_zero, List.set_cons_succ]
 refine takeH (i := 8) (d := some 28) (v := ?_) rfl rfl (by kernel_rfl) (by kernel_rfl) (by kernel_rfl) (fun _ _ _ h => h) (Or.inl ⟨by rfl, ?_⟩) (by assumption) ?_
 rotate_left
 ·intro w hSw
  try dsimp only at hSw
  go_simp
  try with_reducible rfl
 try simp only [Act.put, List.setIfInBounds_toArray, List.set_cons_zero, List.set_cons_succ]
 refine takeH (i := 9) (d := some 29) (v := ?_) rfl rfl (by kernel_rfl) (by kernel_rfl) (by kernel_rfl) (fun _ _ _ h => h) (Or.inl ⟨by rfl, ?_⟩) (by assumption) ?_
 rotate_left
 ·intro w hSw
  try dsimp only at hSw
  have hb2 := HR1.out.blk.turns hSw (fun h => h)
  have d0 := hb2.cell 0
  simp only [List.getElem?_toArray, List.getElem?_cons_zero, List.getElem?_cons_succ] at d0
  clear hb2
  go_simp
  try with_reducible rfl
 try simp only [Act.put, List.setIfInBounds_toArray, List.set_cons_zero, List.set_cons_succ]
 refine takeH (i := 10) (d := some 30) (v := ?_) rfl rfl (by kernel_rfl) (by kernel_rfl) (by kernel_rfl) (fun _ _ _ h => h) (Or.inl ⟨by rfl, ?_⟩) (by assumption) ?_
 rotate_left
 ·intro w hSw
  try dsimp only at hSw
  go_simp
  try with_reducible rfl
 try simp only [Act.put, List.setIfInBounds_toArray, List.set_cons_zero, List.set_cons_succ]
 refine takeH (i := 11) (d := some 31) (v := ?_) rfl rfl (by kernel_rfl) (by kernel_rfl) (by kernel_rfl) (fun _ _ _ h => h) (Or.inl ⟨by rfl, ?_⟩) (by assumption) ?_
 rotate_left
 ·intro w hSw
  try dsimp only at hSw
  go_simp
  try with_reducible rfl
 try simp only [Act.put, List.setIfInBounds_toArray, List.set_cons_zero, List.set_cons_succ]
 refine takeH (i := 12) (d := some 8) (v := ?_) rfl rfl (by kernel_rfl) (by kernel_rfl) (by kernel_rfl) (fun _ _ _ h => h) (Or.inl ⟨by rfl, ?_⟩) (by assumption) ?_
 rotate_left
 ·intro w hSw
  try dsimp only at hSw
  go_simp
  try with_reducible rfl
 try simp only [Act.put, List.setIfInBounds_toArray, List.set_cons_zero, List.set_cons_succ]
 refine takeH (i := 13) (d := some 9) (v := ?_) rfl rfl (by kernel_rfl) (by kernel_rfl) (by kernel_rfl) (fun _ _ _ h => h) (Or.inl ⟨by rfl, ?_⟩) (by assumption) ?_
 rotate_left
 ·intro w hSw
  try dsimp only at hSw
  go_simp
  try with_reducible rfl
 try simp only [Act.put, List.setIfInBounds_toArray, List.set_cons_zero, List.set_cons_succ]
 refine wpAnyH_done (by kernel_rfl) ?_ _
 have HR2 := Lib.hid (HR1.out.made hHeld)
 have HC4 := Lib.hid (HB4.out.turns hHeld (fun h => h))
 have HC6 := Lib.hid (HB6.out.turns hHeld (fun h => h))
 have HMC := Lib.hid (HMB.out.trans hHeld)
 clear hHeld HR1 HB4 HB6 HMB
 try clear hHeld
 generalize W1.drew = W2 at *
 clear W1
 have c0 := HR2.out.blk.cell 0
 have c1 := HR2.out.blk.cell 1
 simp only [List.getElem?_toArray, List.getElem?_cons_zero, List.getElem?_cons_succ] at c0 c1
 have f0 := HR2.out.blk.free 0
 have e0 : W2.cell? ⟨g, n * 3, none⟩ = some (.int .i64 z.id) := Owns.cell encT_len HR2.out.own HZ.out (j := 0) rfl
 have e1 : W2.cell? ⟨g, n * 3 + 1, none⟩ = some (.int .i64 z.when) := Owns.cell encT_len HR2.out.own HZ.out (j := 1) rfl
 have e2 : W2.cell? ⟨g, n * 3 + 2, none⟩ = some (.int .i64 z.seq) := Owns.cell encT_len HR2.out.own HZ.out (j := 2) rfl
 have hp2 := HR2.out.blk.lt
 have hm2 := HR2.out.map.lt
 have hg2 : g < W2.heap.size := HR2.out.own.lt rfl
 have i1 : (0 : Int) ≤ (n : Int) := Int.natCast_nonneg _
 have i2 : (n : Int) < (ys.length : Int) := by omega
 have i3 : (n : Int) ≤ (ys.length : Int) := by omega
 have i4 : (n : Int) ≤ (cap : Int) := by omega
 have hcut := Owns.cut (by have := HR2.out.own; rwa [hn] at this) hn
 have hr3 : HRaw ((W2.setCell ⟨p, 0, none⟩ (.slice (some ⟨g, 0, none⟩) n cap)).alloc (.cells #[.int .i64 z.id, .int .i64 z.when, .int .i64 z.seq] 186)) p mb (.slice (some ⟨g, 0, none⟩) n cap) sq ys.dropLast f := by
  have ht3 : Turns (fun k => k = p) W2 ((W2.setCell ⟨p, 0, none⟩ (.slice (some ⟨g, 0, none⟩) n cap)).alloc (.cells #[.int .i64 z.id, .int .i64 z.when, .int .i64 z.seq] 186)) := ((Turns.refl (fun k => k = p) W2).setCell (p := ⟨p, 0, none⟩) (fun _ => rfl) _).alloc _
  refine ⟨(HR2.out.blk.put 0 _).alloc _, hcut.turns ht3 (fun k hk e => HR2.out.np (by rw [e] at hk; exact hk)), HR2.out.map.turns ht3 (fun e => HR2.out.pm e.symm), fun e => HR2.out.np e, fun e => HR2.out.nm e, HR2.out.pm⟩
 have ht3 : Turns (fun k => k = p ∨ k = mb ∨ k = g) W2 ((W2.setCell ⟨p, 0, none⟩ (.slice (some ⟨g, 0, none⟩) n cap)).alloc (.cells #[.int .i64 z.id, .int .i64 z.when, .int .i64 z.seq] 186)) := ((Turns.refl _ W2).setCell (p := ⟨p, 0, none⟩) (fun _ => .inl rfl) _).alloc _
 have hb10 := Blk.new (W2.setCell ⟨p, 0, none⟩ (.slice (some ⟨g, 0, none⟩) n cap)) 186 #[.int .i64 z.id, .int .i64 z.when, .int .i64 z.seq]
 have hs3 : (W2.setCell ⟨p, 0, none⟩ (.slice (some ⟨g, 0, none⟩) n cap)).heap.size = W2.heap.size := by simp [World.setCell]
 rw [hs3] at hb10
 have hq4 := HC4.out.lt
 have hq6 := HC6.out.lt
 have HR3 := Lib.hid hr3
 have HT3 := Lib.hid ht3
 have HB10 := Lib.hid hb10
 have HD4 := Lib.hid (HC4.out.turns ht3 (by omega))
 have HD6 := Lib.hid (HC6.out.turns ht3 (by omega))
 clear hcut hr3 ht3 hb10 hs3
 obtain ⟨w4, hrun, hmap4, ht4, hsz4⟩ := HR3.out.map.drop (P := Tryz.prog) Tryz.underlying98 Tryz.underlying3 id 0
 have hgm : ¬ g = mb := fun e => HR3.out.nm (by rw [← e]; rfl)
 have hr4 : HRaw w4 p mb (.slice (some ⟨g, 0, none⟩) n cap) sq ys.dropLast (del f id) := ⟨HR3.out.blk.turns ht4 (fun e => HR3.out.pm e), HR3.out.own.turns ht4 (fun k hk e => HR3.out.nm (by rw [hk, e])), hmap4, HR3.out.np, HR3.out.nm, HR3.out.pm⟩
 have HR4 := Lib.hid hr4
 have HE4' := Lib.hid (HD4.out.turns ht4 (by omega))
 have HE6' := Lib.hid (HD6.out.turns ht4 (by omega))
 have HE10 := Lib.hid (HB10.out.turns ht4 (by omega))
 have HTD := Lib.hid (((HMC.out.mono (S' := fun k => k = p ∨ k = mb ∨ k = g) (fun _ _ h => h.elim)).then HT3.out (fun _ _ h => h)).then ht4 (fun _ _ h => .inr (.inl h)))
 clear hmap4 ht4 hsz4 hr4 HR3 HT3 HB10 HD4 HD6 HR2 HC4 HC6 HMC
 have c0' := HR4.out.blk.cell 0
 have c1' := HR4.out.blk.cell 1
 have d0 := HE10.out.cell 0
 have d1 := HE10.out.cell 1
 have d2 := HE10.out.cell 2
 simp only [List.getElem?_toArray, List.getElem?_cons_zero, List.getElem?_cons_succ] at c0' c1' d0 d1 d2
 by_cases hkn : k < n
 ·have hkn2 : (k : Int) < (n : Int) := by omega
  have hkd : k < ys.dropLast.length := by rw [List.length_dropLast]; omega
  have hzs : (ys.dropLast.set k z)[k]? = some z := List.getElem?_set_self hkd
  have hpm := cut_mid HN.out hkn HK.out HZ.out
  have hps := PosOK.cut_mid HU.out HP.out HN.out hkn HK.out HZ.out
  rw [HID.out] at hps
  have huz : Uniq (ys.dropLast.set k z) := by
   have h1 := HU.out.perm hpm
   rw [Uniq.iff, List.map_cons, List.nodup_cons] at h1
   exact (Uniq.iff _).2 h1.2
  have hga := HO.out.cut.set_GA k z
  have hlz : (ys.dropLast.set k z).length = n := by rw [List.length_set, List.length_dropLast]; omega
  have HZS := Lib.hid hzs
  have HPM := Lib.hid hpm
  have HPS := Lib.hid hps
  have HUZ := Lib.hid huz
  have HGA := Lib.hid hga
  have HLZ := Lib.hid hlz
  have HPUT := Lib.hid (put_c p mb _ sq ys.dropLast (del f id) k z w4 HR4.out hkd)
  clear hzs hpm hps huz hga hlz
  unfold aggT at HPUT
  go_wp2_with fail
  clear hrun c0 c1 f0 e0 e1 e2
  refine HPUT.out.mono ?_
  rintro e w5 ⟨⟨v, rfl⟩, hraw5, ht5⟩
  generalize ys.dropLast.set k z = zs at *
  have HR5 := Lib.hid hraw5
  have HT5 := Lib.hid ht5
  clear hraw5 ht5 HPUT c0' c1' d0 d1 d2
  go_wp2_with fail
  refine (up_c p mb _ sq zs _ k z w5 HR5.out HZS.out HUZ.out (by rw [upd_idem]; exact HPS.out) (by have := HLZ.out; omega)).mono ?_
  rintro e w6 ⟨⟨v6, rfl⟩, ⟨f6, hraw6, hpos6⟩, ht6⟩
  have hpu := upL_perm k zs
  have hdn := upL_dnA HUZ.out HZS.out HGA.out
  have hu6 := HUZ.out.perm hpu
  obtain ⟨j, hj⟩ := List.getElem?_of_mem (hpu.mem_iff.2 (List.mem_of_getElem? HZS.out))
  have hfj := hpos6.get hj
  have hdnj := hdn j z hj rfl
  have hl6 : (upL zs k).length = n := by rw [hpu.length_eq]; exact HLZ.out
  generalize upL zs k = us at *
  have HR6 := Lib.hid hraw6
  have HP6 := Lib.hid hpos6
  have HT6 := Lib.hid ht6
  have HPU := Lib.hid hpu
  have HU6 := Lib.hid hu6
  have HJ := Lib.hid hj
  have HFJ := Lib.hid hfj
  have HDN := Lib.hid hdnj
  have HL6 := Lib.hid hl6
  have hF10 := Lib.hid ((HE10.out.turns HT5.out (by simp [Value.ownBlock]; omega)).turns HT6.out (by simp [Value.ownBlock]; omega))
  have hF4 := Lib.hid ((HE4'.out.turns HT5.out (by simp [Value.ownBlock]; omega)).turns HT6.out (by simp [Value.ownBlock]; omega))
  have hF6 := Lib.hid ((HE6'.out.turns HT5.out (by simp [Value.ownBlock]; omega)).turns HT6.out (by simp [Value.ownBlock]; omega))
  have hp6 := HR6.out.blk.lt
  clear hraw6 hpos6 ht6 hpu hdn hu6 hj hfj hdnj hl6
  go_wp2_with fail
  refine wp_region_held_drew (S := (fun w' => Blk w' p 179 #[.slice (some ⟨g, 0, none⟩) n cap, .map (some mb), .int .i64 sq] ∧ Blk w' W2.heap.size 186 #[.int .i64 z.id, .int .i64 z.when, .int .i64 z.seq])) (by kernel_rfl) ?_ (fun hHeld => ?_)
  ·exact ⟨HR6.out.blk.turns ((Turns.refl (fun _ => False) _).drew) (fun h => h), hF10.out.turns ((Turns.refl (fun _ => False) _).drew) (fun h => h)⟩
  refine takeH (i := 0) (d := some 63) (v := ?_) rfl rfl (by kernel_rfl) (by kernel_rfl) (by kernel_rfl) (fun _ _ _ h => h) (Or.inl ⟨by rfl, ?_⟩) (by assumption) ?_
  rotate_left
  ·intro w hSw
   try dsimp only at hSw
   go_simp
   try with_reducible rfl
  try simp only [Act.put, List.setIfInBounds_toArray, List.set_cons_zero, List.set_cons_succ]
  refine takeH (i := 1) (d := some 64) (v := ?_) rfl rfl (by kernel_rfl) (by kernel_rfl) (by kernel_rfl) (fun _ _ _ h => h) (Or.inl ⟨by rfl, ?_⟩) (by assumption) ?_
  rotate_left
  ·intro w hSw
   try dsimp only at hSw
   go_simp
   try with_reducible rfl
  try simp only [Act.put, List.setIfInBounds_toArray, List.set_cons_zero, List.set_cons_succ]
  refine takeH (i := 2) (d := some 65) (v := ?_) rfl rfl (by kernel_rfl) (by kernel_rfl) (by kernel_rfl) (fun _ _ _ h => h) (Or.inl ⟨by rfl, ?_⟩) (by assumption) ?_
  rotate_left
  ·intro w hSw
   try dsimp only at hSw
   go_simp
   try with_reducible rfl
  try simp only [Act.put, List.setIfInBounds_toArray, List.set_cons_zero, List.set_cons_succ]
  refine takeH (i := 3) (d := some 66) (v := ?_) rfl rfl (by kernel_rfl) (by kernel_rfl) (by kernel_rfl) (fun _ _ _ h => h) (Or.inl ⟨by rfl, ?_⟩) (by assumption) ?_
  rotate_left
  ·intro w hSw
   try dsimp only at hSw
   go_simp
   try with_reducible rfl
  try simp only [Act.put, List.setIfInBounds_toArray, List.set_cons_zero, List.set_cons_succ]
  refine takeH (i := 4) (d := some 67) (v := ?_) rfl rfl (by kernel_rfl) (by kernel_rfl) (by kernel_rfl) (fun _ _ _ h => h) (Or.inl ⟨by rfl, ?_⟩) (by assumption) ?_
  rotate_left
  ·intro w hSw
   try dsimp only at hSw
   have d0 := hSw.1.cell 1
   simp only [List.getElem?_toArray, List.getElem?_cons_zero, List.getElem?_cons_succ] at d0
   go_simp
   try with_reducible rfl
  try simp only [Act.put, List.setIfInBounds_toArray, List.set_cons_zero, List.set_cons_succ]
  refine takeH (i := 5) (d := some 68) (v := ?_) rfl rfl (by kernel_rfl) (by kernel_rfl) (by kernel_rfl) (fun _ _ _ h => h) (Or.inl ⟨by rfl, ?_⟩) (by assumption) ?_
  rotate_left
  ·intro w hSw
   try dsimp only at hSw
   go_simp
   try with_reducible rfl
  try simp only [Act.put, List.setIfInBounds_toArray, List.set_cons_zero, List.set_cons_succ]
  refine takeH (i := 6) (d := some 69) (v := ?_) rfl rfl (by kernel_rfl) (by kernel_rfl) (by kernel_rfl) (fun _ _ _ h => h) (Or.inl ⟨by rfl, ?_⟩) (by assumption) ?_
  rotate_left
  ·intro w hSw
   try dsimp only at hSw
   have d0 := hSw.2.cell 0
   simp only [List.getElem?_toArray, List.getElem?_cons_zero, List.getElem?_cons_succ] at d0
   go_simp
   try with_reducible rfl
  try simp only [Act.put, List.setIfInBounds_toArray, List.set_cons_zero, List.set_cons_succ]
  refine wpAnyH_ready (rs := [7]) (by kernel_rfl) (by simp) ?_
  refine AllReadyH.cons rfl (fun K hK => ?_) AllReadyH.nil
  have hlk := (HR6.out.made ((Turns.refl (fun _ => False) w6).drew)).map.look (P := Tryz.prog) Tryz.underlying98 Tryz.underlying3 (zero_int _) z.id false
  rw [HFJ.out] at hlk
  simp only [Option.getD_some, Bool.false_eq_true, if_false] at hlk
  go_simp
  refine hK.out _ _ ?_ (fun hHeld => ?_)
  ·exact hHeld
  clear hK K
  try simp only [Act.put, List.setIfInBounds_toArray, List.set_cons_zero, List.set_cons_succ]
  refine wpAnyH_ready (rs := [8]) (by kernel_rfl) (by simp) ?_
  refine AllReadyH.cons rfl (fun K hK => ?_) AllReadyH.nil
  go_simp
  refine (down_c p mb _ sq us f6 j z _ (HR6.out.made ((Turns.refl (fun _ => False) w6).drew)) HJ.out HU6.out (by rw [upd_self HFJ.out]; exact HP6.out) (by have := HL6.out; omega)).mono ?_
  rintro e w7 ⟨⟨v7, rfl⟩, ⟨f7, hraw7, hpos7⟩, ht7⟩
  go_wp2_with fail
  refine hK.out _ _ ?_ (fun hHeld => ?_)
  ·exact ⟨hraw7.blk, hF10.out.turns (((Turns.refl (fun _ => False) w6).drew.mono (S' := fun k => k = p ∨ k = mb ∨ k = g) (fun _ _ h => h.elim)).then ht7 (fun b _ h => own3 h)) (by omega)⟩
  clear hK K
  try simp only [Act.put, List.setIfInBounds_toArray, List.set_cons_zero, List.set_cons_succ]
  refine wpAnyH_done (by kernel_rfl) ?_ _
  have ht7' : Turns (fun k => k = p ∨ k = mb ∨ k = g) w6 w7 := ((Turns.refl (fun _ => False) w6).drew.mono (S' := fun k => k = p ∨ k = mb ∨ k = g) (fun _ _ h => h.elim)).then ht7 (fun b _ h => by
   rcases h with h | h
   ·simp only [Value.ownBlock, Option.some.injEq] at h; exact .inr (.inr h.symm)
   ·exact .inr (.inl h))
  have HT7 := Lib.hid (((HTD.out.then HT5.out (fun b _ h => by
   rcases h with h | h
   ·simp only [Value.ownBlock, Option.some.injEq] at h; exact .inr (.inr h.symm)
   ·exact .inr (.inl h))).then HT6.out (fun b _ h => by
   rcases h with h | h
   ·simp only [Value.ownBlock, Option.some.injEq] at h; exact .inr (.inr h.symm)
   ·exact .inr (.inl h))).then ht7' (fun _ _ h => h))
  have HG4 := Lib.hid (hF4.out.turns ht7' (by omega))
  have HG6 := Lib.hid (hF6.out.turns ht7' (by omega))
  have HR7 := Lib.hid hraw7
  have HP7 := Lib.hid hpos7
  clear hHeld hraw7 hpos7 ht7 ht7'
  try clear hHeld
  have b0 := HG4.out.cell 0
  have b1 := HG4.out.cell 1
  have b2 := HG4.out.cell 2
  have g0 := HG4.out.free 0
  have g1 := HG4.out.free 1
  have g2 := HG4.out.free 2
  have k0 := HG6.out.cell 0
  have k1 := HG6.out.cell 1
  have k2 := HG6.out.cell 2
  simp only [List.getElem?_toArray, List.getElem?_cons_zero, List.getElem?_cons_succ] at b0 b1 b2 k0 k1 k2
  go_wp2_with fail
  refine bodyPost_ret (res_box rfl (HG4.out.put3 _ _ _) rfl rfl) rfl ?_
  have hdp := downL_perm (us.length - j) j us (Nat.le_refl _)
  refine ⟨rfl, _, _, _, HR7.out.turns (set3 _ (w.heap.size)) (by omega) (by omega) (by simp [Value.ownBlock]; omega), HP7.out, downL_heap _ j us (Nat.le_refl _) (List.getElem?_eq_some_iff.1 HJ.out).1 HDN.out, ((hdp.trans HPU.out).cons x).trans HPM.out, rfl, ?_⟩
  refine (HT7.out.mono (fun b _ h => ?_)).then (set3 _ (w.heap.size)) (fun b hb e => by omega)
  rcases h with h | h | h
  ·exact .inl h
  ·exact .inr (.inl h)
  ·exact .inr (.inr (by rw [h]; rfl))
 ·have hkn2 : ¬ (k : Int) < (n : Int) := by omega
  obtain rfl : k = n := by omega
  have hxz : z = x := by have h1 := HK.out; rw [HZ.out] at h1; cases h1; rfl
  subst hxz
  have b0 := HE4'.out.cell 0
  have b1 := HE4'.out.cell 1
  have b2 := HE4'.out.cell 2
  have g0 := HE4'.out.free 0
  have g1 := HE4'.out.free 1
  have g2 := HE4'.out.free 2
  have k0 := HE6'.out.cell 0
  have k1 := HE6'.out.cell 1
  have k2 := HE6'.out.cell 2
  simp only [List.getElem?_toArray, List.getElem?_cons_zero, List.getElem?_cons_succ] at b0 b1 b2 k0 k1 k2
  go_wp2_with fail
  refine bodyPost_ret (res_box rfl (HE4'.out.put3 _ _ _) rfl rfl) rfl ?_
  refine ⟨rfl, _, _, _, HR4.out.turns (set3 _ (w.heap.size)) (by omega) (by omega) (by simp [Value.ownBlock]; omega), ?_, HO.out.cut, ?_, rfl, ?_⟩
  ·have := PosOK.cut_end HU.out HP.out HN.out HZ.out
   rw [HID.out] at this
   exact this
  ·have h1 := cut_end HN.out HZ.out
   have h2 := List.perm_append_comm (l₁ := [z]) (l₂ := ys.dropLast)
   rw [← h1] at h2
   exact h2
  ·refine (HTD.out.mono (fun b _ h => ?_)).then (set3 _ (w.heap.size)) (fun b hb e => by omega)
   rcases h with h | h | h
   ·exact .inl h
   ·exact .inr (.inl h)
   ·exact .inr (.inr (by rw [h]; rfl))
end Go.Proofs.YtjnkphhlkoapbaaGreat
namespace Go.Proofs.YtjnkphhlkoapbaaGreat
open Go.RowKit
set_option linter.unusedVariables false
set_option linter.unusedSimpArgs false
theorem wyes_c (x : Wt) (w : World) : Calls Tryz.prog 190 #[.agg #[.int .i64 x.task, .int .i64 x.kase, .int .i64 x.val]] w fun e w' => e = .returned (.bool true) ∧ Made w w' := by
 go_enter Tryz.func190, Tryz.ntmps190
 go_wp2_with fail
 go_ret
 first
 | exact ⟨rfl, Turns.refl _ _⟩
 | exact ⟨rfl, (Turns.refl _ _).alloc _⟩
theorem res_boxW {fn : Func} {p u : Tmp} (hr : fn.results = #[.cell p 245, .tmp u]) {tmps : Array Value} {w : World} {g : Nat} {a b c v : Value} (hb : Blk w g 245 #[a, b, c]) (hp : tmps.getD p undef = .pointer (some ⟨g, 0, none⟩)) (hv : tmps.getD u undef = v) :
  (results fn tmps).run Tryz.prog w = .ok (.tuple #[.agg #[a, b, c], v]) w := by
 have c0 := hb.cell 0
 have c1 := hb.cell 1
 have c2 := hb.cell 2
 simp only [List.getElem?_toArray, List.getElem?_cons_zero, List.getElem?_cons_succ] at c0 c1 c2
 rw [results_cell_tmp hr, hp, hv]
 go_simp
set_option maxHeartbeats 4000000 in
theorem wtake_nil {w : World} {p : Nat} {F : Nat → Prop} (h : QAt w p F []) :
  Calls Tryz.prog 189 #[.pointer (some ⟨p, 0, none⟩), .func (.func 190) #[] #[]] w fun e w' => e = .returned (.tuple #[.agg #[.int .i64 0, .int .i64 0, .int .i64 0], .bool false]) ∧ Made w w' := by
 obtain ⟨bs, hq, hf⟩ := h
 have h0 : bs = [] := List.length_eq_zero_iff.1 hq.len
 subst h0
 have q0 := (hq.blk.alloc (.cells #[.int .i64 0, .int .i64 0, .int .i64 0] 245)).cell 0
 simp only [List.getElem?_toArray, List.getElem?_cons_zero, List.getElem?_cons_succ, pt, Option.map, List.getElem?_nil] at q0
 go_enter Tryz.func189, Tryz.ntmps189
 go_wp2_with fail
 have HM := Lib.hid ((Turns.refl (fun _ => False) w).alloc (.cells #[.int .i64 0, .int .i64 0, .int .i64 0] 245))
 have HB := Lib.hid (Blk.new w 245 #[.int .i64 0, .int .i64 0, .int .i64 0])
 generalize w.alloc (.cells #[.int .i64 0, .int .i64 0, .int .i64 0] 245) = W at *
 have g0 := HB.out.free 0
 have g1 := HB.out.free 1
 have g2 := HB.out.free 2
 have z0 := HB.out.cell 0
 have z1 := HB.out.cell 1
 have z2 := HB.out.cell 2
 simp only [List.getElem?_toArray, List.getElem?_cons_zero, List.getElem?_cons_succ] at z0 z1 z2
 go_loopw [5, 6] (fun v5 v6 wr => v5 = .bool false ∧ v6 = .pointer none ∧ wr = W) (fun v5 v6 _ => 0)
 case atStart => exact ⟨rfl, rfl, rfl⟩
 case round =>
  obtain ⟨rfl, rfl, rfl⟩ := hrel
  go_wp2_with fail
  first
  | (refine bodyPost_ret (res_boxW rfl (HB.out.put3 _ _ _) rfl rfl) rfl ?_; exact ⟨rfl, HM.out.then (set3 _ _) (fun k hk (e : k = w.heap.size) => by omega)⟩)
  | (refine bodyPost_ret (res_boxW rfl HB.out rfl rfl) rfl ?_; exact ⟨rfl, HM.out⟩)
set_option maxHeartbeats 4000000 in
theorem wtake_c {w : World} {p : Nat} {F : Nat → Prop} {x : Wt} {l : List Wt} (h : QAt w p F (x :: l)) (hlen : l.length ≤ 1000000) :
  Calls Tryz.prog 189 #[.pointer (some ⟨p, 0, none⟩), .func (.func 190) #[] #[]] w fun e w' => e = .returned (.tuple #[.agg #[.int .i64 x.task, .int .i64 x.kase, .int .i64 x.val], .bool true]) ∧ ∃ F', QAt w' p F' l ∧ Stp w w' F F' := by
 obtain ⟨bs, hq, hf⟩ := h
 obtain ⟨b, bs, rfl⟩ : ∃ b bs', bs = b :: bs' := by
  cases bs with
  | nil => have := hq.len; simp at this
  | cons b bs => exact ⟨b, bs, rfl⟩
 have q0 := (hq.blk.alloc (.cells #[.int .i64 0, .int .i64 0, .int .i64 0] 245)).cell 0
 have HQ := Lib.hid hq
 simp only [List.getElem?_toArray, List.getElem?_cons_zero, List.getElem?_cons_succ, pt, Option.map] at q0
 clear hq
 go_enter Tryz.func189, Tryz.ntmps189
 go_wp2_with fail
 have HM := Lib.hid ((Turns.refl (fun _ => False) w).alloc (.cells #[.int .i64 0, .int .i64 0, .int .i64 0] 245))
 have HR := Lib.hid (Blk.new w 245 #[.int .i64 0, .int .i64 0, .int .i64 0])
 have hrb : ∀ k ∈ b :: bs, k < w.heap.size := HQ.out.lt
 have hrp := HQ.out.blk.lt
 have HQ1 := Lib.hid (HQ.out.turns HM.out (fun h => h) (fun _ _ h => h))
 generalize w.alloc (.cells #[.int .i64 0, .int .i64 0, .int .i64 0] 245) = W at *
 clear q0
 go_loopw [6] (fun v6 wr => v6 = .pointer (some ⟨b, 0, none⟩) ∧ wr = W) (fun v6 _ => 0)
 case atStart => exact ⟨rfl, rfl⟩
 case round =>
  obtain ⟨rfl, rfl⟩ := hrel
  have HB := HQ1.out.node 0 b x rfl rfl
  have n0 := HB.cell 0
  have n1 := HB.cell 1
  have n2 := HB.cell 2
  simp only [List.getElem?_toArray, List.getElem?_cons_zero, List.getElem?_cons_succ] at n0 n1 n2
  go_wp2_with fail
  refine (wyes_c x _).mono ?_
  rintro e w2 ⟨rfl, hm⟩
  have HQ2 := Lib.hid (HQ1.out.turns hm (fun h => h) (fun _ _ h => h))
  have HM2 := Lib.hid (HM.out.trans hm)
  have HR2 := Lib.hid (HR.out.turns hm (fun h => h))
  clear hm n0 n1 n2 HB
  go_wp2_with fail
  refine (wdrop_c HQ2.out hlen).mono ?_
  rintro e w3 ⟨rfl, hq3, ht3⟩
  have hbn : ¬ (b = p ∨ b ∈ bs) := by
   rintro (h | h)
   ·exact HQ2.out.np (by rw [← h]; exact List.mem_cons_self ..)
   ·exact (List.nodup_cons.1 HQ2.out.nd).1 h
  have hrn : ¬ (w.heap.size = p ∨ w.heap.size ∈ bs) := by
   rintro (h | h)
   ·omega
   ·have := hrb _ (List.mem_cons_of_mem _ h); omega
  have HB := (HQ2.out.node 0 b x rfl rfl).turns ht3 hbn
  have HR3 := HR2.out.turns ht3 hrn
  have n0 := HB.cell 0
  have n1 := HB.cell 1
  have n2 := HB.cell 2
  have r0 := HR3.cell 0
  have r1 := HR3.cell 1
  have r2 := HR3.cell 2
  have g0 := HR3.free 0
  have g1 := HR3.free 1
  have g2 := HR3.free 2
  simp only [List.getElem?_toArray, List.getElem?_cons_zero, List.getElem?_cons_succ] at n0 n1 n2 r0 r1 r2
  have HQ3 := Lib.hid hq3
  have HT3 := Lib.hid ((HM2.out.mono (S' := F) (fun _ _ h => h.elim)).then ht3 (fun k _ h => (hf k).2 (h.elim Or.inl (fun h => Or.inr (List.mem_cons_of_mem _ h)))))
  clear hq3 ht3
  go_wp2_with fail
  refine bodyPost_ret (res_boxW rfl (HR3.put3 _ _ _) rfl rfl) rfl ?_
  refine ⟨rfl, fun k => k = p ∨ k ∈ bs, ⟨bs, HQ3.out.turns (set3 _ _) (fun e => by omega) (fun k hk e => by have := hrb k (List.mem_cons_of_mem _ hk); omega), fun k => Iff.rfl⟩, HT3.out.then (set3 _ _) (fun k hk e => by subst e; omega), fun k hk => .inl ((hf k).2 (hk.elim Or.inl (fun h => Or.inr (List.mem_cons_of_mem _ h))))⟩
theorem wpop_nil {w : World} {p : Nat} {F : Nat → Prop} (h : QAt w p F []) :
  Calls Tryz.prog 154 #[.pointer (some ⟨p, 0, none⟩)] w fun e w' => e = .returned (.tuple #[.agg #[.int .i64 0, .int .i64 0, .int .i64 0], .bool false]) ∧ Made w w' := by
 have HM := Lib.hid ((Turns.refl (fun _ => False) w).alloc (.cells #[.int .i64 0, .int .i64 0, .int .i64 0] 245))
 have HR := Lib.hid (Blk.new w 245 #[.int .i64 0, .int .i64 0, .int .i64 0])
 have HT := Lib.hid (wtake_nil (h.made HM.out))
 clear h
 go_enter Tryz.func154, Tryz.ntmps154
 go_wp2_with fail
 refine HT.out.mono ?_
 rintro e w1 ⟨rfl, hm⟩
 have HR1 := HR.out.turns hm (fun h => h)
 have HM1 := Lib.hid (HM.out.trans hm)
 have r0 := HR1.cell 0
 have r1 := HR1.cell 1
 have r2 := HR1.cell 2
 have g0 := HR1.free 0
 have g1 := HR1.free 1
 have g2 := HR1.free 2
 simp only [List.getElem?_toArray, List.getElem?_cons_zero, List.getElem?_cons_succ] at r0 r1 r2
 clear hm
 go_wp2_with fail
 refine bodyPost_ret (res_boxW rfl (HR1.put3 _ _ _) rfl rfl) rfl ?_
 exact ⟨rfl, HM1.out.then (set3 _ _) (fun k hk (e : k = w.heap.size) => by omega)⟩
set_option maxHeartbeats 2000000 in
theorem wpop_c {w : World} {p : Nat} {F : Nat → Prop} {x : Wt} {l : List Wt} (h : QAt w p F (x :: l)) (hlen : l.length ≤ 1000000) :
  Calls Tryz.prog 154 #[.pointer (some ⟨p, 0, none⟩)] w fun e w' => e = .returned (.tuple #[.agg #[.int .i64 x.task, .int .i64 x.kase, .int .i64 x.val], .bool true]) ∧ ∃ F', QAt w' p F' l ∧ Stp w w' F F' := by
 have HM := Lib.hid ((Turns.refl (fun _ => False) w).alloc (.cells #[.int .i64 0, .int .i64 0, .int .i64 0] 245))
 have HR := Lib.hid (Blk.new w 245 #[.int .i64 0, .int .i64 0, .int .i64 0])
 have HT := Lib.hid (wtake_c (h.made HM.out) hlen)
 have hfb := h.fb
 clear h
 go_enter Tryz.func154, Tryz.ntmps154
 go_wp2_with fail
 refine HT.out.mono ?_
 rintro e w1 ⟨rfl, F', hq, hs⟩
 have hrF : ¬ F w.heap.size := fun hk => by have := hfb _ hk; omega
 have HR1 := HR.out.turns hs.t hrF
 have hrF' : ∀ k, F' k → k ≠ w.heap.size := fun k hk e => by
  subst e
  rcases hs.f _ hk with h1 | h1
  ·exact hrF h1
  ·have := HR.out.lt; omega
 have HS := Lib.hid ((Stp.made (F := F) HM.out).trans hs)
 have HQ := Lib.hid hq
 have r0 := HR1.cell 0
 have r1 := HR1.cell 1
 have r2 := HR1.cell 2
 have g0 := HR1.free 0
 have g1 := HR1.free 1
 have g2 := HR1.free 2
 simp only [List.getElem?_toArray, List.getElem?_cons_zero, List.getElem?_cons_succ] at r0 r1 r2
 clear hs hq
 go_wp2_with fail
 refine bodyPost_ret (res_boxW rfl (HR1.put3 _ _ _) rfl rfl) rfl ?_
 exact ⟨rfl, F', HQ.out.turns (set3 _ _) (fun k hk (e : k = w.heap.size) => hrF' k hk e), HS.out.t.then (set3 _ _) (fun k hk (e : k = w.heap.size) => by omega), HS.out.f⟩
end Go.Proofs.YtjnkphhlkoapbaaGreat
namespace Go.Proofs.YtjnkphhlkoapbaaGreat
open Go.RowKit
set_option linter.unusedVariables false
set_option linter.unusedSimpArgs false
structure Chn where
 timed : Bool
 signal : Bool
 closed : Bool
 room : Bool
 val : Option Int
 recvs : List Wt
structure ChIn (w : World) (p r q1 q2 : Nat) (lb : Nat → Nat) (c : Chn) : Prop where
 blk : Blk w p 194 #[.pointer (some ⟨r, 0, none⟩), .pointer (some ⟨q1, 0, none⟩), .pointer (some ⟨q2, 0, none⟩), .bool c.timed, .bool c.signal, .bool c.closed]
 lp : lb p = 1
 ring : RIn w r (fun k => lb k = 2) c.room c.val
 qr : QAt w q1 (fun k => lb k = 3) c.recvs
 qs : QAt w q2 (fun k => lb k = 4) []
def ChAt (w : World) (p : Nat) (F : Nat → Prop) (c : Chn) : Prop := ∃ r q1 q2 lb, ChIn w p r q1 q2 lb c ∧ Lab w lb F
theorem ChIn.turns {S : Nat → Prop} {w w' : World} {p r q1 q2 : Nat} {lb : Nat → Nat} {c : Chn} (h : ChIn w p r q1 q2 lb c) (ht : Turns S w w') (hn : ∀ k, lb k ≠ 0 → ¬ S k) : ChIn w' p r q1 q2 lb c :=
 ⟨h.blk.turns ht (hn p (by rw [h.lp]; omega)), h.lp, h.ring.turns ht (fun k hk => hn k (by rw [hk]; omega)), h.qr.turns ht (fun k hk => hn k (by rw [hk]; omega)), h.qs.turns ht (fun k hk => hn k (by rw [hk]; omega))⟩
theorem ChIn.made {w w' : World} {p r q1 q2 : Nat} {lb : Nat → Nat} {c : Chn} (h : ChIn w p r q1 q2 lb c) (ht : Made w w') : ChIn w' p r q1 q2 lb c := h.turns ht (fun _ _ h => h)
theorem ChAt.turns {S : Nat → Prop} {w w' : World} {p : Nat} {F : Nat → Prop} {c : Chn} (h : ChAt w p F c) (ht : Turns S w w') (hn : ∀ k, F k → ¬ S k) : ChAt w' p F c := by
 obtain ⟨r, q1, q2, lb, h, hl⟩ := h
 exact ⟨r, q1, q2, lb, h.turns ht (fun k hk => hn k ((hl.on k).2 hk)), hl.turns ht⟩
theorem ChAt.made {w w' : World} {p : Nat} {F : Nat → Prop} {c : Chn} (h : ChAt w p F c) (ht : Made w w') : ChAt w' p F c := h.turns ht (fun _ _ h => h)
theorem ChAt.fb {w : World} {p : Nat} {F : Nat → Prop} {c : Chn} (h : ChAt w p F c) : ∀ k, F k → k < w.heap.size := by
 obtain ⟨r, q1, q2, lb, h, hl⟩ := h
 exact fun k hk => hl.lt k ((hl.on k).1 hk)
theorem ChAt.self {w : World} {p : Nat} {F : Nat → Prop} {c : Chn} (h : ChAt w p F c) : F p := by
 obtain ⟨r, q1, q2, lb, h, hl⟩ := h
 exact (hl.on p).2 (by rw [h.lp]; omega)
theorem ChIn.setRing {w w' : World} {p r q1 q2 : Nat} {lb : Nat → Nat} {F : Nat → Prop} {t s cl rm : Bool} {v v' : Option Int} {l : List Wt} (h : ChIn w p r q1 q2 lb ⟨t, s, cl, rm, v, l⟩) (hl : Lab w lb F) (hr : RIn w' r (fun k => lb k = 2) rm v') (ht : Turns (fun k => lb k = 2) w w') : ChIn w' p r q1 q2 lb ⟨t, s, cl, rm, v', l⟩ ∧ Lab w' lb F ∧ Turns F w w' :=
 ⟨⟨h.blk.turns ht (by rw [h.lp]; omega), h.lp, hr, h.qr.turns ht (fun k hk => by rw [hk]; omega), h.qs.turns ht (fun k hk => by rw [hk]; omega)⟩, hl.turns ht, ht.mono (fun k _ hk => (hl.on k).2 (by rw [hk]; omega))⟩
theorem ChIn.setQr {w w' : World} {p r q1 q2 : Nat} {lb : Nat → Nat} {F F' : Nat → Prop} {t s cl rm : Bool} {v : Option Int} {l l' : List Wt} (h : ChIn w p r q1 q2 lb ⟨t, s, cl, rm, v, l⟩) (hl : Lab w lb F) (hq : QAt w' q1 F' l') (hs : Stp w w' (fun k => lb k = 3) F') : ∃ lb' FF, ChIn w' p r q1 q2 lb' ⟨t, s, cl, rm, v, l'⟩ ∧ Lab w' lb' FF ∧ Stp w w' F FF := by
 obtain ⟨lb', FF, hl', e3, hne, hst⟩ := hl.step 3 (by omega) hs hq.fb
 refine ⟨lb', FF, ⟨h.blk.turns hs.t (by rw [h.lp]; omega), lab_is (hne 1 (by omega) (by omega)) h.lp, ?_, by rw [e3]; exact hq, ?_⟩, hl', hst⟩
 ·rw [hne 2 (by omega) (by omega)]
  exact h.ring.turns hs.t (fun k hk => by rw [hk]; omega)
 ·rw [hne 4 (by omega) (by omega)]
  exact h.qs.turns hs.t (fun k hk => by rw [hk]; omega)
theorem ch_new {w w1 w2 w3 : World} {r q1 q2 : Nat} {Fr F1 F2 : Nat → Prop} {rm : Bool} (hr : RIn w1 r Fr rm none) (m1 : Made w w1) (f1 : ∀ k, Fr k → w.heap.size ≤ k) (h1 : QAt w2 q1 F1 []) (m2 : Made w1 w2) (f2 : ∀ k, F1 k → w1.heap.size ≤ k) (h2 : QAt w3 q2 F2 []) (m3 : Made w2 w3) (f3 : ∀ k, F2 k → w2.heap.size ≤ k) :
  ∃ lb F, ChIn (w3.alloc (.cells #[.pointer (some ⟨r, 0, none⟩), .pointer (some ⟨q1, 0, none⟩), .pointer (some ⟨q2, 0, none⟩), .bool false, .bool false, .bool false] 194)) w3.heap.size r q1 q2 lb ⟨false, false, false, rm, none, []⟩ ∧ Lab (w3.alloc (.cells #[.pointer (some ⟨r, 0, none⟩), .pointer (some ⟨q1, 0, none⟩), .pointer (some ⟨q2, 0, none⟩), .bool false, .bool false, .bool false] 194)) lb F ∧ Made w (w3.alloc (.cells #[.pointer (some ⟨r, 0, none⟩), .pointer (some ⟨q1, 0, none⟩), .pointer (some ⟨q2, 0, none⟩), .bool false, .bool false, .bool false] 194)) ∧ ∀ k, F k → w.heap.size ≤ k := by
 have s1 := m1.size
 have s2 := m2.size
 have s3 := m3.size
 have m4 := (Turns.refl (fun _ => False) w3).alloc (.cells #[.pointer (some ⟨r, 0, none⟩), .pointer (some ⟨q1, 0, none⟩), .pointer (some ⟨q2, 0, none⟩), .bool false, .bool false, .bool false] 194)
 obtain ⟨l1, hl1, e1, n1⟩ := (Lab.nil w).add (w' := w1) 2 (by omega) m1.size hr.fb (fun _ _ h => h) (fun _ => by omega)
 obtain ⟨l2, hl2, e2, n2⟩ := hl1.add (w' := w2) 3 (by omega) m2.size h1.fb (fun k hk h => by
  have := f2 k hk
  have := hl1.lt k ((hl1.on k).1 h)
  omega) (lab_no (n1 3 (by omega) (by omega)) (fun _ => by omega))
 obtain ⟨l3, hl3, e3, n3⟩ := hl2.add (w' := w3) 4 (by omega) m3.size h2.fb (fun k hk h => by
  have := f3 k hk
  have := hl2.lt k ((hl2.on k).1 h)
  omega) (lab_no (n2 4 (by omega) (by omega)) (lab_no (n1 4 (by omega) (by omega)) (fun _ => by omega)))
 obtain ⟨l4, hl4, e4, n4⟩ := hl3.add (w' := w3.alloc (.cells #[.pointer (some ⟨r, 0, none⟩), .pointer (some ⟨q1, 0, none⟩), .pointer (some ⟨q2, 0, none⟩), .bool false, .bool false, .bool false] 194)) 1 (by omega) m4.size (G := fun k => k = w3.heap.size) (fun k hk => by simp; omega) (fun k hk h => by
  have := hl3.lt k ((hl3.on k).1 h)
  omega) (lab_no (n3 1 (by omega) (by omega)) (lab_no (n2 1 (by omega) (by omega)) (lab_no (n1 1 (by omega) (by omega)) (fun _ => by omega))))
 refine ⟨l4, _, ⟨Blk.new w3 _ _, ?_, ?_, ?_, ?_⟩, hl4, (((m1.trans m2).trans m3).trans m4), fun k hk => ?_⟩
 ·have := congrFun e4 w3.heap.size
  simpa using this
 ·rw [n4 2 (by omega) (by omega), n3 2 (by omega) (by omega), n2 2 (by omega) (by omega), e1]
  exact ((hr.made m2).made m3).made m4
 ·rw [n4 3 (by omega) (by omega), n3 3 (by omega) (by omega), e2]
  exact (h1.made m3).made m4
 ·rw [n4 4 (by omega) (by omega), e3]
  exact h2.made m4
 ·rcases hk with ((((hk | hk) | hk) | hk) | hk)
  ·exact hk.elim
  ·exact f1 k hk
  ·have := f2 k hk; omega
  ·have := f3 k hk; omega
  ·omega
theorem chnew0_c (w : World) : Calls Tryz.prog 121 #[.int .i64 0] w fun e w' => ∃ p r q1 q2 lb F, e = .returned (.tuple #[.pointer (some ⟨p, 0, none⟩), .int .i64 0]) ∧ ChIn w' p r q1 q2 lb ⟨false, false, false, false, none, []⟩ ∧ Lab w' lb F ∧ Made w w' ∧ ∀ k, F k → w.heap.size ≤ k := by
 go_enter Tryz.func121, Tryz.ntmps121
 go_wp2_with fail
 refine (rgnew0_c w).mono ?_
 rintro e w1 ⟨r, Fr, rfl, hr, m1, f1⟩
 have H1 := Lib.hid (And.intro hr (And.intro m1 f1))
 clear hr m1 f1
 go_wp2_with fail
 refine (wnew_c w1).mono ?_
 rintro e w2 ⟨q1, rfl, h1, m2, f2⟩
 have H2 := Lib.hid (And.intro h1 (And.intro m2 f2))
 clear h1 m2 f2
 go_wp2_with fail
 refine (wnew_c w2).mono ?_
 rintro e w3 ⟨q2, rfl, h2, m3, f3⟩
 have H3 := Lib.hid (And.intro h2 (And.intro m3 f3))
 clear h2 m3 f3
 go_wp2_with fail
 go_ret2
 obtain ⟨lb, F, h4, h5, h6, h7⟩ := ch_new H1.out.1 H1.out.2.1 H1.out.2.2 H2.out.1 H2.out.2.1 (fun k hk => by have := H2.out.2.2; omega) H3.out.1 H3.out.2.1 (fun k hk => by have := H3.out.2.2; omega)
 exact ⟨_, r, q1, q2, lb, F, rfl, h4, h5, h6, h7⟩
theorem chnew1_c (w : World) : Calls Tryz.prog 121 #[.int .i64 1] w fun e w' => ∃ p r q1 q2 lb F, e = .returned (.tuple #[.pointer (some ⟨p, 0, none⟩), .int .i64 0]) ∧ ChIn w' p r q1 q2 lb ⟨false, false, false, true, none, []⟩ ∧ Lab w' lb F ∧ Made w w' ∧ ∀ k, F k → w.heap.size ≤ k := by
 go_enter Tryz.func121, Tryz.ntmps121
 go_wp2_with fail
 refine (rgnew1_c w).mono ?_
 rintro e w1 ⟨r, Fr, rfl, hr, m1, f1⟩
 have H1 := Lib.hid (And.intro hr (And.intro m1 f1))
 clear hr m1 f1
 go_wp2_with fail
 refine (wnew_c w1).mono ?_
 rintro e w2 ⟨q1, rfl, h1, m2, f2⟩
 have H2 := Lib.hid (And.intro h1 (And.intro m2 f2))
 clear h1 m2 f2
 go_wp2_with fail
 refine (wnew_c w2).mono ?_
 rintro e w3 ⟨q2, rfl, h2, m3, f3⟩
 have H3 := Lib.hid (And.intro h2 (And.intro m3 f3))
 clear h2 m3 f3
 go_wp2_with fail
 go_ret2
 obtain ⟨lb, F, h4, h5, h6, h7⟩ := ch_new H1.out.1 H1.out.2.1 H1.out.2.2 H2.out.1 H2.out.2.1 (fun k hk => by have := H2.out.2.2; omega) H3.out.1 H3.out.2.1 (fun k hk => by have := H3.out.2.2; omega)
 exact ⟨_, r, q1, q2, lb, F, rfl, h4, h5, h6, h7⟩
theorem chtimed_c (w : World) : Calls Tryz.prog 202 #[] w fun e w' => ∃ p F, e = .returned (.pointer (some ⟨p, 0, none⟩)) ∧ ChAt w' p F ⟨true, false, false, true, none, []⟩ ∧ Made w w' ∧ ∀ k, F k → w.heap.size ≤ k := by
 go_enter Tryz.func202, Tryz.ntmps202
 go_wp2_with fail
 refine (chnew1_c w).mono ?_
 rintro e w1 ⟨p, r, q1, q2, lb, F, rfl, h1, h2, h3, h4⟩
 have c3 := h1.blk.cell 3
 have f3 := h1.blk.free 3
 simp only [List.getElem?_toArray, List.getElem?_cons_zero, List.getElem?_cons_succ] at c3
 have HC := Lib.hid h1
 have HL := Lib.hid h2
 have HM := Lib.hid h3
 have HF := Lib.hid h4
 clear h1 h2 h3 h4
 go_wp2_with fail
 go_ret
 have hlp := HC.out.lp
 have ht := set1 w1 p 3 (.bool true)
 have hn : ∀ k, lb k = 2 ∨ lb k = 3 ∨ lb k = 4 → ¬ k = p := fun k hk e => by rw [e, hlp] at hk; omega
 refine ⟨p, F, rfl, ⟨r, q1, q2, lb, ⟨by simpa using HC.out.blk.put 3 (.bool true), hlp, HC.out.ring.turns ht (fun k hk => hn k (.inl hk)), HC.out.qr.turns ht (fun k hk => hn k (.inr (.inl hk))), HC.out.qs.turns ht (fun k hk => hn k (.inr (.inr hk)))⟩, HL.out.turns ht⟩, HM.out.then ht (fun k hk e => ?_), HF.out⟩
 have := HF.out p ((HL.out.on p).2 (by rw [hlp]; omega))
 omega
theorem chmute_c {w : World} {p : Nat} {F : Nat → Prop} {t s cl rm : Bool} {v : Option Int} {l : List Wt} (h : ChAt w p F ⟨t, s, cl, rm, v, l⟩) :
  Calls Tryz.prog 172 #[.pointer (some ⟨p, 0, none⟩)] w fun e w' => e = .returned (.bool (t || s)) ∧ w = w' := by
 obtain ⟨r, q1, q2, lb, h, hl⟩ := h
 have c3 := h.blk.cell 3
 have c4 := h.blk.cell 4
 simp only [List.getElem?_toArray, List.getElem?_cons_zero, List.getElem?_cons_succ] at c3 c4
 clear h hl
 cases t
 all_goals
  cases s
  all_goals
   go_enter Tryz.func172, Tryz.ntmps172
   go_wp2_with fail
   go_ret
   exact ⟨rfl, rfl⟩
theorem chqueue_s {w : World} {p r q1 q2 : Nat} {lb : Nat → Nat} {c : Chn} (h : ChIn w p r q1 q2 lb c) :
  Calls Tryz.prog 192 #[.pointer (some ⟨p, 0, none⟩), .bool true] w fun e w' => e = .returned (.pointer (some ⟨q2, 0, none⟩)) ∧ w = w' := by
 have c2 := h.blk.cell 2
 simp only [List.getElem?_toArray, List.getElem?_cons_zero, List.getElem?_cons_succ] at c2
 clear h
 go_enter Tryz.func192, Tryz.ntmps192
 go_wp2_with fail
 go_ret
 exact ⟨rfl, rfl⟩
theorem chqueue_r {w : World} {p r q1 q2 : Nat} {lb : Nat → Nat} {c : Chn} (h : ChIn w p r q1 q2 lb c) :
  Calls Tryz.prog 192 #[.pointer (some ⟨p, 0, none⟩), .bool false] w fun e w' => e = .returned (.pointer (some ⟨q1, 0, none⟩)) ∧ w = w' := by
 have c1 := h.blk.cell 1
 simp only [List.getElem?_toArray, List.getElem?_cons_zero, List.getElem?_cons_succ] at c1
 clear h
 go_enter Tryz.func192, Tryz.ntmps192
 go_wp2_with fail
 go_ret
 exact ⟨rfl, rfl⟩
theorem wall_nil {w : World} {p : Nat} {F : Nat → Prop} (h : QAt w p F []) :
  Calls Tryz.prog 210 #[.pointer (some ⟨p, 0, none⟩)] w fun e w' => e = .returned (.slice none 0 0) ∧ w = w' := by
 obtain ⟨bs, hq, hf⟩ := h
 have h0 : bs = [] := List.length_eq_zero_iff.1 hq.len
 subst h0
 have q0 := hq.blk.cell 0
 simp only [List.getElem?_toArray, List.getElem?_cons_zero, List.getElem?_cons_succ, pt, Option.map, List.getElem?_nil] at q0
 clear hq hf
 go_enter Tryz.func210, Tryz.ntmps210
 go_wp2_with fail
 refine wp_loop_rounds 1 ?_
 rw [rounds_succ]
 go_wp2_with fail
 go_ret
 exact ⟨rfl, rfl⟩
theorem chwaiting_s {w : World} {p r q1 q2 : Nat} {lb : Nat → Nat} {c : Chn} (h : ChIn w p r q1 q2 lb c) :
  Calls Tryz.prog 198 #[.pointer (some ⟨p, 0, none⟩), .bool true] w fun e w' => e = .returned (.slice none 0 0) ∧ w = w' := by
 have H := Lib.hid (chqueue_s h)
 have H2 := Lib.hid (wall_nil h.qs)
 clear h
 go_enter Tryz.func198, Tryz.ntmps198
 go_wp2_with fail
 refine H.out.mono ?_
 rintro e w1 ⟨rfl, rfl⟩
 go_wp2_with fail
 refine H2.out.mono ?_
 rintro e w1 ⟨rfl, rfl⟩
 go_wp2_with fail
 go_ret
 exact ⟨rfl, rfl⟩
theorem chfree_r {w : World} {p r q1 q2 : Nat} {lb : Nat → Nat} {t s cl rm : Bool} {l : List Wt} (h : ChIn w p r q1 q2 lb ⟨t, s, cl, rm, none, l⟩) :
  Calls Tryz.prog 196 #[.pointer (some ⟨p, 0, none⟩), .bool false] w fun e w' => e = .returned (.bool false) ∧ w = w' := by
 have c0 := h.blk.cell 0
 simp only [List.getElem?_toArray, List.getElem?_cons_zero, List.getElem?_cons_succ] at c0
 have H := Lib.hid (rglen_c h.ring)
 clear h
 go_enter Tryz.func196, Tryz.ntmps196
 go_wp2_with fail
 refine H.out.mono ?_
 rintro e w1 ⟨rfl, rfl⟩
 go_wp2_with fail
 go_ret
 exact ⟨rfl, rfl⟩
end Go.Proofs.YtjnkphhlkoapbaaGreat
namespace Go.Proofs.YtjnkphhlkoapbaaGreat
open Go.RowKit
set_option linter.unusedVariables false
set_option linter.unusedSimpArgs false
structure Wk where
 task : Int
 kase : Int
 val : Int
 ok : Bool
 panic : Bool
def wkC (x : Wk) : List Value := [.int .i64 x.task, .int .i64 x.kase, .int .i64 x.val, .bool x.ok, .bool x.panic]
def WkRow (w w' : World) (F : Nat → Prop) (a : Option Addr) (l : List Wk) : Prop := RowIn wkC 5 w' a l.length l ∧ ∀ b off, a = some ⟨b, off, none⟩ → w.heap.size ≤ b ∧ ¬ F b
theorem WkRow.nil (w w' : World) (F : Nat → Prop) : WkRow w w' F none [] := ⟨⟨rfl, .inl (Nat.le_refl _)⟩, fun b off e => by cases e⟩
theorem wkRow_one {w w' : World} {F : Nat → Prop} {b : Nat} {t : TypeId} {x : Wk} (h : Blk w' b t (wkC x).toArray) (hb : w.heap.size ≤ b) (hn : ¬ F b) : WkRow w w' F (some ⟨b, 0, none⟩) [x] := by
 refine ⟨⟨rfl, .inr ⟨b, 0, rfl, h.lt, fun k z hz j v hv => ?_⟩⟩, fun b' off e => ?_⟩
 ·have hk : k = 0 := by
   have := (List.getElem?_eq_some_iff.1 hz).1
   simp at this
   omega
  subst hk
  simp only [List.getElem?_cons_zero, Option.some.injEq] at hz
  subst hz
  have := h.cell (0 + 0 * 5 + j)
  rw [this]
  simpa using hv
 ·simp only [Option.some.injEq, Addr.mk.injEq, and_true] at e
  rw [← e.1]
  exact ⟨hb, hn⟩
theorem chdeliver_0 {w : World} {p r q1 q2 : Nat} {lb : Nat → Nat} {t s cl rm : Bool} {v0 : Option Int} (v : Int) (h : ChIn w p r q1 q2 lb ⟨t, s, cl, rm, v0, []⟩) :
  Calls Tryz.prog 106 #[.pointer (some ⟨p, 0, none⟩), .int .i64 v] w fun e w' => e = .returned (.slice none 0 0) ∧ Made w w' := by
 have c1 := h.blk.cell 1
 simp only [List.getElem?_toArray, List.getElem?_cons_zero, List.getElem?_cons_succ] at c1
 have H := Lib.hid (wpop_nil h.qr)
 clear h
 go_enter Tryz.func106, Tryz.ntmps106
 go_wp2_with fail
 refine H.out.mono ?_
 rintro e w1 ⟨rfl, hm⟩
 have HM := Lib.hid hm
 clear hm
 go_wp2_with fail
 go_ret
 exact ⟨rfl, HM.out.alloc _⟩
theorem chdeliver_1 {w : World} {p r q1 q2 : Nat} {lb : Nat → Nat} {F : Nat → Prop} {t s cl rm : Bool} {v0 : Option Int} {x : Wt} {l : List Wt} (v : Int) (h : ChIn w p r q1 q2 lb ⟨t, s, cl, rm, v0, x :: l⟩) (hl : Lab w lb F) (hn : l.length ≤ 1000) :
  Calls Tryz.prog 106 #[.pointer (some ⟨p, 0, none⟩), .int .i64 v] w fun e w' => ∃ a F' lb', e = .returned (.slice a 1 1) ∧ WkRow w w' F' a [⟨x.task, x.kase, v, true, false⟩] ∧ ChIn w' p r q1 q2 lb' ⟨t, s, cl, rm, v0, l⟩ ∧ Lab w' lb' F' ∧ Stp w w' F F' := by
 have c1 := h.blk.cell 1
 simp only [List.getElem?_toArray, List.getElem?_cons_zero, List.getElem?_cons_succ] at c1
 have H := Lib.hid (wpop_c h.qr (by omega))
 have HC := Lib.hid h
 have HL := Lib.hid hl
 clear h hl
 go_enter Tryz.func106, Tryz.ntmps106
 go_wp2_with fail
 refine H.out.mono ?_
 rintro e w1 ⟨rfl, F1, hq, hs⟩
 obtain ⟨lb', FF, hc', hl', hst⟩ := HC.out.setQr HL.out hq hs
 have HE := Lib.hid (And.intro hc' (And.intro hl' hst))
 clear hq hs hc' hl' hst
 go_wp2_with fail
 go_ret
 obtain ⟨hc', hl', hst⟩ := HE.out
 have hm1 := (Turns.refl (fun _ => False) w1).alloc (.cells #[.int .i64 x.task, .int .i64 x.kase, .int .i64 x.val] 245)
 have hm2 := hm1.alloc (.cells #[.int .i64 x.task, .int .i64 x.kase, .int .i64 v, .bool true, .bool false] 207)
 have hb := Blk.new (w1.alloc (.cells #[.int .i64 x.task, .int .i64 x.kase, .int .i64 x.val] 245)) 207 #[.int .i64 x.task, .int .i64 x.kase, .int .i64 v, .bool true, .bool false]
 rw [World.size_alloc] at hb
 have hsz := hst.t.size
 refine ⟨_, FF, lb', rfl, wkRow_one (x := ⟨x.task, x.kase, v, true, false⟩) hb (by omega) (fun hk => ?_), hc'.made hm2, hl'.turns hm2, hst.then_made hm2⟩
 have := hl'.lt _ ((hl'.on _).1 hk)
 omega
theorem chput_0 {w : World} {p : Nat} {F : Nat → Prop} {s cl : Bool} (v : Int) (h : ChAt w p F ⟨true, s, cl, true, none, []⟩) :
  Calls Tryz.prog 64 #[.pointer (some ⟨p, 0, none⟩), .int .i64 v] w fun e w' => e = .returned (.tuple #[.slice none 0 0, .bool true]) ∧ ChAt w' p F ⟨true, s, cl, true, some v, []⟩ ∧ Turns F w w' := by
 obtain ⟨r, q1, q2, lb, h, hl⟩ := h
 have c3 := h.blk.cell 3
 simp only [List.getElem?_toArray, List.getElem?_cons_zero, List.getElem?_cons_succ] at c3
 have H := Lib.hid (chdeliver_0 v h)
 have HC := Lib.hid h
 have HL := Lib.hid hl
 clear h hl
 go_enter Tryz.func64, Tryz.ntmps64
 go_wp2_with fail
 refine H.out.mono ?_
 rintro e w1 ⟨rfl, hm⟩
 have HC1 := Lib.hid (HC.out.made hm)
 have HM := Lib.hid hm
 have c0 := HC1.out.blk.cell 0
 simp only [List.getElem?_toArray, List.getElem?_cons_zero, List.getElem?_cons_succ] at c0
 have HP := Lib.hid (rgpush_c v HC1.out.ring)
 clear hm c3
 go_wp2_with fail
 refine HP.out.mono ?_
 rintro e w2 ⟨rfl, hr, ht⟩
 have HE := Lib.hid (HC1.out.setRing (HL.out.turns HM.out) hr ht)
 clear hr ht
 go_wp2_with fail
 go_ret2
 exact ⟨rfl, ⟨r, q1, q2, lb, HE.out.1, HE.out.2.1⟩, (HM.out.mono (fun _ _ h => h.elim)).trans HE.out.2.2⟩
theorem chput_w {w : World} {p : Nat} {F : Nat → Prop} {s cl rm : Bool} {v0 : Option Int} {x : Wt} {l : List Wt} (v : Int) (h : ChAt w p F ⟨true, s, cl, rm, v0, x :: l⟩) (hn : l.length ≤ 1000) :
  Calls Tryz.prog 64 #[.pointer (some ⟨p, 0, none⟩), .int .i64 v] w fun e w' => ∃ a F', e = .returned (.tuple #[.slice a 1 1, .bool true]) ∧ WkRow w w' F' a [⟨x.task, x.kase, v, true, false⟩] ∧ ChAt w' p F' ⟨true, s, cl, rm, v0, l⟩ ∧ Stp w w' F F' := by
 obtain ⟨r, q1, q2, lb, h, hl⟩ := h
 have c3 := h.blk.cell 3
 simp only [List.getElem?_toArray, List.getElem?_cons_zero, List.getElem?_cons_succ] at c3
 have H := Lib.hid (chdeliver_1 v h hl hn)
 clear h hl
 go_enter Tryz.func64, Tryz.ntmps64
 go_wp2_with fail
 refine H.out.mono ?_
 rintro e w1 ⟨a, F', lb', rfl, h1, h2, h3, h4⟩
 have HE := Lib.hid (And.intro h1 (And.intro h2 (And.intro h3 h4)))
 clear h1 h2 h3 h4
 go_wp2_with fail
 go_ret2
 exact ⟨a, F', rfl, HE.out.1, ⟨r, q1, q2, lb', HE.out.2.1, HE.out.2.2.1⟩, HE.out.2.2.2⟩
theorem chdrop_0 {w : World} {p : Nat} {F : Nat → Prop} {s cl rm : Bool} {l : List Wt} (h : ChAt w p F ⟨true, s, cl, rm, none, l⟩) :
  Calls Tryz.prog 177 #[.pointer (some ⟨p, 0, none⟩)] w fun e w' => e = .returned (.bool false) ∧ w = w' := by
 obtain ⟨r, q1, q2, lb, h, hl⟩ := h
 have c3 := h.blk.cell 3
 have c0 := h.blk.cell 0
 simp only [List.getElem?_toArray, List.getElem?_cons_zero, List.getElem?_cons_succ] at c0 c3
 have H := Lib.hid (rgclear_none h.ring)
 clear h hl
 go_enter Tryz.func177, Tryz.ntmps177
 go_wp2_with fail
 refine H.out.mono ?_
 rintro e w1 ⟨rfl, rfl⟩
 go_wp2_with fail
 go_ret
 exact ⟨rfl, rfl⟩
theorem chdrop_1 {w : World} {p : Nat} {F : Nat → Prop} {s cl rm : Bool} {v : Int} {l : List Wt} (h : ChAt w p F ⟨true, s, cl, rm, some v, l⟩) :
  Calls Tryz.prog 177 #[.pointer (some ⟨p, 0, none⟩)] w fun e w' => e = .returned (.bool true) ∧ ChAt w' p F ⟨true, s, cl, rm, none, l⟩ ∧ Turns F w w' := by
 obtain ⟨r, q1, q2, lb, h, hl⟩ := h
 have c3 := h.blk.cell 3
 have c0 := h.blk.cell 0
 simp only [List.getElem?_toArray, List.getElem?_cons_zero, List.getElem?_cons_succ] at c0 c3
 have H := Lib.hid (rgclear_some h.ring)
 have HC := Lib.hid h
 have HL := Lib.hid hl
 clear h hl
 go_enter Tryz.func177, Tryz.ntmps177
 go_wp2_with fail
 refine H.out.mono ?_
 rintro e w1 ⟨rfl, hr, ht⟩
 have HE := Lib.hid (HC.out.setRing HL.out hr ht)
 clear hr ht
 go_wp2_with fail
 go_ret
 exact ⟨rfl, ⟨r, q1, q2, lb, HE.out.1, HE.out.2.1⟩, HE.out.2.2⟩
theorem chrecv_0 {w : World} {p : Nat} {F : Nat → Prop} {t s cl rm : Bool} {l : List Wt} (h : ChAt w p F ⟨t, s, cl, rm, none, l⟩) :
  Calls Tryz.prog 166 #[.pointer (some ⟨p, 0, none⟩)] w fun e w' => e = .returned (.tuple #[.int .i64 0, .bool false, .bool cl, .slice none 0 0]) ∧ Made w w' := by
 obtain ⟨r, q1, q2, lb, h, hl⟩ := h
 have c0 := h.blk.cell 0
 have c2 := h.blk.cell 2
 simp only [List.getElem?_toArray, List.getElem?_cons_zero, List.getElem?_cons_succ] at c0 c2
 have H := Lib.hid (rgpop_none h.ring)
 have HQ := Lib.hid (wpop_nil h.qs)
 have HC := Lib.hid h
 clear h hl
 go_enter Tryz.func166, Tryz.ntmps166
 go_wp2_with fail
 refine H.out.mono ?_
 rintro e w1 ⟨rfl, rfl⟩
 go_wp2_with fail
 refine HQ.out.mono ?_
 rintro e w2 ⟨rfl, hm⟩
 have HM := Lib.hid (hm.alloc (.cells #[.int .i64 0, .int .i64 0, .int .i64 0] 245))
 have c5 := (HC.out.made HM.out).blk.cell 5
 simp only [List.getElem?_toArray, List.getElem?_cons_zero, List.getElem?_cons_succ] at c5
 clear hm c0 c2
 go_wp2_with fail
 go_quiet (fail)
 go_wp2_with fail
 exact bodyPost_ret (v := .tuple #[.int .i64 0, .bool false, .bool cl, .slice none 0 0]) (by simp [results, Tryz.results166, go_sem]) rfl ⟨rfl, by first | exact HM.out | exact HM.out.drew | exact HM.out.drewN _⟩
theorem anyWait_c (f : Value) (w : World) : Calls Tryz.prog 197 #[.slice none 0 0, f] w fun e w' => e = .returned (.bool false) ∧ w = w' := by
 have H : ∀ w, Calls Tryz.prog 209 #[.slice none 0 0, f] w fun e w' => e = .returned (.int .i64 (-1)) ∧ w = w' := by
  intro w
  go_enter Tryz.func209, Tryz.ntmps209
  go_wp2_with fail
  refine wp_loop_rounds 1 ?_
  rw [rounds_succ]
  go_wp2_with fail
  go_ret
  exact ⟨rfl, rfl⟩
 have H := Lib.hid H
 go_enter Tryz.func197, Tryz.ntmps197
 go_wp2_with fail
 refine (H.out _).mono ?_
 rintro e w' ⟨rfl, rfl⟩
 go_wp2_with fail
 go_ret
 exact ⟨rfl, rfl⟩
set_option maxHeartbeats 1000000 in
theorem chwait_c {w : World} {p : Nat} {F : Nat → Prop} {t s rm : Bool} {l : List Wt} (x : Wt) (h : ChAt w p F ⟨t, s, false, rm, none, l⟩) (hn : l.length ≤ 1000) :
  Calls Tryz.prog 165 #[.pointer (some ⟨p, 0, none⟩), .agg #[.int .i64 x.task, .int .i64 x.kase, .int .i64 x.val], .bool false] w fun e w' => e = .returned (.int .i64 0) ∧ ∃ F', ChAt w' p F' ⟨t, s, false, rm, none, l ++ [x]⟩ ∧ Stp w w' F F' := by
 have HM := Lib.hid ((Turns.refl (fun _ => False) w).alloc (.cells #[.int .i64 x.task, .int .i64 x.kase, .int .i64 x.val] 245))
 have HX := Lib.hid (Blk.new w 245 #[.int .i64 x.task, .int .i64 x.kase, .int .i64 x.val])
 have HMu := Lib.hid (chmute_c (h.made HM.out))
 obtain ⟨r, q1, q2, lb, h0, hl0⟩ := h
 have HC := Lib.hid (h0.made HM.out)
 have HL := Lib.hid (hl0.turns HM.out)
 have HN := Lib.hid (show lb w.heap.size = 0 from by
  by_cases e : lb w.heap.size = 0
  ·exact e
  ·have := hl0.lt _ e; omega)
 have c5 := HC.out.blk.cell 5
 simp only [List.getElem?_toArray, List.getElem?_cons_zero, List.getElem?_cons_succ] at c5
 clear h0 hl0
 obtain ⟨ts, hts⟩ : ∃ ts, ts = (t || s) := ⟨_, rfl⟩
 rw [← hts] at HMu
 clear hts
 cases ts
 all_goals
  go_enter Tryz.func165, Tryz.ntmps165
  go_wp2_with fail
  generalize w.alloc (.cells #[.int .i64 x.task, .int .i64 x.kase, .int .i64 x.val] 245) = W at *
  refine HMu.out.mono ?_
  rintro e w1 ⟨rfl, rfl⟩
  go_wp2_with fail
  refine (chfree_r HC.out).mono ?_
  rintro e w1 ⟨rfl, rfl⟩
  go_wp2_with fail
  refine (chwaiting_s HC.out).mono ?_
  rintro e w1 ⟨rfl, rfl⟩
  go_wp2_with fail
  refine (anyWait_c _ _).mono ?_
  rintro e w1 ⟨rfl, rfl⟩
  go_upto_region 10 with fail
  have HQ := Lib.hid (chqueue_r (HC.out.made (Turns.refl (fun _ => False) W).drew))
  have HP := Lib.hid (wpush_c x (HC.out.qr.made (Turns.refl (fun _ => False) W).drew) (by show l.length ≤ 1000000; omega))
  clear c5
  refine wp_region_held_drew (S := fun w' => Blk w' (w.heap.size) 245 #[.int .i64 x.task, .int .i64 x.kase, .int .i64 x.val] ∧ Turns (fun k => lb k = 3) W w') (by kernel_rfl) ?_ (fun hHeld => ?_)
  ·exact ⟨HX.out, (Turns.refl _ W).drew⟩
  refine takeH (i := 0) (d := some 34) (v := ?_) rfl rfl (by kernel_rfl) (by kernel_rfl) (by kernel_rfl) (fun _ _ _ h => h) (Or.inl ⟨by rfl, ?_⟩) (by assumption) ?_
  rotate_left
  ·intro w hSw
   try dsimp only at hSw
   go_simp
   try with_reducible rfl
  try simp only [Act.put, List.setIfInBounds_toArray, List.set_cons_zero, List.set_cons_succ]
  refine takeH (i := 1) (d := some 35) (v := ?_) rfl rfl (by kernel_rfl) (by kernel_rfl) (by kernel_rfl) (fun _ _ _ h => h) (Or.inl ⟨by rfl, ?_⟩) (by assumption) ?_
  rotate_left
  ·intro w hSw
   try dsimp only at hSw
   go_simp
   try with_reducible rfl
  try simp only [Act.put, List.setIfInBounds_toArray, List.set_cons_zero, List.set_cons_succ]
  refine takeH (i := 3) (d := some 37) (v := ?_) rfl rfl (by kernel_rfl) (by kernel_rfl) (by kernel_rfl) (fun _ _ _ h => h) (Or.inl ⟨by rfl, ?_⟩) (by assumption) ?_
  rotate_left
  ·intro w hSw
   try dsimp only at hSw
   have q0_0 := hSw.1.cell 0
   have q0_1 := hSw.1.cell 1
   have q0_2 := hSw.1.cell 2
   simp only [List.getElem?_toArray, List.getElem?_cons_zero, List.getElem?_cons_succ] at q0_0 q0_1 q0_2
   go_simp
   try with_reducible rfl
  try simp only [Act.put, List.setIfInBounds_toArray, List.set_cons_zero, List.set_cons_succ]
  refine wpAnyH_ready (rs := [2]) (by kernel_rfl) (by simp) ?_
  refine AllReadyH.cons rfl (fun K hK => ?_) AllReadyH.nil
  go_simp
  refine HQ.out.mono ?_
  rintro e w2 ⟨rfl, rfl⟩
  refine hK.out _ _ ?_ (fun hHeld => ?_)
  ·exact hHeld
  clear hK K
  try simp only [Act.put, List.setIfInBounds_toArray, List.set_cons_zero, List.set_cons_succ]
  refine wpAnyH_ready (rs := [4]) (by kernel_rfl) (by simp) ?_
  refine AllReadyH.cons rfl (fun K hK => ?_) AllReadyH.nil
  go_simp
  refine HP.out.mono ?_
  rintro e w2 ⟨rfl, F2, hq2, hs2⟩
  refine hK.out _ _ ?_ (fun hHeld => ?_)
  ·exact ⟨hHeld.1.turns hs2.t (fun e => by rw [HN.out] at e; omega), hHeld.2.trans hs2.t⟩
  clear hK K
  try simp only [Act.put, List.setIfInBounds_toArray, List.set_cons_zero, List.set_cons_succ]
  refine wpAnyH_done (by kernel_rfl) ?_ _
  obtain ⟨lb2, FF, hc2, hl2, hst2⟩ := (HC.out.made (Turns.refl (fun _ => False) W).drew).setQr (HL.out.turns (Turns.refl (fun _ => False) W).drew) hq2 hs2
  have HE := Lib.hid (And.intro hc2 (And.intro hl2 (((Stp.made (F := F) HM.out).trans (Stp.made (Turns.refl (fun _ => False) W).drew)).trans hst2)))
  clear hHeld hq2 hs2 hc2 hl2 hst2
  go_wp2_with fail
  go_ret
  exact ⟨rfl, FF, ⟨r, q1, q2, lb2, HE.out.1, HE.out.2.1⟩, HE.out.2.2⟩
end Go.Proofs.YtjnkphhlkoapbaaGreat
namespace Go.Proofs.YtjnkphhlkoapbaaGreat
open Go.RowKit
theorem mx2 (k k' : IntKind) (x y : Int) : Builtin.max2 (.int k x) (.int k' y) = pure (.int k (if x < y then y else x)) := by simp only [Builtin.max2, gt_iff_lt]
theorem mn2 (k k' : IntKind) (x y : Int) : Builtin.min2 (.int k x) (.int k' y) = pure (.int k (if y < x then y else x)) := by simp only [Builtin.min2]
theorem mx_two (ats : Array TypeId) (ty : TypeId) (a b : Value) : Builtin.max_ ats ty #[a, b] = (Builtin.max2 a b >>= fun s => pure s) := by simp only [Builtin.max_, List.foldlM_cons, List.foldlM_nil]
theorem mn_two (ats : Array TypeId) (ty : TypeId) (a b : Value) : Builtin.min_ ats ty #[a, b] = (Builtin.min2 a b >>= fun s => pure s) := by simp only [Builtin.min_, List.foldlM_cons, List.foldlM_nil]
theorem mx_three (ats : Array TypeId) (ty : TypeId) (a b c : Value) : Builtin.max_ ats ty #[a, b, c] = (Builtin.max2 a b >>= fun s => Builtin.max2 s c >>= fun s => pure s) := by simp only [Builtin.max_, List.foldlM_cons, List.foldlM_nil]
def heldZ (t : Int) : Int := if t < -4611686018427387904 then -4611686018427387904 else if 4611686018427387904 < t then 4611686018427387904 else t
theorem heldZ_bd (t : Int) : -4611686018427387904 ≤ heldZ t ∧ heldZ t ≤ 4611686018427387904 := by unfold heldZ; split <;> (try split) <;> omega
def addZ (t d : Int) : Int := heldZ (heldZ t + heldZ d)
section
attribute [local go_sem] mx2 mn2 mx_two mn_two mx_three
set_option maxHeartbeats 400000 in
theorem held_c (t : Int) (w : World) : Calls Tryz.prog 101 #[.int .i64 t] w fun e w' => e = .returned (.int .i64 (heldZ t)) ∧ w = w' := by
 by_cases h1 : t < -4611686018427387904
 ·have e : heldZ t = -4611686018427387904 := by unfold heldZ; rw [if_pos h1]
  rw [e]; clear e
  go_enter Tryz.func101, Tryz.ntmps101
  go_wp2
  go_ret
  exact ⟨rfl, rfl⟩
 ·by_cases h2 : 4611686018427387904 < t
  ·have e : heldZ t = 4611686018427387904 := by unfold heldZ; rw [if_neg h1, if_pos h2]
   rw [e]; clear e
   go_enter Tryz.func101, Tryz.ntmps101
   go_wp2
   go_ret
   exact ⟨rfl, rfl⟩
  ·have e : heldZ t = t := by unfold heldZ; rw [if_neg h1, if_neg h2]
   rw [e]; clear e
   go_enter Tryz.func101, Tryz.ntmps101
   go_wp2
   go_ret
   exact ⟨rfl, rfl⟩
set_option maxHeartbeats 400000 in
theorem add_c (t d : Int) (w : World) : Calls Tryz.prog 62 #[.int .i64 t, .int .i64 d] w fun e w' => e = .returned (.int .i64 (addZ t d)) ∧ w = w' := by
 obtain ⟨r, hr⟩ : ∃ r, addZ t d = r := ⟨_, rfl⟩
 rw [hr]
 have ht := held_c t w
 have hd := held_c d w
 have b1 := heldZ_bd t
 have b2 := heldZ_bd d
 unfold addZ at hr
 generalize heldZ t = x at *
 generalize heldZ d = y at *
 obtain ⟨b1, b1'⟩ := b1
 obtain ⟨b2, b2'⟩ := b2
 have Ht := Lib.hid ht
 have Hd := Lib.hid hd
 clear ht hd
 by_cases h1 : 0 < y
 ·by_cases h2 : 4611686018427387904 - y < x
  ·obtain rfl : 4611686018427387904 = r := by rw [← hr]; unfold heldZ; rw [if_neg (by omega), if_pos (by omega)]
   clear hr
   go_enter Tryz.func62, Tryz.ntmps62
   go_wp2_with (first | ((with_reducible refine Ht.out.mono ?_); rintro e w' ⟨rfl, rfl⟩) | ((with_reducible refine Hd.out.mono ?_); rintro e w' ⟨rfl, rfl⟩))
   go_ret
   exact ⟨rfl, rfl⟩
  ·obtain rfl : x + y = r := by rw [← hr]; unfold heldZ; rw [if_neg (by omega), if_neg (by omega)]
   clear hr
   go_enter Tryz.func62, Tryz.ntmps62
   go_wp2_with (first | ((with_reducible refine Ht.out.mono ?_); rintro e w' ⟨rfl, rfl⟩) | ((with_reducible refine Hd.out.mono ?_); rintro e w' ⟨rfl, rfl⟩))
   go_ret
   exact ⟨rfl, rfl⟩
 ·by_cases h2 : y < 0
  ·by_cases h3 : x < -4611686018427387904 - y
   ·obtain rfl : -4611686018427387904 = r := by rw [← hr]; unfold heldZ; rw [if_pos (by omega)]
    clear hr
    go_enter Tryz.func62, Tryz.ntmps62
    go_wp2_with (first | ((with_reducible refine Ht.out.mono ?_); rintro e w' ⟨rfl, rfl⟩) | ((with_reducible refine Hd.out.mono ?_); rintro e w' ⟨rfl, rfl⟩))
    go_ret
    exact ⟨rfl, rfl⟩
   ·obtain rfl : x + y = r := by rw [← hr]; unfold heldZ; rw [if_neg (by omega), if_neg (by omega)]
    clear hr
    go_enter Tryz.func62, Tryz.ntmps62
    go_wp2_with (first | ((with_reducible refine Ht.out.mono ?_); rintro e w' ⟨rfl, rfl⟩) | ((with_reducible refine Hd.out.mono ?_); rintro e w' ⟨rfl, rfl⟩))
    go_ret
    exact ⟨rfl, rfl⟩
  ·obtain rfl : 0 = y := by omega
   obtain rfl : x = r := by rw [← hr]; unfold heldZ; rw [if_neg (by omega), if_neg (by omega)]; omega
   clear hr
   go_enter Tryz.func62, Tryz.ntmps62
   go_wp2_with (first | ((with_reducible refine Ht.out.mono ?_); rintro e w' ⟨rfl, rfl⟩) | ((with_reducible refine Hd.out.mono ?_); rintro e w' ⟨rfl, rfl⟩))
   go_ret
   exact ⟨rfl, rfl⟩
def nextZ (when_ period now : Int) : Int × Int :=
 if period < 1 ∨ when_ < 0 ∨ now < 0 ∨ 4611686018427387904 < when_ ∨ 4611686018427387904 < period ∨ 4611686018427387904 < now then (0, 1)
 else if now < when_ then (when_, 0) else (addZ now (period - (now - when_) % period), 0)
set_option maxHeartbeats 1000000 in
theorem next_c (when_ period now : Int) (w : World) : Calls Tryz.prog 104 #[.int .i64 when_, .int .i64 period, .int .i64 now] w fun e w' => e = .returned (.tuple #[.int .i64 (nextZ when_ period now).1, .int .i64 (nextZ when_ period now).2]) ∧ w = w' := by
 by_cases hbad : period < 1 ∨ when_ < 0 ∨ now < 0 ∨ 4611686018427387904 < when_ ∨ 4611686018427387904 < period ∨ 4611686018427387904 < now
 ·have e : nextZ when_ period now = (0, 1) := by unfold nextZ; rw [if_pos hbad]
  rw [e]; clear e
  by_cases h1 : period < 1
  ·clear hbad
   go_enter Tryz.func104, Tryz.ntmps104
   go_wp2
   go_ret2
   exact ⟨rfl, rfl⟩
  ·by_cases h2 : when_ < 0 ∨ now < 0
   ·have h2' : (if now < when_ then now else when_) < 0 := by split <;> omega
    generalize hm : (if now < when_ then now else when_) = m at h2'
    clear h2 hbad
    go_enter Tryz.func104, Tryz.ntmps104
    go_wp2
    go_ret2
    exact ⟨rfl, rfl⟩
   ·have h2' : ¬ (if now < when_ then now else when_) < 0 := by split <;> omega
    generalize hm : (if now < when_ then now else when_) = m at h2'
    have h3 : 4611686018427387904 < (if (if when_ < period then period else when_) < now then now else (if when_ < period then period else when_)) := by
     by_cases q : when_ < period
     ·simp only [if_pos q]; split <;> omega
     ·simp only [if_neg q]; split <;> omega
    generalize hn : (if when_ < period then period else when_) = n at h3
    generalize hk : (if n < now then now else n) = k at h3
    clear h2 hbad
    go_enter Tryz.func104, Tryz.ntmps104
    go_wp2
    go_ret2
    exact ⟨rfl, rfl⟩
 ·have h1 : ¬ period < 1 := by omega
  have h2' : ¬ (if now < when_ then now else when_) < 0 := by split <;> omega
  generalize hm : (if now < when_ then now else when_) = m at h2'
  have h3 : ¬ 4611686018427387904 < (if (if when_ < period then period else when_) < now then now else (if when_ < period then period else when_)) := by
   by_cases q : when_ < period
   ·simp only [if_pos q]; split <;> omega
   ·simp only [if_neg q]; split <;> omega
  generalize hn : (if when_ < period then period else when_) = n at h3
  generalize hk : (if n < now then now else n) = k at h3
  by_cases h4 : now < when_
  ·have e : nextZ when_ period now = (when_, 0) := by unfold nextZ; rw [if_neg hbad, if_pos h4]
   rw [e]; clear e hbad
   go_enter Tryz.func104, Tryz.ntmps104
   go_wp2
   go_ret2
   exact ⟨rfl, rfl⟩
  ·have e : nextZ when_ period now = (addZ now (period - (now - when_) % period), 0) := by unfold nextZ; rw [if_neg hbad, if_neg h4]
   have q1 : 0 ≤ when_ := by omega
   have q2 : now ≤ 4611686018427387904 := by omega
   have q3 : period ≤ 4611686018427387904 := by omega
   have q4 : 0 ≤ (now - when_) % period := Int.emod_nonneg _ (by omega)
   have q5 : (now - when_) % period < period := Int.emod_lt_of_pos _ (by omega)
   have e1 : (now - when_).tmod period = (now - when_) % period := Int.tmod_eq_emod_of_nonneg (by omega)
   have e2 : wrap64 (now - when_) = now - when_ := by unfold wrap64; omega
   have e3 : wrap64 (period - (now - when_) % period) = period - (now - when_) % period := by
    generalize (now - when_) % period = z at *
    unfold wrap64; omega
   have e5 : (period == 0) = false := beq_eq_false_iff_ne.mpr (by omega)
   rw [e]; clear e hbad
   go_enter Tryz.func104, Tryz.ntmps104
   go_wp2_with (go_at_call 62; refine (add_c _ _ _).mono ?_; rintro e w' ⟨rfl, rfl⟩)
   go_ret2
   exact ⟨rfl, rfl⟩
end
end Go.Proofs.YtjnkphhlkoapbaaGreat
namespace Go.Proofs.YtjnkphhlkoapbaaGreat
open Go.RowKit
set_option linter.unusedVariables false
set_option linter.unusedSimpArgs false
theorem hrem_c {p : Nat} {F : Nat → Prop} {L : List It} {sq : Int} (id : Int) (w : World) (h : HeapAt w p F L sq) (hsq : sq ≤ 1000000) {x : It} (hx : findL id L = some x) :
  Calls Tryz.prog 151 #[.pointer (some ⟨p, 0, none⟩), .int .i64 id] w fun e w' => e = .returned (.tuple #[aggT x, .bool true]) ∧ HeapAt w' p F (delL id L) sq ∧ Stp w w' F F := by
 obtain ⟨mb, lv, ys, f, h⟩ := h
 have huL := h.uniq.perm h.perm.symm
 obtain ⟨hxL, hid⟩ := (findL_some huL id x).1 hx
 obtain ⟨k, hk⟩ := List.getElem?_of_mem (h.perm.mem_iff.2 hxL)
 refine (hrem_in id w h hsq hx hk hid).mono ?_
 rintro e w' ⟨rfl, lv', ys', f', hr, hp, ho, hpm, hlv, ht⟩
 have hdp := delL_perm huL hxL
 rw [hid] at hdp
 have hpm2 : ys'.Perm (delL id L) := ((hpm.trans h.perm).trans hdp).cons_inv
 have huy : Uniq ys' := by
  have h1 := h.uniq.perm hpm
  rw [Uniq.iff, List.map_cons, List.nodup_cons] at h1
  exact (Uniq.iff _).2 h1.2
 have ht' : Turns F w w' := ht.mono (fun b _ hb => by
  rcases hb with rfl | rfl | hb
  ·exact h.fp
  ·exact h.fm
  ·exact h.fl b hb)
 exact ⟨rfl, ⟨mb, lv', ys', f', { raw := hr, pos := hp, uniq := huy, ord := ho, perm := hpm2, rise := delL_rise h.rise id, seqs := fun z hz => h.seqs z (delL_mem.1 hz).1, len := by have := delL_le L id; have := h.len; omega, fp := h.fp, fm := h.fm, fl := fun b hb => h.fl b (by rw [← hlv]; exact hb), fb := fun b hb => Nat.lt_of_lt_of_le (h.fb b hb) ht.size }⟩, ⟨ht', fun b hb => .inl hb⟩⟩
theorem findL_del (id : Int) (L : List It) : findL id (delL id L) = none := (findL_none id).2 (fun x hx => (delL_mem.1 hx).2)
theorem delL_head {x : It} {l : List It} (hu : Uniq (x :: l)) : delL x.id (x :: l) = l := by
 have hn := (Uniq.iff _).1 hu
 rw [List.map_cons, List.nodup_cons] at hn
 unfold delL
 rw [List.filter_cons]
 simp only [bne_self_eq_false, Bool.false_eq_true, if_false]
 rw [List.filter_eq_self]
 intro z hz
 simp only [bne_iff_ne, ne_eq]
 exact fun e => hn.1 (by rw [← e]; exact List.mem_map_of_mem hz)
set_option maxHeartbeats 1000000 in
theorem hpop_c {p : Nat} {F : Nat → Prop} {x : It} {l : List It} {sq : Int} (w : World) (h : HeapAt w p F (x :: l) sq) (hsq : sq ≤ 1000000) :
  Calls Tryz.prog 103 #[.pointer (some ⟨p, 0, none⟩)] w fun e w' => e = .returned (.tuple #[aggT x, .bool true]) ∧ HeapAt w' p F l sq ∧ Stp w w' F F := by
 have H := Lib.hid (fun (w' : World) (hm : Made w w') => hmin_c w' (h.made hm))
 have hfx : findL x.id (x :: l) = some x := (findL_some h.uniq _ _).2 ⟨List.mem_cons_self .., rfl⟩
 have hde := delL_head h.uniq
 have H2 := Lib.hid (fun (w' : World) (hm : Made w w') => hrem_c x.id w' (h.made hm) hsq hfx)
 rw [hde] at H2
 have HM0 := Lib.hid (fun (o : Obj) => ((Turns.refl (fun _ => False) w).alloc o))
 have HF := Lib.hid h.fb
 clear h hfx hde
 simp only [List.getElem?_cons_zero, optT, Option.getD_some, Option.isSome_some] at H
 unfold aggT at *
 go_enter Tryz.func103, Tryz.ntmps103
 go_wp2_with fail
 refine (H.out _ (HM0.out _)).mono ?_
 rintro e w' ⟨rfl, hm⟩
 have hB1 := (Blk.new w 186 #[.int .i64 0, .int .i64 0, .int .i64 0]).turns hm (fun h => h)
 have HM := Lib.hid (((Turns.refl (fun _ => False) w).alloc _).trans hm)
 have HB := Lib.hid (hB1.alloc (.cells #[.int .i64 x.id, .int .i64 x.when, .int .i64 x.seq] 186))
 have HX := Lib.hid (Blk.new w' 186 #[.int .i64 x.id, .int .i64 x.when, .int .i64 x.seq])
 have hb1 := hB1.lt
 clear hm hB1 H
 go_wp2_with fail
 refine (H2.out _ (HM.out.alloc _)).mono ?_
 rintro e w2 ⟨rfl, hh, hs⟩
 have HH := Lib.hid hh
 have HS := Lib.hid hs
 have HB2 := Lib.hid (HB.out.turns hs.t (fun h => by have := HF.out _ h; omega))
 have HX2 := Lib.hid (HX.out.turns hs.t (fun h => by have := HF.out _ h; omega))
 have b0 := HB2.out.cell 0
 have b1 := HB2.out.cell 1
 have b2 := HB2.out.cell 2
 have g0 := HB2.out.free 0
 have g1 := HB2.out.free 1
 have g2 := HB2.out.free 2
 have k0 := HX2.out.cell 0
 have k1 := HX2.out.cell 1
 have k2 := HX2.out.cell 2
 simp only [List.getElem?_toArray, List.getElem?_cons_zero, List.getElem?_cons_succ] at b0 b1 b2 k0 k1 k2
 clear hh hs H2
 go_wp2_with fail
 refine bodyPost_ret (res_box rfl (HB2.out.put3 _ _ _) rfl rfl) rfl ?_
 refine ⟨rfl, HH.out.turns (set3 _ w.heap.size) (fun k hk e => ?_), ⟨?_, fun b hb => .inl hb⟩⟩
 ·have := HF.out _ hk; omega
 ·exact (((HM.out.alloc _).mono (fun _ _ h => h.elim)).then HS.out.t (fun _ _ h => h)).then (set3 _ w.heap.size) (fun b hb e => by omega)
end Go.Proofs.YtjnkphhlkoapbaaGreat
namespace Go.Proofs.YtjnkphhlkoapbaaGreat
open Go.RowKit
set_option linter.unusedVariables false
set_option linter.unusedSimpArgs false
structure Since (w w' : World) (F : Nat → Prop) : Prop where
 m : Made w w'
 f : ∀ k, F k → w.heap.size ≤ k
theorem Since.step {w w1 w2 : World} {F F' : Nat → Prop} (h : Since w w1 F) (s : Stp w1 w2 F F') : Since w w2 F' :=
 ⟨h.m.then s.t (fun b hb hf => by have := h.f b hf; omega), fun k hk => (s.f k hk).elim (fun h2 => h.f k h2) (fun h2 => Nat.le_trans h.m.size h2)⟩
theorem Since.made {w w1 w2 : World} {F : Nat → Prop} (h : Since w w1 F) (s : Made w1 w2) : Since w w2 F := ⟨h.m.trans s, h.f⟩
structure Side (w : World) (F : Nat → Prop) (b : Nat) (t : TypeId) (cs : Array Value) : Prop where
 blk : Blk w b t cs
 n : ¬ F b
theorem Side.step {w w' : World} {F F' : Nat → Prop} {b : Nat} {t : TypeId} {cs : Array Value} (h : Side w F b t cs) (s : Stp w w' F F') : Side w' F' b t cs :=
 ⟨h.blk.turns s.t h.n, fun hf => (s.f b hf).elim h.n (fun h2 => by have := h.blk.lt; omega)⟩
theorem Side.made {w w' : World} {F : Nat → Prop} {b : Nat} {t : TypeId} {cs : Array Value} (h : Side w F b t cs) (s : Made w w') : Side w' F b t cs := ⟨h.blk.turns s (fun h => h), h.n⟩
theorem Side.new {w : World} {F : Nat → Prop} {p : Nat} {L : List It} {sq : Int} (h : HeapAt w p F L sq) (t : TypeId) (cs : Array Value) : Side (w.alloc (.cells cs t)) F w.heap.size t cs :=
 ⟨Blk.new w t cs, fun hf => by have := h.fb _ hf; omega⟩
theorem alloc_made (w : World) (o : Obj) : Made w (w.alloc o) := (Turns.refl _ _).alloc _
theorem Blk.made {w w' : World} {b : Nat} {t : TypeId} {cs : Array Value} (h : Blk w b t cs) (s : Made w w') : Blk w' b t cs := h.turns s (fun h => h)
end Go.Proofs.YtjnkphhlkoapbaaGreat
