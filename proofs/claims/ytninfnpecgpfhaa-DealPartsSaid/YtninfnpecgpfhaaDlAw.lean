/-
  tarpaulinlaw19.awake returns true.
-/
import Derived.Test.YtninfnpecgpfhaaDlS
namespace Go.Proofs.Ytninfnpecgpfhaa
open Go.RowKit
set_option linter.unusedVariables false
set_option linter.unusedSimpArgs false

theorem log_new (w : World) : LogAt (w.alloc (.cells #[.slice none 0 0] 42)) w.heap.size (.slice none 0 0) [] :=
  ⟨Blk.new w _ _, World.ownsRow_nil _ _ _ _, by simp [Value.ownBlock]⟩
theorem LogAt.made {w w' : World} {p : Nat} {lv : Value} {ds : List DealT} (h : LogAt w p lv ds) (hm : Made w w') : LogAt w' p lv ds := ⟨h.blk.turns hm (fun h => h), h.own.turns hm (fun _ _ h => h), h.ne⟩
/-- A slice literal of ints. -/
theorem lit_row (w : World) (l : List Int) : RowIn encI 1 (w.alloc (.cells (l.map (Value.int .i64)).toArray 3)) (some ⟨w.heap.size, 0, none⟩) l.length l := by
  refine ⟨rfl, .inr ⟨w.heap.size, 0, rfl, by simp, fun i x hx j v hv => ?_⟩⟩
  obtain rfl : j = 0 := by
    rcases j with _ | j
    · rfl
    · simp [encI] at hv
  simp only [encI, List.getElem?_cons_zero, Option.some.injEq] at hv
  subst hv
  have h := (Blk.new w 3 (l.map (Value.int .i64)).toArray).cell i
  rw [show 0 + i * 1 + 0 = i from by omega]
  refine h.trans ?_
  simp [hx]

set_option maxHeartbeats 4000000 in
set_option maxRecDepth 100000 in
theorem awake_c (w : World) : Calls Try.prog 6 #[] w fun e w' => e = .returned (.bool true) ∧ Made w w' := by
  go_enter Try.func6, Try.ntmps6
  go_wp2_with fail
  refine (dnew_c _).mono ?_
  rintro e w' ⟨rfl, rfl⟩
  have hl := log_new w
  have hm : Made w (w.alloc (.cells #[.slice none 0 0] 42)) := (Turns.refl _ _).alloc _
  generalize hp : w.heap.size = p at hl
  generalize w.alloc (.cells #[.slice none 0 0] 42) = w1 at *
  have HP := Lib.hid hp
  clear hp
  have HL := Lib.hid hl
  have HM1 := Lib.hid hm
  clear hl hm
  go_wp2_with fail
  refine (dadd_c ⟨1, 0, 5, false, 0⟩ p _ _ _ (by decide) (by decide) HL.out (by decide)).mono ?_
  rintro e w2 ⟨rfl, lv2, hl, ht, hb⟩
  have hm : Made w w2 := Turns.then HM1.out ht (fun b h1 h2 => by
    rcases h2 with rfl | h2
    · have := HP.out; omega
    · simp [Value.ownBlock] at h2)
  have hb' : ∀ k, lv2.ownBlock = some k → w.heap.size ≤ k := fun k hk => by
    rcases hb k hk with h | h
    · simp [Value.ownBlock] at h
    · have := HM1.out.size; omega
  have HL2 := Lib.hid hl
  have HM2 := Lib.hid hm
  have HB2 := Lib.hid hb'
  clear hl ht hb hb' hm
  go_wp2_with fail
  refine (dadd_c ⟨1, 0, 6, false, 0⟩ p _ _ _ (by decide) (by decide) HL2.out (by decide)).mono ?_
  rintro e w3 ⟨rfl, lv3, hl, ht, hb⟩
  have hm : Made w w3 := Turns.then HM2.out ht (fun b h1 h2 => by
    rcases h2 with rfl | h2
    · have := HP.out; omega
    · have := HB2.out b h2; omega)
  have hb' : ∀ k, lv3.ownBlock = some k → w.heap.size ≤ k := fun k hk => by
    rcases hb k hk with h | h
    · exact HB2.out k h
    · have := HM2.out.size; omega
  have HL3 := Lib.hid hl
  have HM3 := Lib.hid hm
  have HB3 := Lib.hid hb'
  clear hl ht hb hb' hm
  go_wp2_with fail
  refine (dadd_c ⟨1, 2, 5, true, 0⟩ p _ _ _ (by decide) (by decide) HL3.out (by decide)).mono ?_
  rintro e w4 ⟨rfl, lv4, hl, ht, hb⟩
  have hm : Made w w4 := Turns.then HM3.out ht (fun b h1 h2 => by
    rcases h2 with rfl | h2
    · have := HP.out; omega
    · have := HB3.out b h2; omega)
  have hb' : ∀ k, lv4.ownBlock = some k → w.heap.size ≤ k := fun k hk => by
    rcases hb k hk with h | h
    · exact HB3.out k h
    · have := HM3.out.size; omega
  have HL4 := Lib.hid hl
  have HM4 := Lib.hid hm
  have HB4 := Lib.hid hb'
  clear hl ht hb hb' hm
  go_wp2_with fail
  refine (dadd_bad ⟨-1, 0, 0, false, 0⟩ _ (by decide) _).mono ?_
  rintro e w5 ⟨rfl, hw⟩
  have hm : Made w4 w5 := by rw [← hw]; exact (Turns.refl _ _).alloc _
  have HL5 := Lib.hid (HL4.out.made hm)
  have HM5 := Lib.hid (Turns.trans HM4.out hm)
  clear hw hm
  go_wp2_with fail
  refine (dadd_bad ⟨0, -2, 0, false, 0⟩ _ (by decide) _).mono ?_
  rintro e w6 ⟨rfl, hw⟩
  have hm : Made w5 w6 := by rw [← hw]; exact (Turns.refl _ _).alloc _
  have HL6 := Lib.hid (HL5.out.made hm)
  have HM6 := Lib.hid (Turns.trans HM5.out hm)
  clear hw hm
  go_wp2_with fail
  refine (sent_c p _ _ 1 _ HL6.out (by decide)).mono ?_
  rintro e w7 ⟨v7, rfl, o7, m7, b7⟩
  have r7 := o7.rowIn encI_len
  rw [show valsF _ 1 false = [5, 6] from rfl] at r7
  simp only [List.length_cons, List.length_nil, Nat.zero_add, Nat.reduceAdd] at r7
  obtain ⟨a7, c7, hv7, r7, -, -, -, -⟩ := r7
  subst hv7
  have HR7 := Lib.hid (r7.made ((Turns.refl (fun _ => False) w7).alloc (.cells (([5, 6] : List Int).map (Value.int .i64)).toArray 3)))
  have HL7 := Lib.hid (HL6.out.made m7)
  have HM7 := Lib.hid (Turns.trans HM6.out m7)
  clear o7 m7 b7 r7
  go_wp2_with fail
  refine (ints_c a7 _ _ c7 _ _ [5, 6] [5, 6] _ HR7.out (lit_row w7 [5, 6]) (by decide) (by decide)).mono ?_
  rintro e w8 ⟨rfl, m8⟩
  have HL8 := Lib.hid (HL7.out.made (Turns.trans ((Turns.refl (fun _ => False) w7).alloc _) m8))
  have HM8 := Lib.hid (Turns.trans (HM7.out.alloc _) m8)
  clear m8
  go_wp2_with fail
  refine (got_c p _ _ 1 _ HL8.out (by decide)).mono ?_
  rintro e w9 ⟨v9, rfl, o9, m9, b9⟩
  have r9 := o9.rowIn encI_len
  rw [show valsF _ 1 true = [5] from rfl] at r9
  simp only [List.length_cons, List.length_nil, Nat.zero_add, Nat.reduceAdd] at r9
  obtain ⟨a9, c9, hv9, r9, -, -, -, -⟩ := r9
  subst hv9
  have HR9 := Lib.hid (r9.made ((Turns.refl (fun _ => False) w9).alloc (.cells (([5] : List Int).map (Value.int .i64)).toArray 3)))
  have HL9 := Lib.hid (HL8.out.made m9)
  have HM9 := Lib.hid (Turns.trans HM8.out m9)
  clear o9 m9 b9 r9
  go_wp2_with fail
  refine (ints_c a9 _ _ c9 _ _ [5] [5] _ HR9.out (lit_row w9 [5]) (by decide) (by decide)).mono ?_
  rintro e w10 ⟨rfl, m10⟩
  have HL10 := Lib.hid (HL9.out.made (Turns.trans ((Turns.refl (fun _ => False) w9).alloc _) m10))
  have HM10 := Lib.hid (Turns.trans (HM9.out.alloc _) m10)
  clear m10
  go_wp2_with fail
  refine (left_c p _ _ 1 _ HL10.out (by decide)).mono ?_
  rintro e w11 ⟨a11, l11, c11, rfl, r11, -, m11⟩
  rw [show leftF _ 1 = [6] from rfl] at r11
  have hl11 := r11.1
  simp only [List.length_cons, List.length_nil, Nat.zero_add] at hl11
  subst hl11
  have HR11 := Lib.hid (r11.made ((Turns.refl (fun _ => False) w11).alloc (.cells (([6] : List Int).map (Value.int .i64)).toArray 3)))
  have HL11 := Lib.hid (HL10.out.made m11)
  have HM11 := Lib.hid (Turns.trans HM10.out m11)
  clear m11 r11
  go_wp2_with fail
  refine (ints_c a11 _ _ c11 _ _ [6] [6] _ HR11.out (lit_row w11 [6]) (by decide) (by decide)).mono ?_
  rintro e w12 ⟨rfl, m12⟩
  have HL12 := Lib.hid (HL11.out.made (Turns.trans ((Turns.refl (fun _ => False) w11).alloc _) m12))
  have HM12 := Lib.hid (Turns.trans (HM11.out.alloc _) m12)
  clear m12
  go_wp2_with fail
  refine (all_c p _ _ _ HL12.out (by decide)).mono ?_
  rintro e w13 ⟨v13, rfl, o13, m13, b13⟩
  have r13 := o13.rowIn encD_len
  simp only [List.nil_append, List.cons_append, List.length_cons, List.length_nil, Nat.zero_add, Nat.reduceAdd] at r13
  obtain ⟨a13, c13, hv13, r13, -, -, -, -⟩ := r13
  subst hv13
  have HL13 := Lib.hid (HL12.out.made m13)
  have HM13 := Lib.hid (Turns.trans HM12.out m13)
  have HR13 := Lib.hid r13
  clear o13 m13 b13 r13
  go_wp2_with fail
  refine (prefix_c _ _ _ _ _ _ [5] [5, 6] _ ((lit_row w13 [5]).made ((Turns.refl (fun _ => False) _).alloc _)) ((by have := lit_row (w13.alloc (.cells (([5] : List Int).map (Value.int .i64)).toArray 3)) [5, 6]; simpa using this)) (by decide) (by decide) (by decide) (by decide)).mono ?_
  rintro e w14 ⟨rfl, m14⟩
  have HL14 := Lib.hid (HL13.out.made (Turns.trans (((Turns.refl (fun _ => False) w13).alloc _).alloc _) m14))
  have HM14 := Lib.hid (Turns.trans ((HM13.out.alloc _).alloc _) m14)
  clear m14
  have hpf : prefF [5] [5, 6] = true := by decide
  have hpf2 : prefF [6] [5, 6] = false := by decide
  go_wp2_with fail
  refine (prefix_c _ _ _ _ _ _ [6] [5, 6] _ ((lit_row w14 [6]).made ((Turns.refl (fun _ => False) _).alloc _)) ((by have := lit_row (w14.alloc (.cells (([6] : List Int).map (Value.int .i64)).toArray 3)) [5, 6]; simpa using this)) (by decide) (by decide) (by decide) (by decide)).mono ?_
  rintro e w15 ⟨rfl, m15⟩
  have HL15 := Lib.hid (HL14.out.made (Turns.trans (((Turns.refl (fun _ => False) w14).alloc _).alloc _) m15))
  have HM15 := Lib.hid (Turns.trans ((HM14.out.alloc _).alloc _) m15)
  clear m15
  go_wp2_with fail
  refine (all_c p _ _ _ HL15.out (by decide)).mono ?_
  rintro e w16 ⟨v16, rfl, o16, m16, b16⟩
  have r16 := o16.rowIn encD_len
  simp only [List.nil_append, List.cons_append, List.length_cons, List.length_nil, Nat.zero_add, Nat.reduceAdd] at r16
  obtain ⟨a16, c16, hv16, r16, -, -, -, -⟩ := r16
  subst hv16
  have HL16 := Lib.hid (HL15.out.made m16)
  have HM16 := Lib.hid (Turns.trans HM15.out m16)
  have HR16 := Lib.hid r16
  clear o16 m16 b16 r16
  have hmm := @run_makeMap Try.prog
  obtain ⟨wm, hrun, hmap, htm, -⟩ := (MapI.new w16).store (P := Try.prog) Try.underlying28 Try.underlying3 1 (.int .i64 1)
  have hmade : Made w16 wm := Turns.then ((Turns.refl (fun _ => False) w16).alloc _) htm (fun b h1 h2 => by omega)
  have HRm := Lib.hid (HR16.out.made hmade)
  have HC := Lib.hid (capIs_map hmap (c := 1) (cap := 1) (by simp))
  have HLm := Lib.hid (HL16.out.made hmade)
  have HMm := Lib.hid (Turns.trans HM16.out hmade)
  clear hmap htm hmade
  have hs1 : soundF 1 [⟨1, 0, 5, false, 0⟩, ⟨1, 0, 6, false, 0⟩, ⟨1, 2, 5, true, 0⟩] = true := by decide
  have hs0 : soundF 0 [⟨1, 0, 5, false, 0⟩, ⟨1, 0, 6, false, 0⟩, ⟨1, 2, 5, true, 0⟩] = false := by decide
  go_wp2_with fail
  refine (sound_c a16 _ c16 _ _ 1 1 wm HRm.out (by decide) (by intro d hd; simp at hd; rcases hd with rfl | rfl | rfl <;> rfl) (by decide) (by decide) HC.out).mono ?_
  rintro e w17 ⟨rfl, m17⟩
  clear hrun hmm
  have HL17 := Lib.hid (HLm.out.made m17)
  have HM17 := Lib.hid (Turns.trans HMm.out m17)
  clear m17
  go_wp2_with fail
  refine (all_c p _ _ _ HL17.out (by decide)).mono ?_
  rintro e w18 ⟨v18, rfl, o18, m18, b18⟩
  have r18 := o18.rowIn encD_len
  simp only [List.nil_append, List.cons_append, List.length_cons, List.length_nil, Nat.zero_add, Nat.reduceAdd] at r18
  obtain ⟨a18, c18, hv18, r18, -, -, -, -⟩ := r18
  subst hv18
  have HL18 := Lib.hid (HL17.out.made m18)
  have HM18 := Lib.hid (Turns.trans HM17.out m18)
  have HR18 := Lib.hid r18
  clear o18 m18 b18 r18
  go_wp2_with fail
  refine (sound_c a18 _ c18 _ _ 1 0 w18 HR18.out (by decide) (by intro d hd; simp at hd; rcases hd with rfl | rfl | rfl <;> rfl) (by decide) (by decide) (capIs_nil _ _)).mono ?_
  rintro e w19 ⟨rfl, m19⟩
  have HM19 := Lib.hid (Turns.trans HM18.out m19)
  clear m19
  go_wp2_with fail
  refine (dadd_nil ⟨0, 0, 0, false, 0⟩ _).mono ?_
  rintro e w20 ⟨rfl, hw⟩
  have HM20 := Lib.hid (show Made w w20 by rw [← hw]; exact HM19.out.alloc _)
  clear hw
  go_wp2_with fail
  go_ret
  exact ⟨rfl, HM20.out⟩
end Go.Proofs.Ytninfnpecgpfhaa
