/-
  tarpaulinlaw23.awake returns true.
-/
import Derived.Test.YtjcmmgjaopejgaaP3
namespace Go.Proofs.Ytjcmmgjaopejgaa
open Go.RowKit Go.Sort
set_option linter.unusedVariables false
set_option linter.unusedSimpArgs false

theorem rowIn_blk {α : Type} {enc : α → List Value} {size : Nat} (he : ∀ x, (enc x).length = size) {w : World} {b : Nat} {T : TypeId} {cs : Array Value} {l : List α} {n : Nat} (h : Blk w b T cs) (hc : cs = (flat enc l).toArray) (hn : l.length = n) : RowIn enc size w (some ⟨b, 0, none⟩) n l := by
  refine ⟨hn, .inr ⟨b, 0, rfl, h.lt, fun i x hx j v hv => ?_⟩⟩
  have h1 := h.cell (0 + i * size + j)
  rw [h1, hc]
  have := flat_get he hx hv
  simpa using this
theorem rowIn_owns {α : Type} {enc : α → List Value} {T : TypeId} {size : Nat} (he : ∀ x, (enc x).length = size) {w : World} {v : Value} {l : List α} (h : Owns enc T size w v l) : ∃ a c, v = .slice a l.length c ∧ RowIn enc size w a l.length l := by
  obtain ⟨a, c, rfl, hr, _⟩ := h.rowIn he
  exact ⟨a, c, rfl, hr⟩
theorem RowIn.made {α : Type} {enc : α → List Value} {size : Nat} {w w' : World} {a : Option Addr} {len : Nat} {xs : List α} (h : RowIn enc size w a len xs) (ht : Made w w') : RowIn enc size w' a len xs := by
  obtain ⟨h1, h2⟩ := h
  refine ⟨h1, ?_⟩
  rcases h2 with h2 | ⟨b, off, h3, h4, h5⟩
  · exact .inl h2
  · exact .inr ⟨b, off, h3, Nat.lt_of_lt_of_le h4 ht.size, h5.keep fun o => ht.cell (p := ⟨b, o, none⟩) h4 (fun h => h)⟩
theorem owns_blk {α : Type} {enc : α → List Value} {size : Nat} {w : World} {b n : Nat} {T : TypeId} {cs : Array Value} {l : List α} (he : ∀ x, (enc x).length = size) (h : Blk w b T cs) (hc : cs = (flat enc l).toArray) (hn : l.length = n) (hm : n ≤ maxLen) : Owns enc T size w (.slice (some ⟨b, 0, none⟩) n n) l := by
  subst hn
  have hs : cs.size = l.length * size := by rw [hc]; simp [flat_length he]
  exact ⟨flat_length he l, .inr ⟨b, l.length, cs, rfl, Nat.zero_le _, h, Nat.le_refl _, hm, hs, by rw [hc, ← flat_length he l]; simp⟩⟩
theorem Try.infoE : (Try.prog.info? 26).map (fun i => (i.zero, i.size, i.bytes)) = some (some (.agg #[.int .i64 0, .int .i64 0, .int .i64 0, .int .i64 0, .int .i64 0, .int .i64 0]), 6, 48) := by kernel_rfl
def l5 : List Ev := [⟨0, 5, 1, 2, 0, 0⟩, ⟨1, 1, 0, 5, 0, 0⟩, ⟨2, 2, 1, 0, 0, 0⟩, ⟨3, 4, 0, 4, 0, 0⟩, ⟨4, 6, -1, 0, 9, 0⟩]
theorem l5_states : statesM l5 = [⟨0, 2, 4, 0⟩, ⟨1, 1, 0, 2⟩] := by decide
theorem l5_sound : soundM l5 = true := by decide
theorem l5_odd : soundM (l5 ++ [⟨5, 1, 1, 0, 0, 0⟩]) = false := by decide
theorem l5_told : toldM l5 0 = [5] := by decide
theorem l5_times : timesM l5 = [9] := by decide

set_option maxHeartbeats 8000000 in
set_option maxRecDepth 100000 in
theorem awake_c (w : World) : Calls Try.prog 6 #[] w fun e w' => e = .returned (.bool true) ∧ Made w w' := by
  obtain ⟨i0, hi0, hz0, hz1, hz2⟩ := info_parts Try.infoE
  go_enter Try.func6, Try.ntmps6
  go_upto_region 2 with fail
  have HBL := Lib.hid (show Blk (w.alloc (.cells #[.int .i64 0, .int .i64 5, .int .i64 1, .int .i64 2, .int .i64 0, .int .i64 0, .int .i64 1, .int .i64 1, .int .i64 0, .int .i64 5, .int .i64 0, .int .i64 0, .int .i64 2, .int .i64 2, .int .i64 1, .int .i64 0, .int .i64 0, .int .i64 0, .int .i64 3, .int .i64 4, .int .i64 0, .int .i64 4, .int .i64 0, .int .i64 0, .int .i64 4, .int .i64 6, .int .i64 (-1), .int .i64 0, .int .i64 9, .int .i64 0] 26)) w.heap.size 26 (flat encE l5).toArray from Blk.new w 26 _)
  have HM1 := Lib.hid (Turns.alloc (Turns.refl (fun _ => False) w) (.cells #[.int .i64 0, .int .i64 5, .int .i64 1, .int .i64 2, .int .i64 0, .int .i64 0, .int .i64 1, .int .i64 1, .int .i64 0, .int .i64 5, .int .i64 0, .int .i64 0, .int .i64 2, .int .i64 2, .int .i64 1, .int .i64 0, .int .i64 0, .int .i64 0, .int .i64 3, .int .i64 4, .int .i64 0, .int .i64 4, .int .i64 0, .int .i64 0, .int .i64 4, .int .i64 6, .int .i64 (-1), .int .i64 0, .int .i64 9, .int .i64 0] 26))
  generalize w.alloc (.cells #[.int .i64 0, .int .i64 5, .int .i64 1, .int .i64 2, .int .i64 0, .int .i64 0, .int .i64 1, .int .i64 1, .int .i64 0, .int .i64 5, .int .i64 0, .int .i64 0, .int .i64 2, .int .i64 2, .int .i64 1, .int .i64 0, .int .i64 0, .int .i64 0, .int .i64 3, .int .i64 4, .int .i64 0, .int .i64 4, .int .i64 0, .int .i64 0, .int .i64 4, .int .i64 6, .int .i64 (-1), .int .i64 0, .int .i64 9, .int .i64 0] 26) = w1 at *
  generalize w.heap.size = b0 at *
  have HG0 := Lib.hid (Grow.new (enc := encE) (T := 26) (size := 6) (α := Ev) (Turns.refl _ w1))
  have HS0 := Lib.hid (SrcAt.block (N := l5) (n := 5) (c := 5) (enc := encE) (HBL.out.turns (Turns.alloc (Turns.refl (fun _ => False) w1) (.cells #[] 26)) (fun h => h)) rfl rfl)
  go_wp2_with (at_builtin; refine wpList_grow rfl (.tmp 9) (.tmp 10) 22 rfl i0 _ 48 Try.underlying22 hi0 hz0 hz1 hz2 rfl (by omega) encE_len encE_one rfl HG0.out rfl HS0.out (by simp [maxLen, l5]) (by simp [l5]) ?_)
  intro v2 w2 hg2 hF hS hO
  have HG2 := Lib.hid (hg2.alloc (.cells #[.int .i64 5, .int .i64 1, .int .i64 1, .int .i64 0, .int .i64 0, .int .i64 0] 26))
  have HS2 := Lib.hid (SrcAt.block (enc := encE) (N := [(⟨5, 1, 1, 0, 0, 0⟩ : Ev)]) (n := 1) (c := 1) (Blk.new w2 26 #[.int .i64 5, .int .i64 1, .int .i64 1, .int .i64 0, .int .i64 0, .int .i64 0]) rfl (by simp [flat, encE]))
  clear hg2 hF hS hO HG0 HS0
  go_wp2_with (at_builtin; refine wpList_grow rfl (.tmp 11) (.tmp 13) 22 rfl i0 _ 48 Try.underlying22 hi0 hz0 hz1 hz2 rfl (by omega) encE_len encE_one rfl HG2.out rfl HS2.out (by simp [maxLen, l5]) (by simp [l5]) ?_)
  intro v3 w3 hg3 hF hS hO
  have hg3' : Grow encE 26 6 w1 w3 v3 (l5 ++ [⟨5, 1, 1, 0, 0, 0⟩]) := by simpa using hg3
  obtain ⟨a3, c3, rfl, hr3⟩ := rowIn_owns encE_len hg3'.own
  have HR3 := Lib.hid (show RowIn encE 6 w3 a3 6 (l5 ++ [⟨5, 1, 1, 0, 0, 0⟩]) from hr3)
  have HR1 := Lib.hid (rowIn_blk (n := 5) encE_len (HBL.out.turns hg3'.made (fun h => h)) rfl rfl)
  have HM3 := Lib.hid (HM1.out.trans hg3'.made)
  have hl6 : (l5 ++ [(⟨5, 1, 1, 0, 0, 0⟩ : Ev)]).length = 6 := rfl
  rw [hl6]
  clear hg3 hg3' hr3 hF hS hO HG2 HS2 HBL HM1 hl6
  go_wp2_with fail
  refine (states_c _ 5 5 l5 w3 HR1.out (by omega)).mono ?_
  rintro e w4 ⟨va, rfl, hoa, hm, hfa⟩
  rw [l5_states] at hoa
  have hal := hm.alloc (.cells #[.int .i64 0, .int .i64 2, .int .i64 4, .int .i64 0, .int .i64 1, .int .i64 1, .int .i64 0, .int .i64 2] 40)
  have HM4 := Lib.hid (HM3.out.trans hal)
  have HR1b := Lib.hid (HR1.out.made hal)
  have HR3b := Lib.hid (HR3.out.made hal)
  have HOA := Lib.hid (World.ownsRow.alloc hoa (.cells #[.int .i64 0, .int .i64 2, .int .i64 4, .int .i64 0, .int .i64 1, .int .i64 1, .int .i64 0, .int .i64 2] 40) : Owns encS 41 4 _ va [⟨0, 2, 4, 0⟩, ⟨1, 1, 0, 2⟩])
  have HOB := Lib.hid (owns_blk (n := 2) (l := [(⟨0, 2, 4, 0⟩ : St), ⟨1, 1, 0, 2⟩]) encS_len (Blk.new w4 40 #[.int .i64 0, .int .i64 2, .int .i64 4, .int .i64 0, .int .i64 1, .int .i64 1, .int .i64 0, .int .i64 2]) rfl rfl (by unfold maxLen; omega))
  clear hoa hm hfa hal HM3 HR1 HR3
  go_wp2_with fail
  refine (same_c va _ _ _ HOA.out HOB.out (by simp)).mono ?_
  rintro e w5 ⟨rfl, hm⟩
  have HM5 := Lib.hid (HM4.out.trans hm)
  have HR1c := Lib.hid (HR1b.out.made hm)
  have HR3c := Lib.hid (HR3b.out.made hm)
  clear hm HM4 HR1b HR3b HOA HOB
  have HSA := Lib.hid (sound_c _ 5 5 l5 w5 HR1c.out (by omega))
  rw [l5_sound] at HSA
  go_wp2_with fail
  refine HSA.out.mono ?_
  rintro e w6 ⟨rfl, hm⟩
  have HM6 := Lib.hid (HM5.out.trans hm)
  have HR1d := Lib.hid (HR1c.out.made hm)
  have HSB := Lib.hid (sound_c _ 6 c3 _ w6 (HR3c.out.made hm) (by omega))
  rw [l5_odd] at HSB
  clear hm HM5 HR1c HR3c HSA
  go_wp2_with fail
  refine HSB.out.mono ?_
  rintro e w7 ⟨rfl, hm⟩
  have HM7 := Lib.hid (HM6.out.trans hm)
  have HR1e := Lib.hid (HR1d.out.made hm)
  clear hm HM6 HR1d HSB
  go_wp2_with fail
  refine (told_c _ 5 5 l5 0 w7 HR1e.out (by omega)).mono ?_
  rintro e w8 ⟨vt, rfl, hg⟩
  rw [l5_told] at hg
  have hal := hg.made.alloc (.cells #[.int .i64 5] 3)
  have HM8 := Lib.hid (HM7.out.trans hal)
  have HR1f := Lib.hid (HR1e.out.made hal)
  have HOA := Lib.hid (hg.alloc (.cells #[.int .i64 5] 3)).own
  have HOB := Lib.hid (owns_blk (n := 1) (l := [(5 : Int)]) encI_len (Blk.new w8 3 #[.int .i64 5]) rfl rfl (by unfold maxLen; omega))
  clear hg hal HM7 HR1e
  go_wp2_with fail
  refine (ints_c vt _ _ _ HOA.out HOB.out (by simp)).mono ?_
  rintro e w9 ⟨rfl, hm⟩
  have HM9 := Lib.hid (HM8.out.trans hm)
  have HR1g := Lib.hid (HR1f.out.made hm)
  clear hm HM8 HR1f HOA HOB
  go_wp2_with fail
  refine (times_c _ 5 5 l5 w9 HR1g.out (by omega)).mono ?_
  rintro e w10 ⟨vt2, rfl, hg⟩
  rw [l5_times] at hg
  have hal := hg.made.alloc (.cells #[.int .i64 9] 3)
  have HM10 := Lib.hid (HM9.out.trans hal)
  have HOA := Lib.hid (hg.alloc (.cells #[.int .i64 9] 3)).own
  have HOB := Lib.hid (owns_blk (n := 1) (l := [(9 : Int)]) encI_len (Blk.new w10 3 #[.int .i64 9]) rfl rfl (by unfold maxLen; omega))
  clear hg hal HM9 HR1g
  go_wp2_with fail
  refine (ints_c vt2 _ _ _ HOA.out HOB.out (by simp)).mono ?_
  rintro e w11 ⟨rfl, hm⟩
  have HM11 := Lib.hid (HM10.out.trans hm)
  clear hm HM10 HOA HOB
  go_wp2_with fail
  refine (sound_c none 0 0 [] w11 ⟨rfl, .inl (Nat.le_refl _)⟩ (by omega)).mono ?_
  rintro e w12 ⟨rfl, hm⟩
  have HM12 := Lib.hid (HM11.out.trans hm)
  have hsn : soundM [] = true := rfl
  rw [hsn]
  clear hm HM11 hsn
  go_wp2_with fail
  go_ret
  exact ⟨rfl, HM12.out⟩
end Go.Proofs.Ytjcmmgjaopejgaa
