/-
  tarpaulinlaw23.OrderTells: its walk.
-/
import Derived.Test.YtjcmmgjaopejgaaP4
namespace Go.Proofs.Ytjcmmgjaopejgaa
open Go.RowKit Go.Sort
set_option linter.unusedVariables false
set_option linter.unusedSimpArgs false

theorem Grow.keep {α : Type} {enc : α → List Value} {T : TypeId} {size : Nat} {W w w' : World} {v : Value} {M : List α} (h : Grow enc T size W w v M) (hm : Made W w') (hF : ∀ c, v.ownBlock = some c → w'.heap[c]? = w.heap[c]?) : Grow enc T size W w' v M := by
  refine ⟨hm, ⟨h.own.1, ?_⟩, h.far⟩
  rcases h.own.2 with h0 | ⟨g, cap, cur, rfl, hb, hg, r⟩
  · exact .inl h0
  · exact .inr ⟨g, cap, cur, rfl, hb, (hF g rfl).trans hg, r⟩
/-- Two rows of ints, apart. -/
structure Pair (W w : World) (va vb : Value) (A B : List Int) : Prop where
  a : Grow encI 3 1 W w va A
  b : Grow encI 3 1 W w vb B
  dis : ∀ c, va.ownBlock = some c → vb.ownBlock ≠ some c
theorem Pair.made {W w w' : World} {va vb : Value} {A B : List Int} (h : Pair W w va vb A B) (hm : Made w w') : Pair W w' va vb A B :=
  ⟨h.a.turns hm (fun _ _ h => h) (fun _ _ h => h), h.b.turns hm (fun _ _ h => h) (fun _ _ h => h), h.dis⟩
theorem Pair.setA {W w w' : World} {va vb va' : Value} {A B A' : List Int} (h : Pair W w va vb A B) (hg : Grow encI 3 1 W w' va' A') (hF : ∀ c, c < w.heap.size → va.ownBlock ≠ some c → w'.heap[c]? = w.heap[c]?) (hO : va'.ownBlock = va.ownBlock ∨ va'.ownBlock = some w.heap.size) : Pair W w' va' vb A' B :=
  ⟨hg, h.b.keep hg.made (fun c hc => hF c (h.b.own.lt hc) (fun e => h.dis c e hc)), fun c hc hb => by
    rcases hO with e | e
    · exact h.dis c (by rw [← e]; exact hc) hb
    · rw [hc] at e
      have := h.b.own.lt hb
      simp only [Option.some.injEq] at e
      omega⟩
theorem Pair.swap {W w : World} {va vb : Value} {A B : List Int} (h : Pair W w va vb A B) : Pair W w vb va B A := ⟨h.b, h.a, fun c hc hb => h.dis c hb hc⟩

set_option maxHeartbeats 8000000 in
set_option maxRecDepth 100000 in
theorem tells_w (a : Option Addr) (len cap : Nat) (l : List Ev) (t : Int) (w : World) (hw : RowIn encE 6 w a len l) (hc : len ≤ cap) :
    Calls Try.prog 3 #[.slice a len cap, .int .i64 t] w fun e w' => e = .returned (.bool true) ∧ Made w w' := by
  obtain ⟨i0, hi0, hz0, hz1, hz2⟩ := info_parts Try.infoI
  have HW := Lib.hid hw
  clear hw
  by_cases h1 : 100 < len
  · have h1' : (100 : Int) < (len : Int) := by omega
    go_enter Try.func3, Try.ntmps3
    go_wp2_with fail
    refine (awake_c w).mono ?_
    rintro e w' ⟨rfl, hm⟩
    have HM := Lib.hid hm
    clear hm
    go_wp2_with fail
    go_ret
    exact ⟨rfl, HM.out⟩
  have h1' : ¬ (100 : Int) < (len : Int) := by omega
  go_enter Try.func3, Try.ntmps3
  go_wp2_with fail
  go_loopw [5, 6, 7] (fun v5 v6 v7 wr => ∃ j : Nat, j ≤ len ∧ v7 = .int .i64 j ∧ Pair w wr v5 v6 (toldM (l.take j) t) (timesM (l.take j))) (fun _ _ v7 _ => len - (intOf v7).toNat)
  case atStart => exact ⟨0, Nat.zero_le _, rfl, Grow.nil (Turns.refl _ _), Grow.nil (Turns.refl _ _), fun c hc => by simp [Value.ownBlock] at hc⟩
  case round =>
    obtain ⟨j, hj, rfl, hg⟩ := hrel
    have HG := Lib.hid hg
    clear hg
    have j1 : (0 : Int) ≤ (j : Int) := Int.natCast_nonneg _
    by_cases hjl : j < len
    · have j2 : (j : Int) < (len : Int) := by omega
      obtain ⟨hlen, h0 | ⟨bb, off, rfl, hb, hlies⟩⟩ := HW.out
      · omega
      obtain ⟨e, he⟩ := get_of_lt (xs := l) (k := j) (by omega)
      have HEV := Lib.hid (fun (w' : World) (hm : Made w w') => ev_cells (hlies.keep fun o => hm.cell (p := ⟨bb, o, none⟩) hb (fun h => h)) he)
      obtain ⟨c0, c1, c2, c3, c4, c5⟩ := HEV.out _ HG.out.a.made
      have HN := Lib.hid (told_next (t := t) he)
      have HN2 := Lib.hid (times_next he)
      have hle := told_le l t j
      have hle2 := times_le l j
      generalize toldM (l.take j) t = A at *
      generalize timesM (l.take j) = C at *
      clear he hlies hb hlen
      by_cases h1 : e.kind = 1
      · have b1 : (e.kind == 1) = true := by simp [h1]
        have b6 : (e.kind == 6) = false := by simp [h1]
        have HC := Lib.hid (show timesM (l.take (j + 1)) = C by rw [HN2.out, if_neg (by omega), List.append_nil])
        by_cases h2 : e.task = t
        · have b2 : (e.task == t) = true := by simp [h2]
          have HA := Lib.hid (show toldM (l.take (j + 1)) t = A ++ [e.a] by rw [HN.out, if_pos ⟨h1, h2⟩])
          clear h1 h2
          have HGA := Lib.hid (HG.out.made (Turns.alloc (Turns.refl _ wr) (.cells #[.int .i64 e.a] 3)))
          have HS := Lib.hid (SrcAt.block (enc := encI) (N := [e.a]) (n := 1) (c := 1) (Blk.new wr 3 #[.int .i64 e.a]) rfl (by simp [flat, encI]))
          go_wp2_with (at_builtin; refine wpList_grow rfl (.tmp 33) (.tmp 39) 24 rfl i0 _ 8 Try.underlying24 hi0 hz0 hz1 hz2 rfl (by omega) encI_len encI_one rfl HGA.out.a rfl HS.out (by simp [maxLen]; omega) (by simp; omega) ?_)
          intro v3 w3 hg3 hF hS hO
          have HG3 := Lib.hid (HGA.out.setA hg3 (by simpa using hF) (by simpa using hO))
          obtain ⟨p0, p1, p2, p3, p4, p5⟩ := HEV.out _ HG3.out.a.made
          clear hg3 hF hS hO HS HGA
          go_wp2_with fail
          go_roundw
          case rel => exact ⟨j + 1, by omega, by go_num, by rw [HA.out, HC.out]; exact HG3.out⟩
          case measure => simp [intOf]; omega
        · have b2 : (e.task == t) = false := by simp [h2]
          have HA := Lib.hid (show toldM (l.take (j + 1)) t = A by rw [HN.out, if_neg (fun h => h2 h.2), List.append_nil])
          clear h1 h2
          go_wp2_with fail
          go_roundw
          case rel => exact ⟨j + 1, by omega, by go_num, by rw [HA.out, HC.out]; exact HG.out⟩
          case measure => simp [intOf]; omega
      · have b1 : (e.kind == 1) = false := by simp [h1]
        have HA := Lib.hid (show toldM (l.take (j + 1)) t = A by rw [HN.out, if_neg (fun h => h1 h.1), List.append_nil])
        by_cases h6 : e.kind = 6
        · have b6 : (e.kind == 6) = true := by simp [h6]
          have HC := Lib.hid (show timesM (l.take (j + 1)) = C ++ [e.b] by rw [HN2.out, if_pos h6])
          clear h1 h6
          have HGA := Lib.hid (HG.out.made (Turns.alloc (Turns.refl _ wr) (.cells #[.int .i64 e.b] 3)))
          have HS := Lib.hid (SrcAt.block (enc := encI) (N := [e.b]) (n := 1) (c := 1) (Blk.new wr 3 #[.int .i64 e.b]) rfl (by simp [flat, encI]))
          go_wp2_with (at_builtin; refine wpList_grow rfl (.tmp 47) (.tmp 53) 24 rfl i0 _ 8 Try.underlying24 hi0 hz0 hz1 hz2 rfl (by omega) encI_len encI_one rfl HGA.out.b rfl HS.out (by simp [maxLen]; omega) (by simp; omega) ?_)
          intro v3 w3 hg3 hF hS hO
          have HG3 := Lib.hid (HGA.out.swap.setA hg3 (by simpa using hF) (by simpa using hO)).swap
          clear hg3 hF hS hO HS HGA
          go_wp2_with fail
          go_roundw
          case rel => exact ⟨j + 1, by omega, by go_num, by rw [HA.out, HC.out]; exact HG3.out⟩
          case measure => simp [intOf]; omega
        · have b6 : (e.kind == 6) = false := by simp [h6]
          have HC := Lib.hid (show timesM (l.take (j + 1)) = C by rw [HN2.out, if_neg h6, List.append_nil])
          clear h1 h6
          go_wp2_with fail
          go_roundw
          case rel => exact ⟨j + 1, by omega, by go_num, by rw [HA.out, HC.out]; exact HG.out⟩
          case measure => simp [intOf]; omega
    · have j2 : ¬ (j : Int) < (len : Int) := by omega
      have hlen := HW.out.1
      have hall : l.take j = l := List.take_of_length_le (by omega)
      rw [hall] at HG
      have hlt : (toldM l t).length ≤ 1000000 := by have := told_le l t l.length; rw [List.take_length] at this; omega
      have hlm : (timesM l).length ≤ 1000000 := by have := times_le l l.length; rw [List.take_length] at this; omega
      have hsl : (statesM l).length ≤ 1000000 := by rw [← upto_all (l := l) (k := l.length) (Nat.le_refl _)]; have := upto_len l l.length; omega
      have HR0 := Lib.hid (HW.out.made HG.out.a.made)
      clear hall hlen
      go_wp2_with fail
      refine (states_c a len cap l wr HR0.out (by omega)).mono ?_
      rintro e w4 ⟨va, rfl, hoa, hm, hfa⟩
      have HOA := Lib.hid hoa
      have HG4 := Lib.hid (HG.out.made hm)
      have HR4 := Lib.hid (HR0.out.made hm)
      clear hoa hm hfa HG HR0
      go_wp2_with fail
      refine (rstates_c a len cap l w4 HR4.out (by omega)).mono ?_
      rintro e w5 ⟨vb, rfl, hob⟩
      have HOB := Lib.hid hob.own
      have HOA5 := Lib.hid (HOA.out.turns hob.made (fun _ _ h => h))
      have HG5 := Lib.hid (HG4.out.made hob.made)
      have HR5 := Lib.hid (HR4.out.made hob.made)
      clear hob HOA HG4 HR4
      go_wp2_with fail
      refine (same_c va vb _ w5 HOA5.out HOB.out hsl).mono ?_
      rintro e w6 ⟨rfl, hm⟩
      have HG6 := Lib.hid (HG5.out.made hm)
      have HR6 := Lib.hid (HR5.out.made hm)
      clear hm HOA5 HOB HG5 HR5
      have HSA := Lib.hid (sound_c a len cap l w6 HR6.out (by omega))
      have HSB := Lib.hid (fun w' (hm : Made w6 w') => rsound_c a len cap l w' (HR6.out.made hm) (by omega))
      obtain ⟨sr, hsr⟩ : ∃ sr, soundM l = sr := ⟨_, rfl⟩
      rw [hsr] at HSA HSB
      have hss : (sr == sr) = true := by simp
      clear hsr
      go_wp2_with fail
      refine HSA.out.mono ?_
      rintro e w7 ⟨rfl, hm⟩
      have HG7 := Lib.hid (HG6.out.made hm)
      have HR7 := Lib.hid (HR6.out.made hm)
      have HSB7 := Lib.hid (HSB.out w7 hm)
      clear hm HSA HSB HG6 HR6
      go_wp2_with fail
      refine HSB7.out.mono ?_
      rintro e w8 ⟨rfl, hm⟩
      have HG8 := Lib.hid (HG7.out.made hm)
      have HR8 := Lib.hid (HR7.out.made hm)
      clear hm HSB7 HG7 HR7
      go_wp2_with fail
      refine (told_c a len cap l t w8 HR8.out (by omega)).mono ?_
      rintro e w9 ⟨vt, rfl, hg⟩
      have HOT := Lib.hid hg.own
      have HG9 := Lib.hid (HG8.out.made hg.made)
      have HR9 := Lib.hid (HR8.out.made hg.made)
      clear hg HG8 HR8
      go_wp2_with fail
      refine (ints_c vt _ _ w9 HOT.out HG9.out.a.own hlt).mono ?_
      rintro e w10 ⟨rfl, hm⟩
      have HG10 := Lib.hid (HG9.out.made hm)
      have HR10 := Lib.hid (HR9.out.made hm)
      clear hm HOT HG9 HR9
      go_wp2_with fail
      refine (times_c a len cap l w10 HR10.out (by omega)).mono ?_
      rintro e w11 ⟨vm, rfl, hg⟩
      have HOM := Lib.hid hg.own
      have HG11 := Lib.hid (HG10.out.made hg.made)
      clear hg HG10 HR10
      go_wp2_with fail
      refine (ints_c vm _ _ w11 HOM.out HG11.out.b.own hlm).mono ?_
      rintro e w12 ⟨rfl, hm⟩
      have HM12 := Lib.hid (HG11.out.a.made.trans hm)
      clear hm HOM HG11
      go_wp2_with fail
      refine (awake_c w12).mono ?_
      rintro e w13 ⟨rfl, hm⟩
      have HM13 := Lib.hid (HM12.out.trans hm)
      clear hm HM12
      go_wp2_with fail
      go_ret
      exact ⟨rfl, HM13.out⟩
end Go.Proofs.Ytjcmmgjaopejgaa
