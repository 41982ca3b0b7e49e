/-
  The walks of ClockGoes and ClockParts: loops over a slice of integers.
-/
import Derived.Test.YtfbilfdohhcpgaaClkAw
import Derived.Test.YtfbilfdohhcpgaaClkRef
import Derived.Test.YtfbilfdohhcpgaaWds
namespace Go.Proofs.Ytfbilfdohhcpgaa
open Go.RowKit
set_option linter.unusedVariables false
set_option linter.unusedSimpArgs false

theorem awake_at {w0 : World} (w : World) (hb : Below w0.heap.size w0 w) : Calls Try.prog 16 #[] w fun e w' => e = .returned (.bool true) ∧ Below w0.heap.size w0 w' :=
  (awake_c w).mono fun _ _ h => ⟨h.1, hb.trans (h.2.mono hb.size)⟩

theorem blk_cell {w : World} {g : Nat} {t : TypeId} {v : Value} (h : w.heap[g]? = some (.cells #[v] t (0, 0))) : w.cell? ⟨g, 0, none⟩ = some v := by
  simp [World.cell?, h]
theorem blk_free {w : World} {g : Nat} {t : TypeId} {cs : Array Value} (h : w.heap[g]? = some (.cells cs t (0, 0))) (o : Nat) : w.frozen? ⟨g, o, none⟩ = false := by
  simp [World.frozen?, h]
theorem blk_set {w : World} {g : Nat} {t : TypeId} {v u : Value} (h : w.heap[g]? = some (.cells #[v] t (0, 0))) : (w.setCell ⟨g, 0, none⟩ u).heap[g]? = some (.cells #[u] t (0, 0)) := by
  simp [World.setCell, Array.getElem?_modify, h]

/-- The clock's time behind the first k. -/
def goesTo : List Int → Int
  | l => l.foldl (fun n d => if 0 ≤ d then addZ n d else n) 0
theorem goesTo_snoc (l : List Int) (d : Int) : goesTo (l ++ [d]) = if 0 ≤ d then addZ (goesTo l) d else goesTo l := by unfold goesTo; simp [List.foldl_append]
theorem take_snoc {α : Type} {l : List α} {k : Nat} {x : α} (h : l[k]? = some x) : l.take (k + 1) = l.take k ++ [x] := by
  rw [List.take_add_one, h]; rfl

set_option maxHeartbeats 2000000 in
theorem clockGoes_w (a0 : Option Addr) (len cap : Nat) (zs : List Int) (w : World) (w0 : RowIn (fun z => [Value.int .i64 z]) 1 w a0 len zs) (hlc : len ≤ cap) (hcm : cap ≤ maxLen) :
    Calls Try.prog 4 #[.slice a0 len cap] w fun e w' => e = .returned (.bool true) ∧ Below w.heap.size w w' := by
  unfold maxLen at hcm
  have HA := Lib.hid (fun w1 => @awake_at w w1)
  obtain ⟨hlen, hrow⟩ := w0
  by_cases hbig : 60 < len
  · clear hrow hlen
    go_enter Try.func4, Try.ntmps4
    go_wp2_with (fail)
    refine (HA.out _ (Below.refl _ _)).mono ?_
    rintro e w' ⟨rfl, hb⟩
    go_wp2_with (fail)
    go_ret
    exact ⟨rfl, hb⟩
  · have hge : len ≤ 60 := by omega
    clear hbig
    have HL := Lib.hid hlen
    clear hlen
    rcases hrow with hz | ⟨b, off, rfl, hblt, hlies⟩
    all_goals
      go_enter Try.func4, Try.ntmps4
      go_wp2_with (fail)
      refine (new_c _).mono ?_
      rintro e w' ⟨rfl, rfl⟩
      go_wp2_with (fail)
      go_loopw [4, 5] (fun v4 v5 wr => ∃ k : Nat, k ≤ len ∧ v5 = .int .i64 k ∧ v4 = .int .i64 (goesTo (zs.take k)) ∧ wr.heap[w.heap.size]? = some (.cells #[.int .i64 (goesTo (zs.take k))] 39 (0, 0)) ∧ Below w.heap.size w wr) (fun _ v5 _ => len - (intOf v5).toNat)
      case atStart => exact ⟨0, Nat.zero_le _, rfl, rfl, heap_alloc_new w _, (Below.refl _ _).alloc (Nat.le_refl _) _⟩
      case round =>
        obtain ⟨k, hk, rfl, rfl, hblk, hbel⟩ := hrel
        have hc := blk_cell hblk
        have hf := blk_free hblk 0
        have HB := Lib.hid hblk
        clear hblk
        by_cases hlt : k < len
        · first
          | omega
          | (
            obtain ⟨x, hx⟩ := get_of_lt (xs := zs) (k := k) (by rw [HL.out]; exact hlt)
            have hcx : wr.cell? ⟨b, off + k, none⟩ = some (.int .i64 x) := (hbel.cell (p := ⟨b, off + k, none⟩) hblt).trans (hlies.one hx)
            have hs := goesTo_snoc (zs.take k) x
            rw [← take_snoc hx] at hs
            generalize goesTo (zs.take k) = n at *
            generalize hm : goesTo (zs.take (k + 1)) = m at *
            have HM := Lib.hid hm
            clear hm hx
            have hne : ¬ b = w.heap.size := by omega
            have hne' : ¬ w.heap.size = b := by omega
            by_cases hd : 0 ≤ x
            · rw [if_pos hd] at hs
              subst hs
              have hcx' : (wr.setCell ⟨w.heap.size, 0, none⟩ (.int .i64 (addZ n x))).cell? ⟨b, off + k, none⟩ = some (.int .i64 x) := by rw [World.cell?_setCell_other _ _ _ _ (by simp [hne])]; exact hcx
              have hcn : (wr.setCell ⟨w.heap.size, 0, none⟩ (.int .i64 (addZ n x))).cell? ⟨w.heap.size, 0, none⟩ = some (.int .i64 (addZ n x)) := blk_cell (blk_set HB.out)
              go_wp2_with (fail)
              refine (advance_c _ n x _ hd hc hf).mono ?_
              rintro e w' ⟨rfl, rfl⟩
              go_wp2_with (fail)
              refine (radd_c _ _ _).mono ?_
              rintro e w' ⟨rfl, rfl⟩
              go_wp2_with (fail)
              refine (now_c _ (addZ n x) _ hcn).mono ?_
              rintro e w' ⟨rfl, rfl⟩
              go_wp2_with (fail)
              go_roundw
              case rel => exact ⟨k + 1, by omega, by go_num, by rw [HM.out], by rw [HM.out]; exact blk_set HB.out, hbel.setCell (Nat.le_refl _) _⟩
              case measure => simp [intOf]; omega
            · rw [if_neg hd] at hs
              subst hs
              have hd' : x < 0 := by omega
              go_wp2_with (fail)
              refine (advance_neg _ x hd' _).mono ?_
              rintro e w' ⟨rfl, rfl⟩
              go_wp2_with (fail)
              refine (now_c _ m _ hc).mono ?_
              rintro e w' ⟨rfl, rfl⟩
              go_wp2_with (fail)
              go_roundw
              case rel => exact ⟨k + 1, by omega, by go_num, by rw [HM.out], by rw [HM.out]; exact HB.out, hbel⟩
              case measure => simp [intOf]; omega)
        · go_wp2_with (fail)
          refine (HA.out _ hbel).mono ?_
          rintro e w' ⟨rfl, hb⟩
          go_wp2_with (fail)
          go_ret
          exact ⟨rfl, hb⟩

/-- What the clocks are told, put together. -/
def partOf (x : Int) : Int := (x.tmod 1000 + 1000) % 1000
theorem partOf_bd (x : Int) : 0 ≤ partOf x ∧ partOf x ≤ 999 := by unfold partOf; omega
def partsTo (l : List Int) : Int := l.foldl (fun n d => n + partOf d) 0
theorem partsTo_snoc (l : List Int) (d : Int) : partsTo (l ++ [d]) = partsTo l + partOf d := by unfold partsTo; simp [List.foldl_append]
theorem tmod_bd (x : Int) : -999 ≤ x.tmod 1000 ∧ x.tmod 1000 ≤ 999 := by
  have h1 := Int.tmod_lt_of_pos x (b := 1000) (by omega)
  have h2 := Int.lt_tmod_of_pos x (b := 1000) (by omega)
  omega
theorem addZ_in {n x : Int} (h1 : 0 ≤ n) (h2 : n ≤ 1000000) (h3 : 0 ≤ x) (h4 : x ≤ 1000000) : addZ n x = n + x := by
  unfold addZ
  rw [heldZ_id (t := n) (by omega) (by omega), heldZ_id (t := x) (by omega) (by omega), heldZ_id (by omega) (by omega)]

set_option maxHeartbeats 2000000 in
theorem clockParts_w (a0 : Option Addr) (len cap : Nat) (zs : List Int) (w : World) (w0 : RowIn (fun z => [Value.int .i64 z]) 1 w a0 len zs) :
    Calls Try.prog 7 #[.slice a0 len cap] w fun e w' => e = .returned (.bool true) ∧ Below w.heap.size w w' := by
  have HA := Lib.hid (fun w1 => @awake_at w w1)
  obtain ⟨hlen, hrow⟩ := w0
  by_cases hbig : 60 < len
  · clear hrow hlen
    go_enter Try.func7, Try.ntmps7
    go_wp2_with (fail)
    refine (HA.out _ (Below.refl _ _)).mono ?_
    rintro e w' ⟨rfl, hb⟩
    go_wp2_with (fail)
    go_ret
    exact ⟨rfl, hb⟩
  · have hge : len ≤ 60 := by omega
    clear hbig
    have HL := Lib.hid hlen
    clear hlen
    rcases hrow with hz | ⟨b, off, rfl, hblt, hlies⟩
    all_goals
      go_enter Try.func7, Try.ntmps7
      go_wp2_with (fail)
      refine (new_c _).mono ?_
      rintro e w' ⟨rfl, rfl⟩
      go_wp2_with (fail)
      refine (new_c _).mono ?_
      rintro e w' ⟨rfl, rfl⟩
      go_wp2_with (fail)
      go_loopw [5, 6] (fun v4 v5 wr => ∃ k : Nat, k ≤ len ∧ v5 = .int .i64 k ∧ v4 = .int .i64 (partsTo (zs.take k)) ∧ 0 ≤ partsTo (zs.take k) ∧ partsTo (zs.take k) ≤ 999 * k ∧ wr.heap[w.heap.size]? = some (.cells #[.int .i64 (partsTo (zs.take k))] 39 (0, 0)) ∧ wr.heap[w.heap.size + 1]? = some (.cells #[.int .i64 0] 39 (0, 0)) ∧ Below w.heap.size w wr) (fun _ v5 _ => len - (intOf v5).toNat)
      case atStart => exact ⟨0, Nat.zero_le _, rfl, rfl, Int.le_refl _, by simp [partsTo], (Below.heap_alloc _ _ _ (by simp)).trans (heap_alloc_new w _), by have := heap_alloc_new (w.alloc (.cells #[.int .i64 0] 39)) (.cells #[.int .i64 0] 39); simpa [partsTo] using this, ((Below.refl _ _).alloc (Nat.le_refl _) _).alloc (by simp) _⟩
      case round =>
        obtain ⟨k, hk, rfl, rfl, h0, h9, hblk, hblk2, hbel⟩ := hrel
        have hc := blk_cell hblk
        have hf := blk_free hblk 0
        have HB := Lib.hid hblk
        have HB2 := Lib.hid hblk2
        clear hblk hblk2
        by_cases hlt : k < len
        · first
          | omega
          | (
            obtain ⟨x, hx⟩ := get_of_lt (xs := zs) (k := k) (by rw [HL.out]; exact hlt)
            have hcx : wr.cell? ⟨b, off + k, none⟩ = some (.int .i64 x) := (hbel.cell (p := ⟨b, off + k, none⟩) hblt).trans (hlies.one hx)
            have hs := partsTo_snoc (zs.take k) x
            rw [← take_snoc hx] at hs
            generalize partsTo (zs.take k) = n at *
            generalize hm : partsTo (zs.take (k + 1)) = m at *
            have HM := Lib.hid hm
            clear hm hx
            have hp := partOf_bd x
            have HS := Lib.hid hs
            clear hs
            obtain ⟨q1, q2⟩ := tmod_bd x
            have hq : partOf x = (x.tmod 1000 + 1000) % 1000 := rfl
            generalize hy : x.tmod 1000 = y at *
            generalize hr : partOf x = r at *
            obtain ⟨hp1, hp2⟩ := hp
            have hq' : (y + 1000) % 1000 = r := hq.symm
            clear hq hr
            have ha := advance_c w.heap.size n r wr hp1 hc hf
            rw [addZ_in h0 (by omega) hp1 (by omega)] at ha
            have HA2 := Lib.hid ha
            clear ha
            have w1 : wrap64 y = y := by unfold wrap64; omega
            go_wp2_with (fail)
            refine HA2.out.mono ?_
            rintro e w' ⟨rfl, rfl⟩
            go_wp2_with (fail)
            go_roundw
            case rel => exact ⟨k + 1, by omega, by go_num, by rw [HM.out, HS.out], by rw [HM.out, HS.out]; omega, by rw [HM.out, HS.out]; omega, by rw [HM.out, HS.out]; exact blk_set HB.out, (Below.heap_setCell _ _ _ _ (by simp)).trans HB2.out, hbel.setCell (Nat.le_refl _) _⟩
            case measure => simp [intOf]; omega)
        · generalize partsTo (zs.take k) = n at *
          have ha := advance_c (w.heap.size + 1) 0 n wr h0 (blk_cell HB2.out) (blk_free HB2.out 0)
          rw [addZ_in (by omega) (by omega) h0 (by omega), Int.zero_add] at ha
          have HA2 := Lib.hid ha
          clear ha
          have hc1 : (wr.setCell ⟨w.heap.size + 1, 0, none⟩ (.int .i64 n)).cell? ⟨w.heap.size, 0, none⟩ = some (.int .i64 n) := by rw [World.cell?_setCell_other _ _ _ _ (by simp)]; exact hc
          have hc2 : (wr.setCell ⟨w.heap.size + 1, 0, none⟩ (.int .i64 n)).cell? ⟨w.heap.size + 1, 0, none⟩ = some (.int .i64 n) := blk_cell (blk_set HB2.out)
          go_wp2_with (fail)
          refine HA2.out.mono ?_
          rintro e w' ⟨rfl, rfl⟩
          go_wp2_with (fail)
          refine (now_c _ n _ hc1).mono ?_
          rintro e w' ⟨rfl, rfl⟩
          go_wp2_with (fail)
          refine (now_c _ n _ hc2).mono ?_
          rintro e w' ⟨rfl, rfl⟩
          go_wp2_with (fail)
          refine (now_c _ n _ hc1).mono ?_
          rintro e w' ⟨rfl, rfl⟩
          go_wp2_with (fail)
          refine (HA.out _ (hbel.setCell (by simp) _)).mono ?_
          rintro e w' ⟨rfl, hb⟩
          go_wp2_with (fail)
          go_ret
          exact ⟨rfl, hb⟩
end Go.Proofs.Ytfbilfdohhcpgaa
