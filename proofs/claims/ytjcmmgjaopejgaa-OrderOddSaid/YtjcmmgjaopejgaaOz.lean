/-
  Package order: Told, Times.
-/
import Derived.Test.YtjcmmgjaopejgaaOy
namespace Go.Proofs.Ytjcmmgjaopejgaa
open Go.RowKit Go.Sort
set_option linter.unusedVariables false
set_option linter.unusedSimpArgs false

def encI (z : Int) : List Value := [.int .i64 z]
theorem encI_len (x : Int) : (encI x).length = 1 := rfl
theorem encI_one (x : Int) : ∀ u ∈ encI x, u.oneCell' = true := fun u hu => by
  simp only [encI, List.mem_cons, List.not_mem_nil, or_false] at hu
  rcases hu with rfl
  rfl
theorem Try.infoI : (Try.prog.info? 3).map (fun i => (i.zero, i.size, i.bytes)) = some (some (.int .i64 0), 1, 8) := by kernel_rfl
theorem Grow.nil {α : Type} {enc : α → List Value} {T : TypeId} {size : Nat} {W w : World} (h : Made W w) : Grow enc T size W w (.slice none 0 0) ([] : List α) :=
  ⟨h, ⟨by simp [flat], .inl ⟨rfl, rfl⟩⟩, fun c hc => by simp [Value.ownBlock] at hc⟩
def toldM (l : List Ev) (t : Int) : List Int := l.filterMap fun e => if e.kind = 1 ∧ e.task = t then some e.a else none
def timesM (l : List Ev) : List Int := l.filterMap fun e => if e.kind = 6 then some e.b else none
theorem told_next {l : List Ev} {t : Int} {k : Nat} {e : Ev} (h : l[k]? = some e) : toldM (l.take (k + 1)) t = toldM (l.take k) t ++ (if e.kind = 1 ∧ e.task = t then [e.a] else []) := by
  obtain ⟨hl, rfl⟩ := List.getElem?_eq_some_iff.1 h
  unfold toldM
  rw [List.take_succ_eq_append_getElem hl, List.filterMap_append]
  congr 1
  by_cases hc : l[k].kind = 1 ∧ l[k].task = t <;> simp [hc]
theorem times_next {l : List Ev} {k : Nat} {e : Ev} (h : l[k]? = some e) : timesM (l.take (k + 1)) = timesM (l.take k) ++ (if e.kind = 6 then [e.b] else []) := by
  obtain ⟨hl, rfl⟩ := List.getElem?_eq_some_iff.1 h
  unfold timesM
  rw [List.take_succ_eq_append_getElem hl, List.filterMap_append]
  congr 1
  by_cases hc : l[k].kind = 6 <;> simp [hc]
theorem told_le (l : List Ev) (t : Int) (k : Nat) : (toldM (l.take k) t).length ≤ k := by
  unfold toldM
  have h1 := List.length_filterMap_le (fun e : Ev => if e.kind = 1 ∧ e.task = t then some e.a else none) (l.take k)
  have h2 := List.length_take_le k l
  omega
theorem times_le (l : List Ev) (k : Nat) : (timesM (l.take k)).length ≤ k := by
  unfold timesM
  have h1 := List.length_filterMap_le (fun e : Ev => if e.kind = 6 then some e.b else none) (l.take k)
  have h2 := List.length_take_le k l
  omega

set_option maxHeartbeats 4000000 in
set_option maxRecDepth 100000 in
theorem told_c (a : Option Addr) (len cap : Nat) (l : List Ev) (t : Int) (w : World) (hw : RowIn encE 6 w a len l) (hn : len ≤ 100000) :
    Calls Try.prog 13 #[.slice a len cap, .int .i64 t] w fun e w' => ∃ v, e = .returned v ∧ Grow encI 3 1 w w' v (toldM l t) := by
  obtain ⟨i0, hi0, hz0, hz1, hz2⟩ := info_parts Try.infoI
  have HW := Lib.hid hw
  clear hw
  go_enter Try.func13, Try.ntmps13
  go_wp2_with fail
  go_loopw [4, 9] (fun v4 v9 wr => ∃ j : Nat, j ≤ len ∧ v9 = .int .i64 j ∧ Grow encI 3 1 w wr v4 (toldM (l.take j) t)) (fun _ v9 _ => len - (intOf v9).toNat)
  case atStart => exact ⟨0, Nat.zero_le _, rfl, Grow.nil (Turns.refl _ _)⟩
  case round =>
    obtain ⟨j, hj, rfl, hg⟩ := hrel
    have HG := Lib.hid hg
    clear hg
    have j1 : (0 : Int) ≤ (j : Int) := Int.natCast_nonneg _
    by_cases hjl : j < len
    · have j2 : (j : Int) < (len : Int) := by omega
      obtain ⟨hlen, h0 | ⟨bb, off, rfl, hb, hlies⟩⟩ := HW.out
      · omega
      obtain ⟨e, he⟩ := get_of_lt (xs := l) (k := j) (by omega)
      obtain ⟨c0, c1, c2, c3, c4, c5⟩ := ev_cells (hlies.keep fun o => HG.out.made.cell (p := ⟨bb, o, none⟩) hb (fun h => h)) he
      have HN := Lib.hid (told_next (t := t) he)
      have hle := told_le l t j
      generalize toldM (l.take j) t = A at *
      clear he hlies hb hlen
      by_cases h1 : e.kind = 1
      · have b1 : (e.kind == 1) = true := by simp [h1]
        by_cases h2 : e.task = t
        · have b2 : (e.task == t) = true := by simp [h2]
          have HA := Lib.hid (show toldM (l.take (j + 1)) t = A ++ [e.a] by rw [HN.out, if_pos ⟨h1, h2⟩])
          clear h1 h2
          have HGA := Lib.hid ((HG.out.alloc (.cells #[.int .i64 e.step, .int .i64 e.kind, .int .i64 e.task, .int .i64 e.a, .int .i64 e.b, .int .i64 e.c] 26)).alloc (.cells #[.int .i64 e.a] 3))
          have HS := Lib.hid (SrcAt.block (enc := encI) (N := [e.a]) (n := 1) (c := 1) (Blk.new (wr.alloc (.cells #[.int .i64 e.step, .int .i64 e.kind, .int .i64 e.task, .int .i64 e.a, .int .i64 e.b, .int .i64 e.c] 26)) 3 #[.int .i64 e.a]) rfl (by simp [flat, encI]))
          rw [World.size_alloc] at HS
          go_wp2_with (at_builtin; refine wpList_grow rfl (.tmp 22) (.tmp 25) 24 rfl i0 _ 8 Try.underlying24 hi0 hz0 hz1 hz2 rfl (by omega) encI_len encI_one rfl HGA.out rfl HS.out (by simp [maxLen]; omega) (by simp; omega) ?_)
          intro v3 w3 hg3 hF hS hO
          have HG3 := Lib.hid hg3
          clear hg3 hF hS hO HS HGA
          go_wp2_with fail
          go_roundw
          case rel => exact ⟨j + 1, by omega, by go_num, by rw [HA.out]; exact HG3.out⟩
          case measure => simp [intOf]; omega
        · have b2 : (e.task == t) = false := by simp [h2]
          have HA := Lib.hid (show toldM (l.take (j + 1)) t = A by rw [HN.out, if_neg (fun h => h2 h.2), List.append_nil])
          clear h1 h2
          go_wp2_with fail
          go_roundw
          case rel => exact ⟨j + 1, by omega, by go_num, by rw [HA.out]; exact HG.out.alloc _⟩
          case measure => simp [intOf]; omega
      · have b1 : (e.kind == 1) = false := by simp [h1]
        have HA := Lib.hid (show toldM (l.take (j + 1)) t = A by rw [HN.out, if_neg (fun h => h1 h.1), List.append_nil])
        clear h1
        go_wp2_with fail
        go_roundw
        case rel => exact ⟨j + 1, by omega, by go_num, by rw [HA.out]; exact HG.out.alloc _⟩
        case measure => simp [intOf]; omega
    · have j2 : ¬ (j : Int) < (len : Int) := by omega
      have hall : l.take j = l := List.take_of_length_le (by have := HW.out.1; omega)
      rw [hall] at HG
      clear hall
      go_wp2_with fail
      go_ret
      exact ⟨_, rfl, HG.out⟩
set_option maxHeartbeats 4000000 in
set_option maxRecDepth 100000 in
theorem times_c (a : Option Addr) (len cap : Nat) (l : List Ev) (w : World) (hw : RowIn encE 6 w a len l) (hn : len ≤ 100000) :
    Calls Try.prog 14 #[.slice a len cap] w fun e w' => ∃ v, e = .returned v ∧ Grow encI 3 1 w w' v (timesM l) := by
  obtain ⟨i0, hi0, hz0, hz1, hz2⟩ := info_parts Try.infoI
  have HW := Lib.hid hw
  clear hw
  go_enter Try.func14, Try.ntmps14
  go_wp2_with fail
  go_loopw [2, 7] (fun v4 v9 wr => ∃ j : Nat, j ≤ len ∧ v9 = .int .i64 j ∧ Grow encI 3 1 w wr v4 (timesM (l.take j))) (fun _ v9 _ => len - (intOf v9).toNat)
  case atStart => exact ⟨0, Nat.zero_le _, rfl, Grow.nil (Turns.refl _ _)⟩
  case round =>
    obtain ⟨j, hj, rfl, hg⟩ := hrel
    have HG := Lib.hid hg
    clear hg
    have j1 : (0 : Int) ≤ (j : Int) := Int.natCast_nonneg _
    by_cases hjl : j < len
    · have j2 : (j : Int) < (len : Int) := by omega
      obtain ⟨hlen, h0 | ⟨bb, off, rfl, hb, hlies⟩⟩ := HW.out
      · omega
      obtain ⟨e, he⟩ := get_of_lt (xs := l) (k := j) (by omega)
      obtain ⟨c0, c1, c2, c3, c4, c5⟩ := ev_cells (hlies.keep fun o => HG.out.made.cell (p := ⟨bb, o, none⟩) hb (fun h => h)) he
      have HN := Lib.hid (times_next he)
      have hle := times_le l j
      generalize timesM (l.take j) = A at *
      clear he hlies hb hlen
      by_cases h1 : e.kind = 6
      · have b1 : (e.kind == 6) = true := by simp [h1]
        have HA := Lib.hid (show timesM (l.take (j + 1)) = A ++ [e.b] by rw [HN.out, if_pos h1])
        clear h1
        have HGA := Lib.hid ((HG.out.alloc (.cells #[.int .i64 e.step, .int .i64 e.kind, .int .i64 e.task, .int .i64 e.a, .int .i64 e.b, .int .i64 e.c] 26)).alloc (.cells #[.int .i64 e.b] 3))
        have HS := Lib.hid (SrcAt.block (enc := encI) (N := [e.b]) (n := 1) (c := 1) (Blk.new (wr.alloc (.cells #[.int .i64 e.step, .int .i64 e.kind, .int .i64 e.task, .int .i64 e.a, .int .i64 e.b, .int .i64 e.c] 26)) 3 #[.int .i64 e.b]) rfl (by simp [flat, encI]))
        rw [World.size_alloc] at HS
        go_wp2_with (at_builtin; refine wpList_grow rfl (.tmp 14) (.tmp 17) 24 rfl i0 _ 8 Try.underlying24 hi0 hz0 hz1 hz2 rfl (by omega) encI_len encI_one rfl HGA.out rfl HS.out (by simp [maxLen]; omega) (by simp; omega) ?_)
        intro v3 w3 hg3 hF hS hO
        have HG3 := Lib.hid hg3
        clear hg3 hF hS hO HS HGA
        go_wp2_with fail
        go_roundw
        case rel => exact ⟨j + 1, by omega, by go_num, by rw [HA.out]; exact HG3.out⟩
        case measure => simp [intOf]; omega
      · have b1 : (e.kind == 6) = false := by simp [h1]
        have HA := Lib.hid (show timesM (l.take (j + 1)) = A by rw [HN.out, if_neg h1, List.append_nil])
        clear h1
        go_wp2_with fail
        go_roundw
        case rel => exact ⟨j + 1, by omega, by go_num, by rw [HA.out]; exact HG.out.alloc _⟩
        case measure => simp [intOf]; omega
    · have j2 : ¬ (j : Int) < (len : Int) := by omega
      have hall : l.take j = l := List.take_of_length_le (by have := HW.out.1; omega)
      rw [hall] at HG
      clear hall
      go_wp2_with fail
      go_ret
      exact ⟨_, rfl, HG.out⟩
end Go.Proofs.Ytjcmmgjaopejgaa
