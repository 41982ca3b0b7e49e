/-
  The document's heap (tarpaulinref1.Heap): Find.
-/
import Derived.Test.YtgjgopcomgclkaaHpX
import Derived.Laws.ResultCell
namespace Go.Proofs.Ytgjgopcomgclkaa
open Go.RowKit
set_option linter.unusedVariables false
set_option linter.unusedSimpArgs false

theorem Try.infoR : (Try.prog.info? 68).map (fun i => (i.zero, i.size, i.bytes)) = some (some (.agg #[.int .i64 0, .int .i64 0, .int .i64 0]), 3, 24) := by kernel_rfl
/-- The document's heap: a row of items as rising, and the last number; behind them whatever the block holds besides. -/
structure RefH (w : World) (b : Nat) (t : TypeId) (rest : List Value) (lv : Value) (L : List It) (sq : Int) : Prop where
  blk : Blk w b t (lv :: .int .i64 sq :: rest).toArray
  own : Owns encT 68 3 w lv L
  ne : lv.ownBlock ≠ some b
theorem RefH.turns {S : Nat → Prop} {w w' : World} {b : Nat} {t : TypeId} {rest : List Value} {lv : Value} {L : List It} {sq : Int} (h : RefH w b t rest lv L sq) (ht : Turns S w w') (h1 : ¬ S b) (h2 : ∀ k, lv.ownBlock = some k → ¬ S k) : RefH w' b t rest lv L sq :=
  ⟨h.blk.turns ht h1, h.own.turns ht h2, h.ne⟩
theorem RefH.made {w w' : World} {b : Nat} {t : TypeId} {rest : List Value} {lv : Value} {L : List It} {sq : Int} (h : RefH w b t rest lv L sq) (ht : Made w w') : RefH w' b t rest lv L sq := h.turns ht (fun h => h) (fun _ _ h => h)

theorem rfind_some {b : Nat} {t : TypeId} {rest : List Value} {lv : Value} {L : List It} {sq : Int} (id : Int) (w : World) (h : RefH w b t rest lv L sq) (hn : L.length ≤ 1000000) {k : Nat} {x : It} (hk : L[k]? = some x) (hid : x.id = id) (hu : Uniq L) :
    Calls Try.prog 44 #[.pointer (some ⟨b, 0, none⟩), .int .i64 id] w fun e w' => e = .returned (.int .i64 k) ∧ w = w' := by
  rcases h.own.form with ⟨rfl, h0⟩ | ⟨g, cap, rfl, hg, hlc, hcm⟩
  · rw [h0] at hk; simp at hk
  have c0 := h.blk.cell 0
  simp only [List.getElem?_toArray, List.getElem?_cons_zero] at c0
  have HO := Lib.hid h.own
  have HU := Lib.hid hu
  have HK := Lib.hid hk
  have HID := Lib.hid hid
  have hkl := (List.getElem?_eq_some_iff.1 hk).1
  clear h hu hk hid hg
  go_enter Try.func44, Try.ntmps44
  go_wp2_with fail
  go_loopw [5] (fun v5 wr => ∃ j : Nat, j ≤ k ∧ v5 = .int .i64 j ∧ wr = w) (fun v5 _ => k - (intOf v5).toNat)
  case atStart => exact ⟨0, Nat.zero_le _, rfl, rfl⟩
  case round =>
    obtain ⟨j, hj, rfl, rfl⟩ := hrel
    have j1 : (0 : Int) ≤ (j : Int) := Int.natCast_nonneg _
    have j2 : (j : Int) < (L.length : Int) := by omega
    obtain ⟨y, hy⟩ := get_of_lt (xs := L) (k := j) (by omega)
    have e0 := Owns.cell encT_len HO.out hy (j := 0) rfl
    simp only [Nat.add_zero] at e0
    by_cases hjk : j = k
    · have hyx : y.id = id := by
        rw [hjk, HK.out] at hy
        cases hy
        exact HID.out
      have hb : (y.id == id) = true := by simp [hyx]
      have HJK := Lib.hid hjk
      clear hy hjk hyx
      go_wp2_with fail
      go_ret
      exact ⟨by rw [← HJK.out]; rfl, rfl⟩
    · have hyx : y.id ≠ id := fun e => hjk (HU.out _ _ _ _ hy HK.out (by rw [e, HID.out]))
      have hb : (y.id == id) = false := by simp [hyx]
      clear hy hyx
      go_wp2_with fail
      go_roundw
      case rel => exact ⟨j + 1, by omega, by go_num, by trivial⟩
      case measure => simp [intOf]; omega
theorem rfind_none {b : Nat} {t : TypeId} {rest : List Value} {lv : Value} {L : List It} {sq : Int} (id : Int) (w : World) (h : RefH w b t rest lv L sq) (hn : L.length ≤ 1000000) (hno : ∀ x ∈ L, x.id ≠ id) :
    Calls Try.prog 44 #[.pointer (some ⟨b, 0, none⟩), .int .i64 id] w fun e w' => e = .returned (.int .i64 (-1)) ∧ w = w' := by
  have c0 := h.blk.cell 0
  simp only [List.getElem?_toArray, List.getElem?_cons_zero] at c0
  rcases h.own.form with ⟨rfl, rfl⟩ | ⟨g, cap, rfl, hg, hlc, hcm⟩
  · clear h
    go_enter Try.func44, Try.ntmps44
    go_wp2_with fail
    go_loopw [5] (fun v5 wr => v5 = .int .i64 0 ∧ wr = w) (fun v5 _ => 0)
    case atStart => exact ⟨rfl, rfl⟩
    case round =>
      obtain ⟨rfl, rfl⟩ := hrel
      go_wp2_with fail
      go_ret
      exact ⟨rfl, rfl⟩
  · have HO := Lib.hid h.own
    have HNO := Lib.hid hno
    clear h hno hg
    go_enter Try.func44, Try.ntmps44
    go_wp2_with fail
    go_loopw [5] (fun v5 wr => ∃ j : Nat, j ≤ L.length ∧ v5 = .int .i64 j ∧ wr = w) (fun v5 _ => L.length - (intOf v5).toNat)
    case atStart => exact ⟨0, Nat.zero_le _, rfl, rfl⟩
    case round =>
      obtain ⟨j, hj, rfl, rfl⟩ := hrel
      have j1 : (0 : Int) ≤ (j : Int) := Int.natCast_nonneg _
      by_cases hjl : j < L.length
      · have j2 : (j : Int) < (L.length : Int) := by omega
        obtain ⟨y, hy⟩ := get_of_lt hjl
        have e0 := Owns.cell encT_len HO.out hy (j := 0) rfl
        simp only [Nat.add_zero] at e0
        have hyx : y.id ≠ id := HNO.out y (List.mem_of_getElem? hy)
        have hb : (y.id == id) = false := by simp [hyx]
        clear hy hyx
        go_wp2_with fail
        go_roundw
        case rel => exact ⟨j + 1, by omega, by go_num, by trivial⟩
        case measure => simp [intOf]; omega
      · have j2 : ¬ (j : Int) < (L.length : Int) := by omega
        go_wp2_with fail
        go_ret
        exact ⟨rfl, rfl⟩
end Go.Proofs.Ytgjgopcomgclkaa
