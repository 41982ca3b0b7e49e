/-
  The document's timers (tarpaulinref1.Timers): period, Stop.
-/
import Derived.Test.YtgjgopcomgclkaaRa
namespace Go.Proofs.Ytgjgopcomgclkaa
open Go.RowKit
set_option linter.unusedVariables false
set_option linter.unusedSimpArgs false

/-- The document's timers in block b: their heap, and their periods (id, and the period as 'when'). -/
structure RTim (w : World) (b : Nat) (lv pv : Value) (L : List It) (sq : Int) (PL : List It) : Prop where
  h : RefH w b 51 [pv] lv L sq
  p : Owns encT 68 3 w pv PL
  nb : pv.ownBlock ≠ some b
  nl : ∀ c, pv.ownBlock = some c → lv.ownBlock ≠ some c
theorem RTim.turns {S : Nat → Prop} {w w' : World} {b : Nat} {lv pv : Value} {L : List It} {sq : Int} {PL : List It} (h : RTim w b lv pv L sq PL) (ht : Turns S w w') (h1 : ¬ S b) (h2 : ∀ k, lv.ownBlock = some k → ¬ S k) (h3 : ∀ k, pv.ownBlock = some k → ¬ S k) : RTim w' b lv pv L sq PL :=
  ⟨h.h.turns ht h1 h2, h.p.turns ht h3, h.nb, h.nl⟩
theorem RTim.made {w w' : World} {b : Nat} {lv pv : Value} {L : List It} {sq : Int} {PL : List It} (h : RTim w b lv pv L sq PL) (ht : Made w w') : RTim w' b lv pv L sq PL := h.turns ht (fun h => h) (fun _ _ h => h) (fun _ _ h => h)
theorem RTim.cells {w : World} {b : Nat} {lv pv : Value} {L : List It} {sq : Int} {PL : List It} (h : RTim w b lv pv L sq PL) : w.cell? ⟨b, 0, none⟩ = some lv ∧ w.cell? ⟨b, 1, none⟩ = some (.int .i64 sq) ∧ w.cell? ⟨b, 2, none⟩ = some pv := by
  have c0 := h.h.blk.cell 0
  have c1 := h.h.blk.cell 1
  have c2 := h.h.blk.cell 2
  simp only [List.getElem?_toArray, List.getElem?_cons_zero, List.getElem?_cons_succ] at c0 c1 c2
  exact ⟨c0, c1, c2⟩

theorem per_some {b : Nat} {lv pv : Value} {L : List It} {sq : Int} {PL : List It} (id : Int) (w : World) (h : RTim w b lv pv L sq PL) (hn : PL.length ≤ 1000000) {k : Nat} {x : It} (hk : PL[k]? = some x) (hid : x.id = id) (hu : Uniq PL) :
    Calls Try.prog 51 #[.pointer (some ⟨b, 0, none⟩), .int .i64 id] w fun e w' => e = .returned (.int .i64 x.when) ∧ w = w' := by
  rcases h.p.form with ⟨rfl, h0⟩ | ⟨g, cap, rfl, hg, hlc, hcm⟩
  · rw [h0] at hk; simp at hk
  obtain ⟨c0, c1, c2⟩ := h.cells
  have HO := Lib.hid h.p
  have HU := Lib.hid hu
  have HK := Lib.hid hk
  have HID := Lib.hid hid
  have hkl := (List.getElem?_eq_some_iff.1 hk).1
  clear h hu hk hid hg c0 c1
  go_enter Try.func51, Try.ntmps51
  go_wp2_with fail
  go_loopw [5] (fun v5 wr => ∃ j : Nat, j ≤ k ∧ v5 = .int .i64 j ∧ w = wr) (fun v5 _ => k - (intOf v5).toNat)
  case atStart => exact ⟨0, Nat.zero_le _, rfl, rfl⟩
  case round =>
    obtain ⟨j, hj, rfl, rfl⟩ := hrel
    have j1 : (0 : Int) ≤ (j : Int) := Int.natCast_nonneg _
    have j2 : (j : Int) < (PL.length : Int) := by omega
    obtain ⟨y, hy⟩ := get_of_lt (xs := PL) (k := j) (by omega)
    have e0 := Owns.cell encT_len HO.out hy (j := 0) rfl
    have e1 := Owns.cell encT_len HO.out hy (j := 1) rfl
    simp only [Nat.add_zero] at e0
    by_cases hjk : j = k
    · have hyx : y = x := by
        rw [hjk, HK.out] at hy
        cases hy
        rfl
      have hb : (y.id == id) = true := by simp [hyx, HID.out]
      have HYX := Lib.hid hyx
      clear hy hjk hyx
      go_wp2_with fail
      go_ret
      exact ⟨by have h := HYX.out; subst h; rfl, rfl⟩
    · have hyx : y.id ≠ id := fun e => hjk (HU.out _ _ _ _ hy HK.out (by rw [e, HID.out]))
      have hb : (y.id == id) = false := by simp [hyx]
      clear hy hyx
      go_wp2_with fail
      go_roundw
      case rel => exact ⟨j + 1, by omega, by go_num, by trivial⟩
      case measure => simp [intOf]; omega
theorem per_none {b : Nat} {lv pv : Value} {L : List It} {sq : Int} {PL : List It} (id : Int) (w : World) (h : RTim w b lv pv L sq PL) (hn : PL.length ≤ 1000000) (hno : ∀ x ∈ PL, x.id ≠ id) :
    Calls Try.prog 51 #[.pointer (some ⟨b, 0, none⟩), .int .i64 id] w fun e w' => e = .returned (.int .i64 (-1)) ∧ w = w' := by
  obtain ⟨ap, cp, rfl⟩ := owns_slice h.p
  obtain ⟨c0, c1, c2⟩ := h.cells
  have HO := Lib.hid h.p
  have HNO := Lib.hid hno
  clear h hno c0 c1
  go_enter Try.func51, Try.ntmps51
  go_wp2_with fail
  go_loopw [5] (fun v5 wr => ∃ j : Nat, j ≤ PL.length ∧ v5 = .int .i64 j ∧ w = wr) (fun v5 _ => PL.length - (intOf v5).toNat)
  case atStart => exact ⟨0, Nat.zero_le _, rfl, rfl⟩
  case round =>
    obtain ⟨j, hj, rfl, rfl⟩ := hrel
    have j1 : (0 : Int) ≤ (j : Int) := Int.natCast_nonneg _
    by_cases hjl : j < PL.length
    · rcases HO.out.form with ⟨h0, h1⟩ | ⟨g, cap, hv, hg, hlc, hcm⟩
      · rw [h1] at hjl; simp at hjl
      simp only [Value.slice.injEq, true_and] at hv
      obtain ⟨rfl, rfl⟩ := hv
      have j2 : (j : Int) < (PL.length : Int) := by omega
      obtain ⟨y, hy⟩ := get_of_lt hjl
      have e0 := Owns.cell encT_len HO.out hy (j := 0) rfl
      simp only [Nat.add_zero] at e0
      have hyx : y.id ≠ id := HNO.out y (List.mem_of_getElem? hy)
      have hb : (y.id == id) = false := by simp [hyx]
      clear hy hyx hg
      go_wp2_with fail
      go_roundw
      case rel => exact ⟨j + 1, by omega, by go_num, by trivial⟩
      case measure => simp [intOf]; omega
    · have j2 : ¬ (j : Int) < (PL.length : Int) := by omega
      go_wp2_with fail
      go_ret
      exact ⟨rfl, rfl⟩

/-- Remove, whoever. -/
theorem rrem_any {b : Nat} {t : TypeId} {rest : List Value} {lv : Value} {L : List It} {sq : Int} (id : Int) (w : World) (h : RefH w b t rest lv L sq) (hn : L.length ≤ 1000000) (hu : Uniq L) :
    ∃ x : It, Calls Try.prog 41 #[.pointer (some ⟨b, 0, none⟩), .int .i64 id] w fun e w' => e = .returned (.tuple #[.agg #[.int .i64 x.id, .int .i64 x.when, .int .i64 x.seq], .bool (findL id L).isSome]) ∧ ∃ lv', RefH w' b t rest lv' (delL id L) sq ∧ Turns (fun c => c = b) w w' ∧ (∀ c, lv'.ownBlock = some c → lv.ownBlock = some c ∨ w.heap.size ≤ c) := by
  cases hf : findL id L with
  | none =>
    refine ⟨zeroT, (rrem_none id w h hn ((findL_none id).1 hf)).mono ?_⟩
    rintro e w' ⟨rfl, hm⟩
    have hd : delL id L = L := by
      unfold delL
      exact List.filter_eq_self.2 (fun x hx => by simpa using (findL_none id).1 hf x hx)
    rw [hd]
    exact ⟨rfl, lv, h.made hm, hm.mono (fun _ _ h => h.elim), fun c hc => .inl hc⟩
  | some x =>
    obtain ⟨k, hk, hid⟩ := find_at hu hf
    refine ⟨x, (rrem_some id w h hn hk hid hu).mono ?_⟩
    rintro e w' ⟨rfl, lv', hr, ht, hfar⟩
    refine ⟨rfl, lv', ?_, ht, fun c hc => .inr (hfar c hc)⟩
    rw [← hid, delL_at L k x hu hk]
    exact hr
/-- A new row of periods. -/
theorem rt_set {W w3 : World} {b : Nat} {lv pv v3 : Value} {L M PL : List It} {sq : Int} (HR : RTim W b lv pv L sq PL) (hg : Grow encT 68 3 W w3 v3 M) :
    RTim (w3.setCell ⟨b, 2, none⟩ v3) b lv v3 L sq M ∧ Turns (fun c => c = b) W (w3.setCell ⟨b, 2, none⟩ v3) := by
  have hbl := HR.h.blk.lt
  have hb2 := HR.h.blk.turns hg.made (fun h => h)
  have ht3 : Turns (fun c => c = b) w3 (w3.setCell ⟨b, 2, none⟩ v3) := (Turns.refl (fun c => c = b) w3).setCell (p := ⟨b, 2, none⟩) (fun _ => rfl) _
  refine ⟨⟨⟨?_, ?_, HR.h.ne⟩, ?_, fun e => by have := hg.far b e; omega, fun c hc hl => ?_⟩, (hg.made.mono (fun _ _ h => h.elim)).then ht3 (fun _ _ h => h)⟩
  · have := hb2.put 2 v3
    simpa using this
  · exact (HR.h.own.turns hg.made (fun _ _ h => h)).turns ht3 (fun c hc e => HR.h.ne (by rw [hc, e]))
  · exact hg.own.turns ht3 (fun c hc e => by subst e; have := hg.far c hc; omega)
  · have := hg.far c hc
    have := HR.h.own.lt hl
    omega
end Go.Proofs.Ytgjgopcomgclkaa
