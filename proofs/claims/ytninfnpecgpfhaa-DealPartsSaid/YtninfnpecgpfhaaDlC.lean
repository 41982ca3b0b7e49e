/-
  Contracts: slices.Equal at []int, deal.Prefix, tarpaulinalike.Ints, Round.
-/
import Derived.Test.YtninfnpecgpfhaaDlB
namespace Go.Proofs.Ytninfnpecgpfhaa
open Go.RowKit
set_option linter.unusedVariables false
set_option linter.unusedSimpArgs false

theorem eq_of_takes {xs ys : List Int} {k : Nat} (h : xs.take k = ys.take k) (h1 : xs.length ≤ k) (h2 : xs.length = ys.length) : xs = ys := by
  rw [List.take_of_length_le h1, List.take_of_length_le (by omega)] at h
  exact h
theorem takes_next {xs ys : List Int} {k : Nat} {x y : Int} (hx : xs[k]? = some x) (hy : ys[k]? = some y) (h : xs.take k = ys.take k) (e : x = y) : xs.take (k + 1) = ys.take (k + 1) := by
  rw [take_snoc hx, take_snoc hy, h, e]
theorem ne_of_get {xs ys : List Int} {k : Nat} {x y : Int} (hx : xs[k]? = some x) (hy : ys[k]? = some y) (e : x ≠ y) : xs ≠ ys := by
  rintro rfl
  rw [hx] at hy
  exact e (Option.some.inj hy)

set_option maxHeartbeats 2000000 in
theorem equal_c (a b : Option Addr) (la ca lb cb : Nat) (xs ys : List Int) (w : World) (ha : RowIn encI 1 w a la xs) (hb : RowIn encI 1 w b lb ys) (hn : la ≤ 1000000) (hn2 : lb ≤ 1000000) :
    Calls Try.prog 19 #[.slice a la ca, .slice b lb cb] w fun e w' => e = .returned (.bool (decide (xs = ys))) ∧ Made w w' := by
  obtain ⟨hla, ha⟩ := ha
  obtain ⟨hlb, hb⟩ := hb
  obtain ⟨r, hr⟩ : ∃ r, decide (xs = ys) = r := ⟨_, rfl⟩
  rw [hr]
  by_cases hl : la = lb
  · have HL := Lib.hid hl
    have HA := Lib.hid hla
    have HB := Lib.hid hlb
    have HR := Lib.hid hr
    have hl1 : la ≤ lb := by omega
    have hl2 : lb ≤ la := by omega
    clear hl hla hlb hr
    rcases ha with hz | ⟨ba, oa, rfl, hlta, hliesa⟩
    all_goals rcases hb with hz2 | ⟨bb, ob, rfl, hltb, hliesb⟩
    all_goals
      go_enter Try.func19, Try.ntmps19
      go_wp2_with fail
      go_loopw [13] (fun v13 wr => ∃ k : Nat, k ≤ la ∧ v13 = .int .i64 k ∧ xs.take k = ys.take k ∧ Made w wr) (fun v13 _ => la - (intOf v13).toNat)
      case atStart => exact ⟨0, Nat.zero_le _, rfl, rfl, Turns.refl _ _⟩
      case round =>
        obtain ⟨k, hk, rfl, htk, hmade⟩ := hrel
        have HT := Lib.hid htk
        have HM := Lib.hid hmade
        clear htk hmade
        by_cases hlt : k < la
        · first
          | omega
          | (
            obtain ⟨x, hx⟩ := get_of_lt (xs := xs) (k := k) (by rw [HA.out]; exact hlt)
            obtain ⟨y, hy⟩ := get_of_lt (xs := ys) (k := k) (by rw [HB.out]; omega)
            have c1 : wr.cell? ⟨ba, oa + k, none⟩ = some (.int .i64 x) := (HM.out.cell (p := ⟨ba, oa + k, none⟩) hlta (fun h => h)).trans (Lies.one (f := Value.int .i64) hliesa hx)
            have c2 : wr.cell? ⟨bb, ob + k, none⟩ = some (.int .i64 y) := (HM.out.cell (p := ⟨bb, ob + k, none⟩) hltb (fun h => h)).trans (Lies.one (f := Value.int .i64) hliesb hy)
            have HX := Lib.hid hx
            have HY := Lib.hid hy
            clear hx hy
            have i1 : (0 : Int) ≤ (k : Int) := Int.natCast_nonneg _
            have i2 : (k : Int) < (la : Int) := by omega
            have i3 : (k : Int) < (lb : Int) := by omega
            go_wp2_with fail
            go_quiet (fail)
            by_cases he : x = y
            · have he' : (x != y) = false := by simp [he]
              go_wp2_with fail
              go_roundw
              case rel => exact ⟨k + 1, by omega, by go_num, takes_next HX.out HY.out HT.out he, HM.out.drewN _⟩
              case measure => simp [intOf]; omega
            · have he' : (x != y) = true := by simp [he]
              have hf : r = false := by rw [← HR.out]; simp [ne_of_get HX.out HY.out he]
              subst hf
              go_wp2_with fail
              go_ret
              exact ⟨rfl, HM.out.drewN _⟩)
        · have ht : r = true := by rw [← HR.out]; simp [eq_of_takes HT.out (by rw [HA.out]; omega) (by rw [HA.out, HB.out, HL.out])]
          subst ht
          go_wp2_with fail
          go_ret
          exact ⟨rfl, HM.out⟩
  · have hf : r = false := by
      rw [← hr]
      simp only [decide_eq_false_iff_not]
      rintro rfl
      omega
    subst hf
    have h1 : ((la : Int) != (lb : Int)) = true := by rw [bne_iff_ne]; omega
    clear hla hlb
    go_enter Try.func19, Try.ntmps19
    go_wp2
    go_ret
    exact ⟨rfl, Turns.refl _ _⟩
set_option maxHeartbeats 2000000 in
theorem ints_c (a b : Option Addr) (la ca lb cb : Nat) (xs ys : List Int) (w : World) (ha : RowIn encI 1 w a la xs) (hb : RowIn encI 1 w b lb ys) (hn : la ≤ 1000000) (hn2 : lb ≤ 1000000) :
    Calls Try.prog 11 #[.slice a la ca, .slice b lb cb] w fun e w' => e = .returned (.bool (decide (xs = ys))) ∧ Made w w' := by
  obtain ⟨hla, ha⟩ := ha
  obtain ⟨hlb, hb⟩ := hb
  obtain ⟨r, hr⟩ : ∃ r, decide (xs = ys) = r := ⟨_, rfl⟩
  rw [hr]
  by_cases hl : la = lb
  · have HL := Lib.hid hl
    have HA := Lib.hid hla
    have HB := Lib.hid hlb
    have HR := Lib.hid hr
    have hl1 : la ≤ lb := by omega
    have hl2 : lb ≤ la := by omega
    clear hl hla hlb hr
    rcases ha with hz | ⟨ba, oa, rfl, hlta, hliesa⟩
    all_goals rcases hb with hz2 | ⟨bb, ob, rfl, hltb, hliesb⟩
    all_goals
      go_enter Try.func11, Try.ntmps11
      go_wp2_with fail
      go_loopw [5] (fun v13 wr => ∃ k : Nat, k ≤ la ∧ v13 = .int .i64 k ∧ xs.take k = ys.take k ∧ Made w wr) (fun v13 _ => la - (intOf v13).toNat)
      case atStart => exact ⟨0, Nat.zero_le _, rfl, rfl, Turns.refl _ _⟩
      case round =>
        obtain ⟨k, hk, rfl, htk, hmade⟩ := hrel
        have HT := Lib.hid htk
        have HM := Lib.hid hmade
        clear htk hmade
        by_cases hlt : k < la
        · first
          | omega
          | (
            obtain ⟨x, hx⟩ := get_of_lt (xs := xs) (k := k) (by rw [HA.out]; exact hlt)
            obtain ⟨y, hy⟩ := get_of_lt (xs := ys) (k := k) (by rw [HB.out]; omega)
            have c1 : wr.cell? ⟨ba, oa + k, none⟩ = some (.int .i64 x) := (HM.out.cell (p := ⟨ba, oa + k, none⟩) hlta (fun h => h)).trans (Lies.one (f := Value.int .i64) hliesa hx)
            have c2 : wr.cell? ⟨bb, ob + k, none⟩ = some (.int .i64 y) := (HM.out.cell (p := ⟨bb, ob + k, none⟩) hltb (fun h => h)).trans (Lies.one (f := Value.int .i64) hliesb hy)
            have HX := Lib.hid hx
            have HY := Lib.hid hy
            clear hx hy
            have i1 : (0 : Int) ≤ (k : Int) := Int.natCast_nonneg _
            have i2 : (k : Int) < (la : Int) := by omega
            have i3 : (k : Int) < (lb : Int) := by omega
            go_wp2_with fail
            go_quiet (fail)
            by_cases he : x = y
            · have he' : (x != y) = false := by simp [he]
              go_wp2_with fail
              go_roundw
              case rel => exact ⟨k + 1, by omega, by go_num, takes_next HX.out HY.out HT.out he, HM.out.drewN _⟩
              case measure => simp [intOf]; omega
            · have he' : (x != y) = true := by simp [he]
              have hf : r = false := by rw [← HR.out]; simp [ne_of_get HX.out HY.out he]
              subst hf
              go_wp2_with fail
              go_ret
              exact ⟨rfl, HM.out.drewN _⟩)
        · have ht : r = true := by rw [← HR.out]; simp [eq_of_takes HT.out (by rw [HA.out]; omega) (by rw [HA.out, HB.out, HL.out])]
          subst ht
          go_wp2_with fail
          go_ret
          exact ⟨rfl, HM.out⟩
  · have hf : r = false := by
      rw [← hr]
      simp only [decide_eq_false_iff_not]
      rintro rfl
      omega
    subst hf
    have h1 : ((la : Int) != (lb : Int)) = true := by rw [bne_iff_ne]; omega
    clear hla hlb
    go_enter Try.func11, Try.ntmps11
    go_wp2
    go_ret
    exact ⟨rfl, Turns.refl _ _⟩

theorem RowIn.take {α : Type} {enc : α → List Value} {size : Nat} {w : World} {a : Option Addr} {len n : Nat} {xs : List α} (h : RowIn enc size w a len xs) (hn : n ≤ len) : RowIn enc size w a n (xs.take n) := by
  obtain ⟨h1, h2⟩ := h
  refine ⟨by rw [List.length_take]; omega, ?_⟩
  rcases h2 with h2 | ⟨b, off, h3, h4, h5⟩
  · exact .inl (by omega)
  · refine .inr ⟨b, off, h3, h4, fun i x hx j v hv => h5 i x ?_ j v hv⟩
    rw [List.getElem?_take] at hx
    split at hx
    · exact hx
    · cases hx
theorem RowIn.turns {α : Type} {enc : α → List Value} {size : Nat} {w w' : World} {a : Option Addr} {len : Nat} {xs : List α} {S : Nat → Prop} (h : RowIn enc size w a len xs) (ht : Turns S w w') (hn : ∀ b o, a = some ⟨b, o, none⟩ → b < w.heap.size → ¬ S b) : RowIn enc size w' a len xs := by
  obtain ⟨h1, h2⟩ := h
  refine ⟨h1, ?_⟩
  rcases h2 with h2 | ⟨b, off, h3, h4, h5⟩
  · exact .inl h2
  · exact .inr ⟨b, off, h3, Nat.lt_of_lt_of_le h4 ht.size, h5.keep fun o => ht.cell (p := ⟨b, o, none⟩) h4 (hn b off h3 h4)⟩
theorem RowIn.made {α : Type} {enc : α → List Value} {size : Nat} {w w' : World} {a : Option Addr} {len : Nat} {xs : List α} (h : RowIn enc size w a len xs) (ht : Made w w') : RowIn enc size w' a len xs := h.turns ht (fun _ _ _ _ h => h)

def prefF (xs ys : List Int) : Bool := decide (xs.length ≤ ys.length ∧ xs = ys.take xs.length)

set_option maxHeartbeats 1000000 in
theorem prefix_c (a b : Option Addr) (la ca lb cb : Nat) (xs ys : List Int) (w : World) (ha : RowIn encI 1 w a la xs) (hb : RowIn encI 1 w b lb ys) (hn : la ≤ 1000000) (hn2 : lb ≤ 1000000) (hcb : lb ≤ cb) (hcm : cb ≤ maxLen) :
    Calls Try.prog 16 #[.slice a la ca, .slice b lb cb] w fun e w' => e = .returned (.bool (prefF xs ys)) ∧ Made w w' := by
  unfold maxLen at hcm
  by_cases hl : la ≤ lb
  · have h := equal_c a b la ca la cb xs (ys.take la) w ha (hb.take hl) hn (by omega)
    have he : decide (xs = ys.take la) = prefF xs ys := by
      unfold prefF
      rw [ha.1, hb.1]
      simp [hl]
    rw [he] at h
    have H := Lib.hid h
    generalize prefF xs ys = r at *
    clear h ha hb he
    have q1 : la ≤ cb := by omega
    go_enter Try.func16, Try.ntmps16
    go_wp2_with fail
    refine H.out.mono ?_
    rintro e w' ⟨rfl, hm⟩
    go_wp2_with fail
    go_ret
    exact ⟨rfl, hm⟩
  · have he : prefF xs ys = false := by
      unfold prefF
      rw [ha.1, hb.1]
      simp [hl]
    rw [he]
    clear ha hb he
    go_enter Try.func16, Try.ntmps16
    go_wp2_with fail
    go_ret
    exact ⟨rfl, Turns.refl _ _⟩

theorem ret_int {k : IntKind} {a b : Int} (h : a = b) : Ending.returned (.int k a) = .returned (.int k b) := by rw [h]

theorem tmod_round (k n : Int) (hn : 0 < n) : (k.tmod n + n).tmod n = k % n := by
  have h2 := Int.lt_tmod_of_pos k hn
  rw [Int.tmod_eq_emod_of_nonneg (by omega), Int.add_emod_right]
  have e := Int.tmod_add_mul_tdiv k n
  have e2 : k.tmod n = k - n * k.tdiv n := by omega
  rw [e2, Int.sub_mul_emod_self_left]

theorem round_c (k n : Int) (w : World) (hn : 0 < n) (hb : n ≤ 4611686018427387904) : Calls Try.prog 8 #[.int .i64 k, .int .i64 n] w fun e w' => e = .returned (.int .i64 (k % n)) ∧ w = w' := by
  have h1 := Int.tmod_lt_of_pos k hn
  have h2 := Int.lt_tmod_of_pos k hn
  have h3 := tmod_round k n hn
  have h4 : 0 ≤ k % n := Int.emod_nonneg _ (by omega)
  have h5 : k % n < n := Int.emod_lt_of_pos _ hn
  have n1 : ¬ n = 0 := by omega
  have n2 : (n == 0) = false := beq_eq_false_iff_ne.mpr n1
  generalize hr : k % n = r at *
  generalize ha : k.tmod n = a at *
  have w1 : wrap64 a = a := by unfold wrap64; omega
  have w2 : wrap64 (a + n) = a + n := by unfold wrap64; omega
  generalize hs : a + n = s at *
  have w3 : s % n = r := by rw [← Int.tmod_eq_emod_of_nonneg (by omega)]; exact h3
  have H := Lib.hid hr
  clear hr h3
  go_enter Try.func8, Try.ntmps8
  go_wp2
  go_ret
  exact ⟨ret_int w3, rfl⟩

/-- What was sent, and not received; none if what was received is not the beginning of it. -/
def leftF (ds : List DealT) (ch : Int) : List Int := if prefF (valsF ds ch true) (valsF ds ch false) then (valsF ds ch false).drop (valsF ds ch true).length else []

theorem RowIn.drop_end {α : Type} {enc : α → List Value} {size : Nat} {w : World} {a : Option Addr} {len n : Nat} {xs : List α} (h : RowIn enc size w a len xs) (hn : len ≤ n) : RowIn enc size w a (len - n) (xs.drop n) := by
  obtain ⟨h1, _⟩ := h
  exact ⟨by rw [List.length_drop, h1], .inl (by omega)⟩
theorem RowIn.drop {α : Type} {enc : α → List Value} {w : World} {a : Option Addr} {len n : Nat} {xs : List α} (h : RowIn enc 1 w a len xs) (hn : n ≤ len) :
    RowIn enc 1 w (a.map (fun x => x.add n)) (len - n) (xs.drop n) := by
  obtain ⟨h1, h2⟩ := h
  refine ⟨by rw [List.length_drop, h1], ?_⟩
  by_cases hz : len - n ≤ 0
  · exact .inl hz
  · rcases h2 with h2 | ⟨b', off', rfl, h4, h5⟩
    · omega
    · refine .inr ⟨b', off' + n, by simp [Addr.add_lit], h4, fun i x hx j v hv => ?_⟩
      rw [List.getElem?_drop] at hx
      have := h5 (n + i) x hx j v hv
      rw [show off' + n + i * 1 + j = off' + (n + i) * 1 + j from by omega]
      exact this
end Go.Proofs.Ytninfnpecgpfhaa
