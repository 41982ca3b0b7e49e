/-
  Contracts of package deal: All, values, Sent, Got (and slices.Clone).
-/
import Derived.Test.YtninfnpecgpfhaaDl
namespace Go.Proofs.Ytninfnpecgpfhaa
open Go.RowKit
set_option linter.unusedVariables false
set_option linter.unusedSimpArgs false

theorem encD_one (ds : List DealT) : ∀ u ∈ flat encD ds, u.oneCell' = true := by
  intro u hu
  obtain ⟨d, _, hd⟩ := List.mem_flatMap.1 hu
  simp only [encD, List.mem_cons, List.not_mem_nil, or_false] at hd
  rcases hd with rfl | rfl | rfl | rfl | rfl <;> rfl

set_option maxHeartbeats 400000 in
theorem clone_c (v : Value) (ds : List DealT) (w : World) (ho : Owns encD 27 5 w v ds) (hn : ds.length ≤ 1000000) :
    Calls Try.prog 18 #[v] w fun e w' => ∃ v', e = .returned v' ∧ Owns encD 27 5 w' v' ds ∧ Made w w' ∧ (∀ k, v'.ownBlock = some k → w.heap.size ≤ k) := by
  rcases ho.form with ⟨rfl, rfl⟩ | ⟨g, cap, rfl, hg, hl, hm⟩
  · have hnil := Lib.run_eql_slice_nil (P := Try.prog)
    go_enter Try.func18, Try.ntmps18
    go_wp2
    go_ret
    exact ⟨_, rfl, ho, Turns.refl _ _, fun k hk => by simp [Value.ownBlock] at hk⟩
  · obtain ⟨i0, hi0, hz0, hz1, hz2⟩ := info_parts Try.infoD
    have hnil := Lib.run_eql_slice_nil (P := Try.prog)
    have HO := Lib.hid ho
    clear ho
    go_enter Try.func18, Try.ntmps18
    go_wp2_with (at_builtin; refine wpList_append_own _ rfl (.tmp 5) (.tmp 6) 24 rfl w.heap.size 27 i0 _ 5 40 Try.underlying24 hi0 hz0 hz1 hz2 rfl (by omega) _ 0 [] rfl ?own ⟨g, 0, none⟩ ds.length cap (flat encD ds) rfl ?len ?cells ?one ?b1 ?b2 ?b3 ?_)
    case own => exact World.ownsRow_made w #[] 0 (Nat.le_refl _) (Nat.zero_le _) rfl
    case len => exact flat_length encD_len ds
    case cells =>
      intro j u hu
      rw [Addr.add_lit]
      have h0 := World.ownsRow.cells (g := g) HO.out rfl j u hu
      rw [Addr.add_lit] at h0
      exact ((Below.refl w.heap.size w).alloc (Nat.le_refl _) _).cell (p := ⟨g, 0 + j, none⟩) hg |>.trans h0
    case one => exact encD_one ds
    case b1 => unfold maxLen; omega
    case b2 => omega
    case b3 => simp
    intro v' w1 hown hgrow _
    have hf := hown
    go_wp2
    go_ret
    refine ⟨v', rfl, ?_, ?_, ?_⟩
    · unfold Owns; simpa using owns_zero hown
    · exact ((Turns.refl _ _).alloc _).grown hgrow (fun k hk hlt => by simp [Value.ownBlock] at hk; omega)
    · exact fun k hk => (World.ownsRow.lt hown k hk).1

theorem all_nil (w : World) : Calls Try.prog 15 #[.pointer none] w fun e w' => e = .returned (.slice none 0 0) ∧ w = w' := by
  go_enter Try.func15, Try.ntmps15
  go_wp2
  go_ret
  exact ⟨rfl, rfl⟩

set_option maxHeartbeats 400000 in
theorem all_c (p : Nat) (lv : Value) (ds : List DealT) (w : World) (hl : LogAt w p lv ds) (hn : ds.length ≤ 1000000) :
    Calls Try.prog 15 #[.pointer (some ⟨p, 0, none⟩)] w fun e w' => ∃ v', e = .returned v' ∧ Owns encD 27 5 w' v' ds ∧ Made w w' ∧ (∀ k, v'.ownBlock = some k → w.heap.size ≤ k) := by
  have hc := hl.blk.cell 0
  simp only [List.getElem?_toArray, List.getElem?_cons_zero] at hc
  have HC := Lib.hid (clone_c lv ds w hl.own hn)
  clear hl
  go_enter Try.func15, Try.ntmps15
  go_wp2_with fail
  refine HC.out.mono ?_
  rintro e w' ⟨v', rfl, h1, h2, h3⟩
  go_wp2_with fail
  go_ret
  exact ⟨v', rfl, h1, h2, h3⟩

/-- The values of a channel that were sent, or received. -/
def valsF (ds : List DealT) (ch : Int) (got : Bool) : List Int := (ds.filter fun d => d.ch == ch && d.got == got).map (·.value)
theorem valsF_snoc (ds : List DealT) (d : DealT) (ch : Int) (got : Bool) : valsF (ds ++ [d]) ch got = if d.ch == ch && d.got == got then valsF ds ch got ++ [d.value] else valsF ds ch got := by
  unfold valsF
  rw [List.filter_append]
  by_cases h : (d.ch == ch && d.got == got) = true
  · simp [List.filter_cons, h]
  · simp only [Bool.not_eq_true] at h
    simp [List.filter_cons, h]
theorem valsF_le (ds : List DealT) (ch : Int) (got : Bool) : (valsF ds ch got).length ≤ ds.length := by
  unfold valsF; rw [List.length_map]; exact List.length_filter_le _ _
def encI (z : Int) : List Value := [.int .i64 z]
theorem encI_len (z : Int) : (encI z).length = 1 := rfl
theorem take_snoc {α : Type} {l : List α} {k : Nat} {x : α} (h : l[k]? = some x) : l.take (k + 1) = l.take k ++ [x] := by
  rw [List.take_add_one, h]; rfl

/-- An owned row, from a base on that its block reaches. -/
theorem own_from {w : World} {B : Nat} {e : TypeId} {size : Nat} {v : Value} {n : Nat} {xs : List Value} (B' : Nat) (hB : ∀ b, v.ownBlock = some b → B' ≤ b) (h : w.ownsRow B e size v n xs) : w.ownsRow B' e size v n xs := by
  refine ⟨h.1, ?_⟩
  rcases h.2 with h0 | ⟨g, cap, cur, hv, _, r⟩
  · exact .inl h0
  · exact .inr ⟨g, cap, cur, hv, hB g (by rw [hv]; rfl), r⟩

theorem vals_pushed {w : World} {B : Nat} {v : Value} {A : List Int} {x : Int} (h : w.ownsRow B 3 1 v (A.length + 1) (flat encI A ++ [.int .i64 x])) : Owns encI 3 1 w v (A ++ [x]) := by
  unfold Owns
  rw [flat_append, List.length_append]
  exact owns_zero h

set_option maxHeartbeats 2000000 in
set_option maxRecDepth 100000 in
theorem values_c (p : Nat) (lv : Value) (ds : List DealT) (ch : Int) (got : Bool) (w : World) (hl : LogAt w p lv ds) (hn : ds.length ≤ 1000000) :
    Calls Try.prog 17 #[.pointer (some ⟨p, 0, none⟩), .int .i64 ch, .bool got] w fun e w' => ∃ v', e = .returned v' ∧ Owns encI 3 1 w' v' (valsF ds ch got) ∧ Made w w' ∧ (∀ k, v'.ownBlock = some k → w.heap.size ≤ k) := by
  have HC := Lib.hid (all_c p lv ds w hl hn)
  clear hl
  obtain ⟨i0, hi0, hz0, hz1, hz2⟩ := info_parts Try.infoI
  go_enter Try.func17, Try.ntmps17
  go_wp2_with fail
  refine HC.out.mono ?_
  rintro e w' ⟨v', rfl, h1, h2, h3⟩
  have hr := h1.rowIn encD_len
  have HO := Lib.hid h1
  have HT := Lib.hid h2
  have HV := Lib.hid h3
  clear h1 h2 h3 HC
  obtain ⟨a, cap, rfl, hrow, hlc, hcm, -, hblk⟩ := hr
  go_wp2_with fail
  obtain ⟨-, hrow⟩ := hrow
  rcases hrow with hz | ⟨b, off, rfl, hblt, hlies⟩
  all_goals
    go_loopw [6, 12] (fun v6 v12 wr => ∃ k : Nat, k ≤ ds.length ∧ v12 = .int .i64 k ∧ Owns encI 3 1 wr v6 (valsF (ds.take k) ch got) ∧ Made w' wr ∧ (∀ b, v6.ownBlock = some b → w'.heap.size ≤ b)) (fun _ v12 _ => ds.length - (intOf v12).toNat)
    case atStart => exact ⟨0, Nat.zero_le _, rfl, World.ownsRow_nil _ _ _ _, Turns.refl _ _, fun b hb => by simp [Value.ownBlock] at hb⟩
    case round =>
      obtain ⟨k, hk, rfl, hov, hmade, hob⟩ := hrel
      by_cases hlt : k < ds.length
      · first
        | omega
        | (
          obtain ⟨d, hd⟩ := get_of_lt (xs := ds) (k := k) hlt
          have hl1 : Lies encD 5 wr b off ds := hlies.keep fun o => hmade.cell (p := ⟨b, o, none⟩) hblt (fun h => h)
          have c0 : wr.cell? ⟨b, off + k * 5, none⟩ = some (.int .i64 d.ch) := hl1 k d hd 0 _ rfl
          have c1 : wr.cell? ⟨b, off + k * 5 + 1, none⟩ = some (.int .i64 d.task) := hl1 k d hd 1 _ rfl
          have c2 : wr.cell? ⟨b, off + k * 5 + 2, none⟩ = some (.int .i64 d.value) := hl1 k d hd 2 _ rfl
          have c3 : wr.cell? ⟨b, off + k * 5 + 3, none⟩ = some (.bool d.got) := hl1 k d hd 3 _ rfl
          have c4 : wr.cell? ⟨b, off + k * 5 + 4, none⟩ = some (.int .i64 d.at_) := hl1 k d hd 4 _ rfl
          have hs := valsF_snoc (ds.take k) d ch got
          rw [← take_snoc hd] at hs
          clear hl1
          have hvl := valsF_le (ds.take k) ch got
          rw [List.length_take] at hvl
          generalize hA : valsF (ds.take k) ch got = A at *
          generalize hB : valsF (ds.take (k + 1)) ch got = B at *
          have HB := Lib.hid hB
          have HW := Lib.hid hov
          have HM := Lib.hid hmade
          have HX := Lib.hid hob
          clear hA hB hov hmade hob hd hblk
          have hal : A.length ≤ 1000000 := by omega
          clear hvl
          by_cases hq1 : d.ch = ch
          · by_cases hq2 : d.got = got
            · have hs' : B = A ++ [d.value] := by rw [hs]; simp [hq1, hq2]
              have HS := Lib.hid hs'
              have hq3 : (d.got == got) = true := by simp [hq2]
              clear hs hs' hq2
              go_wp2_with (at_builtin; refine wpList_append_own _ rfl (.tmp 26) (.tmp 29) 25 rfl w'.heap.size 3 i0 (.int .i64 0) 1 8 Try.underlying25 hi0 hz0 hz1 hz2 rfl (by decide) _ A.length (flat encI A) rfl (own_from _ HX.out (World.ownsRow.alloc (World.ownsRow.alloc HW.out _) _)) ⟨wr.heap.size + 1, 0, none⟩ 1 1 [.int .i64 d.value] rfl rfl ?c1 ?c2 ?b1 ?b2 ?b3 ?_)
              case c1 => exact one_new2 _ _ _ _
              case c2 => intro u hu; simp only [List.mem_singleton] at hu; subst hu; rfl
              case b1 => unfold maxLen; omega
              case b2 => omega
              case b3 => have := HM.out.size; simp; omega
              intro v' w1 hown1 hgrow1 _
              go_wp2_with fail
              go_roundw
              case rel => exact ⟨k + 1, by omega, by go_num, by rw [HB.out, HS.out]; exact vals_pushed hown1, ((HM.out.alloc _).alloc _).grown hgrow1 (fun b hb hlt' => by have := HX.out b hb; omega), fun b hb => (World.ownsRow.lt hown1 b hb).1⟩
              case measure => simp [intOf]; omega
            · have hs' : B = A := by rw [hs]; simp [hq2]
              have HS := Lib.hid hs'
              have hq3 : (d.got == got) = false := by simp [hq2]
              clear hs hs'
              go_wp2_with fail
              go_roundw
              case rel => exact ⟨k + 1, by omega, by go_num, by rw [HB.out, HS.out]; exact World.ownsRow.alloc HW.out _, HM.out.alloc _, HX.out⟩
              case measure => simp [intOf]; omega
          · have hs' : B = A := by rw [hs]; simp [hq1]
            have HS := Lib.hid hs'
            clear hs hs'
            go_wp2_with fail
            go_roundw
            case rel => exact ⟨k + 1, by omega, by go_num, by rw [HB.out, HS.out]; exact World.ownsRow.alloc HW.out _, HM.out.alloc _, HX.out⟩
            case measure => simp [intOf]; omega)
      · have hke : k = ds.length := by omega
        rw [hke, List.take_length] at hov
        have HW := Lib.hid hov
        clear hov hke
        go_wp2_with fail
        go_ret
        exact ⟨u6, rfl, HW.out, Turns.then HT.out hmade (fun _ _ h => h), fun b hb => Nat.le_trans HT.out.size (hob b hb)⟩

theorem sent_c (p : Nat) (lv : Value) (ds : List DealT) (ch : Int) (w : World) (hl : LogAt w p lv ds) (hn : ds.length ≤ 1000000) :
    Calls Try.prog 12 #[.pointer (some ⟨p, 0, none⟩), .int .i64 ch] w fun e w' => ∃ v', e = .returned v' ∧ Owns encI 3 1 w' v' (valsF ds ch false) ∧ Made w w' ∧ (∀ k, v'.ownBlock = some k → w.heap.size ≤ k) := by
  have HC := Lib.hid (values_c p lv ds ch false w hl hn)
  clear hl
  go_enter Try.func12, Try.ntmps12
  go_wp2_with fail
  refine HC.out.mono ?_
  rintro e w' ⟨v', rfl, h1, h2, h3⟩
  go_wp2_with fail
  go_ret
  exact ⟨v', rfl, h1, h2, h3⟩

theorem got_c (p : Nat) (lv : Value) (ds : List DealT) (ch : Int) (w : World) (hl : LogAt w p lv ds) (hn : ds.length ≤ 1000000) :
    Calls Try.prog 13 #[.pointer (some ⟨p, 0, none⟩), .int .i64 ch] w fun e w' => ∃ v', e = .returned v' ∧ Owns encI 3 1 w' v' (valsF ds ch true) ∧ Made w w' ∧ (∀ k, v'.ownBlock = some k → w.heap.size ≤ k) := by
  have HC := Lib.hid (values_c p lv ds ch true w hl hn)
  clear hl
  go_enter Try.func13, Try.ntmps13
  go_wp2_with fail
  refine HC.out.mono ?_
  rintro e w' ⟨v', rfl, h1, h2, h3⟩
  go_wp2_with fail
  go_ret
  exact ⟨v', rfl, h1, h2, h3⟩
end Go.Proofs.Ytninfnpecgpfhaa
